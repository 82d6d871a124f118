/- Observations; pick, may, made: contracts. No statement of the seat is proved here. -/
import Derived.Test.YtpeonoimdmdmlaaDoorProg
import Derived.Test.YtpeonoimdmdmlaaDoorOl
import Derived.Test.YtpeonoimdmdmlaaDoorKit
namespace Go.Proofs.YtpeonoimdmdmlaaDoor.Tr
open Go.RowKit Go.Proofs.YtpeonoimdmdmlaaDoor.Kit
set_option linter.unusedSimpArgs false
set_option linter.unusedVariables false

def i64ok (c : Int) : Prop := -9223372036854775808 ≤ c ∧ c ≤ 9223372036854775807
structure Ob where
  tick : Int
  cell : Int
  kind : Int
  pc : Int
  a : Int
  b : Int
def oc (o : Ob) : List Value := [.int .u64 o.tick, .int .i64 o.cell, .int .i64 o.kind, .int .u32 o.pc, .int .u32 o.a, .int .u32 o.b]
theorem oc_len (o : Ob) : (oc o).length = 6 := rfl
def u32in (x : Int) : Prop := 0 ≤ x ∧ x < 4294967296
/-- An observation that may be. -/
structure Ok (o : Ob) : Prop where
  tick : 0 ≤ o.tick ∧ o.tick ≤ 9223372036854775807
  cell : 1 ≤ o.cell ∧ o.cell ≤ 8
  pc : u32in o.pc
  a : u32in o.a
  b : u32in o.b
  kind : o.kind = 1 ∨ o.kind = 2 ∨ (o.kind = 3 ∧ 1 ≤ o.a ∧ o.a ≤ 6) ∨ (o.kind = 4 ∧ o.a < 32 ∧ o.b = 0) ∨ (o.kind = 5 ∧ o.b ≤ 2147483647) ∨ (o.kind = 6 ∧ o.a = 0 ∧ o.b = 0) ∨ (o.kind = 7 ∧ o.b = 0)

/-! ### pick -/
def pk (c n : Int) : Int := (if c < 0 then -(c + 1) else c) % n
theorem pk_range (c n : Int) (hn : 0 < n) : 0 ≤ pk c n ∧ pk c n < n := ⟨Int.emod_nonneg _ (by omega), Int.emod_lt_of_pos _ hn⟩
set_option maxHeartbeats 400000 in
theorem pick_any (w : World) (c n : Int) (hc : i64ok c) (hn : 0 < n) (hn2 : n ≤ 9223372036854775807) :
    Calls Tryd.prog 4 #[.int .i64 c, .int .i64 n] w fun e w' => e = .returned (.int .i64 (pk c n)) ∧ w = w' := by
  obtain ⟨h1, h2⟩ := hc
  by_cases h : c < 0
  · have e : pk c n = (-(c + 1)) % n := by unfold pk; rw [if_pos h]
    rw [e]; clear e
    go_enter Tryd.func4, Tryd.ntmps4
    go_wp2
    go_ret
    refine ⟨?_, rfl⟩
    show Ending.returned (Value.int .i64 (-((c + 1).tmod n))) = _
    rw [← Int.neg_tmod, Int.tmod_eq_emod_of_nonneg (by omega)]
  · have e : pk c n = c % n := by unfold pk; rw [if_neg h]
    rw [e]; clear e
    go_enter Tryd.func4, Tryd.ntmps4
    go_wp2
    go_ret
    exact ⟨rfl, rfl⟩
theorem pick_still (w : World) (c n : Int) (hc : i64ok c) (hn : 0 < n) (hn2 : n ≤ 9223372036854775807) :
    Calls Tryd.prog 4 #[.int .i64 c, .int .i64 n] w fun e w' => e = .returned (.int .i64 (pk c n)) ∧ w' = w := (pick_any w c n hc hn hn2).mono fun _ _ h => ⟨h.1, h.2.symm⟩

/-! ### may -/
set_option maxHeartbeats 1000000 in
theorem may_yes (w : World) (o : Ob) (h : Ok o) : Calls Tryd.prog 11 #[.agg (oc o).toArray] w fun e w' => e = .returned (.bool true) ∧ w' = w.alloc (.cells (oc o).toArray 31) := by
  obtain ⟨tick, cell, kind, pc, a, b⟩ := o
  obtain ⟨ht, hc, hp, ha, hb, hk⟩ := h
  simp only [u32in] at ht hc hp ha hb hk
  obtain ⟨hc1, hc2⟩ := hc
  obtain ⟨ht1, ht2⟩ := ht
  obtain ⟨ha1, ha2⟩ := ha
  obtain ⟨hb1, hb2⟩ := hb
  simp only [oc]
  have d1 : decide (cell < 1) = false := by simp; omega
  have d2 : decide (8 < cell) = false := by simp; omega
  have d3 : decide ((9223372036854775807 : Int) < tick) = false := by simp; omega
  rcases hk with rfl | rfl | ⟨rfl, h1, h2⟩ | ⟨rfl, h1, rfl⟩ | ⟨rfl, h1⟩ | ⟨rfl, rfl, rfl⟩ | ⟨rfl, rfl⟩
  all_goals
    go_enter Tryd.func11, Tryd.ntmps11
    go_wp2
    go_ret
    first
      | exact ⟨rfl, rfl⟩
      | (refine ⟨?_, rfl⟩
         congr 2
         simp; omega)

/-! ### made -/
/-- A raw observation. -/
structure Rw where
  tick : Int
  cell : Int
  kind : Int
  pc : Int
  a : Int
  b : Int
def rc (r : Rw) : List Value := [.int .i64 r.tick, .int .i64 r.cell, .int .i64 r.kind, .int .i64 r.pc, .int .i64 r.a, .int .i64 r.b]
structure Rw.okay (r : Rw) : Prop where
  tick : i64ok r.tick
  cell : i64ok r.cell
  kind : i64ok r.kind
  pc : i64ok r.pc
  a : i64ok r.a
  b : i64ok r.b
theorem heap_setCell_far (w1 : World) (a : Addr) (i : Nat) (v : Value) (h : i ≠ a.block) : (w1.setCell a v).heap[i]? = w1.heap[i]? := Below.heap_setCell _ _ _ _ h
theorem set6 (w : World) (g : Nat) (t : TypeId) (c0 c1 c2 c3 c4 c5 u0 u1 u2 u3 u4 u5 : Value) (h : w.heap[g]? = some (.cells #[c0, c1, c2, c3, c4, c5] t (0, 0))) :
    ((((((w.setCell ⟨g, 0, none⟩ u0).setCell ⟨g, 1, none⟩ u1).setCell ⟨g, 2, none⟩ u2).setCell ⟨g, 3, none⟩ u3).setCell ⟨g, 4, none⟩ u4).setCell ⟨g, 5, none⟩ u5).heap[g]? = some (.cells #[u0, u1, u2, u3, u4, u5] t (0, 0)) :=
  heap_setCell_same _ g 5 _ _ u5 (heap_setCell_same _ g 4 _ _ u4 (heap_setCell_same _ g 3 _ _ u3 (heap_setCell_same _ g 2 _ _ u2 (heap_setCell_same _ g 1 _ _ u1 (heap_setCell_same w g 0 _ _ u0 h)))))
theorem row2 (w : World) (A B C : Obj) : (((w.alloc A).alloc B).alloc C).drew.heap[w.heap.size + 1]? = some B := by
  have h := heap_alloc_last (w.alloc A) B
  rw [World.size_alloc] at h
  exact (Below.heap_alloc ((w.alloc A).alloc B) C _ (by simp)).trans h
theorem zero31 : ∀ w, (zeroValue 31).run Tryd.prog w = .ok (.agg #[.int .u64 0, .int .i64 0, .int .i64 0, .int .u32 0, .int .u32 0, .int .u32 0]) w := fun _ => by kernel_rfl
theorem info31 : (Tryd.prog.info? 31).map (·.size) = some 6 := by kernel_rfl
theorem end_row2 {R : Ending → World → Prop} (w : World) (A C : Obj) (cs : Array Value) (tmps : Array Value) (hp : tmps.getD 2 undef = .pointer (some ⟨w.heap.size + 1, 0, none⟩)) (hs : cs.size = 6)
    (h : R (.returned (.agg cs)) (((w.alloc A).alloc (.cells cs 31)).alloc C).drew) : bodyPost Tryd.prog Tryd.f9 R .ret { tmps := tmps, defers := [] } (((w.alloc A).alloc (.cells cs 31)).alloc C).drew :=
  bodyPost_ret (results_cell_row (p := 2) (ty := 31) rfl _ _ (w.heap.size + 1) 31 cs (0, 0) _ hp (row2 w A (.cells cs 31) C) Tryd.underlying31 rfl (by rw [hs]; exact info31)) rfl h
/-- A pick whose outcome is a letter. -/
def Pkd (c n t : Int) : Prop := Hid (∀ W, Calls Tryd.prog 4 #[.int .i64 c, .int .i64 n] W fun e w' => e = .returned (.int .i64 t) ∧ w' = W) ∧ 0 ≤ t ∧ t < n
theorem pkd (c n : Int) (hc : i64ok c) (hn : 0 < n) (hn2 : n ≤ 9223372036854775807) : ∃ t, Pkd c n t := ⟨_, Lib.hid (fun W => pick_still W c n hc hn hn2), pk_range _ _ hn⟩
end Go.Proofs.YtpeonoimdmdmlaaDoor.Tr
