/- The document's controller in memory; its small calls. No statement of the seat is proved here. -/
import Derived.Test.YtpedciapkalhgaaDoorRangesA
namespace Go.Proofs.YtpedciapkalhgaaDoor.Gk
open Go.RowKit Go.Proofs.YtpedciapkalhgaaDoor.Kit
set_option linter.unusedSimpArgs false
set_option linter.unusedVariables false

/-! ### of what was there the blocks of S alone may have turned -/
structure Ex (S : Nat → Prop) (w w' : World) : Prop where
  os : w'.os = w.os
  tape : w'.tape = w.tape
  output : w'.output = w.output
  size : w.heap.size ≤ w'.heap.size
  block : ∀ i, i < w.heap.size → ¬ S i → w'.heap[i]? = w.heap[i]?
theorem Ex.refl (S : Nat → Prop) (w : World) : Ex S w w := ⟨rfl, rfl, rfl, Nat.le_refl _, fun _ _ _ => rfl⟩
theorem Ex.trans {S : Nat → Prop} {w w1 w2 : World} (h : Ex S w w1) (k : Ex S w1 w2) : Ex S w w2 :=
  ⟨k.os.trans h.os, k.tape.trans h.tape, k.output.trans h.output, Nat.le_trans h.size k.size, fun i hi hn => (k.block i (Nat.lt_of_lt_of_le hi h.size) hn).trans (h.block i hi hn)⟩
theorem Ex.mono {S T : Nat → Prop} {w w' : World} (h : Ex S w w') (hs : ∀ i, i < w.heap.size → S i → T i) : Ex T w w' := ⟨h.os, h.tape, h.output, h.size, fun i hi hn => h.block i hi (fun x => hn (hs i hi x))⟩
theorem Ex.chg {S : Nat → Prop} {w w1 w2 : World} {g : Nat} (h : Ex S w w1) (k : Chg w1 w2 g) (hg : S g ∨ w.heap.size ≤ g) : Ex S w w2 :=
  ⟨k.os.trans h.os, k.tape.trans h.tape, k.output.trans h.output, Nat.le_trans h.size k.size, fun i hi hn => (k.block i (Nat.lt_of_lt_of_le hi h.size) (fun e => by
    cases e; rcases hg with hg | hg
    · exact hn hg
    · omega)).trans (h.block i hi hn)⟩
theorem Ex.grown {S : Nat → Prop} {w w1 w2 : World} {row : Option Nat} (h : Ex S w w1) (k : w1.grownBy w2 row) (hg : ∀ g, row = some g → S g ∨ w.heap.size ≤ g) : Ex S w w2 :=
  ⟨k.os.trans h.os, k.tape.trans h.tape, k.output.trans h.output, Nat.le_trans h.size k.size, fun i hi hn => (k.block i (Nat.lt_of_lt_of_le hi h.size) (fun e => by
    rcases hg i e.symm with hg | hg
    · exact hn hg
    · omega)).trans (h.block i hi hn)⟩
theorem Ex.alloc {S : Nat → Prop} {w w1 : World} (h : Ex S w w1) (o : Obj) : Ex S w (w1.alloc o) := h.grown (World.grownBy_alloc w1 o none) (fun _ e => by cases e)
theorem Ex.drew {S : Nat → Prop} {w w1 : World} (h : Ex S w w1) : Ex S w w1.drew := ⟨h.os, h.tape, h.output, h.size, h.block⟩
theorem Ex.drewN {S : Nat → Prop} {w w1 : World} (h : Ex S w w1) (n : Nat) : Ex S w (w1.drewN n) := ⟨h.os, h.tape, h.output, h.size, h.block⟩
theorem Ex.below {S : Nat → Prop} {w w' : World} {B : Nat} (h : Ex S w w') (hB : B ≤ w.heap.size) (hs : ∀ i, S i → B ≤ i) : Below B w w' :=
  ⟨h.os, h.tape, h.output, h.size, fun i hi => h.block i (by omega) (fun x => by have := hs i x; omega)⟩
theorem Ex.of_below {w w' : World} (h : Below w.heap.size w w') (S : Nat → Prop) : Ex S w w' := ⟨h.os, h.tape, h.output, h.size, fun i hi _ => h.block i hi⟩
theorem GicAt.ex {S : Nat → Prop} {w w' : World} {b : Nat} {r : List Int} {p m : Nat} (h : GicAt w b r p m) (k : Ex S w w') (hn : ¬ S b) : GicAt w' b r p m := ⟨(k.block b h.lt hn).trans h.heap, h.len, h.hp, h.hm⟩
theorem Boxed.ex {S : Nat → Prop} {w w' : World} {b : Nat} {t : TypeId} {v : Value} (h : Boxed w b t v) (k : Ex S w w') (hn : ¬ S b) : Boxed w' b t v := (k.block b h.lt hn).trans h
theorem TabAt.ex {S : Nat → Prop} {w w' : World} (h : TabAt w) (k : Ex S w w') (hn : ¬ S 0) : TabAt w' := fun i hi => by
  rw [World.cell?_of_block (k.block 0 (World.block_lt_of_cell? w _ (h i hi)) hn)]; exact h i hi

/-! ### the document's controller in memory -/
def bcells (p : Nat) : Array Value := ((List.range 32).map fun i => Value.bool (p.testBit i)).toArray
def icells (r : List Int) : Array Value := (r.map (Value.int .i64)).toArray
theorem bcells_at (p k : Nat) (hk : k < 32) : (bcells p)[k]? = some (.bool (p.testBit k)) := by simp [bcells, hk]
theorem icells_at (r : List Int) (k : Nat) (hl : r.length = 32) (hk : k < 32) : (icells r)[k]? = some (.int .i64 (nth r k)) := by simp [icells, nth, hl, hk]
theorem icells_set (r : List Int) (k : Nat) (c : Int) : (icells r).setIfInBounds k (.int .i64 c) = icells (r.set k c) := by apply Array.ext'; simp [icells, List.map_set]
theorem bcells_set (p q k : Nat) (v : Bool) (hk : k < 32) (hq : ∀ i, i < 32 → q.testBit i = if i = k then v else p.testBit i) : (bcells p).setIfInBounds k (.bool v) = bcells q := by
  apply Array.ext'
  apply List.ext_getElem
  · simp [bcells]
  · intro i h1 h2
    have hi : i < 32 := by simpa [bcells] using h2
    have := hq i hi
    by_cases e : i = k
    · subst e; simp [bcells, this]
    · simp [bcells, this, Array.getElem_setIfInBounds, e, Ne.symm e]
structure RAt (w : World) (b x y z : Nat) (r : List Int) (p m : Nat) : Prop where
  hb : w.heap[b]? = some (.cells #[.slice (some ⟨x, 0, none⟩) 32 32, .slice (some ⟨y, 0, none⟩) 32 32, .slice (some ⟨z, 0, none⟩) 32 32] 74 (0, 0))
  hx : w.heap[x]? = some (.cells (icells r) 3 (0, 0))
  hy : w.heap[y]? = some (.cells (bcells p) 4 (0, 0))
  hz : w.heap[z]? = some (.cells (bcells m) 4 (0, 0))
  ne : y ≠ z
  len : r.length = 32
  hp : p < 4294967296
  hm : m < 4294967296
section
variable {w w' : World} {b x y z : Nat} {r : List Int} {p m : Nat}
theorem RAt.ne1 (h : RAt w b x y z r p m) : b ≠ x ∧ b ≠ y ∧ b ≠ z ∧ x ≠ y ∧ x ≠ z := by
  refine ⟨fun e => ?_, fun e => ?_, fun e => ?_, fun e => ?_, fun e => ?_⟩
  · have := h.hb.symm.trans (e ▸ h.hx); simp at this
  · have := h.hb.symm.trans (e ▸ h.hy); simp at this
  · have := h.hb.symm.trans (e ▸ h.hz); simp at this
  · have := h.hx.symm.trans (e ▸ h.hy); simp at this
  · have := h.hx.symm.trans (e ▸ h.hz); simp at this
theorem RAt.ltb (h : RAt w b x y z r p m) : b < w.heap.size ∧ x < w.heap.size ∧ y < w.heap.size ∧ z < w.heap.size :=
  ⟨(Array.getElem?_eq_some_iff.1 h.hb).1, (Array.getElem?_eq_some_iff.1 h.hx).1, (Array.getElem?_eq_some_iff.1 h.hy).1, (Array.getElem?_eq_some_iff.1 h.hz).1⟩
theorem RAt.c0 (h : RAt w b x y z r p m) : w.cell? ⟨b, 0, none⟩ = some (.slice (some ⟨x, 0, none⟩) 32 32) := by rw [cell_of_row _ _ _ _ _ _ h.hb]; rfl
theorem RAt.c1 (h : RAt w b x y z r p m) : w.cell? ⟨b, 1, none⟩ = some (.slice (some ⟨y, 0, none⟩) 32 32) := by rw [cell_of_row _ _ _ _ _ _ h.hb]; rfl
theorem RAt.c2 (h : RAt w b x y z r p m) : w.cell? ⟨b, 2, none⟩ = some (.slice (some ⟨z, 0, none⟩) 32 32) := by rw [cell_of_row _ _ _ _ _ _ h.hb]; rfl
theorem RAt.cx (h : RAt w b x y z r p m) (k : Nat) (hk : k < 32) : w.cell? ⟨x, k, none⟩ = some (.int .i64 (nth r k)) := by rw [cell_of_row _ _ _ _ _ _ h.hx]; exact icells_at r k h.len hk
theorem RAt.cy (h : RAt w b x y z r p m) (k : Nat) (hk : k < 32) : w.cell? ⟨y, k, none⟩ = some (.bool (p.testBit k)) := by rw [cell_of_row _ _ _ _ _ _ h.hy]; exact bcells_at p k hk
theorem RAt.cz (h : RAt w b x y z r p m) (k : Nat) (hk : k < 32) : w.cell? ⟨z, k, none⟩ = some (.bool (m.testBit k)) := by rw [cell_of_row _ _ _ _ _ _ h.hz]; exact bcells_at m k hk
theorem RAt.fx (h : RAt w b x y z r p m) (k : Nat) : w.frozen? ⟨x, k, none⟩ = false := frozen_of_row w x k _ _ h.hx
theorem RAt.fy (h : RAt w b x y z r p m) (k : Nat) : w.frozen? ⟨y, k, none⟩ = false := frozen_of_row w y k _ _ h.hy
theorem RAt.fz (h : RAt w b x y z r p m) (k : Nat) : w.frozen? ⟨z, k, none⟩ = false := frozen_of_row w z k _ _ h.hz
theorem RAt.ex {S : Nat → Prop} (h : RAt w b x y z r p m) (k : Ex S w w') (nb : ¬ S b) (nx : ¬ S x) (ny : ¬ S y) (nz : ¬ S z) : RAt w' b x y z r p m :=
  ⟨(k.block b h.ltb.1 nb).trans h.hb, (k.block x h.ltb.2.1 nx).trans h.hx, (k.block y h.ltb.2.2.1 ny).trans h.hy, (k.block z h.ltb.2.2.2 nz).trans h.hz, h.ne, h.len, h.hp, h.hm⟩
theorem RAt.below (h : RAt w b x y z r p m) (k : Below w.heap.size w w') : RAt w' b x y z r p m := h.ex (Ex.of_below k (fun _ => False)) (fun h => h) (fun h => h) (fun h => h) (fun h => h)
theorem RAt.drew (h : RAt w b x y z r p m) : RAt w.drew b x y z r p m := ⟨h.hb, h.hx, h.hy, h.hz, h.ne, h.len, h.hp, h.hm⟩
theorem RAt.drewN (h : RAt w b x y z r p m) (n : Nat) : RAt (w.drewN n) b x y z r p m := ⟨h.hb, h.hx, h.hy, h.hz, h.ne, h.len, h.hp, h.hm⟩
theorem heap_other (w : World) (b j i : Nat) (v : Value) (h : i ≠ b) : (w.setCell ⟨b, j, none⟩ v).heap[i]? = w.heap[i]? := heap_setCell_other w ⟨b, j, none⟩ i v h
theorem RAt.setX (h : RAt w b x y z r p m) (k : Nat) (hk : k < 32) (c : Int) : RAt (w.setCell ⟨x, k, none⟩ (.int .i64 c)) b x y z (r.set k c) p m := by
  obtain ⟨n1, n2, n3, n4, n5⟩ := h.ne1
  exact ⟨by rw [heap_other _ _ _ _ _ n1]; exact h.hb, by rw [heap_setCell_same w x k _ _ _ h.hx, icells_set], by rw [heap_other _ _ _ _ _ (Ne.symm n4)]; exact h.hy, by rw [heap_other _ _ _ _ _ (Ne.symm n5)]; exact h.hz, h.ne, by simp [h.len], h.hp, h.hm⟩
theorem RAt.setY (h : RAt w b x y z r p m) (k : Nat) (hk : k < 32) (v : Bool) (q : Nat) (hq : q < 4294967296) (hb : ∀ i, i < 32 → q.testBit i = if i = k then v else p.testBit i) : RAt (w.setCell ⟨y, k, none⟩ (.bool v)) b x y z r q m := by
  obtain ⟨n1, n2, n3, n4, n5⟩ := h.ne1
  exact ⟨by rw [heap_other _ _ _ _ _ n2]; exact h.hb, by rw [heap_other _ _ _ _ _ n4]; exact h.hx, by rw [heap_setCell_same w y k _ _ _ h.hy, bcells_set p q k v hk hb], by rw [heap_other _ _ _ _ _ (Ne.symm h.ne)]; exact h.hz, h.ne, h.len, hq, h.hm⟩
theorem RAt.setZ (h : RAt w b x y z r p m) (k : Nat) (hk : k < 32) (v : Bool) (q : Nat) (hq : q < 4294967296) (hb : ∀ i, i < 32 → q.testBit i = if i = k then v else m.testBit i) : RAt (w.setCell ⟨z, k, none⟩ (.bool v)) b x y z r p q := by
  obtain ⟨n1, n2, n3, n4, n5⟩ := h.ne1
  exact ⟨by rw [heap_other _ _ _ _ _ n3]; exact h.hb, by rw [heap_other _ _ _ _ _ n5]; exact h.hx, by rw [heap_other _ _ _ _ _ h.ne]; exact h.hy, by rw [heap_setCell_same w z k _ _ _ h.hz, bcells_set m q k v hk hb], h.ne, h.len, h.hp, hq⟩
end
/-- The blocks that the document's controller writes. -/
def F3 (x y z : Nat) (j : Nat) : Prop := j = x ∨ j = y ∨ j = z
theorem chg_set (w : World) (b j : Nat) (v : Value) : Chg w (w.setCell ⟨b, j, none⟩ v) b := (Chg.refl w b).set j v

/-! ### small calls -/
def isL (l : Int) : Bool := decide (0 ≤ l) && decide (l < 32)
theorem isLine_any (w : World) (l : Int) : Calls Tryd.prog 50 #[.int .i64 l] w fun e w' => e = .returned (.bool (isL l)) ∧ w = w' := by
  by_cases h1 : 0 ≤ l
  · by_cases h2 : l < 32
    · go_enter Tryd.func50, Tryd.ntmps50
      go_wp2
      go_ret
      exact ⟨by simp [isL, h1, h2], rfl⟩
    · go_enter Tryd.func50, Tryd.ntmps50
      go_wp2
      go_ret
      exact ⟨by simp [isL, h1, h2], rfl⟩
  · have hd : decide (0 ≤ l) = false := by simp [h1]
    go_enter Tryd.func50, Tryd.ntmps50
    go_wp2
    go_ret
    exact ⟨by simp [isL]; omega, rfl⟩
theorem isCell_any (w : World) (c : Int) : Calls Tryd.prog 51 #[.int .i64 c] w fun e w' => e = .returned (.bool (isC c)) ∧ w = w' := by
  by_cases h1 : 1 ≤ c
  · by_cases h2 : c ≤ 8
    · go_enter Tryd.func51, Tryd.ntmps51
      go_wp2
      go_ret
      exact ⟨by simp [isC, h1, h2], rfl⟩
    · go_enter Tryd.func51, Tryd.ntmps51
      go_wp2
      go_ret
      exact ⟨by simp [isC, h1, h2], rfl⟩
  · have hd : decide (1 ≤ c) = false := by simp [h1]
    go_enter Tryd.func51, Tryd.ntmps51
    go_wp2
    go_ret
    exact ⟨by simp [isC]; omega, rfl⟩
theorem bit_any (w : World) (x k : Nat) (hx : x < 4294967296) (hk : k < 32) : Calls Tryd.prog 52 #[.int .u32 x, .int .i64 k] w fun e w' => e = .returned (.bool (x.testBit k)) ∧ w = w' := by
  go_enter Tryd.func52, Tryd.ntmps52
  go_wp2
  go_ret
  exact ⟨by rw [bit_eq1]; rfl, rfl⟩
theorem num_any (w : World) (c : Int) : Calls Tryd.prog 38 #[.int .i64 c] w fun e w' => e = .returned (.int .i64 c) ∧ w = w' := by
  go_enter Tryd.func38, Tryd.ntmps38
  go_wp2
  go_ret
  exact ⟨rfl, rfl⟩
theorem make22 : ∀ w, (Instr.makeSlice 22 (.int .i64 32) (.int .i64 32)).run Tryd.prog w = .ok (.slice (some ⟨w.heap.size, 0, none⟩) 32 32) (w.alloc (.cells (icells z0) 3)) := fun _ => by kernel_rfl
theorem make72 : ∀ w, (Instr.makeSlice 72 (.int .i64 32) (.int .i64 32)).run Tryd.prog w = .ok (.slice (some ⟨w.heap.size, 0, none⟩) 32 32) (w.alloc (.cells (bcells 0) 4)) := fun _ => by kernel_rfl
theorem four (w : World) (o1 o2 o3 o4 : Obj) : ((((w.drew.alloc o1).alloc o2).alloc o3).alloc o4).heap[w.heap.size]? = some o1 ∧ ((((w.drew.alloc o1).alloc o2).alloc o3).alloc o4).heap[w.heap.size + 1]? = some o2 ∧
    ((((w.drew.alloc o1).alloc o2).alloc o3).alloc o4).heap[w.heap.size + 1 + 1]? = some o3 ∧ ((((w.drew.alloc o1).alloc o2).alloc o3).alloc o4).heap[w.heap.size + 1 + 1 + 1]? = some o4 ∧ Below w.heap.size w ((((w.drew.alloc o1).alloc o2).alloc o3).alloc o4) := by
  have e1 : (w.drew.alloc o1).heap.size = w.heap.size + 1 := by simp
  have e2 : ((w.drew.alloc o1).alloc o2).heap.size = w.heap.size + 1 + 1 := by simp
  have e3 : (((w.drew.alloc o1).alloc o2).alloc o3).heap.size = w.heap.size + 1 + 1 + 1 := by simp
  refine ⟨?_, ?_, ?_, ?_, ?_⟩
  · rw [heap_alloc_old _ _ (by omega), heap_alloc_old _ _ (by omega), heap_alloc_old _ _ (by omega)]; exact World.alloc_heap_new w.drew o1
  · rw [heap_alloc_old _ _ (by omega), heap_alloc_old _ _ (by omega), ← e1]; exact World.alloc_heap_new _ o2
  · rw [heap_alloc_old _ _ (by omega), ← e2]; exact World.alloc_heap_new _ o3
  · rw [← e3]; exact World.alloc_heap_new _ o4
  · exact (((((Below.refl w.heap.size w).drew).alloc (by simp) _).alloc (by omega) _).alloc (by omega) _).alloc (by omega) _
set_option maxHeartbeats 1000000 in
theorem rnew_any (w : World) : Calls Tryd.prog 24 #[] w fun e w' => ∃ b x y z, e = .returned (.pointer (some ⟨b, 0, none⟩)) ∧ RAt w' b x y z z0 0 0 ∧ (w.heap.size ≤ b ∧ w.heap.size ≤ x ∧ w.heap.size ≤ y ∧ w.heap.size ≤ z) ∧ Below w.heap.size w w' := by
  have h1 := make22
  have h2 := make72
  go_enter Tryd.func24, Tryd.ntmps24
  go_wp2
  go_region
  all_goals
    go_wp2
    go_ret
  · obtain ⟨a1, a2, a3, a4, hb⟩ := four w (.cells (icells z0) 3) (.cells (bcells 0) 4) (.cells (bcells 0) 4) (.cells #[.slice (some ⟨w.heap.size, 0, none⟩) 32 32, .slice (some ⟨w.heap.size + 1, 0, none⟩) 32 32, .slice (some ⟨w.heap.size + 1 + 1, 0, none⟩) 32 32] 74)
    exact ⟨_, _, _, _, rfl, ⟨a4, a1, a2, a3, by omega, z0_len, by decide, by decide⟩, by omega, hb⟩
  · obtain ⟨a1, a2, a3, a4, hb⟩ := four w (.cells (icells z0) 3) (.cells (bcells 0) 4) (.cells (bcells 0) 4) (.cells #[.slice (some ⟨w.heap.size, 0, none⟩) 32 32, .slice (some ⟨w.heap.size + 1 + 1, 0, none⟩) 32 32, .slice (some ⟨w.heap.size + 1, 0, none⟩) 32 32] 74)
    exact ⟨_, _, _, _, rfl, ⟨a4, a1, a3, a2, by omega, z0_len, by decide, by decide⟩, by omega, hb⟩
  · obtain ⟨a1, a2, a3, a4, hb⟩ := four w (.cells (bcells 0) 4) (.cells (icells z0) 3) (.cells (bcells 0) 4) (.cells #[.slice (some ⟨w.heap.size + 1, 0, none⟩) 32 32, .slice (some ⟨w.heap.size, 0, none⟩) 32 32, .slice (some ⟨w.heap.size + 1 + 1, 0, none⟩) 32 32] 74)
    exact ⟨_, _, _, _, rfl, ⟨a4, a2, a1, a3, by omega, z0_len, by decide, by decide⟩, by omega, hb⟩
  · obtain ⟨a1, a2, a3, a4, hb⟩ := four w (.cells (bcells 0) 4) (.cells (bcells 0) 4) (.cells (icells z0) 3) (.cells #[.slice (some ⟨w.heap.size + 1 + 1, 0, none⟩) 32 32, .slice (some ⟨w.heap.size, 0, none⟩) 32 32, .slice (some ⟨w.heap.size + 1, 0, none⟩) 32 32] 74)
    exact ⟨_, _, _, _, rfl, ⟨a4, a3, a1, a2, by omega, z0_len, by decide, by decide⟩, by omega, hb⟩
  · obtain ⟨a1, a2, a3, a4, hb⟩ := four w (.cells (bcells 0) 4) (.cells (icells z0) 3) (.cells (bcells 0) 4) (.cells #[.slice (some ⟨w.heap.size + 1, 0, none⟩) 32 32, .slice (some ⟨w.heap.size + 1 + 1, 0, none⟩) 32 32, .slice (some ⟨w.heap.size, 0, none⟩) 32 32] 74)
    exact ⟨_, _, _, _, rfl, ⟨a4, a2, a3, a1, by omega, z0_len, by decide, by decide⟩, by omega, hb⟩
  · obtain ⟨a1, a2, a3, a4, hb⟩ := four w (.cells (bcells 0) 4) (.cells (bcells 0) 4) (.cells (icells z0) 3) (.cells #[.slice (some ⟨w.heap.size + 1 + 1, 0, none⟩) 32 32, .slice (some ⟨w.heap.size + 1, 0, none⟩) 32 32, .slice (some ⟨w.heap.size, 0, none⟩) 32 32] 74)
    exact ⟨_, _, _, _, rfl, ⟨a4, a3, a2, a1, by omega, z0_len, by decide, by decide⟩, by omega, hb⟩
end Go.Proofs.YtpedciapkalhgaaDoor.Gk
