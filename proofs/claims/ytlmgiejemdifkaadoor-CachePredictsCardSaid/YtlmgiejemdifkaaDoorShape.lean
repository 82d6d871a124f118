/- pick, shape, awake: contracts. No statement of the seat is proved here. -/
import Derived.Test.YtlmgiejemdifkaaDoorNew
namespace Go.Proofs.YtlmgiejemdifkaaDoor.Ca
open Go.RowKit Go.Proofs.YtlmgiejemdifkaaDoor.Kit
set_option linter.unusedSimpArgs false
set_option linter.unusedVariables false

/-! ### awake -/
def s0 : Shp := ⟨1, 1, 16, 0, 4, rfl, rfl, by decide, by decide, by decide, by decide⟩
set_option maxRecDepth 4000 in
theorem awake_any (w : World) (hT : TabAt w) : Calls Tryd.prog 10 #[] w fun e w' => e = .returned (.bool true) ∧ Chg w w' none := by
  have hz := zero38
  have HT := Lib.hid hT
  clear hT
  go_enter Tryd.func10, Tryd.ntmps10
  go_wp2_with fail
  refine (new_ok w s0).mono ?_
  rintro e w1 ⟨b, rfl, hc, hb, hC⟩
  have h1 : b ≠ 1 := by have := World.block_lt_of_cell? w _ (HT.out 0 (by decide)); simp only at this; omega
  have T1 := Lib.hid (HT.out.kept hC (by simp))
  have C1 := Lib.hid hC
  have H1 := Lib.hid hc
  clear hC hc
  go_wp2_with fail
  refine (access_any w1 T1.out b s0 _ H1.out 0 (by decide) true).mono ?_
  intro e w2 hA
  obtain ⟨he, hC, hc⟩ := hA
  obtain rfl : e = .returned (.agg #[.bool false, .bool false, .int .i64 12]) := he
  have H2 := Lib.hid (show CacheIs w2 b s0 (put (fun _ => []) 0 [(0, true)]) from hc)
  have C2 := Lib.hid (C1.out.trans_new hC hb)
  have A2 := Lib.hid ((Chg.refl w2 none).alloc (.cells #[.bool false, .bool false, .int .i64 12] 38))
  have H2' := Lib.hid (H2.out.kept A2.out (by simp))
  have T2 := Lib.hid ((HT.out.kept C2.out (by simp)).kept A2.out (by simp))
  have R2 := Lib.hid (heap_alloc_last w2 (.cells #[.bool false, .bool false, .int .i64 12] 38))
  have D2 := Lib.hid (C2.out.trans A2.out)
  have hb2 := H2.out.lt
  clear hC hc
  go_wp2_with fail
  generalize w2.alloc (.cells #[.bool false, .bool false, .int .i64 12] 38) = w3 at *
  refine (access_any w3 T2.out b s0 _ H2'.out 15 (by decide) false).mono ?_
  intro e w4 hA
  obtain ⟨he, hC, hc⟩ := hA
  obtain rfl : e = .returned (.agg #[.bool true, .bool false, .int .i64 1]) := he
  have H4 := Lib.hid (show CacheIs w4 b s0 (put (put (fun _ => []) 0 [(0, true)]) 0 [(0, true)]) from hc)
  have C4 := Lib.hid (D2.out.trans_new hC hb)
  have A4 := Lib.hid ((Chg.refl w4 none).alloc (.cells #[.bool true, .bool false, .int .i64 1] 38))
  have H4' := Lib.hid (H4.out.kept A4.out (by simp))
  have T4 := Lib.hid ((HT.out.kept C4.out (by simp)).kept A4.out (by simp))
  have R4 := Lib.hid (heap_alloc_last w4 (.cells #[.bool true, .bool false, .int .i64 1] 38))
  have D4 := Lib.hid (C4.out.trans A4.out)
  have R3 := Lib.hid ((hC.block w2.heap.size (Array.getElem?_eq_some_iff.1 R2.out).1 (fun e => by injection e; omega)).trans R2.out)
  have hs4 : w2.heap.size < w4.heap.size := (Array.getElem?_eq_some_iff.1 R3.out).1
  have R3' := Lib.hid ((A4.out.block w2.heap.size hs4 (by simp)).trans R3.out)
  clear hC hc
  go_wp2_with fail
  generalize w4.alloc (.cells #[.bool true, .bool false, .int .i64 1] 38) = w5 at *
  refine (access_any w5 T4.out b s0 _ H4'.out 16 (by decide) false).mono ?_
  intro e w6 hA
  obtain ⟨he, hC, hc⟩ := hA
  obtain rfl : e = .returned (.agg #[.bool false, .bool true, .int .i64 20]) := he
  have C6 := Lib.hid (D4.out.trans_new hC hb)
  have R5 := Lib.hid ((hC.block w2.heap.size (Array.getElem?_eq_some_iff.1 R3'.out).1 (fun e => by injection e; omega)).trans R3'.out)
  have R6 := Lib.hid ((hC.block w4.heap.size (Array.getElem?_eq_some_iff.1 R4.out).1 (fun e => by injection e; have := H4.out.lt; omega)).trans R4.out)
  have hs6 : w4.heap.size < w6.heap.size := (Array.getElem?_eq_some_iff.1 R6.out).1
  have hs26 : w2.heap.size < w6.heap.size := (Array.getElem?_eq_some_iff.1 R5.out).1
  have a0 : w6.cell? ⟨w2.heap.size, 0, none⟩ = some (.bool false) := by rw [cell_of_row _ _ _ _ _ _ R5.out]; rfl
  have a2 : w6.cell? ⟨w2.heap.size, 2, none⟩ = some (.int .i64 12) := by rw [cell_of_row _ _ _ _ _ _ R5.out]; rfl
  have b0 : w6.cell? ⟨w4.heap.size, 0, none⟩ = some (.bool true) := by rw [cell_of_row _ _ _ _ _ _ R6.out]; rfl
  have b2 : w6.cell? ⟨w4.heap.size, 2, none⟩ = some (.int .i64 1) := by rw [cell_of_row _ _ _ _ _ _ R6.out]; rfl
  clear hC hc
  go_wp2
  go_ret
  exact ⟨rfl, C6.out.alloc _⟩

/-! ### pick -/
def pickN (c : Int) (n : Nat) : Nat := ((if c < 0 then -(c + 1) else c) % n).toNat
theorem pickN_lt (c : Int) (n : Nat) (hn : 0 < n) : pickN c n < n := by
  unfold pickN
  have h1 := Int.emod_nonneg (if c < 0 then -(c + 1) else c) (show (n : Int) ≠ 0 by omega)
  have h2 := Int.emod_lt_of_pos (if c < 0 then -(c + 1) else c) (show (0 : Int) < n by omega)
  omega
theorem pick_any (w : World) (c : Int) (n : Nat) (hc : -9223372036854775808 ≤ c ∧ c ≤ 9223372036854775807) (hn : 0 < n) (hn2 : n ≤ 4096) :
    Calls Tryd.prog 13 #[.int .i64 c, .int .i64 n] w fun e w' => e = .returned (.int .i64 (pickN c n)) ∧ w = w' := by
  obtain ⟨h1, h2⟩ := hc
  have hp : ((pickN c n : Nat) : Int) = (if c < 0 then -(c + 1) else c) % n := by
    unfold pickN
    exact Int.toNat_of_nonneg (Int.emod_nonneg _ (by omega))
  rw [hp]
  by_cases h : c < 0
  · rw [if_pos h]
    clear hp
    go_enter Tryd.func13, Tryd.ntmps13
    go_wp2
    go_ret
    refine ⟨?_, rfl⟩
    show Ending.returned (Value.int .i64 (-((c + 1).tmod n))) = _
    rw [← Int.neg_tmod, Int.tmod_eq_emod_of_nonneg (by omega)]
  · rw [if_neg h]
    clear hp
    go_enter Tryd.func13, Tryd.ntmps13
    go_wp2
    go_ret
    exact ⟨rfl, rfl⟩

/-! ### shape -/
def setsL : List Nat := [1, 2, 4, 8, 16, 256]
def setsI : List Nat := [0, 1, 2, 3, 4, 8]
def linesL : List Nat := [16, 32, 64, 256]
def linesI : List Nat := [4, 5, 6, 8]
theorem sets_at (r : Nat) (h : r < 6) : setsL.getD r 0 = 2 ^ setsI.getD r 0 ∧ setsI.getD r 0 ≤ 8 := by
  rcases (show r = 0 ∨ r = 1 ∨ r = 2 ∨ r = 3 ∨ r = 4 ∨ r = 5 by omega) with rfl | rfl | rfl | rfl | rfl | rfl <;> decide
theorem lines_at (r : Nat) (h : r < 4) : linesL.getD r 0 = 2 ^ linesI.getD r 0 ∧ linesI.getD r 0 ≤ 8 ∧ 4 ≤ linesI.getD r 0 := by
  rcases (show r = 0 ∨ r = 1 ∨ r = 2 ∨ r = 3 by omega) with rfl | rfl | rfl | rfl <;> decide
def shp (S W L : Int) : Shp :=
  ⟨setsL.getD (pickN S 6) 0, pickN W 8 + 1, linesL.getD (pickN L 4) 0, setsI.getD (pickN S 6) 0, linesI.getD (pickN L 4) 0, (sets_at _ (pickN_lt _ _ (by decide))).1, (lines_at _ (pickN_lt _ _ (by decide))).1,
    (sets_at _ (pickN_lt _ _ (by decide))).2, (lines_at _ (pickN_lt _ _ (by decide))).2.1, (lines_at _ (pickN_lt _ _ (by decide))).2.2, ⟨by omega, pickN_lt _ _ (by decide)⟩⟩
theorem zero23 : ∀ w, (zeroValue 23).run Tryd.prog w = .ok (.agg #[.int .i64 0, .int .i64 0, .int .i64 0]) w := fun _ => by kernel_rfl
theorem info23 : (Tryd.prog.info? 23).map (·.size) = some 3 := by kernel_rfl
theorem sets_cell (r : Nat) (h : r < 6) : (#[.int .i64 1, .int .i64 2, .int .i64 4, .int .i64 8, .int .i64 16, .int .i64 256] : Array Value)[r]? = some (.int .i64 (setsL.getD r 0 : Nat)) := by
  rcases (show r = 0 ∨ r = 1 ∨ r = 2 ∨ r = 3 ∨ r = 4 ∨ r = 5 by omega) with rfl | rfl | rfl | rfl | rfl | rfl <;> rfl
theorem lines_cell (r : Nat) (h : r < 4) : (#[.int .i64 16, .int .i64 32, .int .i64 64, .int .i64 256] : Array Value)[r]? = some (.int .i64 (linesL.getD r 0 : Nat)) := by
  rcases (show r = 0 ∨ r = 1 ∨ r = 2 ∨ r = 3 by omega) with rfl | rfl | rfl | rfl <;> rfl
theorem rows4 (w : World) (A B C D : Obj) : ((((w.alloc A).alloc B).alloc C).alloc D).heap[w.heap.size]? = some A ∧ ((((w.alloc A).alloc B).alloc C).alloc D).heap[w.heap.size + 1]? = some B ∧
    ((((w.alloc A).alloc B).alloc C).alloc D).heap[w.heap.size + 1 + 1]? = some C ∧ ((((w.alloc A).alloc B).alloc C).alloc D).heap[w.heap.size + 1 + 1 + 1]? = some D := by
  refine ⟨?_, ?_, ?_, ?_⟩
  · rw [heap_alloc_old (h := by simp <;> omega), heap_alloc_old (h := by simp <;> omega), heap_alloc_old (h := by simp)]; exact heap_alloc_last w A
  · rw [heap_alloc_old (h := by simp <;> omega), heap_alloc_old (h := by simp)]; exact heap_alloc2_new w A B
  · rw [heap_alloc_old (h := by simp)]
    have := heap_alloc_last ((w.alloc A).alloc B) C
    simpa using this
  · have := heap_alloc_last (((w.alloc A).alloc B).alloc C) D
    simpa using this
abbrev i64ok (c : Int) : Prop := -9223372036854775808 ≤ c ∧ c ≤ 9223372036854775807
set_option maxRecDepth 4000 in
set_option maxHeartbeats 4000000 in
theorem shape_any (w : World) (S W L : Int) (hS : i64ok S) (hW : i64ok W) (hL : i64ok L) : Calls Tryd.prog 11 #[.agg #[.int .i64 S, .int .i64 W, .int .i64 L]] w fun e w' =>
    ∃ s : Shp, e = .returned (.agg #[.int .i64 s.S, .int .i64 s.W, .int .i64 s.L]) ∧ Chg w w' none := by
  have hz := zero23
  have P1 := Lib.hid (fun X => pick_any X S 6 hS (by decide) (by decide))
  have P2 := Lib.hid (fun X => pick_any X W 8 hW (by decide) (by decide))
  have P3 := Lib.hid (fun X => pick_any X L 4 hL (by decide) (by decide))
  have h1 := pickN_lt S 6 (by decide)
  have h2 := pickN_lt W 8 (by decide)
  have h3 := pickN_lt L 4 (by decide)
  have E := Lib.hid (show (shp S W L).S = setsL.getD (pickN S 6) 0 ∧ (shp S W L).W = pickN W 8 + 1 ∧ (shp S W L).L = linesL.getD (pickN L 4) 0 from ⟨rfl, rfl, rfl⟩)
  generalize shp S W L = s at *
  have k1 := sets_cell _ h1
  have k3 := lines_cell _ h3
  generalize setsL.getD (pickN S 6) 0 = x1 at *
  generalize linesL.getD (pickN L 4) 0 = x3 at *
  generalize pickN S 6 = r1 at *
  generalize pickN W 8 = r2 at *
  generalize pickN L 4 = r3 at *
  have hw := wrap_small (x := 1 + (r2 : Int)) (by omega) (by omega)
  clear hS hW hL
  go_enter Tryd.func11, Tryd.ntmps11
  go_wp2_with fail
  have C4 := Lib.hid (((((Chg.refl w none).alloc (.cells #[.int .i64 S, .int .i64 W, .int .i64 L] 23)).alloc (.cells #[.int .i64 0, .int .i64 0, .int .i64 0] 23)).alloc (.cells #[.int .i64 1, .int .i64 2, .int .i64 4, .int .i64 8, .int .i64 16, .int .i64 256] 3)).alloc (.cells #[.int .i64 16, .int .i64 32, .int .i64 64, .int .i64 256] 3))
  obtain ⟨RX, RZ, RS, RL⟩ := rows4 w (.cells #[.int .i64 S, .int .i64 W, .int .i64 L] 23) (.cells #[.int .i64 0, .int .i64 0, .int .i64 0] 23) (.cells #[.int .i64 1, .int .i64 2, .int .i64 4, .int .i64 8, .int .i64 16, .int .i64 256] 3) (.cells #[.int .i64 16, .int .i64 32, .int .i64 64, .int .i64 256] 3)
  generalize (((w.alloc (.cells #[.int .i64 S, .int .i64 W, .int .i64 L] 23)).alloc (.cells #[.int .i64 0, .int .i64 0, .int .i64 0] 23)).alloc (.cells #[.int .i64 1, .int .i64 2, .int .i64 4, .int .i64 8, .int .i64 16, .int .i64 256] 3)).alloc (.cells #[.int .i64 16, .int .i64 32, .int .i64 64, .int .i64 256] 3) = w4 at *
  have d0 : w4.cell? ⟨w.heap.size, 0, none⟩ = some (.int .i64 S) := by rw [cell_of_row _ _ _ _ _ _ RX]; rfl
  have d1 : w4.cell? ⟨w.heap.size, 1, none⟩ = some (.int .i64 W) := by rw [cell_of_row _ _ _ _ _ _ RX]; rfl
  have d2 : w4.cell? ⟨w.heap.size, 2, none⟩ = some (.int .i64 L) := by rw [cell_of_row _ _ _ _ _ _ RX]; rfl
  have d3 : w4.cell? ⟨w.heap.size + 1 + 1, r1, none⟩ = some (.int .i64 x1) := by rw [cell_of_row _ _ _ _ _ _ RS]; exact k1
  have d4 : w4.cell? ⟨w.heap.size + 1 + 1 + 1, r3, none⟩ = some (.int .i64 x3) := by rw [cell_of_row _ _ _ _ _ _ RL]; exact k3
  have z0 : w4.cell? ⟨w.heap.size + 1, 0, none⟩ = some (.int .i64 0) := by rw [cell_of_row _ _ _ _ _ _ RZ]; rfl
  have z1 : w4.cell? ⟨w.heap.size + 1, 1, none⟩ = some (.int .i64 0) := by rw [cell_of_row _ _ _ _ _ _ RZ]; rfl
  have z2 : w4.cell? ⟨w.heap.size + 1, 2, none⟩ = some (.int .i64 0) := by rw [cell_of_row _ _ _ _ _ _ RZ]; rfl
  have f0 := frozen_of_row w4 (w.heap.size + 1) 0 _ _ RZ
  have f1 := frozen_of_row w4 (w.heap.size + 1) 1 _ _ RZ
  have f2 := frozen_of_row w4 (w.heap.size + 1) 2 _ _ RZ
  have RZ' := Lib.hid RZ
  clear k1 k3 RX RZ RS RL hz
  go_region_held (fun w' => w'.cell? ⟨w.heap.size, 0, none⟩ = some (.int .i64 S) ∧ w'.cell? ⟨w.heap.size, 1, none⟩ = some (.int .i64 W) ∧ w'.cell? ⟨w.heap.size, 2, none⟩ = some (.int .i64 L) ∧ w'.cell? ⟨w.heap.size + 1 + 1, r1, none⟩ = some (.int .i64 x1) ∧ w'.cell? ⟨w.heap.size + 1 + 1 + 1, r3, none⟩ = some (.int .i64 x3)) (go_keep) (first
    | (go_at_call 13; (with_reducible show Calls _ 13 #[.int .i64 S, _] _ _); refine (P1.out w4.drew).mono ?_; rintro e w' ⟨rfl, rfl⟩)
    | (go_at_call 13; (with_reducible show Calls _ 13 #[.int .i64 W, _] _ _); refine (P2.out w4.drew).mono ?_; rintro e w' ⟨rfl, rfl⟩)
    | (go_at_call 13; (with_reducible show Calls _ 13 #[.int .i64 L, _] _ _); refine (P3.out w4.drew).mono ?_; rintro e w' ⟨rfl, rfl⟩))
  all_goals
    go_wp2
    have hg : (((w4.setCell ⟨w.heap.size + 1, 0, none⟩ (.int .i64 x1)).setCell ⟨w.heap.size + 1, 1, none⟩ (.int .i64 (1 + r2))).setCell ⟨w.heap.size + 1, 2, none⟩ (.int .i64 x3)).drew.heap[w.heap.size + 1]? = some (.cells #[.int .i64 x1, .int .i64 (1 + r2), .int .i64 x3] 23 (0, 0)) :=
      heap_setCell_same _ (w.heap.size + 1) 2 _ _ (.int .i64 x3) (heap_setCell_same _ (w.heap.size + 1) 1 _ _ (.int .i64 (1 + r2)) (heap_setCell_same w4 (w.heap.size + 1) 0 _ _ (.int .i64 x1) RZ'.out))
    refine bodyPost_ret (results_cell_row (p := 2) (ty := 23) rfl _ _ (w.heap.size + 1) 23 #[.int .i64 x1, .int .i64 (1 + r2), .int .i64 x3] (0, 0) _ rfl hg Tryd.underlying23 rfl info23) rfl ?_
    obtain ⟨a1, a2, a3⟩ := E.out
    refine ⟨s, ?_, (((C4.out.set_new 0 _ (Nat.le_succ _)).set_new 1 _ (Nat.le_succ _)).set_new 2 _ (Nat.le_succ _)).drewN 1⟩
    rw [a1, a2, a3]
    simp [Int.add_comm]
end Go.Proofs.YtlmgiejemdifkaaDoor.Ca
