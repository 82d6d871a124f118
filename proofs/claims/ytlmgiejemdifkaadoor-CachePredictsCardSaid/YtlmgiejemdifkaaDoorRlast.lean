/- The document's Last: its contract. No statement of the seat is proved here. -/
import Derived.Test.YtlmgiejemdifkaaDoorLast
import Derived.Deep.CutRange
namespace Go.Proofs.YtlmgiejemdifkaaDoor.Ca
open Go.RowKit Go.Proofs.YtlmgiejemdifkaaDoor.Kit
set_option linter.unusedSimpArgs false
set_option linter.unusedVariables false

/-! ### only what lies ahead matters -/
theorem line_eq {us vs : List Us} {k : Nat} (s : Shp) (h : unth us k = unth vs k) : lineOf s us k = lineOf s vs k := by unfold lineOf; rw [h]
theorem oth_eq (s : Shp) {us vs : List Us} (own : Nat) : ∀ (m : Nat) (o : List Nat), (∀ k, k < m → unth us k = unth vs k) → oth s us own m o = oth s vs own m o
  | 0, o, _ => rfl
  | m + 1, o, h => by
    unfold oth
    rw [line_eq s (h m (by omega)), oth_eq s own m _ (fun k hk => h k (by omega)), oth_eq s own m _ (fun k hk => h k (by omega))]
theorem near_eq (s : Shp) {us vs : List Us} (i : Nat) (h : ∀ k, k ≤ i → unth us k = unth vs k) : nearB s us i = nearB s vs i := by
  unfold nearB
  rw [line_eq s (h i (by omega)), oth_eq s _ i [] (fun k hk => h k (by omega))]
theorem los_eq (s : Shp) {us vs : List Us} (g : Nat) : ∀ m, (∀ k, k < m → unth us k = unth vs k) → los s us g m = los s vs g m
  | 0, _ => rfl
  | m + 1, h => by
    unfold los
    rw [line_eq s (h m (by omega)), h m (by omega), near_eq s m (fun k hk => h k (by omega)), los_eq s g m (fun k hk => h k (by omega))]
theorem lose_eq (s : Shp) {us vs : List Us} (i : Nat) (h : ∀ k, k ≤ i → unth us k = unth vs k) : loseB s us i = loseB s vs i := by
  unfold loseB
  rw [line_eq s (h i (by omega)), oth_eq s _ i [] (fun k hk => h k (by omega)), los_eq s _ i (fun k hk => h k (by omega))]
theorem last_eq (s : Shp) {us vs : List Us} (i : Nat) (h : ∀ k, k ≤ i → unth us k = unth vs k) : lastT s us i = lastT s vs i := by
  unfold lastT
  rw [near_eq s i h, lose_eq s i h]
theorem unth_take (us : List Us) (i k : Nat) (h : k ≤ i) : unth (us.take (i + 1)) k = unth us k := by
  unfold unth
  rw [List.getD_eq_getElem?_getD, List.getD_eq_getElem?_getD, List.getElem?_take, if_pos (by omega)]
theorem Ru.take {w : World} {A : Option Addr} {n cap : Nat} {us : List Us} (h : Ru w (.slice A n cap) us) (i : Nat) (hi : i < us.length) : Ru w (.slice A (i + 1) cap) (us.take (i + 1)) := by
  obtain ⟨⟨A2, cap2, e, hc⟩, h2, h3⟩ := h
  injection e with e1 _ e2
  subst e1 e2
  have hl : (us.take (i + 1)).length = i + 1 := by rw [List.length_take]; omega
  refine ⟨⟨A, cap, by rw [hl], fun _ => ?_⟩, by omega, fun k => ?_⟩
  · obtain ⟨b, off, rfl, hk⟩ := hc (by omega)
    refine ⟨b, off, rfl, fun k hk' => ?_⟩
    rw [unth_take us i k (by omega)]
    exact hk k (by omega)
  · by_cases hk : k ≤ i
    · rw [unth_take us i k hk]; exact h3 k
    · unfold unth
      rw [List.getD_eq_getElem?_getD, List.getElem?_eq_none (by omega)]
      decide
/-! ### Last -/
set_option maxRecDepth 100000 in
set_option maxHeartbeats 4000000 in
theorem rlast_any (w : World) (s : Shp) (A1 : Option Addr) (cap : Nat) (us : List Us) (i : Nat) (h1 : Ru w (.slice A1 (i + 1) cap) us) (hbig : us.length * 16 ≤ 140737488355328) (hi : us.length = i + 1) :
    Calls Tryd.prog 48 #[.agg #[.int .i64 s.S, .int .i64 s.W, .int .i64 s.L], .slice A1 (i + 1) cap] w fun e w' => e = .returned (.agg #[.bool (lastT s us i).hit, .bool (lastT s us i).back, .int .i64 (lastT s us i).cyc]) ∧ Chg w w' none := by
  have H1 := Lib.hid h1
  have HT := Lib.hid (show lastT s us i = if nearB s us i then ⟨true, false, 1⟩ else if loseB s us i then ⟨false, true, 20⟩ else ⟨false, false, 12⟩ from rfl)
  have NR := Lib.hid (fun X b (hf : RcF X b s) (hC : Chg w X none) => rnear_any X b s hf _ us (H1.out.kept hC) hbig i (by omega))
  have LR := Lib.hid (fun X b (hf : RcF X b s) (hC : Chg w X none) => rloses_any X b s hf _ us (H1.out.kept hC) hbig i (by omega))
  obtain ⟨W3, hW3⟩ : ∃ X, X = ((w.alloc (.cells #[.int .i64 s.S, .int .i64 s.W, .int .i64 s.L] 23)).alloc (.cells #[.bool false, .bool false, .int .i64 0] 38)).alloc (.cells #[.int .i64 s.S, .int .i64 s.W, .int .i64 s.L, .slice none 0 0, .int .i64 0] 99) := ⟨_, rfl⟩
  have C3 := Lib.hid (show Chg w W3 none by rw [hW3]; exact (((Chg.refl w none).alloc _).alloc _).alloc _)
  have RC := Lib.hid (show W3.heap[w.heap.size + 1 + 1]? = some (.cells #[.int .i64 s.S, .int .i64 s.W, .int .i64 s.L, .slice none 0 0, .int .i64 0] 99 (0, 0)) by
    rw [hW3]
    have := heap_alloc_last ((w.alloc (.cells #[.int .i64 s.S, .int .i64 s.W, .int .i64 s.L] 23)).alloc (.cells #[.bool false, .bool false, .int .i64 0] 38)) (.cells #[.int .i64 s.S, .int .i64 s.W, .int .i64 s.L, .slice none 0 0, .int .i64 0] 99)
    simpa using this)
  have RZ := Lib.hid (show W3.heap[w.heap.size + 1]? = some (.cells #[.bool false, .bool false, .int .i64 0] 38 (0, 0)) by
    rw [hW3, heap_alloc_old (h := by simp)]
    have := heap_alloc_last (w.alloc (.cells #[.int .i64 s.S, .int .i64 s.W, .int .i64 s.L] 23)) (.cells #[.bool false, .bool false, .int .i64 0] 38)
    simpa using this)
  have FC := Lib.hid (show RcF W3 (w.heap.size + 1 + 1) s from ⟨by rw [cell_of_row _ _ _ _ _ _ RC.out]; rfl, by rw [cell_of_row _ _ _ _ _ _ RC.out]; rfl, by rw [cell_of_row _ _ _ _ _ _ RC.out]; rfl⟩)
  have hs3 : W3.heap.size = w.heap.size + 3 := by rw [hW3]; simp
  have hz := zero38
  have hfew : i + 1 ≤ 8796093022208 := by omega
  clear h1 hi hbig
  go_enter Tryd.func48, Tryd.ntmps48
  go_wp2_with fail
  rw [← hW3]
  (with_reducible show Calls _ 61 #[.pointer (some ⟨w.heap.size + 1 + 1, 0, none⟩), .slice A1 (i + 1) cap, .int .i64 i] W3 _)
  clear hW3
  refine (NR.out W3 _ FC.out C3.out).mono ?_
  rintro e w4 ⟨rfl, hC⟩
  have C4 := Lib.hid (C3.out.trans hC)
  have hs4 : w.heap.size + 3 ≤ w4.heap.size := by have := hC.size; omega
  have RZ4 := Lib.hid ((hC.block (w.heap.size + 1) (by omega) (by simp)).trans RZ.out)
  have FC4 := Lib.hid (FC.out.kept hC (by simp))
  clear hC
  generalize nearB s us i = nb at *
  have z0 : w4.cell? ⟨w.heap.size + 1, 0, none⟩ = some (.bool false) := by rw [cell_of_row _ _ _ _ _ _ RZ4.out]; rfl
  have z1 : w4.cell? ⟨w.heap.size + 1, 1, none⟩ = some (.bool false) := by rw [cell_of_row _ _ _ _ _ _ RZ4.out]; rfl
  have z2 : w4.cell? ⟨w.heap.size + 1, 2, none⟩ = some (.int .i64 0) := by rw [cell_of_row _ _ _ _ _ _ RZ4.out]; rfl
  have y0 := frozen_of_row w4 (w.heap.size + 1) 0 _ _ RZ4.out
  have y1 := frozen_of_row w4 (w.heap.size + 1) 1 _ _ RZ4.out
  have y2 := frozen_of_row w4 (w.heap.size + 1) 2 _ _ RZ4.out
  have hne : w.heap.size + 1 ≠ w4.heap.size := by omega
  have hlt4 : w.heap.size + 1 < w4.heap.size := by omega
  cases nb with
  | true =>
    have HT2 := Lib.hid (show lastT s us i = ⟨true, false, 1⟩ from HT.out)
    have K5 := Lib.hid (show Chg w4 (w4.alloc (.cells #[.bool true, .bool false, .int .i64 1] 38)) none from (Chg.refl w4 none).alloc _)
    have RT5 := Lib.hid (heap_alloc_last w4 (.cells #[.bool true, .bool false, .int .i64 1] 38))
    go_upto_region 9 with (fail)
    have C5 := Lib.hid (C4.out.trans K5.out)
    have RZ6 := Lib.hid ((K5.out.block _ (by omega) (by simp)).trans RZ4.out)
    clear z0 z1 z2 y0 y1 y2
    generalize w4.alloc (.cells #[.bool true, .bool false, .int .i64 1] 38) = w6 at *
    generalize w4.heap.size = q at *
    have z0 : w6.cell? ⟨w.heap.size + 1, 0, none⟩ = some (.bool false) := by rw [cell_of_row _ _ _ _ _ _ RZ6.out]; rfl
    have z1 : w6.cell? ⟨w.heap.size + 1, 1, none⟩ = some (.bool false) := by rw [cell_of_row _ _ _ _ _ _ RZ6.out]; rfl
    have z2 : w6.cell? ⟨w.heap.size + 1, 2, none⟩ = some (.int .i64 0) := by rw [cell_of_row _ _ _ _ _ _ RZ6.out]; rfl
    have y0 := frozen_of_row w6 (w.heap.size + 1) 0 _ _ RZ6.out
    have y1 := frozen_of_row w6 (w.heap.size + 1) 1 _ _ RZ6.out
    have y2 := frozen_of_row w6 (w.heap.size + 1) 2 _ _ RZ6.out
    have t0 : w6.cell? ⟨q, 0, none⟩ = some (.bool true) := by rw [cell_of_row _ _ _ _ _ _ RT5.out]; rfl
    have t1 : w6.cell? ⟨q, 1, none⟩ = some (.bool false) := by rw [cell_of_row _ _ _ _ _ _ RT5.out]; rfl
    have t2 : w6.cell? ⟨q, 2, none⟩ = some (.int .i64 1) := by rw [cell_of_row _ _ _ _ _ _ RT5.out]; rfl
    have HG := Lib.hid (heap_setCell_same _ (w.heap.size + 1) 2 _ _ (.int .i64 1) (heap_setCell_same _ (w.heap.size + 1) 1 _ _ (.bool false) (heap_setCell_same _ (w.heap.size + 1) 0 _ _ (.bool true) RZ6.out)))
    have CF := Lib.hid (show Chg w (((w6.setCell ⟨w.heap.size + 1, 0, none⟩ (.bool true)).setCell ⟨w.heap.size + 1, 1, none⟩ (.bool false)).setCell ⟨w.heap.size + 1, 2, none⟩ (.int .i64 1)) none from
      (((C5.out.set_new _ _ (by omega)).set_new _ _ (by omega)).set_new _ _ (by omega)))
    go_wp2
    refine bodyPost_ret (results_cell_row (p := 4) (ty := 38) rfl _ _ (w.heap.size + 1) 38 #[.bool true, .bool false, .int .i64 1] (0, 0) _ rfl HG.out Tryd.underlying38 rfl info38) rfl ?_
    rw [HT2.out]
    exact ⟨rfl, CF.out⟩
  | false =>
    have HT2 := Lib.hid (show lastT s us i = if loseB s us i then ⟨false, true, 20⟩ else ⟨false, false, 12⟩ from HT.out)
    have K5 := Lib.hid (show Chg w4 (w4.alloc (.cells #[.bool false, .bool false, .int .i64 12] 38)) none from (Chg.refl w4 none).alloc _)
    have RT5 := Lib.hid (heap_alloc_last w4 (.cells #[.bool false, .bool false, .int .i64 12] 38))
    go_wp2_with fail
    have C5 := Lib.hid (C4.out.trans K5.out)
    have RZ5 := Lib.hid ((K5.out.block _ (by omega) (by simp)).trans RZ4.out)
    have FC5 := Lib.hid (FC4.out.kept K5.out (by simp))
    have hs5 := K5.out.size
    have hs5' : w4.heap.size < (w4.alloc (.cells #[.bool false, .bool false, .int .i64 12] 38)).heap.size := by simp
    clear z0 z1 z2 y0 y1 y2
    generalize w4.alloc (.cells #[.bool false, .bool false, .int .i64 12] 38) = w5 at *
    generalize hq : w4.heap.size = q at *
    clear hq
    (with_reducible show Calls _ 62 #[.pointer (some ⟨w.heap.size + 1 + 1, 0, none⟩), .slice A1 (i + 1) cap, .int .i64 i] w5 _)
    refine (LR.out w5 _ FC5.out C5.out).mono ?_
    rintro e w6 ⟨rfl, hC⟩
    have C6 := Lib.hid (C5.out.trans hC)
    have RZ6 := Lib.hid ((hC.block _ (by omega) (by simp)).trans RZ5.out)
    have RT6 := Lib.hid ((hC.block q hs5' (by simp)).trans RT5.out)
    have z0 : w6.cell? ⟨w.heap.size + 1, 0, none⟩ = some (.bool false) := by rw [cell_of_row _ _ _ _ _ _ RZ6.out]; rfl
    have z1 : w6.cell? ⟨w.heap.size + 1, 1, none⟩ = some (.bool false) := by rw [cell_of_row _ _ _ _ _ _ RZ6.out]; rfl
    have z2 : w6.cell? ⟨w.heap.size + 1, 2, none⟩ = some (.int .i64 0) := by rw [cell_of_row _ _ _ _ _ _ RZ6.out]; rfl
    have y0 := frozen_of_row w6 (w.heap.size + 1) 0 _ _ RZ6.out
    have y1 := frozen_of_row w6 (w.heap.size + 1) 1 _ _ RZ6.out
    have y2 := frozen_of_row w6 (w.heap.size + 1) 2 _ _ RZ6.out
    have t0 : w6.cell? ⟨q, 0, none⟩ = some (.bool false) := by rw [cell_of_row _ _ _ _ _ _ RT6.out]; rfl
    have t1 : w6.cell? ⟨q, 1, none⟩ = some (.bool false) := by rw [cell_of_row _ _ _ _ _ _ RT6.out]; rfl
    have t2 : w6.cell? ⟨q, 2, none⟩ = some (.int .i64 12) := by rw [cell_of_row _ _ _ _ _ _ RT6.out]; rfl
    have x1 := frozen_of_row w6 q 1 _ _ RT6.out
    have x2 := frozen_of_row w6 q 2 _ _ RT6.out
    clear hC
    generalize loseB s us i = lb at *
    cases lb with
    | true =>
      have HT3 := Lib.hid (show lastT s us i = ⟨false, true, 20⟩ from HT2.out)
      have RB := (heap_setCell_other (w6.setCell ⟨q, 1, none⟩ (.bool true)) ⟨q, 2, none⟩ (w.heap.size + 1) (.int .i64 20) hne).trans ((heap_setCell_other w6 ⟨q, 1, none⟩ (w.heap.size + 1) (.bool true) hne).trans RZ6.out)
      have HG := Lib.hid (heap_setCell_same _ (w.heap.size + 1) 2 _ _ (.int .i64 20) (heap_setCell_same _ (w.heap.size + 1) 1 _ _ (.bool true) (heap_setCell_same _ (w.heap.size + 1) 0 _ _ (.bool false) RB)))
      have CF := Lib.hid (show Chg w (((((w6.setCell ⟨q, 1, none⟩ (.bool true)).setCell ⟨q, 2, none⟩ (.int .i64 20)).setCell ⟨w.heap.size + 1, 0, none⟩ (.bool false)).setCell ⟨w.heap.size + 1, 1, none⟩ (.bool true)).setCell ⟨w.heap.size + 1, 2, none⟩ (.int .i64 20)) none from
        (((((C6.out.set_new _ _ (by omega)).set_new _ _ (by omega)).set_new _ _ (by omega)).set_new _ _ (by omega)).set_new _ _ (by omega)))
      clear RB
      go_wp2
      refine bodyPost_ret (results_cell_row (p := 4) (ty := 38) rfl _ _ (w.heap.size + 1) 38 #[.bool false, .bool true, .int .i64 20] (0, 0) _ rfl HG.out Tryd.underlying38 rfl info38) rfl ?_
      rw [HT3.out]
      exact ⟨rfl, CF.out⟩
    | false =>
      have HT3 := Lib.hid (show lastT s us i = ⟨false, false, 12⟩ from HT2.out)
      have RB := (heap_setCell_other w6 ⟨q, 1, none⟩ (w.heap.size + 1) (.bool false) hne).trans RZ6.out
      have HG := Lib.hid (heap_setCell_same _ (w.heap.size + 1) 2 _ _ (.int .i64 12) (heap_setCell_same _ (w.heap.size + 1) 1 _ _ (.bool false) (heap_setCell_same _ (w.heap.size + 1) 0 _ _ (.bool false) RB)))
      have CF := Lib.hid (show Chg w ((((w6.setCell ⟨q, 1, none⟩ (.bool false)).setCell ⟨w.heap.size + 1, 0, none⟩ (.bool false)).setCell ⟨w.heap.size + 1, 1, none⟩ (.bool false)).setCell ⟨w.heap.size + 1, 2, none⟩ (.int .i64 12)) none from
        ((((C6.out.set_new _ _ (by omega)).set_new _ _ (by omega)).set_new _ _ (by omega)).set_new _ _ (by omega)))
      clear RB
      go_wp2
      refine bodyPost_ret (results_cell_row (p := 4) (ty := 38) rfl _ _ (w.heap.size + 1) 38 #[.bool false, .bool false, .int .i64 12] (0, 0) _ rfl HG.out Tryd.underlying38 rfl info38) rfl ?_
      rw [HT3.out]
      exact ⟨rfl, CF.out⟩
end Go.Proofs.YtlmgiejemdifkaaDoor.Ca
