/- CacheReuse: the walk. -/
import Derived.Test.YtlmgiejemdifkaaDoorPredict
import Derived.Test.YtlmgiejemdifkaaDoorCopied
namespace Go.Proofs.YtlmgiejemdifkaaDoor.Ca
open Go.RowKit Go.Proofs.YtlmgiejemdifkaaDoor.Kit
set_option linter.unusedSimpArgs false
set_option linter.unusedVariables false

/-- What holds behind each stage: the shape's box, the cache. -/
structure Rs (w wr : World) (b : Nat) (s : Shp) (f : Nat → List Ln) : Prop where
  p : CacheIs wr b s f
  hb : w.heap.size < b
  chg : Chg w wr none
  one : 1 < w.heap.size
  box : wr.heap[w.heap.size]? = some (.cells #[.int .i64 s.S, .int .i64 s.W, .int .i64 s.L] 23 (0, 0))
theorem Rs.grow {w wr w2 : World} {b : Nat} {s : Shp} {f : Nat → List Ln} (h : Rs w wr b s f) (hC : Chg wr w2 none) : Rs w w2 b s f :=
  ⟨h.p.kept hC (by simp), h.hb, h.chg.trans hC, h.one, (hC.block _ (by have := h.p.lt; have := h.hb; omega) (by simp)).trans h.box⟩
theorem Rs.onB {w wr w2 : World} {b : Nat} {s : Shp} {f f2 : Nat → List Ln} (h : Rs w wr b s f) (hC : Chg wr w2 (some b)) (hp : CacheIs w2 b s f2) : Rs w w2 b s f2 :=
  ⟨hp, h.hb, h.chg.trans_new hC (Nat.le_of_lt h.hb), h.one, (hC.block _ (by have := h.p.lt; have := h.hb; omega) (fun e => by injection e with e; have := h.hb; omega)).trans h.box⟩
theorem Rs.cells {w wr : World} {b : Nat} {s : Shp} {f : Nat → List Ln} (h : Rs w wr b s f) :
    wr.cell? ⟨w.heap.size, 0, none⟩ = some (.int .i64 s.S) ∧ wr.cell? ⟨w.heap.size, 1, none⟩ = some (.int .i64 s.W) ∧ wr.cell? ⟨w.heap.size, 2, none⟩ = some (.int .i64 s.L) :=
  ⟨by rw [cell_of_row _ _ _ _ _ _ h.box]; rfl, by rw [cell_of_row _ _ _ _ _ _ h.box]; rfl, by rw [cell_of_row _ _ _ _ _ _ h.box]; rfl⟩
set_option maxRecDepth 100000 in
set_option maxHeartbeats 8000000 in
theorem reuse_walk (w : World) (hT : TabAt w) (S W L : Int) (hS : i64ok S) (hW : i64ok W) (hL : i64ok L) (v1 : Value) (us1 : List Us) (h1 : Ru w v1 us1) (v2 : Value) (us2 : List Us) (h2 : Ru w v2 us2)
    (hb1 : us1.length * 16 ≤ 140737488355328) (hb2 : us2.length * 16 ≤ 140737488355328) :
    Calls Tryd.prog 9 #[.agg #[.int .i64 S, .int .i64 W, .int .i64 L], v1, v2] w fun e w' => e = .returned (.bool true) ∧ Chg w w' none := by
  have H1 := Lib.hid h1
  have H2 := Lib.hid h2
  have BG := Lib.hid (And.intro hb1 hb2)
  have HT := Lib.hid hT
  have SH := Lib.hid (fun X => shape_any X S W L hS hW hL)
  have C0 := Lib.hid ((Chg.refl w none).alloc (.cells #[.int .i64 S, .int .i64 W, .int .i64 L] 23))
  have R0 := Lib.hid (heap_alloc_last w (.cells #[.int .i64 S, .int .i64 W, .int .i64 L] 23))
  have T0 := Lib.hid (hT.kept C0.out (by simp))
  have h1w := World.block_lt_of_cell? w _ (hT 0 (by decide))
  clear hT hS hW hL h1 h2 hb1 hb2
  go_enter Tryd.func9, Tryd.ntmps9
  go_wp2_with fail
  refine (awake_any _ T0.out).mono ?_
  rintro e w1 ⟨rfl, hC⟩
  have R1 := (hC.block w.heap.size (by simp) (by simp)).trans R0.out
  have d0 : w1.cell? ⟨w.heap.size, 0, none⟩ = some (.int .i64 S) := by rw [cell_of_row _ _ _ _ _ _ R1]; rfl
  have d1 : w1.cell? ⟨w.heap.size, 1, none⟩ = some (.int .i64 W) := by rw [cell_of_row _ _ _ _ _ _ R1]; rfl
  have d2 : w1.cell? ⟨w.heap.size, 2, none⟩ = some (.int .i64 L) := by rw [cell_of_row _ _ _ _ _ _ R1]; rfl
  have C1 := Lib.hid (C0.out.trans hC)
  have R1' := Lib.hid R1
  clear hC R1
  go_wp2_with fail
  refine (SH.out w1).mono ?_
  rintro e w2 ⟨s, rfl, hC⟩
  have R2 := Lib.hid ((hC.block w.heap.size (Array.getElem?_eq_some_iff.1 R1'.out).1 (by simp)).trans R1'.out)
  have d0 : w2.cell? ⟨w.heap.size, 0, none⟩ = some (.int .i64 S) := by rw [cell_of_row _ _ _ _ _ _ R2.out]; rfl
  have d1 : w2.cell? ⟨w.heap.size, 1, none⟩ = some (.int .i64 W) := by rw [cell_of_row _ _ _ _ _ _ R2.out]; rfl
  have d2 : w2.cell? ⟨w.heap.size, 2, none⟩ = some (.int .i64 L) := by rw [cell_of_row _ _ _ _ _ _ R2.out]; rfl
  have f0 := frozen_of_row w2 w.heap.size 0 _ _ R2.out
  have f1 := frozen_of_row w2 w.heap.size 1 _ _ R2.out
  have f2 := frozen_of_row w2 w.heap.size 2 _ _ R2.out
  have C2 := Lib.hid (C1.out.trans hC)
  have hz := zero23
  clear hC
  go_wp2_with fail
  have C3 := Lib.hid (((C2.out.set_new 0 (.int .i64 s.S) (Nat.le_refl _)).set_new 1 (.int .i64 s.W) (Nat.le_refl _)).set_new 2 (.int .i64 s.L) (Nat.le_refl _))
  have RA := Lib.hid (heap_setCell_same _ w.heap.size 2 _ _ (.int .i64 s.L) (heap_setCell_same _ w.heap.size 1 _ _ (.int .i64 s.W) (heap_setCell_same w2 w.heap.size 0 _ _ (.int .i64 s.S) R2.out)))
  clear f0 f1 f2 d0 d1 d2 hz
  generalize ((w2.setCell ⟨w.heap.size, 0, none⟩ (.int .i64 s.S)).setCell ⟨w.heap.size, 1, none⟩ (.int .i64 s.W)).setCell ⟨w.heap.size, 2, none⟩ (.int .i64 s.L) = w3 at *
  refine (new_ok w3 s).mono ?_
  rintro e w4 ⟨b, rfl, hb, hbs, hC⟩
  have hs3 := (Array.getElem?_eq_some_iff.1 RA.out).1
  have P4 := Lib.hid (show Rs w w4 b s (fun _ => []) from ⟨hb, by omega, C3.out.trans hC, h1w, (hC.block w.heap.size hs3 (by simp)).trans RA.out⟩)
  clear hb hC hbs C0 C1 C2 C3 R0 R1' R2 RA T0 SH
  obtain ⟨d0, d1, d2⟩ := P4.out.cells
  go_wp2_with fail
  refine (predict_any w4 (HT.out.kept P4.out.chg (by simp)) s _ us1 (H1.out.kept P4.out.chg) BG.out.1).mono ?_
  rintro e w5 ⟨x1, rfl, ho, hC⟩
  have OX := Lib.hid ho
  have P5 := Lib.hid (P4.out.grow hC)
  have HB5 := Lib.hid (show b < w4.heap.size from P4.out.p.lt)
  clear ho hC d0 d1 d2
  obtain ⟨d0, d1, d2⟩ := P5.out.cells
  go_wp2_with fail
  refine (predict_any w5 (HT.out.kept P5.out.chg (by simp)) s _ us2 (H2.out.kept P5.out.chg) BG.out.2).mono ?_
  rintro e w6 ⟨x2, rfl, ho, hC⟩
  have OX := Lib.hid (OX.out.kept hC (Classical.em _))
  have OY := Lib.hid ho
  have P6 := Lib.hid (P5.out.grow hC)
  have HB6 := Lib.hid (show b < w5.heap.size from P5.out.p.lt)
  clear ho hC d0 d1 d2
  go_wp2_with fail
  refine (used_any w6 (HT.out.kept P6.out.chg (by simp)) b s _ P6.out.p (by have := P6.out.hb; omega) _ us1 (H1.out.kept P6.out.chg) (fun h0 g e e2 => by have := H1.out.own_lt h0 g e; have := P6.out.hb; omega) BG.out.1).mono ?_
  rintro e w7 ⟨a1, rfl, ho, hp, hC⟩
  have OA := Lib.hid ho
  have OX := Lib.hid (OX.out.kept hC (.inr (fun e => by have := (OX.out.lt b e).1; have := HB5.out; omega)))
  have OY := Lib.hid (OY.out.kept hC (.inr (fun e => by have := (OY.out.lt b e).1; have := HB6.out; omega)))
  have P7 := Lib.hid (P6.out.onB hC hp)
  clear ho hp hC
  go_wp2_with fail
  refine (same_yes w7 _ _ a1 x1 (touches s (fun _ => []) us1 us1.length) (by rw [touches_length, ← costs_trows]; exact OA.out) (by rw [touches_length, ← costs_trows]; exact OX.out)).mono ?_
  rintro e w8 ⟨rfl, hC⟩
  have OY := Lib.hid (OY.out.kept hC (Classical.em _))
  have P8 := Lib.hid (P7.out.grow hC)
  clear hC OA OX
  generalize aft s (fun _ => []) us1 us1.length = F1 at *
  have DA := Lib.hid (dirty_any w8 b s F1 P8.out.p)
  have FA := Lib.hid (fun X (h : CacheIs X b s F1) => flush_any X b s F1 h)
  have hdl : dirts (lrows F1 s.S) ≤ 2048 := Nat.le_trans (dirts_le _) (by rw [← lnum_rows]; exact Nat.le_trans (lnum_le P8.out.p.len s.S) (Nat.mul_le_mul s.Sle.2 s.hW.2))
  generalize dirts (lrows F1 s.S) = dn at *
  go_wp2_with fail
  refine DA.out.mono ?_
  rintro e w9 ⟨rfl, hC⟩
  have OY := Lib.hid (OY.out.kept hC (Classical.em _))
  have P9 := Lib.hid (P8.out.grow hC)
  clear hC
  go_wp2_with fail
  refine (FA.out w9 P9.out.p).mono ?_
  rintro e wa ⟨rfl, hp, hC⟩
  have OY := Lib.hid (OY.out.kept hC (.inr (fun e => by have := (OY.out.lt b e).1; have := HB6.out; omega)))
  have Pa := Lib.hid (P9.out.onB hC hp)
  clear hp hC
  go_wp2_with fail
  refine (used_any wa (HT.out.kept Pa.out.chg (by simp)) b s _ Pa.out.p (by have := Pa.out.hb; omega) _ us2 (H2.out.kept Pa.out.chg) (fun h0 g e e2 => by have := H2.out.own_lt h0 g e; have := Pa.out.hb; omega) BG.out.2).mono ?_
  rintro e wb ⟨a2, rfl, ho, hp, hC⟩
  have OA := Lib.hid ho
  have OY := Lib.hid (OY.out.kept hC (.inr (fun e => by have := (OY.out.lt b e).1; have := HB6.out; omega)))
  have Pb := Lib.hid (Pa.out.onB hC hp)
  clear ho hp hC
  go_wp2_with fail
  refine (same_yes wb _ _ a2 x2 (touches s (fun _ => []) us2 us2.length) (by rw [touches_length, ← costs_trows]; exact OA.out) (by rw [touches_length, ← costs_trows]; exact OY.out)).mono ?_
  rintro e wc ⟨rfl, hC⟩
  have Pc := Lib.hid (Pb.out.grow hC)
  clear hC OA OY
  obtain ⟨d0, d1, d2⟩ := Pc.out.cells
  have hSs := s.Sle
  have hw8 : IntKind.i64.wrap ((8 : Int) * (dn : Int)) = (8 : Int) * (dn : Int) := by rw [IntKind.wrap_i64]; omega
  have hw9 : IntKind.i64.wrap ((s.S : Int) + 8 * (dn : Int)) = (s.S : Int) + 8 * (dn : Int) := by rw [IntKind.wrap_i64]; omega
  have hx : (((s.S + dn * 8 : Nat) : Int) == (s.S : Int) + 8 * (dn : Int)) = true := by simp; omega
  go_wp2
  go_ret
  exact ⟨by simp; omega, Pc.out.chg⟩
end Go.Proofs.YtlmgiejemdifkaaDoor.Ca
