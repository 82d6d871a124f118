/- CacheCopied: the walk. -/
import Derived.Test.YtlmgiejemdifkaaDoorLoad
import Derived.Test.YtlmgiejemdifkaaDoorSame
namespace Go.Proofs.YtlmgiejemdifkaaDoor.Ca
open Go.RowKit Go.Proofs.YtlmgiejemdifkaaDoor.Kit
set_option linter.unusedSimpArgs false
set_option linter.unusedVariables false

theorem aft_out (s : Shp) (us : List Us) (k : Nat) (hk : s.S ≤ k) : ∀ n, aft s (fun _ => []) us n k = []
  | 0 => rfl
  | n + 1 => by
    have hS := s.Sle
    show put _ _ _ k = _
    rw [put_other _ _ (fun e => by have := Nat.mod_lt ((unth us n).1 / s.L) (show 0 < s.S by omega); unfold setOf at e; omega)]
    exact aft_out s us k hk n
theorem part_all {s : Shp} {f : Nat → List Ln} (h : ∀ k, s.S ≤ k → f k = []) : part (lrows f s.S) = f := funext fun k => by
  rw [part_rows]
  by_cases hk : k < s.S
  · rw [if_pos hk]
  · rw [if_neg hk, h k (by omega)]
/-- A list that is written over: where it lies. -/
def Lies (w : World) (v : Value) (n : Nat) : Prop := ∃ A cc, v = .slice A n cc ∧ (0 < n → ∃ g, A = some ⟨g, 0, none⟩ ∧ Row w g 51 (cc * 3) ∧ n ≤ cc)
theorem Row.cell {w : World} {b : Nat} {T : TypeId} {n : Nat} (h : Row w b T n) {x : Nat} (hx : x < n) : ∃ v, w.cell? ⟨b, x, none⟩ = some v := by
  obtain ⟨cs, h, hs⟩ := h
  exact ⟨cs[x], by rw [cell_of_row _ _ _ _ _ _ h, Array.getElem?_eq_getElem]⟩
theorem Row.free {w : World} {b : Nat} {T : TypeId} {n : Nat} (h : Row w b T n) (x : Nat) : w.frozen? ⟨b, x, none⟩ = false := by
  obtain ⟨cs, h, hs⟩ := h
  exact frozen_of_row _ _ _ _ _ h
/-- What holds behind each stage: both caches. -/
structure Cp (w wr : World) (b c : Nat) (s : Shp) (f g : Nat → List Ln) : Prop where
  p : CacheIs wr b s f
  q : CacheIs wr c s g
  hb : w.heap.size < b
  hc : w.heap.size < c
  ne : b ≠ c
  chg : Chg w wr none
  one : 1 < w.heap.size
theorem Cp.grow {w wr w2 : World} {b c : Nat} {s : Shp} {f g : Nat → List Ln} (h : Cp w wr b c s f g) (hC : Chg wr w2 none) : Cp w w2 b c s f g :=
  ⟨h.p.kept hC (by simp), h.q.kept hC (by simp), h.hb, h.hc, h.ne, h.chg.trans hC, h.one⟩
theorem Cp.own {w wr w2 : World} {b c : Nat} {s : Shp} {f g : Nat → List Ln} (h : Cp w wr b c s f g) {r : Option Nat} (hC : Chg wr w2 r) (hr : ∀ x, r = some x → w.heap.size ≤ x ∧ x ≠ b ∧ x ≠ c) : Cp w w2 b c s f g :=
  ⟨h.p.kept hC (fun e => (hr b e).2.1 rfl), h.q.kept hC (fun e => (hr c e).2.2 rfl), h.hb, h.hc, h.ne, own_trans h.chg hC (fun g e => (hr g e).1), h.one⟩
theorem Cp.onB {w wr w2 : World} {b c : Nat} {s : Shp} {f g f2 : Nat → List Ln} (h : Cp w wr b c s f g) (hC : Chg wr w2 (some b)) (hp : CacheIs w2 b s f2) : Cp w w2 b c s f2 g :=
  ⟨hp, h.q.kept hC (fun e => h.ne (by injection e)), h.hb, h.hc, h.ne, h.chg.trans_new hC (Nat.le_of_lt h.hb), h.one⟩
theorem Cp.onC {w wr w2 : World} {b c : Nat} {s : Shp} {f g g2 : Nat → List Ln} (h : Cp w wr b c s f g) (hC : Chg wr w2 (some c)) (hq : CacheIs w2 c s g2) : Cp w w2 b c s f g2 :=
  ⟨h.p.kept hC (fun e => h.ne (by injection e with e; exact e.symm)), hq, h.hb, h.hc, h.ne, h.chg.trans_new hC (Nat.le_of_lt h.hc), h.one⟩
theorem Ru.own_lt {w : World} {v : Value} {us : List Us} (h : Ru w v us) : 0 < us.length → ∀ g, v.ownBlock = some g → g < w.heap.size := fun h0 g e => by
  obtain ⟨⟨A, cap, rfl, hc⟩, _, _⟩ := h
  obtain ⟨b, o, rfl, hk⟩ := hc h0
  have := World.block_lt_of_cell? w _ (hk 0 h0).1
  simp only [Value.ownBlock, Option.some.injEq] at e this
  omega
set_option maxRecDepth 100000 in
set_option maxHeartbeats 8000000 in
theorem copied_walk (w : World) (hT : TabAt w) (S W L : Int) (hS : i64ok S) (hW : i64ok W) (hL : i64ok L) (v1 : Value) (us1 : List Us) (h1 : Ru w v1 us1) (v2 : Value) (us2 : List Us) (h2 : Ru w v2 us2) (v3 : Value) (us3 : List Us) (h3 : Ru w v3 us3)
    (hb1 : us1.length * 16 ≤ 140737488355328) (hb2 : us2.length * 16 ≤ 140737488355328) (hb3 : us3.length * 16 ≤ 140737488355328) :
    Calls Tryd.prog 6 #[.agg #[.int .i64 S, .int .i64 W, .int .i64 L], v1, v2, v3] w fun e w' => e = .returned (.bool true) ∧ Chg w w' none := by
  have H1 := Lib.hid h1
  have H2 := Lib.hid h2
  have H3 := Lib.hid h3
  have BG := Lib.hid (And.intro hb1 (And.intro hb2 hb3))
  have HT := Lib.hid hT
  have SH := Lib.hid (fun X => shape_any X S W L hS hW hL)
  have C0 := Lib.hid ((Chg.refl w none).alloc (.cells #[.int .i64 S, .int .i64 W, .int .i64 L] 23))
  have R0 := Lib.hid (heap_alloc_last w (.cells #[.int .i64 S, .int .i64 W, .int .i64 L] 23))
  have T0 := Lib.hid (hT.kept C0.out (by simp))
  have h1w := World.block_lt_of_cell? w _ (hT 0 (by decide))
  clear hT hS hW hL h1 h2 h3 hb1 hb2 hb3
  go_enter Tryd.func6, Tryd.ntmps6
  go_wp2_with fail
  refine (awake_any _ T0.out).mono ?_
  rintro e w1 ⟨rfl, hC⟩
  have R1 := (hC.block w.heap.size (by simp) (by simp)).trans R0.out
  have d0 : w1.cell? ⟨w.heap.size, 0, none⟩ = some (.int .i64 S) := by rw [cell_of_row _ _ _ _ _ _ R1]; rfl
  have d1 : w1.cell? ⟨w.heap.size, 1, none⟩ = some (.int .i64 W) := by rw [cell_of_row _ _ _ _ _ _ R1]; rfl
  have d2 : w1.cell? ⟨w.heap.size, 2, none⟩ = some (.int .i64 L) := by rw [cell_of_row _ _ _ _ _ _ R1]; rfl
  have C1 := Lib.hid (C0.out.trans hC)
  have R1' := Lib.hid R1
  clear hC R1
  go_wp2_with fail
  refine (SH.out w1).mono ?_
  rintro e w2 ⟨s, rfl, hC⟩
  have R2 := Lib.hid ((hC.block w.heap.size (Array.getElem?_eq_some_iff.1 R1'.out).1 (by simp)).trans R1'.out)
  have d0 : w2.cell? ⟨w.heap.size, 0, none⟩ = some (.int .i64 S) := by rw [cell_of_row _ _ _ _ _ _ R2.out]; rfl
  have d1 : w2.cell? ⟨w.heap.size, 1, none⟩ = some (.int .i64 W) := by rw [cell_of_row _ _ _ _ _ _ R2.out]; rfl
  have d2 : w2.cell? ⟨w.heap.size, 2, none⟩ = some (.int .i64 L) := by rw [cell_of_row _ _ _ _ _ _ R2.out]; rfl
  have f0 := frozen_of_row w2 w.heap.size 0 _ _ R2.out
  have f1 := frozen_of_row w2 w.heap.size 1 _ _ R2.out
  have f2 := frozen_of_row w2 w.heap.size 2 _ _ R2.out
  have C2 := Lib.hid (C1.out.trans hC)
  have hz := zero23
  clear hC
  go_wp2_with fail
  have C3 := Lib.hid (((C2.out.set_new 0 (.int .i64 s.S) (Nat.le_refl _)).set_new 1 (.int .i64 s.W) (Nat.le_refl _)).set_new 2 (.int .i64 s.L) (Nat.le_refl _))
  have RA := Lib.hid (heap_setCell_same _ w.heap.size 2 _ _ (.int .i64 s.L) (heap_setCell_same _ w.heap.size 1 _ _ (.int .i64 s.W) (heap_setCell_same w2 w.heap.size 0 _ _ (.int .i64 s.S) R2.out)))
  clear f0 f1 f2 d0 d1 d2 hz
  generalize ((w2.setCell ⟨w.heap.size, 0, none⟩ (.int .i64 s.S)).setCell ⟨w.heap.size, 1, none⟩ (.int .i64 s.W)).setCell ⟨w.heap.size, 2, none⟩ (.int .i64 s.L) = w3 at *
  refine (new_ok w3 s).mono ?_
  rintro e w4 ⟨b, rfl, hb, hbs, hC⟩
  have HB := Lib.hid hb
  have C4 := Lib.hid (C3.out.trans hC)
  have hs3 := (Array.getElem?_eq_some_iff.1 RA.out).1
  have RA4 := Lib.hid ((hC.block w.heap.size hs3 (by simp)).trans RA.out)
  have d0 : w4.cell? ⟨w.heap.size, 0, none⟩ = some (.int .i64 s.S) := by rw [cell_of_row _ _ _ _ _ _ RA4.out]; rfl
  have d1 : w4.cell? ⟨w.heap.size, 1, none⟩ = some (.int .i64 s.W) := by rw [cell_of_row _ _ _ _ _ _ RA4.out]; rfl
  have d2 : w4.cell? ⟨w.heap.size, 2, none⟩ = some (.int .i64 s.L) := by rw [cell_of_row _ _ _ _ _ _ RA4.out]; rfl
  clear hb hC
  go_wp2_with fail
  refine (new_ok w4 s).mono ?_
  rintro e w5 ⟨c, rfl, hc, hcs, hC⟩
  have hbc : b ≠ c := by have := HB.out.lt; omega
  have P5 := Lib.hid (show Cp w w5 b c s (fun _ => []) (fun _ => []) from ⟨HB.out.kept hC (by simp), hc, by omega, by have := HB.out.lt; omega, hbc, C4.out.trans hC, h1w⟩)
  clear hc hC C0 C1 C2 C3 C4 R0 R1' R2 RA RA4 T0 SH d0 d1 d2 HB
  go_wp2_with fail
  refine (used_any w5 (HT.out.kept P5.out.chg (by simp)) b s _ P5.out.p (by have := P5.out.hb; omega) _ us1 (H1.out.kept P5.out.chg) (fun h0 g e e2 => by have := H1.out.own_lt h0 g e; have := P5.out.hb; omega) BG.out.1).mono ?_
  rintro e w6 ⟨u1, rfl, _, hp, hC⟩
  have P6 := Lib.hid (P5.out.onB hC hp)
  clear hp hC
  go_wp2_with fail
  refine (used_any w6 (HT.out.kept P6.out.chg (by simp)) c s _ P6.out.q (by have := P6.out.hc; omega) _ us2 (H2.out.kept P6.out.chg) (fun h0 g e e2 => by have := H2.out.own_lt h0 g e; have := P6.out.hc; omega) BG.out.2.1).mono ?_
  rintro e w7 ⟨u2, rfl, _, hp, hC⟩
  have P7 := Lib.hid (P6.out.onC hC hp)
  have GD := Lib.hid (good_aft (good_nil s) us1 H1.out.okay us1.length)
  have AO := Lib.hid (part_all (fun k hk => aft_out s us1 k hk us1.length))
  clear hp hC P5 P6 hbs hcs
  generalize aft s (fun _ => []) us1 us1.length = F1 at *
  generalize aft s (fun _ => []) us2 us2.length = F2 at *
  go_wp2_with fail
  refine (lines_any w7 b s F1 P7.out.p).mono ?_
  rintro e w8 ⟨v, rfl, hown, hC⟩
  rw [lall_rows, lnum_rows] at hown
  have P8 := Lib.hid (P7.out.grow hC)
  have OW := Lib.hid hown
  have hs7 := P7.out.p.lt
  have hs7c := P7.out.q.lt
  have NV := Lib.hid (show ∀ g, v.ownBlock = some g → w7.heap.size ≤ g from fun g e => (hown.lt g e).1)
  clear hown hC
  go_wp2_with fail
  refine (load_yes w8 c s F2 P8.out.q F1 GD.out v w7.heap.size OW.out (fun e => by have := NV.out c e; omega)).mono ?_
  rw [AO.out]
  rintro e w9 ⟨rfl, hq, hC⟩
  have P9 := Lib.hid (P8.out.onC hC hq)
  have L9 := Lib.hid (show Lies w9 v (lrows F1 s.S).length from by
    rcases (OW.out.kept hC (.inr (fun e => by have := NV.out c e; omega))).2 with ⟨e1, e0⟩ | ⟨g, cap, cur, e1, hg, hrow, h1, h2, h3, h4⟩
    · exact ⟨none, 0, by rw [e1, e0], fun h => by omega⟩
    · exact ⟨_, cap, e1, fun _ => ⟨g, rfl, ⟨cur, hrow, h3⟩, h1⟩⟩)
  have hRl : (lrows F1 s.S).length ≤ 256 * 8 := by rw [← lnum_rows]; exact Nat.le_trans (lnum_le GD.out.len s.S) (Nat.mul_le_mul s.Sle.2 s.hW.2)
  clear hq hC P7 P8 OW
  obtain ⟨A, cc, rfl, hLz⟩ := L9.out
  have I0 := Lib.hid (And.intro P9.out L9.out)
  generalize (lrows F1 s.S).length = n at *
  have hz := zero51
  clear hLz P9 L9
  go_wp2_with fail
  go_loopw [16] (fun i wr => ∃ j : Nat, j ≤ n ∧ i = .int .i64 j ∧ Hid (Cp w wr b c s F1 F1 ∧ Lies wr (.slice A n cc) n)) (fun i _ => n - (intOf i).toNat)
  case atStart => exact ⟨0, by omega, rfl, I0⟩
  case round =>
    obtain ⟨j, hj, rfl, I⟩ := hrel
    clear I0
    by_cases hlt : j < n
    · obtain ⟨A', cc', e, hg⟩ := I.out.2
      injection e with eA _ ecc
      subst eA ecc
      obtain ⟨g, rfl, hr, hnc⟩ := hg (by omega)
      have hg7 := NV.out g rfl
      obtain ⟨x0, s0⟩ := hr.cell (show j * 3 < cc * 3 by omega)
      obtain ⟨x1, s1⟩ := hr.cell (show j * 3 + 1 < cc * 3 by omega)
      obtain ⟨x2, s2⟩ := hr.cell (show j * 3 + 2 < cc * 3 by omega)
      have f0 := hr.free (j * 3)
      have f1 := hr.free (j * 3 + 1)
      have f2 := hr.free (j * 3 + 2)
      have hb7 := I.out.1.hb
      have F := Lib.hid (show Cp w (((wr.setCell ⟨g, j * 3, none⟩ (.int .u32 0)).setCell ⟨g, j * 3 + 1, none⟩ (.int .u32 0)).setCell ⟨g, j * 3 + 2, none⟩ (.bool false)) b c s F1 F1 ∧ Lies (((wr.setCell ⟨g, j * 3, none⟩ (.int .u32 0)).setCell ⟨g, j * 3 + 1, none⟩ (.int .u32 0)).setCell ⟨g, j * 3 + 2, none⟩ (.bool false)) (.slice (some ⟨g, 0, none⟩) n cc) n from
        ⟨I.out.1.own ((((Chg.refl wr (some g)).set _ _).set _ _).set _ _) (fun x e => by injection e with e; omega), _, cc, rfl, fun _ => ⟨g, rfl, ((hr.set _ _).set _ _).set _ _, hnc⟩⟩)
      clear hg hr
      go_wp2
      go_roundw
      case rel => exact ⟨j + 1, by omega, by go_num, F⟩
      case measure => simp [intOf]; omega
    · have hjl : decide (j < n) = false := by simp only [decide_eq_false_iff_not]; omega
      clear hlt
      go_wp2_with fail
      refine (used_any wr (HT.out.kept I.out.1.chg (by simp)) b s F1 I.out.1.p (by have := I.out.1.hb; omega) _ us3 (H3.out.kept I.out.1.chg) (fun h0 g e e2 => by have := H3.out.own_lt h0 g e; have := I.out.1.hb; omega) BG.out.2.2).mono ?_
      rintro e wa ⟨a, rfl, hoa, hp, hC⟩
      have Pa := Lib.hid (I.out.1.onB hC hp)
      have OA := Lib.hid hoa
      have hcr := I.out.1.q.lt
      clear hoa hp hC
      go_wp2_with fail
      refine (used_any wa (HT.out.kept Pa.out.chg (by simp)) c s F1 Pa.out.q (by have := Pa.out.hc; omega) _ us3 (H3.out.kept Pa.out.chg) (fun h0 g e e2 => by have := H3.out.own_lt h0 g e; have := Pa.out.hc; omega) BG.out.2.2).mono ?_
      rintro e wb ⟨a2, rfl, hob, hp, hC⟩
      have Pb := Lib.hid (Pa.out.onC hC hp)
      have OA2 := Lib.hid (OA.out.kept hC (.inr (fun e => by have := (OA.out.lt c e).1; omega)))
      have OB := Lib.hid hob
      clear hob hp hC
      go_wp2_with fail
      refine (same_yes wb wr.heap.size wa.heap.size a a2 (touches s F1 us3 us3.length) (by rw [touches_length, ← costs_trows]; exact OA2.out) (by rw [touches_length, ← costs_trows]; exact OB.out)).mono ?_
      rintro e wc ⟨rfl, hC⟩
      have Pc := Lib.hid (Pb.out.grow hC)
      clear hC Pb OA OA2 OB Pa
      generalize aft s F1 us3 us3.length = F3 at *
      have FA := Lib.hid (fun X x (h : CacheIs X x s F3) => flush_any X x s F3 h)
      generalize dirts (lrows F3 s.S) = dn at *
      go_wp2_with fail
      refine (FA.out wc b Pc.out.p).mono ?_
      rintro e wd ⟨rfl, hp, hC⟩
      have Pd := Lib.hid (Pc.out.onB hC hp)
      clear hp hC
      go_wp2_with fail
      refine (FA.out wd c Pd.out.q).mono ?_
      rintro e we ⟨rfl, hq, hC⟩
      have Pe := Lib.hid (Pd.out.onC hC hq)
      clear hq hC
      go_wp2
      go_ret
      exact ⟨rfl, Pe.out.chg⟩
end Go.Proofs.YtlmgiejemdifkaaDoor.Ca
