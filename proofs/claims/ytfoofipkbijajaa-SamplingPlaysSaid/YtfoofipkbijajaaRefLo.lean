/- The document's port: Load: contract (printed by a program). No statement of the seat is proved here. -/
import Derived.Test.YtfoofipkbijajaaRefL
namespace Go.Proofs.Ytfoofipkbijajaa.Sa
open Go.RowKit Go.Proofs.Ytfoofipkbijajaa.Kit
set_option linter.unusedSimpArgs false
set_option linter.unusedVariables false
/-- The document's port that was loaded. -/
theorem ref_load {w w2 : World} {b : Nat} {F : Nat → Prop} {P : PA} {rv da dn : Value} {th wa : Bool} {ld nd : List Int} {lt nt : Nat} (hb : b < w.heap.size) (hoff : ¬ F b) (hlt : ∀ x, F x → x < w.heap.size)
    (hr : Ri w rv P.rs) (k1 : ∀ g, rv.ownBlock = some g → F g)
    (hc : Chg w w2 (some b)) (hrow : w2.heap[b]? = some (.cells (rcells { P with A := ⟨th, ld, lt⟩, B := ⟨wa, nd, nt⟩ } rv da dn) 69 (0, 0))) (ha : Rb w2 da ld) (ka : ∀ g, da.ownBlock = some g → w.heap.size ≤ g ∧ g < w2.heap.size) (hn : Rb w2 dn nd) (kn : ∀ g, dn.ownBlock = some g → w.heap.size ≤ g ∧ g < w2.heap.size) :
    ∃ F', RefIs w2 b F' { P with A := ⟨th, ld, lt⟩, B := ⟨wa, nd, nt⟩ } ∧ ∀ x, F' x → F x ∨ w.heap.size ≤ x := by
  have hk : ∀ g, F g → g < w.heap.size → w2.heap[g]? = w.heap[g]? := fun g hf hl => hc.block g hl (fun e => by cases e; exact hoff hf)
  refine ⟨fun x => F x ∨ da.ownBlock = some x ∨ dn.ownBlock = some x, ⟨⟨rv, da, dn, hrow, hr.kept fun g e hl => hk g (k1 g e) hl, ha, hn, fun g e => .inl (k1 g e), fun g e => .inr (.inl e), fun g e => .inr (.inr e)⟩, ?_, ?_⟩, ?_⟩
  · rintro (h | h | h)
    · exact hoff h
    · have := (ka _ h).1; omega
    · have := (kn _ h).1; omega
  · rintro x (h | h | h)
    · exact Nat.lt_of_lt_of_le (hlt x h) hc.size
    · exact (ka _ h).2
    · exact (kn _ h).2
  · rintro x (h | h | h)
    · exact .inl h
    · exact .inr (ka _ h).1
    · exact .inr (kn _ h).1
set_option maxRecDepth 4000 in
set_option maxHeartbeats 4000000 in
theorem rload_any (w : World) (b : Nat) (F : Nat → Prop) (P : PA) (h : RefIs w b F P) (hS : 4 ≤ P.S) (th wa : Bool) (lv nv : Value) (ld nd : List Int) (lt nt : Nat) (hlt : lt < 18446744073709551616) (hnt : nt < 18446744073709551616) (hl : Rb w lv ld) (hn : Rb w nv nd) :
    Calls Try.prog 38 #[.pointer (some ⟨b, 0, none⟩), .agg #[.bool th, .bool wa, lv, .int .u64 lt, nv, .int .u64 nt]] w fun e w' =>
      (mok P.S th ld.length lt = true ∧ mok P.S wa nd.length nt = true ∧ e = .returned (.int .i64 0) ∧ Chg w w' (some b) ∧ ∃ F', RefIs w' b F' { P with A := ⟨th, ld, lt⟩, B := ⟨wa, nd, nt⟩ } ∧ ∀ x, F' x → F x ∨ w.heap.size ≤ x) ∨
      ((mok P.S th ld.length lt && mok P.S wa nd.length nt) = false ∧ e = .returned (.int .i64 160) ∧ Chg w w' none) := by
  have H := Lib.hid h
  have HL := Lib.hid hl
  have HN := Lib.hid hn
  have SL := Lib.hid (fun h0 => hn.blt h0)
  have hblt := h.blt
  obtain ⟨⟨A, cap, rfl, hcap, hcc⟩, hf⟩ := hl
  obtain ⟨⟨B, cap2, rfl, hcap2, hcc2⟩, hf2⟩ := hn
  have ha1 : ld.length ≤ 140737488351232 := by omega
  have ha2 : nd.length ≤ 140737488351232 := by omega
  obtain ⟨na, hna⟩ : ∃ n, n = ld.length := ⟨_, rfl⟩
  obtain ⟨nb, hnb⟩ : ∃ n, n = nd.length := ⟨_, rfl⟩
  have NA := Lib.hid hna
  have NB := Lib.hid hnb
  rw [← hna] at HL ha1 ⊢
  rw [← hnb] at HN SL ha2 ⊢
  clear hcc hcc2 hf hf2 hcap hcap2 hna hnb h
  have R1 := Lib.hid (heap_alloc_last w (.cells #[.bool th, .bool wa, .slice A na cap, .int .u64 lt, .slice B nb cap2, .int .u64 nt] 44))
  have C1 := Lib.hid ((Chg.refl w none).alloc (.cells #[.bool th, .bool wa, .slice A na cap, .int .u64 lt, .slice B nb cap2, .int .u64 nt] 44))
  have hs1 : (w.alloc (.cells #[.bool th, .bool wa, .slice A na cap, .int .u64 lt, .slice B nb cap2, .int .u64 nt] 44)).heap.size = w.heap.size + 1 := by simp
  have H1 := Lib.hid (H.out.kept C1.out (by simp) (fun _ _ => by simp))
  have r0 : (w.alloc (.cells #[.bool th, .bool wa, .slice A na cap, .int .u64 lt, .slice B nb cap2, .int .u64 nt] 44)).cell? ⟨w.heap.size, 0, none⟩ = some (.bool th) := by rw [cell_of_row _ _ _ _ _ _ R1.out]; rfl
  have r1 : (w.alloc (.cells #[.bool th, .bool wa, .slice A na cap, .int .u64 lt, .slice B nb cap2, .int .u64 nt] 44)).cell? ⟨w.heap.size, 1, none⟩ = some (.bool wa) := by rw [cell_of_row _ _ _ _ _ _ R1.out]; rfl
  have r2 : (w.alloc (.cells #[.bool th, .bool wa, .slice A na cap, .int .u64 lt, .slice B nb cap2, .int .u64 nt] 44)).cell? ⟨w.heap.size, 2, none⟩ = some (.slice A na cap) := by rw [cell_of_row _ _ _ _ _ _ R1.out]; rfl
  have r3 : (w.alloc (.cells #[.bool th, .bool wa, .slice A na cap, .int .u64 lt, .slice B nb cap2, .int .u64 nt] 44)).cell? ⟨w.heap.size, 3, none⟩ = some (.int .u64 lt) := by rw [cell_of_row _ _ _ _ _ _ R1.out]; rfl
  have r4 : (w.alloc (.cells #[.bool th, .bool wa, .slice A na cap, .int .u64 lt, .slice B nb cap2, .int .u64 nt] 44)).cell? ⟨w.heap.size, 4, none⟩ = some (.slice B nb cap2) := by rw [cell_of_row _ _ _ _ _ _ R1.out]; rfl
  have r5 : (w.alloc (.cells #[.bool th, .bool wa, .slice A na cap, .int .u64 lt, .slice B nb cap2, .int .u64 nt] 44)).cell? ⟨w.heap.size, 5, none⟩ = some (.int .u64 nt) := by rw [cell_of_row _ _ _ _ _ _ R1.out]; rfl
  go_enter Try.func38, Try.ntmps38
  go_wp2_with fail
  generalize w.alloc (.cells #[.bool th, .bool wa, .slice A na cap, .int .u64 lt, .slice B nb cap2, .int .u64 nt] 44) = w1 at *
  refine (fits_any w1 b F P H1.out hS th A na cap lt ha1 hlt).mono ?_
  rintro e w2 ⟨rfl, hc⟩
  have R2 := Lib.hid ((hc.block w.heap.size (by omega) (by simp)).trans R1.out)
  have C2 := Lib.hid (C1.out.trans hc)
  have H2 := Lib.hid (H1.out.kept hc (by simp) (fun _ _ => by simp))
  have hs2 := hc.size
  clear hc r0 r1 r2 r3 r4 r5 R1 C1 H1
  have r1 : w2.cell? ⟨w.heap.size, 1, none⟩ = some (.bool wa) := by rw [cell_of_row _ _ _ _ _ _ R2.out]; rfl
  have r4 : w2.cell? ⟨w.heap.size, 4, none⟩ = some (.slice B nb cap2) := by rw [cell_of_row _ _ _ _ _ _ R2.out]; rfl
  have r5 : w2.cell? ⟨w.heap.size, 5, none⟩ = some (.int .u64 nt) := by rw [cell_of_row _ _ _ _ _ _ R2.out]; rfl
  obtain ⟨m1, hm1⟩ : ∃ m, m = mok P.S th na lt := ⟨_, rfl⟩
  rw [← hm1]
  have M1 := Lib.hid hm1
  clear hm1
  go_wp2_with fail
  refine (fits_any w2 b F P H2.out hS wa B nb cap2 nt ha2 hnt).mono ?_
  rintro e w3 ⟨rfl, hc⟩
  have R3 := Lib.hid ((hc.block w.heap.size (by omega) (by simp)).trans R2.out)
  have C3 := Lib.hid (C2.out.trans hc)
  have H3 := Lib.hid (H2.out.kept hc (by simp) (fun _ _ => by simp))
  have hs3 := hc.size
  clear hc r1 r4 r5 R2 C2 H2
  obtain ⟨m2, hm2⟩ : ∃ m, m = mok P.S wa nb nt := ⟨_, rfl⟩
  rw [← hm2]
  have M2 := Lib.hid hm2
  clear hm2
  have hA3 := Chg.sl HL.out C3.out
  have HA3 := Lib.hid hA3
  have HB3 := Lib.hid (Chg.sl HN.out C3.out)
  clear hA3
  cases m1 with
  | false =>
    go_wp2
    go_ret
    exact .inr ⟨by rw [← M1.out]; rfl, rfl, C3.out⟩
  | true =>
    cases m2 with
    | false =>
      go_wp2
      go_ret
      exact .inr ⟨by rw [← M2.out, Bool.and_false], rfl, C3.out⟩
    | true =>
      have r2 : w3.cell? ⟨w.heap.size, 2, none⟩ = some (.slice A na cap) := by rw [cell_of_row _ _ _ _ _ _ R3.out]; rfl
      go_wp2_with fail
      clear r2
      refine (copied39 w3 _ _ HA3.out).mono ?_
      rintro e w4 ⟨v1, rfl, ho, hc⟩
      obtain ⟨X1, x1, rfl⟩ := own_slice ho
      have R4 := Lib.hid ((hc.block w.heap.size (by omega) (by simp)).trans R3.out)
      have C4 := Lib.hid (C3.out.trans hc)
      have OA := Lib.hid ho
      have HOA := Lib.hid (fun g e => (own_block ho g e).1)
      have HLA := Lib.hid (fun g e => (own_block ho g e).2)
      have HB4 := Lib.hid (Chg.sl HB3.out hc)
      have H4 := Lib.hid (H3.out.kept hc (by simp) (fun _ _ => by simp))
      have hs4 := hc.size
      have d2 : w4.cell? ⟨w.heap.size, 2, none⟩ = some (.slice A na cap) := by rw [cell_of_row _ _ _ _ _ _ R4.out]; rfl
      have d4 : w4.cell? ⟨w.heap.size, 4, none⟩ = some (.slice B nb cap2) := by rw [cell_of_row _ _ _ _ _ _ R4.out]; rfl
      have f2 := frozen_of_row w4 w.heap.size 2 _ _ R4.out
      rw [show ld.length = na from NA.out.symm]
      clear ho hc R3 C3 HA3 HB3 H3
      go_wp2_with fail
      have R5 := Lib.hid (heap_setCell_same w4 w.heap.size 2 _ _ (Value.slice X1 na x1) R4.out)
      have KK := (Chg.refl w4 (some w.heap.size)).set 2 (Value.slice X1 na x1)
      have C5 := Lib.hid (C4.out.trans_new KK (Nat.le_refl _))
      have A5 := Lib.hid ((own_sl OA.out HL.out.few).kept fun g e hl => KK.block g hl (fun e2 => by cases e2; have h1 := HOA.out _ e; omega))
      have B5 := Lib.hid (HB4.out.keptp fun h0 g e hl => KK.block g hl (fun e2 => by cases e2; have h1 := SL.out (by have := NB.out; omega) _ e; omega))
      have H5 := Lib.hid (H4.out.kept KK (fun e => by injection e; omega) (fun x hx e => by injection e with e; have := H.out.lt x hx; omega))
      have hs5 : w4.heap.size ≤ (w4.setCell ⟨w.heap.size, 2, none⟩ (.slice X1 na x1)).heap.size := KK.size
      clear KK R4 C4 OA HB4 H4 d2 d4 f2
      generalize w4.setCell ⟨w.heap.size, 2, none⟩ (.slice X1 na x1) = w5 at *
      refine (copied39 w5 _ _ B5.out).mono ?_
      rintro e w6 ⟨v2, rfl, ho, hc⟩
      obtain ⟨X2, x2, rfl⟩ := own_slice ho
      have R6 := Lib.hid ((hc.block w.heap.size (by omega) (by simp)).trans R5.out)
      have C6 := Lib.hid (C5.out.trans hc)
      have A6 := Lib.hid (Chg.sl A5.out hc)
      have H6 := Lib.hid (H5.out.kept hc (by simp) (fun _ _ => by simp))
      have OB := Lib.hid ho
      have HOB := Lib.hid (fun g e => own_block ho g e)
      have hs6 := hc.size
      rw [show nd.length = nb from NB.out.symm]
      have d4 : w6.cell? ⟨w.heap.size, 4, none⟩ = some (.slice B nb cap2) := by rw [cell_of_row _ _ _ _ _ _ R6.out]; rfl
      have f4 := frozen_of_row w6 w.heap.size 4 _ _ R6.out
      clear ho hc R5 C5 A5 B5 H5
      go_upto_region 7 with (fail)
      have R7 := Lib.hid (heap_setCell_same w6 w.heap.size 4 _ _ (Value.slice X2 nb x2) R6.out)
      have KK := (Chg.refl w6 (some w.heap.size)).set 4 (Value.slice X2 nb x2)
      have C7 := Lib.hid (C6.out.trans_new KK (Nat.le_refl _))
      have A7 := Lib.hid (A6.out.kept fun g e hl => KK.block g hl (fun e2 => by cases e2; have h1 := HOA.out _ e; omega))
      have B7 := Lib.hid ((own_sl OB.out HN.out.few).kept fun g e hl => KK.block g hl (fun e2 => by cases e2; have h1 := (HOB.out _ e).1; omega))
      have H7 := Lib.hid (H6.out.kept KK (fun e => by injection e; omega) (fun x hx e => by injection e with e; have := H.out.lt x hx; omega))
      have hs7 : w6.heap.size ≤ (w6.setCell ⟨w.heap.size, 4, none⟩ (.slice X2 nb x2)).heap.size := KK.size
      clear KK R6 C6 A6 OB H6 d4 f4
      generalize w6.setCell ⟨w.heap.size, 4, none⟩ (.slice X2 nb x2) = w7 at *
      obtain ⟨⟨rv, da, db, hrow, hr, _, _, k1, _, _⟩, hoff, hltF⟩ := H7.out
      have HROW := Lib.hid hrow
      have r0 : w7.cell? ⟨w.heap.size, 0, none⟩ = some (.bool th) := by rw [cell_of_row _ _ _ _ _ _ R7.out]; rfl
      have r1 : w7.cell? ⟨w.heap.size, 1, none⟩ = some (.bool wa) := by rw [cell_of_row _ _ _ _ _ _ R7.out]; rfl
      have r2 : w7.cell? ⟨w.heap.size, 2, none⟩ = some (.slice X1 na x1) := by rw [cell_of_row _ _ _ _ _ _ R7.out]; rfl
      have r3 : w7.cell? ⟨w.heap.size, 3, none⟩ = some (.int .u64 lt) := by rw [cell_of_row _ _ _ _ _ _ R7.out]; rfl
      have r4 : w7.cell? ⟨w.heap.size, 4, none⟩ = some (.slice X2 nb x2) := by rw [cell_of_row _ _ _ _ _ _ R7.out]; rfl
      have r5 : w7.cell? ⟨w.heap.size, 5, none⟩ = some (.int .u64 nt) := by rw [cell_of_row _ _ _ _ _ _ R7.out]; rfl
      have z0 : w7.cell? ⟨b, 3, none⟩ = some (.bool P.A.there) := by rw [cell_of_row _ _ _ _ _ _ HROW.out]; rfl
      have y0 := frozen_of_row w7 b 3 _ _ HROW.out
      have z1 : w7.cell? ⟨b, 4, none⟩ = some (.bool P.B.there) := by rw [cell_of_row _ _ _ _ _ _ HROW.out]; rfl
      have y1 := frozen_of_row w7 b 4 _ _ HROW.out
      have z2 : w7.cell? ⟨b, 5, none⟩ = some (da) := by rw [cell_of_row _ _ _ _ _ _ HROW.out]; rfl
      have y2 := frozen_of_row w7 b 5 _ _ HROW.out
      have z3 : w7.cell? ⟨b, 6, none⟩ = some (.int .u64 P.A.tick) := by rw [cell_of_row _ _ _ _ _ _ HROW.out]; rfl
      have y3 := frozen_of_row w7 b 6 _ _ HROW.out
      have z4 : w7.cell? ⟨b, 7, none⟩ = some (db) := by rw [cell_of_row _ _ _ _ _ _ HROW.out]; rfl
      have y4 := frozen_of_row w7 b 7 _ _ HROW.out
      have z5 : w7.cell? ⟨b, 8, none⟩ = some (.int .u64 P.B.tick) := by rw [cell_of_row _ _ _ _ _ _ HROW.out]; rfl
      have y5 := frozen_of_row w7 b 8 _ _ HROW.out
      clear hrow hr k1 hoff hltF
      go_wp2
      go_ret
      have KW := ((((((Chg.refl w7 (some b)).set 3 (Value.bool th)).set 4 (Value.bool wa)).set 5 (Value.slice X1 na x1)).set 6 (Value.int .u64 lt)).set 7 (Value.slice X2 nb x2)).set 8 (Value.int .u64 nt)
      have RZ := (heap_setCell_same _ b 8 _ _ (Value.int .u64 nt) (heap_setCell_same _ b 7 _ _ (Value.slice X2 nb x2) (heap_setCell_same _ b 6 _ _ (Value.int .u64 lt) (heap_setCell_same _ b 5 _ _ (Value.slice X1 na x1) (heap_setCell_same _ b 4 _ _ (Value.bool wa) (heap_setCell_same _ b 3 _ _ (Value.bool th) HROW.out))))))
      refine .inl ⟨M1.out.symm, M2.out.symm, rfl, (C7.out.any _).trans KW, ?_⟩
      obtain ⟨⟨rv0, da0, db0, hrow0, hr0, _, _, k10, _, _⟩, hoff, hltF⟩ := H.out
      have hrv : rv0 = rv := by
        have e1 := hrow0
        have e2 := (C7.out.block b hblt (by simp)).symm.trans HROW.out
        rw [e1] at e2
        simp only [rcells, Option.some.injEq, Obj.cells.injEq, Array.mk.injEq, List.cons.injEq] at e2
        exact e2.1.2.2.1
      subst hrv
      have h7 := KW.size
      refine ref_load hblt hoff hltF hr0 k10 ((C7.out.any _).trans KW) RZ ?_ (fun g e => ?_) ?_ (fun g e => ?_)
      · rw [show na = ld.length from NA.out]
        rw [show na = ld.length from NA.out] at KW
        exact A7.out.kept fun g e hl => KW.block g hl (fun e2 => by cases e2; have h1 := HOA.out _ e; omega)
      · have h1 := HOA.out g (by rw [← NA.out]; exact e)
        have h2 := HLA.out g (by rw [← NA.out]; exact e)
        omega
      · rw [show nb = nd.length from NB.out]
        rw [show nb = nd.length from NB.out] at KW
        exact B7.out.kept fun g e hl => KW.block g hl (fun e2 => by cases e2; have h1 := (HOB.out _ e).1; omega)
      · have h1 := HOB.out g (by rw [← NB.out]; exact e)
        omega
end Go.Proofs.Ytfoofipkbijajaa.Sa
