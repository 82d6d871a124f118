/- trace.Part: contract. No statement of the seat is proved here. -/
import Derived.Test.YtpeonoimdmdmlaaDoorApp
namespace Go.Proofs.YtpeonoimdmdmlaaDoor.Tr
open Go.RowKit Go.Shelf Go.Proofs.YtpeonoimdmdmlaaDoor.Kit
set_option linter.unusedSimpArgs false
set_option linter.unusedVariables false
theorem eq31 (o : Ob) (w : World) : (Op.equalIn 10000 31 (.agg (oc o).toArray) (.agg (oc o).toArray)).run Tryd.prog w = .ok true w := by
  obtain ⟨tick, cell, kind, pc, a, b⟩ := o
  simp only [oc]
  unfold Op.equalIn
  simp [go_sem]
theorem g31 : Tryd.prog.eqGuardType Tryd.prog.depth 31 = false := by kernel_rfl
theorem pre_at {X Y z : List Ob} (h : Y = X ++ z) (k : Nat) (hk : k < X.length) : ∃ hy : k < Y.length, Y[k] = X[k] := by
  subst h
  exact ⟨by rw [List.length_append]; omega, by rw [List.getElem_append_left hk]⟩
set_option maxHeartbeats 4000000 in
theorem part_any (w : World) (c : Int) (base1 : Nat) (v1 : Value) (L1 : List Ob) (h1 : Os w base1 v1 L1) (base2 : Nat) (v2 : Value) (L2 : List Ob) (h2 : Os w base2 v2 L2) (ok1 : ∀ o ∈ L1, Ok o) (ok2 : ∀ o ∈ L2, Ok o)
    (hl1 : L1.length ≤ 1000) (hl2 : L2.length ≤ 1000) (z : List Ob) (hz : flt c L2 = flt c L1 ++ z) (h0 : 0 < w.heap.size) (r : Int) (hr : (z = [] → r = -1) ∧ (z ≠ [] → r = (flt c L1).length)) :
    Calls Tryd.prog 8 #[.int .i64 c, v1, v2] w fun e w' => e = .returned (.int .i64 r) ∧ Below w.heap.size w w' := by
  obtain ⟨A1, cap1, rfl⟩ := h1.slice
  obtain ⟨A2, cap2, rfl⟩ := h2.slice
  have H1 := Lib.hid h1
  have H2 := Lib.hid h2
  have K1 := Lib.hid ok1
  have K2 := Lib.hid ok2
  have HZ := Lib.hid hz
  have HR := Lib.hid hr
  have C1 := Lib.hid (of_any w c base1 _ L1 h1 (by omega))
  obtain ⟨m1, e1⟩ : ∃ m, m = L1.length := ⟨_, rfl⟩
  obtain ⟨m2, e2⟩ : ∃ m, m = L2.length := ⟨_, rfl⟩
  have E1 := Lib.hid e1
  have E2 := Lib.hid e2
  rw [← e1] at hl1 C1
  rw [← e1, ← e2]
  rw [← e2] at hl2
  clear h1 h2 ok1 ok2 hz hr e1 e2
  go_enter Tryd.func8, Tryd.ntmps8
  go_wp2_with fail
  refine C1.out.mono ?_
  rintro e w1 ⟨rfl, v', b1, b0, ho, bl⟩
  have B1 := Lib.hid bl
  have hs1 := blt b1
  obtain ⟨A, cap, rfl⟩ := ho.slice
  obtain ⟨gl, hgl, hgA, hel⟩ := os_gl ho (by omega)
  have CO := Lib.hid (collect_any w1 c w.heap.size gl A cap L1 K1.out (by rw [← E1.out]; exact hl1) b0 b1 hgl hel)
  clear b1 b0 ho bl hel C1 hgA hgl
  go_wp2_with fail
  refine CO.out.mono ?_
  rintro e w2 ⟨v', rfl, ho, bl⟩
  have B2 := Lib.hid (B1.out.trans (bl.mono (by omega)))
  have hs2 := bl.size
  obtain ⟨X, hX⟩ : ∃ X, X = flt c L1 := ⟨_, rfl⟩
  rw [← hX] at ho HZ HR
  have hn1 : X.length ≤ 1000 := by
    have := (List.length_filter_le (fun o => decide (o.cell = c)) L1)
    rw [hX]; unfold flt; rw [← E1.out] at this; omega
  obtain ⟨Ax, capx, rfl⟩ := ho.slice
  have OX := Lib.hid ho
  have C2 := Lib.hid (of_any w2 c base2 _ L2 (own_below H2.out B2.out) (by rw [← E2.out]; omega))
  rw [← E2.out] at C2
  clear ho bl hX CO
  obtain ⟨n1, e1⟩ : ∃ m, m = X.length := ⟨_, rfl⟩
  have N1 := Lib.hid e1
  rw [← e1] at OX hn1 ⊢
  clear e1
  go_wp2_with fail
  refine C2.out.mono ?_
  rintro e w3 ⟨rfl, v', b1, b0, ho, bl⟩
  have B3 := Lib.hid (B2.out.trans (bl.mono (by omega)))
  have OX3 := Lib.hid (own_below OX.out (bl.mono (Nat.le_refl _)))
  have hs3 := blt b1
  obtain ⟨A, cap, rfl⟩ := ho.slice
  obtain ⟨gl2, hgl, hgA, hel⟩ := os_gl ho (by omega)
  have CO := Lib.hid (collect_any w3 c w2.heap.size gl2 A cap L2 K2.out (by rw [← E2.out]; exact hl2) b0 b1 hgl hel)
  clear b1 b0 ho bl hel C2 hgA hgl OX
  go_wp2_with fail
  refine CO.out.mono ?_
  rintro e w4 ⟨v', rfl, ho, bl⟩
  have B4 := Lib.hid (B3.out.trans (bl.mono (by omega)))
  have hs4 := bl.size
  have OX := Lib.hid (own_below OX3.out (bl.mono (Nat.le_refl _)))
  obtain ⟨Y, hY⟩ : ∃ Y, Y = flt c L2 := ⟨_, rfl⟩
  rw [← hY] at ho HZ
  obtain ⟨Ay, capy, rfl⟩ := ho.slice
  have OY := Lib.hid ho
  clear ho bl hY CO OX3
  obtain ⟨n2, e2⟩ : ∃ m, m = Y.length := ⟨_, rfl⟩
  have N2 := Lib.hid e2
  have hcase : (n1 < n2 ∧ r = n1) ∨ (n1 = n2 ∧ r = -1) := by
    rw [e2, N1.out, HZ.out, List.length_append]
    by_cases hzz : z = []
    · exact .inr ⟨by simp [hzz], HR.out.1 hzz⟩
    · exact .inl ⟨by have := List.length_pos_iff.2 hzz; omega, HR.out.2 hzz⟩
  have hle : n1 ≤ n2 := by omega
  rw [← e2] at OY ⊢
  clear e2
  obtain ⟨gx, hgx, _, hex⟩ := os_gl (show Os w4 _ (.slice Ax X.length capx) X from N1.out ▸ OX.out) (by omega)
  obtain ⟨gy, hgy, _, hey⟩ := os_gl (show Os w4 _ (.slice Ay Y.length capy) Y from N2.out ▸ OY.out) (by omega)
  have EX := Lib.hid hex
  have EY := Lib.hid hey
  have HC := Lib.hid hcase
  have FB := Lib.hid B4.out
  clear hex hey hcase
  go_wp2_with fail
  go_loopw [9] (fun u wr => Hid (Below w4.heap.size w4 wr) ∧ ∃ k : Nat, k ≤ n1 ∧ u = .int .i64 k) (fun u _ => n1 - (intOf u).toNat)
  case atStart => exact ⟨Lib.hid (Below.refl _ _), 0, by omega, rfl⟩
  case round =>
    obtain ⟨I, k, hk, rfl⟩ := hrel
    by_cases hlt : k < n1
    · have hlt2 : k < n2 := by omega
      obtain ⟨hA, hc⟩ := EX.out k (by rw [← N1.out]; exact hlt)
      obtain ⟨hA2, hc2⟩ := EY.out k (by rw [← N2.out]; exact hlt2)
      subst hA hA2
      obtain ⟨hy, exy⟩ := pre_at HZ.out k (by rw [← N1.out]; exact hlt)
      have hcx := hc (by rw [← N1.out]; exact hlt)
      have hcy := hc2 hy
      rw [exy] at hcy
      clear hc hc2 exy
      generalize X[k]'(by rw [← N1.out]; exact hlt) = x at *
      have hq := Lib.hid (fun W => eq31 x W)
      obtain ⟨tick, cell, kind, pc, a, b⟩ := x
      have e0 := (I.out.cell (p := ⟨gx, k * 6 + 0, none⟩) hgx).trans (hcx 0 _ rfl)
      have e1 := (I.out.cell (p := ⟨gx, k * 6 + 1, none⟩) hgx).trans (hcx 1 _ rfl)
      have e2 := (I.out.cell (p := ⟨gx, k * 6 + 2, none⟩) hgx).trans (hcx 2 _ rfl)
      have e3 := (I.out.cell (p := ⟨gx, k * 6 + 3, none⟩) hgx).trans (hcx 3 _ rfl)
      have e4 := (I.out.cell (p := ⟨gx, k * 6 + 4, none⟩) hgx).trans (hcx 4 _ rfl)
      have e5 := (I.out.cell (p := ⟨gx, k * 6 + 5, none⟩) hgx).trans (hcx 5 _ rfl)
      have f0 := (I.out.cell (p := ⟨gy, k * 6 + 0, none⟩) hgy).trans (hcy 0 _ rfl)
      have f1 := (I.out.cell (p := ⟨gy, k * 6 + 1, none⟩) hgy).trans (hcy 1 _ rfl)
      have f2 := (I.out.cell (p := ⟨gy, k * 6 + 2, none⟩) hgy).trans (hcy 2 _ rfl)
      have f3 := (I.out.cell (p := ⟨gy, k * 6 + 3, none⟩) hgy).trans (hcy 3 _ rfl)
      have f4 := (I.out.cell (p := ⟨gy, k * 6 + 4, none⟩) hgy).trans (hcy 4 _ rfl)
      have f5 := (I.out.cell (p := ⟨gy, k * 6 + 5, none⟩) hgy).trans (hcy 5 _ rfl)
      rw [Nat.add_zero] at e0 f0
      clear hcx hcy
      dsimp only [oc] at e0 e1 e2 e3 e4 e5 f0 f1 f2 f3 f4 f5
      have d1 : decide ((k : Int) < n1) = true := by simp; omega
      have d2 : decide ((k : Int) < n2) = true := by simp; omega
      go_wp2_with fail
      go_quiet (refine wpList_of_wp (o := ⟨some 37, _, _, _, _, _⟩) rfl (wp_eql_agg 31 _ (.tmp 32) (.tmp 36) rfl _ _ rfl rfl g31 true (hq.out _) ?_))
      have IJ := Lib.hid (I.out.trans (below_drewN (Below.refl w4.heap.size wr) nq))
      go_wp2
      go_roundw
      case rel => exact ⟨IJ, k + 1, by omega, by go_num⟩
      case measure => simp [intOf]; omega
    · obtain rfl : k = n1 := by omega
      have d1 : decide ((k : Int) < k) = false := by simp
      rcases HC.out with ⟨hlt2, rfl⟩ | ⟨rfl, rfl⟩
      · have d2 : decide ((k : Int) = n2) = false := by simp; omega
        go_wp2_with fail
        go_quiet (fail)
        have IJ := Lib.hid (FB.out.trans ((I.out.trans (below_drewN (Below.refl w4.heap.size wr) nq)).mono (by omega)))
        go_wp2
        go_ret
        exact ⟨rfl, IJ.out⟩
      · go_wp2_with fail
        go_quiet (fail)
        have IJ := Lib.hid (FB.out.trans ((I.out.trans (below_drewN (Below.refl w4.heap.size wr) nq)).mono (by omega)))
        go_wp2
        have IJ := Lib.hid (FB.out.trans ((I.out.trans (below_drewN (Below.refl w4.heap.size wr) nq)).mono (by omega)))
        go_wp2
        go_ret
        exact ⟨rfl, IJ.out⟩
end Go.Proofs.YtpeonoimdmdmlaaDoor.Tr
