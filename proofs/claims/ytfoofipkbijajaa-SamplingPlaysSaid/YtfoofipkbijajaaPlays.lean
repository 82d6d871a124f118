/- The walk of SamplingPlays. No statement of the seat is proved here. -/
import Derived.Test.YtfoofipkbijajaaMnS
import Derived.Test.YtfoofipkbijajaaKnown
import Derived.Test.YtfoofipkbijajaaLooks
namespace Go.Proofs.Ytfoofipkbijajaa.Sa
open Go.RowKit Go.Proofs.Ytfoofipkbijajaa.Kit
set_option linter.unusedSimpArgs false
set_option linter.unusedVariables false
theorem Mn.looks {w wr : World} {T : Nat → Nat} {bx by_ bz bw b c : Nat} {P Q : PA} {ls : List En} {hs fs : List Fr} (h : Mn w wr T bx by_ bz bw b c P Q ls hs fs) (h1 : ls.length ≤ 100000) (h2 : hs.length ≤ 1000) :
    Calls Try.prog 21 #[.pointer (some ⟨b, 0, none⟩)] wr fun e w' => e = .returned (.bool true) ∧ ∃ T' ls', Mn w w' T' bx by_ bz bw b (c + hs.length) P Q ls' fs [] ∧ ls'.length = ls.length + 2 * hs.length := by
  refine (looks_any wr b T c ls hs fs h.bk h1 h2).mono ?_
  rintro e w' ⟨rfl, T', ls', a1, a2, a3, a4⟩
  exact ⟨rfl, T', ls', h.looked a1 a3 a4, a2⟩
theorem Mn.step1 {w wr : World} {T : Nat → Nat} {bx by_ bz bw b c : Nat} {P Q : PA} {ls : List En} {hs fs : List Fr} (h : Mn w wr T bx by_ bz bw b c P Q ls hs fs) {d : OpD} (hd : d.okay w) (hf : fs.length ≤ 990) :
    Calls Try.prog 19 #[.pointer (some ⟨bx, 0, none⟩), .pointer (some ⟨by_, 0, none⟩), .agg (opCells d).toArray, .pointer (some ⟨b, 0, none⟩)] wr fun e w' => e = .returned (.bool true) ∧ ∃ T' P' fs', Mn w w' T' bx by_ bz bw b c P' Q ls hs fs' ∧ fs'.length ≤ fs.length + 4 :=
  (step_any wr bx by_ b 20 c T P d ls hs fs h.p h.bk (h.oa hd) (by omega) hf).mono fun e w' hp => h.onp hp
theorem Mn.step2 {w wr : World} {T : Nat → Nat} {bx by_ bz bw b c : Nat} {P Q : PA} {ls : List En} {hs fs : List Fr} (h : Mn w wr T bx by_ bz bw b c P Q ls hs fs) {d : OpD} (hd : d.okay w) (hf : fs.length ≤ 990) :
    Calls Try.prog 19 #[.pointer (some ⟨bz, 0, none⟩), .pointer (some ⟨bw, 0, none⟩), .agg (opCells d).toArray, .pointer (some ⟨b, 0, none⟩)] wr fun e w' => e = .returned (.bool true) ∧ ∃ T' Q' fs', Mn w w' T' bx by_ bz bw b c P Q' ls hs fs' ∧ fs'.length ≤ fs.length + 4 :=
  (step_any wr bz bw b 30 c T Q d ls hs fs h.q h.bk (h.oa hd) (by omega) hf).mono fun e w' hp => h.onq hp
theorem Pr.sx {w : World} {T : Nat → Nat} {bx by_ t : Nat} {Px Py : PA} (h : Pr w T bx by_ t Px Py) : Calls Try.prog 17 #[.pointer (some ⟨bx, 0, none⟩)] w fun e w' => ∃ X1 x1 X2 x2, e = .returned (.agg #[.bool Px.A.there, .bool Px.B.there, .slice X1 Px.A.data.length x1, .int .u64 Px.A.tick, .slice X2 Px.B.data.length x2, .int .u64 Px.B.tick]) ∧ Chg w w' none ∧ Rb w' (.slice X1 Px.A.data.length x1) Px.A.data ∧ Rb w' (.slice X2 Px.B.data.length x2) Px.B.data := by
  obtain ⟨F, hF, _⟩ := h.x
  refine (state_any w bx F Px hF).mono ?_
  rintro e w' ⟨da, db, rfl, o1, o2, l1, l2, _, hc⟩
  have r1 := own_sl (m := 1) o1 l1
  have r2 := own_sl (m := 1) o2 l2
  obtain ⟨X1, x1, rfl⟩ := own_slice o1
  obtain ⟨X2, x2, rfl⟩ := own_slice o2
  exact ⟨X1, x1, X2, x2, rfl, hc, r1, r2⟩
theorem Pr.sy {w : World} {T : Nat → Nat} {bx by_ t : Nat} {Px Py : PA} (h : Pr w T bx by_ t Px Py) : Calls Try.prog 20 #[.pointer (some ⟨by_, 0, none⟩)] w fun e w' => ∃ X1 x1 X2 x2, e = .returned (.agg #[.bool Py.A.there, .bool Py.B.there, .slice X1 Py.A.data.length x1, .int .u64 Py.A.tick, .slice X2 Py.B.data.length x2, .int .u64 Py.B.tick]) ∧ Chg w w' none ∧ Rb w' (.slice X1 Py.A.data.length x1) Py.A.data ∧ Rb w' (.slice X2 Py.B.data.length x2) Py.B.data := by
  obtain ⟨F, hF, _⟩ := h.y
  refine (rstate_any w by_ F Py hF).mono ?_
  rintro e w' ⟨da, db, rfl, r1, r2, hc⟩
  obtain ⟨X1, x1, rfl, _⟩ := sl_src r1
  obtain ⟨X2, x2, rfl, _⟩ := sl_src r2
  exact ⟨X1, x1, X2, x2, rfl, hc, r1, r2⟩
theorem chg_drew (w : World) : Chg w w.drew none := ⟨rfl, rfl, rfl, Nat.le_refl _, fun _ _ _ => rfl⟩
theorem row_cells {w w' : World} {p : Nat} {cs : Array Value} (h : w.heap[p]? = some (.cells cs 44 (0, 0))) (hc : Chg w w' none) : w'.heap[p]? = some (.cells cs 44 (0, 0)) := (hc.block p (Array.getElem?_eq_some_iff.1 h).1 (by simp)).trans h
set_option maxRecDepth 8000 in
set_option maxHeartbeats 16000000 in
theorem plays_walk (w : World) (W S : Int) (rv : Value) (rs : List Int) (h : Ri w rv rs) (hW1 : -9223372036854775808 ≤ W) (hW2 : W ≤ 9223372036854775807) (v2 : Value) (ds : List OpD) (h2 : Ro w v2 ds) :
    Calls Try.prog 6 #[.agg #[.int .i64 W, .int .i64 S, rv], v2] w fun e w' => e = .returned (.bool true) ∧ Chg w w' none := by
  obtain ⟨⟨A2, cap2, rfl, hel⟩, hfew, hok⟩ := h2
  have HE := Lib.hid hel
  have HO := Lib.hid hok
  have H := Lib.hid h
  obtain ⟨A, cap, rfl, _⟩ := sl_src h
  obtain ⟨w1, hw1⟩ : ∃ x, x = w.alloc (.cells #[.int .i64 W, .int .i64 S, .slice A rs.length cap] 24) := ⟨_, rfl⟩
  obtain ⟨q, hq⟩ : ∃ q, q = w.heap.size := ⟨_, rfl⟩
  have HQ := Lib.hid hq
  have C1 := Lib.hid (show Chg w w1 none from by rw [hw1]; exact (Chg.refl w none).alloc _)
  have R1 := Lib.hid (show w1.heap[q]? = some (.cells #[.int .i64 W, .int .i64 S, .slice A rs.length cap] 24 (0, 0)) from by rw [hw1, hq]; exact heap_alloc_last w _)
  have hs1 : w1.heap.size = q + 1 := by rw [hw1, hq]; simp
  have W1 := Lib.hid hw1
  clear h hel hok hw1 hq
  go_enter Try.func6, Try.ntmps6
  go_wp2_with fail
  rw [← W1.out, ← HQ.out]
  clear W1
  refine (known_any w1).mono ?_
  rintro e w2 ⟨rfl, hc2⟩
  have C2 := Lib.hid (C1.out.trans hc2)
  have R2 := Lib.hid ((hc2.block q (by omega) (by simp)).trans R1.out)
  have hs2 := hc2.size
  have D2 := Lib.hid (show q < w2.heap.size from by omega)
  clear hc2
  have r0 : w2.cell? ⟨q, 0, none⟩ = some (.int .i64 W) := by rw [cell_of_row _ _ _ _ _ _ R2.out]; rfl
  have r1 : w2.cell? ⟨q, 1, none⟩ = some (.int .i64 S) := by rw [cell_of_row _ _ _ _ _ _ R2.out]; rfl
  have r2 : w2.cell? ⟨q, 2, none⟩ = some (.slice A rs.length cap) := by rw [cell_of_row _ _ _ _ _ _ R2.out]; rfl
  go_wp2_with fail
  refine (new_any w2 W S _ rs (Chg.sl H.out C2.out)).mono ?_
  clear r0 r1 r2
  rintro e w3 (⟨hm, rfl, hc3⟩ | ⟨hm, bx, F, rfl, hP, hbl, hF, hc3⟩)
  · have C3 := Lib.hid (C2.out.trans hc3)
    have R3 := Lib.hid ((hc3.block q D2.out (by simp)).trans R2.out)
    have r0 : w3.cell? ⟨q, 0, none⟩ = some (.int .i64 W) := by rw [cell_of_row _ _ _ _ _ _ R3.out]; rfl
    have r1 : w3.cell? ⟨q, 1, none⟩ = some (.int .i64 S) := by rw [cell_of_row _ _ _ _ _ _ R3.out]; rfl
    have r2 : w3.cell? ⟨q, 2, none⟩ = some (.slice A rs.length cap) := by rw [cell_of_row _ _ _ _ _ _ R3.out]; rfl
    have HM := Lib.hid hm
    clear hc3 hm
    go_wp2_with fail
    refine (rnew_any w3 W S _ rs (Chg.sl H.out C3.out)).mono ?_
    rintro e w4 (⟨hm, rfl, hc4⟩ | ⟨hm, _⟩)
    · have C4 := Lib.hid (C3.out.trans hc4)
      clear hc4 hm r0 r1 r2
      go_wp2
      go_ret
      exact ⟨rfl, C4.out⟩
    · rw [HM.out] at hm; cases hm
  · have C3 := Lib.hid (C2.out.trans hc3)
    have R3 := Lib.hid ((hc3.block q D2.out (by simp)).trans R2.out)
    have K3 := Lib.hid hc3
    have HP := Lib.hid hP
    have HBL := Lib.hid hbl
    have HF := Lib.hid hF
    have r0 : w3.cell? ⟨q, 0, none⟩ = some (.int .i64 W) := by rw [cell_of_row _ _ _ _ _ _ R3.out]; rfl
    have r1 : w3.cell? ⟨q, 1, none⟩ = some (.int .i64 S) := by rw [cell_of_row _ _ _ _ _ _ R3.out]; rfl
    have r2 : w3.cell? ⟨q, 2, none⟩ = some (.slice A rs.length cap) := by rw [cell_of_row _ _ _ _ _ _ R3.out]; rfl
    have HM := Lib.hid hm
    obtain ⟨hmf, hS1, hS2⟩ := may_flip hm
    have HMF := Lib.hid hmf
    have s3 := hc3.size
    clear hc3 hm hP hbl hF hmf
    go_wp2_with fail
    refine (rnew_any w3 W S _ rs (Chg.sl H.out C3.out)).mono ?_
    clear r0 r1 r2
    rintro e w4 (⟨hm, rfl, hc4⟩ | ⟨hm, by_, G, rfl, hR, hyl, hG, hc4⟩)
    · rw [HM.out] at hm; cases hm
    · have C4 := Lib.hid (C3.out.trans hc4)
      have K4 := Lib.hid hc4
      have HR := Lib.hid hR
      have HYL := Lib.hid hyl
      have HG := Lib.hid hG
      have s4 := hc4.size
      have R4 := Lib.hid ((hc4.block q (by have := D2.out; omega) (by simp)).trans R3.out)
      have r1 : w4.cell? ⟨q, 1, none⟩ = some (.int .i64 S) := by rw [cell_of_row _ _ _ _ _ _ R4.out]; rfl
      have f1 := frozen_of_row w4 q 1 _ _ R4.out
      clear hc4 hm hR hyl hG
      go_upto_region 9 with (fail)
      clear r1 f1
      have K5 := Lib.hid ((Chg.refl w4 (some q)).set 1 (.int .i64 (260 - S)))
      have R5 := Lib.hid (heap_setCell_same w4 q 1 _ _ (.int .i64 (260 - S)) R4.out)
      have C5 := Lib.hid (C4.out.trans_new K5.out (by have := HQ.out; omega))
      generalize w4.setCell ⟨q, 1, none⟩ (.int .i64 (260 - S)) = w5 at *
      have s5 := K5.out.size
      have r0 : w5.cell? ⟨q, 0, none⟩ = some (.int .i64 W) := by rw [cell_of_row _ _ _ _ _ _ R5.out]; rfl
      have r1 : w5.cell? ⟨q, 1, none⟩ = some (.int .i64 (260 - S)) := by rw [cell_of_row _ _ _ _ _ _ R5.out]; rfl
      have r2 : w5.cell? ⟨q, 2, none⟩ = some (.slice A rs.length cap) := by rw [cell_of_row _ _ _ _ _ _ R5.out]; rfl
      go_wp2_with fail
      refine (new_any w5 W (260 - S) _ rs (Chg.sl H.out C5.out)).mono ?_
      clear r0 r1 r2
      rintro e w6 (⟨hm, rfl, hc6⟩ | ⟨hm, bz, F2, rfl, hZ, hzl, hzF, hc6⟩)
      · rw [HMF.out] at hm; cases hm
      · have C6 := Lib.hid (C5.out.trans hc6)
        have K6 := Lib.hid hc6
        have HZ := Lib.hid hZ
        have HZL := Lib.hid hzl
        have HZF := Lib.hid hzF
        have s6 := hc6.size
        have R6 := Lib.hid ((hc6.block q (by have := D2.out; omega) (by simp)).trans R5.out)
        have r0 : w6.cell? ⟨q, 0, none⟩ = some (.int .i64 W) := by rw [cell_of_row _ _ _ _ _ _ R6.out]; rfl
        have r1 : w6.cell? ⟨q, 1, none⟩ = some (.int .i64 (260 - S)) := by rw [cell_of_row _ _ _ _ _ _ R6.out]; rfl
        have r2 : w6.cell? ⟨q, 2, none⟩ = some (.slice A rs.length cap) := by rw [cell_of_row _ _ _ _ _ _ R6.out]; rfl
        clear hc6 hm hZ hzl hzF
        go_wp2_with fail
        refine (rnew_any w6 W (260 - S) _ rs (Chg.sl H.out C6.out)).mono ?_
        clear r0 r1 r2
        rintro e w7 (⟨hm, rfl, hc7⟩ | ⟨hm, bw, G2, rfl, hV, hvl, hvG, hc7⟩)
        · rw [HMF.out] at hm; cases hm
        · have C8 := (C6.out.trans hc7).alloc (.cells nil9 55)
          obtain ⟨T0, M0⟩ := mn_start (w := w) HP.out HBL.out HF.out K3.out HR.out HYL.out HG.out K4.out K5.out D2.out HZ.out HZL.out HZF.out K6.out hV hvl hvG hc7 C2.out.size C8 ⟨by simp [Msg.none], by simp [Msg.none]⟩ ⟨by simp [Msg.none], by simp [Msg.none]⟩ ⟨hS1, hS2⟩ (show 4 ≤ 260 - S ∧ 260 - S ≤ 256 from by have h9 := HMF.out; simp only [may, sized, Bool.and_eq_true, decide_eq_true_eq] at h9; exact ⟨h9.1.1.2.1.1, h9.1.1.2.1.2⟩)
          have M0H := Lib.hid M0
          clear M0 C8 hc7 hm hV hvl hvG
          go_upto_region 14 with (fail)
          rw [show w7.alloc (.cells #[.slice none 0 0, .slice none 0 0, .slice none 0 0, .slice none 0 0, .slice none 0 0, .slice none 0 0, .slice none 0 0, .slice none 0 0, .slice none 0 0] 55) = w7.alloc (.cells nil9 55) from rfl]
          obtain ⟨b, hb⟩ : ∃ b, b = w7.heap.size := ⟨_, rfl⟩
          rw [← hb] at M0H ⊢
          clear hb
          generalize w7.alloc (.cells nil9 55) = w8 at *
          obtain ⟨n, hn⟩ : ∃ n, n = ds.length := ⟨_, rfl⟩
          have HN := Lib.hid hn
          rw [← hn]
          have hfew2 : n ≤ 140737488351232 := by omega
          have L0 := Lib.hid (⟨T0, _, _, 0, [], [], M0H.out, by simp, by simp⟩ : ∃ T P Q c ls hs, Mn w w8 T bx by_ bz bw b c P Q ls hs [] ∧ ls.length ≤ 16 * 0 ∧ hs.length ≤ 8)
          clear hn M0H K3 K4 K5 K6 HP HR HZ HBL HYL HZL HF HG HZF HM HMF R1 R2 R3 R4 R5 R6 C1 C2 C3 C4 C5 C6 s3 s4 s5 s6 hs1 hs2 D2
          go_wp2_with fail
          go_loopw [15] (fun i wr => ∃ k : Nat, k ≤ n ∧ k ≤ 200 ∧ i = .int .i64 k ∧ Hid (∃ T P Q c ls hs, Mn w wr T bx by_ bz bw b c P Q ls hs [] ∧ ls.length ≤ 16 * k ∧ hs.length ≤ 8)) (fun i _ => 200 - (intOf i).toNat)
          case atStart => exact ⟨0, by omega, by omega, rfl, L0⟩
          case round =>
            obtain ⟨k, hk, hk2, rfl, I⟩ := hrel
            clear L0
            obtain ⟨Tk, P, Q, c, ls, hs, M, hl1, hl2⟩ := I.out
            have MH := Lib.hid M
            by_cases hgo : k < n ∧ k < 200
            · obtain ⟨h1, h200⟩ := hgo
              obtain ⟨g, o, hA, hcl⟩ := HE.out (by rw [← HN.out]; omega)
              subst hA
              have hd1 := HO.out k
              have hc1 := hcl k (by rw [← HN.out]; exact h1)
              obtain ⟨kk, hkk⟩ : ∃ kk : Nat, (n : Int) - 1 - (k : Int) = (kk : Int) := ⟨n - 1 - k, by omega⟩
              have hkl : kk < n := by omega
              have hd2 := HO.out kk
              have hc2 := hcl kk (by rw [← HN.out]; exact hkl)
              have hgl : g < w.heap.size := World.block_lt_of_cell? w _ (hc1 0 _ rfl)
              have HCW := Lib.hid (fun (wx : World) (hx : Chg w wx none) (off j : Nat) (v : Value) (hj : w.cell? ⟨g, off + j, none⟩ = some v) => (World.cell?_of_block (show wx.heap[(⟨g, off + j, none⟩ : Addr).block]? = w.heap[g]? from hx.block g hgl (by simp))).trans hj)
              generalize dth ds k = d1 at *
              generalize dth ds kk = d2 at *
              obtain ⟨kind, cell, tick, dv, data, there, waits, lv, ld, lt, nv, nd, nt⟩ := d1
              obtain ⟨kind2, cell2, tick2, dv2, data2, there2, waits2, lv2, ld2, lt2, nv2, nd2, nt2⟩ := d2
              have HD1 := Lib.hid hd1
              have HD2 := Lib.hid hd2
              have HC2 := Lib.hid hc2
              have e0 : wr.cell? ⟨g, o + k * 10 + 0, none⟩ = some (.int .i64 kind) := HCW.out wr M.chg (o + k * 10) 0 _ (hc1 0 _ rfl)
              have e1 : wr.cell? ⟨g, o + k * 10 + 1, none⟩ = some (.int .i64 cell) := HCW.out wr M.chg (o + k * 10) 1 _ (hc1 1 _ rfl)
              have e2 : wr.cell? ⟨g, o + k * 10 + 2, none⟩ = some (.int .u64 tick) := HCW.out wr M.chg (o + k * 10) 2 _ (hc1 2 _ rfl)
              have e3 : wr.cell? ⟨g, o + k * 10 + 3, none⟩ = some (dv) := HCW.out wr M.chg (o + k * 10) 3 _ (hc1 3 _ rfl)
              have e4 : wr.cell? ⟨g, o + k * 10 + 4, none⟩ = some (.bool there) := HCW.out wr M.chg (o + k * 10) 4 _ (hc1 4 _ rfl)
              have e5 : wr.cell? ⟨g, o + k * 10 + 5, none⟩ = some (.bool waits) := HCW.out wr M.chg (o + k * 10) 5 _ (hc1 5 _ rfl)
              have e6 : wr.cell? ⟨g, o + k * 10 + 6, none⟩ = some (lv) := HCW.out wr M.chg (o + k * 10) 6 _ (hc1 6 _ rfl)
              have e7 : wr.cell? ⟨g, o + k * 10 + 7, none⟩ = some (.int .u64 lt) := HCW.out wr M.chg (o + k * 10) 7 _ (hc1 7 _ rfl)
              have e8 : wr.cell? ⟨g, o + k * 10 + 8, none⟩ = some (nv) := HCW.out wr M.chg (o + k * 10) 8 _ (hc1 8 _ rfl)
              have e9 : wr.cell? ⟨g, o + k * 10 + 9, none⟩ = some (.int .u64 nt) := HCW.out wr M.chg (o + k * 10) 9 _ (hc1 9 _ rfl)
              rw [Nat.add_zero] at e0
              clear hcl hc1 hc2 hd1 hd2 I M
              go_wp2_with fail
              refine (MH.out.step1 HD1.out (by simp)).mono ?_
              rintro e wx ⟨rfl, T1, P1, fs1, M1, hf1⟩
              have M1H := Lib.hid M1
              simp only [List.length_nil] at hf1
              clear M1 MH e0 e1 e2 e3 e4 e5 e6 e7 e8 e9
              have f0 : wx.cell? ⟨g, o + kk * 10 + 0, none⟩ = some (.int .i64 kind2) := HCW.out wx M1H.out.chg (o + kk * 10) 0 _ (HC2.out 0 _ rfl)
              have f1 : wx.cell? ⟨g, o + kk * 10 + 1, none⟩ = some (.int .i64 cell2) := HCW.out wx M1H.out.chg (o + kk * 10) 1 _ (HC2.out 1 _ rfl)
              have f2 : wx.cell? ⟨g, o + kk * 10 + 2, none⟩ = some (.int .u64 tick2) := HCW.out wx M1H.out.chg (o + kk * 10) 2 _ (HC2.out 2 _ rfl)
              have f3 : wx.cell? ⟨g, o + kk * 10 + 3, none⟩ = some (dv2) := HCW.out wx M1H.out.chg (o + kk * 10) 3 _ (HC2.out 3 _ rfl)
              have f4 : wx.cell? ⟨g, o + kk * 10 + 4, none⟩ = some (.bool there2) := HCW.out wx M1H.out.chg (o + kk * 10) 4 _ (HC2.out 4 _ rfl)
              have f5 : wx.cell? ⟨g, o + kk * 10 + 5, none⟩ = some (.bool waits2) := HCW.out wx M1H.out.chg (o + kk * 10) 5 _ (HC2.out 5 _ rfl)
              have f6 : wx.cell? ⟨g, o + kk * 10 + 6, none⟩ = some (lv2) := HCW.out wx M1H.out.chg (o + kk * 10) 6 _ (HC2.out 6 _ rfl)
              have f7 : wx.cell? ⟨g, o + kk * 10 + 7, none⟩ = some (.int .u64 lt2) := HCW.out wx M1H.out.chg (o + kk * 10) 7 _ (HC2.out 7 _ rfl)
              have f8 : wx.cell? ⟨g, o + kk * 10 + 8, none⟩ = some (nv2) := HCW.out wx M1H.out.chg (o + kk * 10) 8 _ (HC2.out 8 _ rfl)
              have f9 : wx.cell? ⟨g, o + kk * 10 + 9, none⟩ = some (.int .u64 nt2) := HCW.out wx M1H.out.chg (o + kk * 10) 9 _ (HC2.out 9 _ rfl)
              rw [Nat.add_zero] at f0
              go_wp2_with fail
              refine (M1H.out.step2 HD2.out (by omega)).mono ?_
              rintro e wy ⟨rfl, T2, Q2, fs2, M2, hf2⟩
              have M2H := Lib.hid M2
              clear M2 M1H f0 f1 f2 f3 f4 f5 f6 f7 f8 f9 hkk
              go_wp2_with fail
              refine M2H.out.p.sx.mono ?_
              rintro e wa ⟨X1, x1, X2, x2, rfl, hca, ra1, ra2⟩
              obtain ⟨na, hna⟩ : ∃ n, n = P1.A.data.length := ⟨_, rfl⟩
              obtain ⟨nb, hnb⟩ : ∃ n, n = P1.B.data.length := ⟨_, rfl⟩
              rw [← hna] at ra1 ⊢
              rw [← hnb] at ra2 ⊢
              have NA := Lib.hid hna
              have NB := Lib.hid hnb
              have CB := Lib.hid ((Chg.refl wa none).alloc (.cells #[.bool P1.A.there, .bool P1.B.there, .slice X1 na x1, .int .u64 P1.A.tick, .slice X2 nb x2, .int .u64 P1.B.tick] 44))
              have MB := Lib.hid (M2H.out.grow (hca.trans CB.out) (fun _ _ => rfl))
              have RB := Lib.hid (heap_alloc_last wa (.cells #[.bool P1.A.there, .bool P1.B.there, .slice X1 na x1, .int .u64 P1.A.tick, .slice X2 nb x2, .int .u64 P1.B.tick] 44))
              have RX1 := Lib.hid (Chg.sl ra1 CB.out)
              have RX2 := Lib.hid (Chg.sl ra2 CB.out)
              obtain ⟨pb, hpb⟩ : ∃ p, p = wa.heap.size := ⟨_, rfl⟩
              rw [← hpb] at RB
              have HPB := Lib.hid hpb
              clear hca ra1 ra2 hna hnb CB hpb
              go_upto_region 20 with (fail)
              rw [← HPB.out]
              generalize wa.alloc (.cells #[.bool P1.A.there, .bool P1.B.there, .slice X1 na x1, .int .u64 P1.A.tick, .slice X2 nb x2, .int .u64 P1.B.tick] 44) = wb at *
              have t0 : wb.cell? ⟨pb, 0, none⟩ = some (.bool P1.A.there) := (by rw [cell_of_row _ _ _ _ _ _ RB.out]; rfl)
              have t1 : wb.cell? ⟨pb, 1, none⟩ = some (.bool P1.B.there) := (by rw [cell_of_row _ _ _ _ _ _ RB.out]; rfl)
              have t2 : wb.cell? ⟨pb, 2, none⟩ = some (.slice X1 na x1) := (by rw [cell_of_row _ _ _ _ _ _ RB.out]; rfl)
              have t3 : wb.cell? ⟨pb, 3, none⟩ = some (.int .u64 P1.A.tick) := (by rw [cell_of_row _ _ _ _ _ _ RB.out]; rfl)
              have t4 : wb.cell? ⟨pb, 4, none⟩ = some (.slice X2 nb x2) := (by rw [cell_of_row _ _ _ _ _ _ RB.out]; rfl)
              have t5 : wb.cell? ⟨pb, 5, none⟩ = some (.int .u64 P1.B.tick) := (by rw [cell_of_row _ _ _ _ _ _ RB.out]; rfl)
              have SY := Lib.hid (MB.out.grow (chg_drew wb) (fun _ _ => rfl)).p.sy
              go_wp2_with fail
              go_region_held (fun w' => w'.cell? ⟨pb, 0, none⟩ = some (.bool P1.A.there) ∧ w'.cell? ⟨pb, 1, none⟩ = some (.bool P1.B.there) ∧ w'.cell? ⟨pb, 2, none⟩ = some (.slice X1 na x1) ∧ w'.cell? ⟨pb, 3, none⟩ = some (.int .u64 P1.A.tick) ∧ w'.cell? ⟨pb, 4, none⟩ = some (.slice X2 nb x2) ∧ w'.cell? ⟨pb, 5, none⟩ = some (.int .u64 P1.B.tick)) (go_keep) (first | (go_at_call 20; refine SY.out.mono ?_; rintro e wc ⟨Y1, y1, Y2, y2, rfl, hcc, ry1, ry2⟩; have CC := Lib.hid ((chg_drew wb).trans hcc); have s0 : wc.cell? ⟨pb, 0, none⟩ = some (.bool P1.A.there) := (by rw [cell_of_row _ _ _ _ _ _ (row_cells RB.out CC.out)]; rfl); have s1 : wc.cell? ⟨pb, 1, none⟩ = some (.bool P1.B.there) := (by rw [cell_of_row _ _ _ _ _ _ (row_cells RB.out CC.out)]; rfl); have s2 : wc.cell? ⟨pb, 2, none⟩ = some (.slice X1 na x1) := (by rw [cell_of_row _ _ _ _ _ _ (row_cells RB.out CC.out)]; rfl); have s3 : wc.cell? ⟨pb, 3, none⟩ = some (.int .u64 P1.A.tick) := (by rw [cell_of_row _ _ _ _ _ _ (row_cells RB.out CC.out)]; rfl); have s4 : wc.cell? ⟨pb, 4, none⟩ = some (.slice X2 nb x2) := (by rw [cell_of_row _ _ _ _ _ _ (row_cells RB.out CC.out)]; rfl); have s5 : wc.cell? ⟨pb, 5, none⟩ = some (.int .u64 P1.B.tick) := (by rw [cell_of_row _ _ _ _ _ _ (row_cells RB.out CC.out)]; rfl); have RY1 := Lib.hid ry1; have RY2 := Lib.hid ry2; clear hcc ry1 ry2) | (go_at_call 18; refine (sameState_yes _ P1.A.there P1.B.there P1.A.tick P1.B.tick P1.A.data P1.B.data _ _ _ _ (Chg.sl RX1.out CC.out) RY1.out (Chg.sl RX2.out CC.out) RY2.out).mono ?_; rintro e wd ⟨rfl, hcd⟩; have CD := Lib.hid (CC.out.trans hcd); have u0 : wd.cell? ⟨pb, 0, none⟩ = some (.bool P1.A.there) := (by rw [cell_of_row _ _ _ _ _ _ (row_cells RB.out CD.out)]; rfl); have u1 : wd.cell? ⟨pb, 1, none⟩ = some (.bool P1.B.there) := (by rw [cell_of_row _ _ _ _ _ _ (row_cells RB.out CD.out)]; rfl); have u2 : wd.cell? ⟨pb, 2, none⟩ = some (.slice X1 na x1) := (by rw [cell_of_row _ _ _ _ _ _ (row_cells RB.out CD.out)]; rfl); have u3 : wd.cell? ⟨pb, 3, none⟩ = some (.int .u64 P1.A.tick) := (by rw [cell_of_row _ _ _ _ _ _ (row_cells RB.out CD.out)]; rfl); have u4 : wd.cell? ⟨pb, 4, none⟩ = some (.slice X2 nb x2) := (by rw [cell_of_row _ _ _ _ _ _ (row_cells RB.out CD.out)]; rfl); have u5 : wd.cell? ⟨pb, 5, none⟩ = some (.int .u64 P1.B.tick) := (by rw [cell_of_row _ _ _ _ _ _ (row_cells RB.out CD.out)]; rfl); clear hcd))
              have M3H := Lib.hid (MB.out.grow CD.out (fun _ _ => rfl))
              clear t0 t1 t2 t3 t4 t5 s0 s1 s2 s3 s4 s5 u0 u1 u2 u3 u4 u5 MB RB RX1 RX2 RY1 RY2 CC CD SY
              go_wp2_with fail
              refine M3H.out.q.sx.mono ?_
              rintro e wa ⟨X1, x1, X2, x2, rfl, hca, ra1, ra2⟩
              obtain ⟨na, hna⟩ : ∃ n, n = Q2.A.data.length := ⟨_, rfl⟩
              obtain ⟨nb, hnb⟩ : ∃ n, n = Q2.B.data.length := ⟨_, rfl⟩
              rw [← hna] at ra1 ⊢
              rw [← hnb] at ra2 ⊢
              have NA := Lib.hid hna
              have NB := Lib.hid hnb
              have CB := Lib.hid ((Chg.refl wa none).alloc (.cells #[.bool Q2.A.there, .bool Q2.B.there, .slice X1 na x1, .int .u64 Q2.A.tick, .slice X2 nb x2, .int .u64 Q2.B.tick] 44))
              have MB := Lib.hid (M3H.out.grow (hca.trans CB.out) (fun _ _ => rfl))
              have RB := Lib.hid (heap_alloc_last wa (.cells #[.bool Q2.A.there, .bool Q2.B.there, .slice X1 na x1, .int .u64 Q2.A.tick, .slice X2 nb x2, .int .u64 Q2.B.tick] 44))
              have RX1 := Lib.hid (Chg.sl ra1 CB.out)
              have RX2 := Lib.hid (Chg.sl ra2 CB.out)
              obtain ⟨pb, hpb⟩ : ∃ p, p = wa.heap.size := ⟨_, rfl⟩
              rw [← hpb] at RB
              have HPB := Lib.hid hpb
              clear hca ra1 ra2 hna hnb CB hpb
              go_upto_region 22 with (fail)
              rw [← HPB.out]
              generalize wa.alloc (.cells #[.bool Q2.A.there, .bool Q2.B.there, .slice X1 na x1, .int .u64 Q2.A.tick, .slice X2 nb x2, .int .u64 Q2.B.tick] 44) = wb at *
              have t0 : wb.cell? ⟨pb, 0, none⟩ = some (.bool Q2.A.there) := (by rw [cell_of_row _ _ _ _ _ _ RB.out]; rfl)
              have t1 : wb.cell? ⟨pb, 1, none⟩ = some (.bool Q2.B.there) := (by rw [cell_of_row _ _ _ _ _ _ RB.out]; rfl)
              have t2 : wb.cell? ⟨pb, 2, none⟩ = some (.slice X1 na x1) := (by rw [cell_of_row _ _ _ _ _ _ RB.out]; rfl)
              have t3 : wb.cell? ⟨pb, 3, none⟩ = some (.int .u64 Q2.A.tick) := (by rw [cell_of_row _ _ _ _ _ _ RB.out]; rfl)
              have t4 : wb.cell? ⟨pb, 4, none⟩ = some (.slice X2 nb x2) := (by rw [cell_of_row _ _ _ _ _ _ RB.out]; rfl)
              have t5 : wb.cell? ⟨pb, 5, none⟩ = some (.int .u64 Q2.B.tick) := (by rw [cell_of_row _ _ _ _ _ _ RB.out]; rfl)
              have SY := Lib.hid (MB.out.grow (chg_drew wb) (fun _ _ => rfl)).q.sy
              go_wp2_with fail
              go_region_held (fun w' => w'.cell? ⟨pb, 0, none⟩ = some (.bool Q2.A.there) ∧ w'.cell? ⟨pb, 1, none⟩ = some (.bool Q2.B.there) ∧ w'.cell? ⟨pb, 2, none⟩ = some (.slice X1 na x1) ∧ w'.cell? ⟨pb, 3, none⟩ = some (.int .u64 Q2.A.tick) ∧ w'.cell? ⟨pb, 4, none⟩ = some (.slice X2 nb x2) ∧ w'.cell? ⟨pb, 5, none⟩ = some (.int .u64 Q2.B.tick)) (go_keep) (first | (go_at_call 20; refine SY.out.mono ?_; rintro e wc ⟨Y1, y1, Y2, y2, rfl, hcc, ry1, ry2⟩; have CC := Lib.hid ((chg_drew wb).trans hcc); have s0 : wc.cell? ⟨pb, 0, none⟩ = some (.bool Q2.A.there) := (by rw [cell_of_row _ _ _ _ _ _ (row_cells RB.out CC.out)]; rfl); have s1 : wc.cell? ⟨pb, 1, none⟩ = some (.bool Q2.B.there) := (by rw [cell_of_row _ _ _ _ _ _ (row_cells RB.out CC.out)]; rfl); have s2 : wc.cell? ⟨pb, 2, none⟩ = some (.slice X1 na x1) := (by rw [cell_of_row _ _ _ _ _ _ (row_cells RB.out CC.out)]; rfl); have s3 : wc.cell? ⟨pb, 3, none⟩ = some (.int .u64 Q2.A.tick) := (by rw [cell_of_row _ _ _ _ _ _ (row_cells RB.out CC.out)]; rfl); have s4 : wc.cell? ⟨pb, 4, none⟩ = some (.slice X2 nb x2) := (by rw [cell_of_row _ _ _ _ _ _ (row_cells RB.out CC.out)]; rfl); have s5 : wc.cell? ⟨pb, 5, none⟩ = some (.int .u64 Q2.B.tick) := (by rw [cell_of_row _ _ _ _ _ _ (row_cells RB.out CC.out)]; rfl); have RY1 := Lib.hid ry1; have RY2 := Lib.hid ry2; clear hcc ry1 ry2) | (go_at_call 18; refine (sameState_yes _ Q2.A.there Q2.B.there Q2.A.tick Q2.B.tick Q2.A.data Q2.B.data _ _ _ _ (Chg.sl RX1.out CC.out) RY1.out (Chg.sl RX2.out CC.out) RY2.out).mono ?_; rintro e wd ⟨rfl, hcd⟩; have CD := Lib.hid (CC.out.trans hcd); have u0 : wd.cell? ⟨pb, 0, none⟩ = some (.bool Q2.A.there) := (by rw [cell_of_row _ _ _ _ _ _ (row_cells RB.out CD.out)]; rfl); have u1 : wd.cell? ⟨pb, 1, none⟩ = some (.bool Q2.B.there) := (by rw [cell_of_row _ _ _ _ _ _ (row_cells RB.out CD.out)]; rfl); have u2 : wd.cell? ⟨pb, 2, none⟩ = some (.slice X1 na x1) := (by rw [cell_of_row _ _ _ _ _ _ (row_cells RB.out CD.out)]; rfl); have u3 : wd.cell? ⟨pb, 3, none⟩ = some (.int .u64 Q2.A.tick) := (by rw [cell_of_row _ _ _ _ _ _ (row_cells RB.out CD.out)]; rfl); have u4 : wd.cell? ⟨pb, 4, none⟩ = some (.slice X2 nb x2) := (by rw [cell_of_row _ _ _ _ _ _ (row_cells RB.out CD.out)]; rfl); have u5 : wd.cell? ⟨pb, 5, none⟩ = some (.int .u64 Q2.B.tick) := (by rw [cell_of_row _ _ _ _ _ _ (row_cells RB.out CD.out)]; rfl); clear hcd))
              have M4H := Lib.hid (MB.out.grow CD.out (fun _ _ => rfl))
              clear t0 t1 t2 t3 t4 t5 s0 s1 s2 s3 s4 s5 u0 u1 u2 u3 u4 u5 MB RB RX1 RX2 RY1 RY2 CC CD SY
              go_wp2_with fail
              refine (M4H.out.looks (by omega) (by omega)).mono ?_
              rintro e wz ⟨rfl, T5, ls5, M5, hl5⟩
              have M5H := Lib.hid (⟨T5, P1, Q2, _, ls5, fs2, M5, by omega, by omega⟩ : ∃ T P Q c ls hs, Mn w wz T bx by_ bz bw b c P Q ls hs [] ∧ ls.length ≤ 16 * (k + 1) ∧ hs.length ≤ 8)
              clear M5 M4H
              go_wp2
              go_roundw
              case rel => exact ⟨k + 1, by omega, by omega, by go_num, M5H⟩
              case measure => simp [intOf]; omega
            · have M0X := MH
              by_cases h1 : k < n
              · obtain rfl : k = 200 := by omega
                have hd : decide ((200 : Int) < n) = true := by simp; omega
                clear I M
                go_wp2_with fail
                refine (MH.out.looks (by omega) (by omega)).mono ?_
                rintro e wz ⟨rfl, T5, ls5, M5, hl5⟩
                have M5H := Lib.hid M5
                clear M5 MH
                go_wp2_with fail
                refine (M5H.out.looks (by omega) (by simp)).mono ?_
                rintro e wv ⟨rfl, T6, ls6, M6, hl6⟩
                have M6H := Lib.hid M6
                clear M6 M5H
                go_wp2
                go_ret
                exact ⟨rfl, M6H.out.chg⟩
              · obtain rfl : k = n := by omega
                clear I M
                go_wp2_with fail
                refine (MH.out.looks (by omega) (by omega)).mono ?_
                rintro e wz ⟨rfl, T5, ls5, M5, hl5⟩
                have M5H := Lib.hid M5
                clear M5 MH
                go_wp2_with fail
                refine (M5H.out.looks (by omega) (by simp)).mono ?_
                rintro e wv ⟨rfl, T6, ls6, M6, hl6⟩
                have M6H := Lib.hid M6
                clear M6 M5H
                go_wp2
                go_ret
                exact ⟨rfl, M6H.out.chg⟩
end Go.Proofs.Ytfoofipkbijajaa.Sa
