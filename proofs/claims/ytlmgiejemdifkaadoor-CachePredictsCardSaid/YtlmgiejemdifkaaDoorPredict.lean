/- Predict: its contract. No statement of the seat is proved here. -/
import Derived.Test.YtlmgiejemdifkaaDoorPd
import Derived.Test.YtlmgiejemdifkaaDoorNew
import Derived.Deep.CutRange
import Derived.BigQuiet
namespace Go.Proofs.YtlmgiejemdifkaaDoor.Ca
open Go.RowKit Go.Proofs.YtlmgiejemdifkaaDoor.Kit
set_option linter.unusedSimpArgs false
set_option linter.unusedVariables false

theorem Pd.row {w wr : World} {p : Nat} {s : Shp} {us : List Us} {n : Nat} {F : Nat → List Ln} {vo : Value} {vs : Nat → Value} (h : Pd w wr p s us n F vo vs) :
    wr.cell? ⟨w.heap.size, 0, none⟩ = some (.int .i64 s.S) ∧ wr.cell? ⟨w.heap.size, 1, none⟩ = some (.int .i64 s.W) ∧ wr.cell? ⟨w.heap.size, 2, none⟩ = some (.int .i64 s.L) :=
  ⟨by rw [cell_of_row _ _ _ _ _ _ h.box]; rfl, by rw [cell_of_row _ _ _ _ _ _ h.box]; rfl, by rw [cell_of_row _ _ _ _ _ _ h.box]; rfl⟩
theorem own_len {w : World} {base : Nat} {v : Value} {V : List Ln} (h : Own w base v V) : ∃ A c, v = .slice A V.length c := by
  rcases own_open h with ⟨rfl, rfl⟩ | ⟨g, cap, rfl, _⟩
  · exact ⟨none, 0, rfl⟩
  · exact ⟨_, cap, rfl⟩
theorem set_lt (s : Shp) (a : Nat) : setOf s.S s.L a < 256 := by
  have := s.Sle
  have := Nat.mod_lt (a / s.L) (show 0 < s.S by omega)
  unfold setOf; omega
theorem seekI_ge (U : List Ln) (t : Nat) : -1 ≤ seekI U t ∧ seekI U t < U.length ∨ U.length = 0 ∧ seekI U t = -1 := by
  unfold seekI; split <;> omega
theorem seekI_hit (U : List Ln) (t W : Nat) : (0 ≤ seekI U t ∧ seekI U t < W) ↔ isHit W U t := by
  unfold seekI isHit; split <;> omega
set_option maxRecDepth 100000 in
set_option maxHeartbeats 8000000 in
theorem predict_any (w : World) (hT : TabAt w) (s : Shp) (v1 : Value) (us : List Us) (h1 : Ru w v1 us) (hbig : us.length * 16 ≤ 140737488355328) :
    Calls Tryd.prog 28 #[.agg #[.int .i64 s.S, .int .i64 s.W, .int .i64 s.L], v1] w fun e w' => ∃ v', e = .returned (.tuple #[v', .int .i64 0]) ∧ w'.ownsRow w.heap.size 38 3 v' us.length (costs s (fun _ => []) us us.length) ∧ Chg w w' none := by
  have OK := Lib.hid h1.okay
  have H1 := Lib.hid h1
  obtain ⟨⟨A, cap, rfl, hx1⟩, hfew, hx2⟩ := h1
  clear hx1 hx2
  have MY := Lib.hid (fun X => may_yes X s)
  have PF := Lib.hid (fun X hC => Pd.first w hT s us (w2 := X) hC)
  obtain ⟨i0, hi, hz0, hz1, hz2⟩ := info_parts info38'
  clear hT
  go_enter Tryd.func28, Tryd.ntmps28
  go_wp2_with fail
  refine (MY.out _).mono ?_
  rintro e w2 ⟨rfl, hC⟩
  have P0 := Lib.hid (PF.out w2 hC)
  clear hC PF MY
  generalize hp : w2.heap.size = p at *
  go_wp2_with fail
  have I0 := Lib.hid (show ∃ vs, Pd w (w2.alloc (.cells Tryd.zeroCells101 101)) p s us 0 (far s us 0) (.slice none 0 0) vs from ⟨_, P0.out⟩)
  clear P0
  go_loopw [7, 21] (fun v7 i wr => ∃ k : Nat, k ≤ us.length ∧ i = .int .i64 k ∧ Hid (∃ vs, Pd w wr p s us k (far s us k) v7 vs)) (fun _ i _ => us.length - (intOf i).toNat)
  case atStart => exact ⟨0, by omega, rfl, I0⟩
  case round =>
    obtain ⟨k, hk, rfl, I⟩ := hrel
    clear I0
    by_cases hlt : k < us.length
    · obtain ⟨vs, D0⟩ := I.out
      have D := Lib.hid D0
      obtain ⟨d0, d1, d2⟩ := D0.row
      obtain ⟨ab, ao, hA, hc0, hc1⟩ := H1.out.at_ k hlt
      subst hA
      have hc0 := cell_kept hc0 D0.chg (by simp)
      have hc1 := cell_kept hc1 D0.chg (by simp)
      have HA := Lib.hid (OK.out k)
      have DX := Lib.hid (show far s us (k + 1) = put (far s us k) (setOf s.S s.L (unth us k).1) (seenN s.W (far s us k (setOf s.S s.L (unth us k).1)) (tagOf s.S s.L (unth us k).1) (unth us k).2) ∧ costs s (fun _ => []) us (k + 1) = costs s (fun _ => []) us k ++ tcells (farT s.W (far s us k (setOf s.S s.L (unth us k).1)) (tagOf s.S s.L (unth us k).1)) from ⟨rfl, by rw [← far_cost]; rfl⟩)
      have FL := Lib.hid (fun j => far_len s us k j)
      generalize (unth us k).1 = a at *
      generalize (unth us k).2 = x at *
      have hws : w.heap.size < wr.heap.size := by have := D0.size; have := D0.pos; omega
      have hps : p < wr.heap.size := D0.size
      have hab := World.block_lt_of_cell? wr _ hc0
      have C1 := Lib.hid (show Chg wr (wr.alloc (.cells #[.int .u32 a, .bool x] 36)) none from (Chg.refl wr none).alloc _)
      have T1 := Lib.hid (D0.tab.kept C1.out (by simp))
      clear D0 I
      go_wp2_with fail
      refine (place_any _ T1.out s a HA.out).mono ?_
      rintro e w4 ⟨rfl, hC⟩
      have C4 := Lib.hid (C1.out.trans hC)
      have R4 := Lib.hid ((hC.block wr.heap.size (by simp) (by simp)).trans (heap_alloc_last wr (.cells #[.int .u32 a, .bool x] 36)))
      have hs4 : wr.heap.size < w4.heap.size := by have := hC.size; simp at this; omega
      have KK := Lib.hid (set_lt s a)
      clear hC hc0 hc1 d0 d1 d2 C1 T1
      generalize setOf s.S s.L a = kk at *
      generalize tagOf s.S s.L a = t at *
      have hkk := KK.out
      have hP4 := (D.out.grow C4.out).sets.cell KK.out
      have O4 := Lib.hid ((D.out.grow C4.out).own kk KK.out)
      obtain ⟨v, hv⟩ : ∃ v, v = vs kk := ⟨_, rfl⟩
      rw [← hv] at hP4
      have HV := Lib.hid hv
      obtain ⟨A2, c2, hv2⟩ := own_len O4.out
      rw [← hv] at hv2
      have O4 := Lib.hid (show Own w4 (p + 1) v (far s us k kk) by rw [hv]; exact O4.out)
      clear hv
      obtain ⟨U, hU⟩ : ∃ U, U = far s us k kk := ⟨_, rfl⟩
      rw [← hU] at hv2 O4 DX
      have HU := Lib.hid hU
      have hm16 : U.length ≤ k := by rw [hU]; exact FL.out kk
      clear hU FL
      have hws4 : w.heap.size < w4.heap.size := by omega
      have hps4 : p < w4.heap.size := by omega
      have hfew2 : us.length ≤ 8796093022208 := by omega
      subst hv2
      go_wp2_with fail
      (with_reducible show Calls _ 44 #[.slice A2 U.length c2, .func (.func 45) #[] #[.pointer (some ⟨w4.heap.size, 0, none⟩)]] (w4.alloc (.cells #[.int .u32 t] 34)) _)
      refine (seen_index _ (p + 1) w4.heap.size t (.slice A2 U.length c2) U (O4.out.kept ((Chg.refl w4 none).alloc (.cells #[.int .u32 t] 34)) (by cases (Value.slice A2 U.length c2).ownBlock <;> simp)) (by rw [cell_of_row _ _ _ _ _ _ (heap_alloc_last w4 _)]; rfl)).mono ?_
      rintro e w6 ⟨rfl, hC⟩
      have K6 := Lib.hid (((Chg.refl w4 none).alloc (.cells #[.int .u32 t] 34)).trans hC)
      have C6 := Lib.hid (C4.out.trans K6.out)
      have R9 := Lib.hid ((K6.out.block wr.heap.size (by omega) (by simp)).trans R4.out)
      have R11 := Lib.hid ((hC.block w4.heap.size (by simp) (by simp)).trans (heap_alloc_last w4 (.cells #[.int .u32 t] 34)))
      have hs6 : w4.heap.size < w6.heap.size := by have := hC.size; simp at this; omega
      have O6 := Lib.hid (O4.out.kept K6.out (by cases (Value.slice A2 U.length c2).ownBlock <;> simp))
      have g1 : w6.cell? ⟨w.heap.size, 1, none⟩ = some (.int .i64 s.W) := (D.out.grow C6.out).row.2.1
      have g2 : w6.cell? ⟨wr.heap.size, 1, none⟩ = some (.bool x) := by rw [cell_of_row _ _ _ _ _ _ R9.out]; rfl
      have g3 : w6.cell? ⟨w4.heap.size, 0, none⟩ = some (.int .u32 t) := by rw [cell_of_row _ _ _ _ _ _ R11.out]; rfl
      obtain ⟨I1, hI⟩ : ∃ I1, I1 = seekI U t := ⟨_, rfl⟩
      rw [← hI]
      obtain ⟨hb, hhb⟩ : ∃ hb : Bool, hb = decide (isHit s.W U t) := ⟨_, rfl⟩
      have HB := Lib.hid (show hb = true ↔ 0 ≤ I1 ∧ I1 < (s.W : Int) by rw [hhb, hI, seekI_hit]; simp)
      have HI := Lib.hid hI
      have HH := Lib.hid hhb
      have hwW := s.hW
      clear hC hP4 R4 C4 K6 O4 hI hhb
      have hwr64 : w.heap.size < w6.heap.size := by omega
      have hwr66 : wr.heap.size < w6.heap.size := by omega
      go_upto_region 11 with (fail)
      go_cut [14] from 38 to 46 (fun s14 wx => s14 = .pointer (some ⟨w6.heap.size, 0, none⟩) ∧ wx = w6.alloc (.cells #[.bool hb, .bool false, .int .i64 1] 38))
      case first =>
        by_cases q0 : 0 ≤ I1
        · by_cases q1 : I1 < (s.W : Int)
          · obtain rfl : hb = true := HB.out.2 ⟨q0, q1⟩
            go_wp2
            go_meet
            exact ⟨rfl, rfl⟩
          · obtain rfl : hb = false := by cases hb with | false => rfl | true => exact absurd (HB.out.1 rfl).2 q1
            go_wp2
            go_meet
            exact ⟨rfl, rfl⟩
        · obtain rfl : hb = false := by cases hb with | false => rfl | true => exact absurd (HB.out.1 rfl).1 q0
          go_wp2
          go_meet
          exact ⟨rfl, rfl⟩
      case rest =>
        obtain ⟨rfl, rfl⟩ := hcut
        go_upto_if 52 with (fail)
        have C7 := Lib.hid ((C6.out.alloc (.cells #[.bool hb, .bool false, .int .i64 1] 38)).alloc (.cells #[.int .u32 t, .bool x] 80))
        have RN := Lib.hid (show ((w6.alloc (.cells #[.bool hb, .bool false, .int .i64 1] 38)).alloc (.cells #[.int .u32 t, .bool x] 80)).heap[w6.heap.size + 1]? = some (.cells #[.int .u32 t, .bool x] 80 (0, 0)) by
          have := heap_alloc_last (w6.alloc (.cells #[.bool hb, .bool false, .int .i64 1] 38)) (.cells #[.int .u32 t, .bool x] 80)
          simpa using this)
        have RT := Lib.hid (show ((w6.alloc (.cells #[.bool hb, .bool false, .int .i64 1] 38)).alloc (.cells #[.int .u32 t, .bool x] 80)).heap[w6.heap.size]? = some (.cells #[.bool hb, .bool false, .int .i64 1] 38 (0, 0)) by
          rw [heap_alloc_old (h := by simp)]
          exact heap_alloc_last w6 _)
        have K7 := Lib.hid (((Chg.refl w6 none).alloc (.cells #[.bool hb, .bool false, .int .i64 1] 38)).alloc (.cells #[.int .u32 t, .bool x] 80))
        generalize (w6.alloc (.cells #[.bool hb, .bool false, .int .i64 1] 38)).alloc (.cells #[.int .u32 t, .bool x] 80) = w7 at *
        have g4 : w7.cell? ⟨w.heap.size, 1, none⟩ = some (.int .i64 s.W) := (D.out.grow C7.out).row.2.1
        obtain ⟨TT, hTT⟩ : ∃ TT, TT = farT s.W U t := ⟨_, rfl⟩
        obtain ⟨nd, hnd⟩ : ∃ nd : Bool, nd = (if hb then (x || dirtyAt U (seek U t)) else x) := ⟨_, rfl⟩
        have HT := Lib.hid hTT
        have HN := Lib.hid hnd
        have O7 := Lib.hid (O6.out.kept K7.out (by cases (Value.slice A2 U.length c2).ownBlock <;> simp))
        clear g1 g2 g3 hTT hnd
        go_cut [] from 53 to 82 (fun wx => Hid (Chg wr wx none ∧ wx.heap[w6.heap.size]? = some (.cells #[.bool TT.hit, .bool TT.back, .int .i64 TT.cyc] 38 (0, 0)) ∧ wx.heap[w6.heap.size + 1]? = some (.cells #[.int .u32 t, .bool nd] 80 (0, 0))))
        case first =>
          cases hb with
          | true =>
            have hhit := HB.out.1 rfl
            have hit2 : isHit s.W U t := by have := HH.out; simpa using this
            obtain ⟨j, hj⟩ : ∃ j : Nat, I1 = (j : Int) := ⟨I1.toNat, by omega⟩
            have hjs : seek U t = j := by have := HI.out; rw [hj] at this; unfold seekI at this; rw [if_pos hit2.1] at this; omega
            have hjl : j < U.length := by rw [← hjs]; exact hit2.1
            subst hj
            obtain ⟨g, cc, e1, hgb, hr, hV, hnc, hm⟩ : ∃ g cap, Value.slice A2 U.length c2 = .slice (some ⟨g, 0, none⟩) U.length cap ∧ p + 1 ≤ g ∧ Row w7 g 80 (cap * 2) ∧ w7.rangeAt g 0 (flat U) ∧ U.length ≤ cap ∧ cap ≤ maxLen := by
              rcases own_open O7.out with ⟨_, h⟩ | h
              · rw [h] at hjl; simp at hjl
              · exact h
            injection e1 with e1 _ e2
            subst e1 e2
            obtain ⟨_, u1⟩ := range_at hV j hjl
            rw [Nat.zero_add] at u1
            have n1 : w7.cell? ⟨w6.heap.size + 1, 1, none⟩ = some (.bool x) := by rw [cell_of_row _ _ _ _ _ _ RN.out]; rfl
            have y1 := frozen_of_row w7 (w6.heap.size + 1) 1 _ _ RN.out
            have HF := Lib.hid (show TT = ⟨true, false, 1⟩ by rw [HT.out]; unfold farT; rw [if_pos hit2])
            have HE := Lib.hid (show nd = (x || (lnth U j).2) by rw [HN.out, if_pos rfl, hjs]; rfl)
            have rel := fun b (h : nd = b) => Lib.hid (show Chg wr (w7.setCell ⟨w6.heap.size + 1, 1, none⟩ (.bool b)) none ∧ (w7.setCell ⟨w6.heap.size + 1, 1, none⟩ (.bool b)).heap[w6.heap.size]? = some (.cells #[.bool TT.hit, .bool TT.back, .int .i64 TT.cyc] 38 (0, 0)) ∧ (w7.setCell ⟨w6.heap.size + 1, 1, none⟩ (.bool b)).heap[w6.heap.size + 1]? = some (.cells #[.int .u32 t, .bool nd] 80 (0, 0)) from
              ⟨C7.out.set_new _ _ (by omega), by rw [heap_setCell_other _ _ _ _ (by simp), RT.out, HF.out], by rw [h]; exact heap_setCell_same _ _ 1 _ _ _ RN.out⟩)
            have REL := Lib.hid rel
            clear hV hr rel hhit hit2 hjs
            generalize (lnth U j).2 = dd at *
            cases x with
            | true =>
              go_wp2
              go_meet
              exact REL.out _ (by rw [HE.out]; rfl)
            | false =>
              go_wp2
              go_meet
              exact REL.out dd (by rw [HE.out]; simp)
          | false =>
            have hno : ¬ isHit s.W U t := by have := HH.out; simpa using this
            obtain rfl : nd = x := by rw [HN.out]; simp
            have m1 : w7.cell? ⟨w6.heap.size, 1, none⟩ = some (.bool false) := by rw [cell_of_row _ _ _ _ _ _ RT.out]; rfl
            have m2 : w7.cell? ⟨w6.heap.size, 2, none⟩ = some (.int .i64 1) := by rw [cell_of_row _ _ _ _ _ _ RT.out]; rfl
            have y1 := frozen_of_row w7 w6.heap.size 1 _ _ RT.out
            have y2 := frozen_of_row w7 w6.heap.size 2 _ _ RT.out
            have RT2 := Lib.hid (heap_setCell_same w7 w6.heap.size 2 _ _ (.int .i64 12) RT.out)
            have C8 := Lib.hid (C7.out.set_new (b := w6.heap.size) 2 (.int .i64 12) (by omega))
            have RN2 := Lib.hid (show (w7.setCell ⟨w6.heap.size, 2, none⟩ (.int .i64 12)).heap[w6.heap.size + 1]? = some (.cells #[.int .u32 t, .bool nd] 80 (0, 0)) by rw [heap_setCell_other _ _ _ _ (by simp)]; exact RN.out)
            have back0 : ¬ (s.W ≤ U.length ∧ dirtyAt U (s.W - 1) = true) → Hid (Chg wr (w7.setCell ⟨w6.heap.size, 2, none⟩ (.int .i64 12)) none ∧ (w7.setCell ⟨w6.heap.size, 2, none⟩ (.int .i64 12)).heap[w6.heap.size]? = some (.cells #[.bool TT.hit, .bool TT.back, .int .i64 TT.cyc] 38 (0, 0)) ∧ (w7.setCell ⟨w6.heap.size, 2, none⟩ (.int .i64 12)).heap[w6.heap.size + 1]? = some (.cells #[.int .u32 t, .bool nd] 80 (0, 0))) := fun h => by
              have e : TT = ⟨false, false, 12⟩ := by rw [HT.out]; unfold farT; rw [if_neg hno, if_neg h]
              exact Lib.hid ⟨C8.out, by rw [e]; exact RT2.out, RN2.out⟩
            have B0 := Lib.hid back0
            clear back0
            by_cases hle : s.W ≤ U.length
            · obtain ⟨g, cc, e1, hgb, hr, hV, hnc, hm⟩ : ∃ g cap, Value.slice A2 U.length c2 = .slice (some ⟨g, 0, none⟩) U.length cap ∧ p + 1 ≤ g ∧ Row w7 g 80 (cap * 2) ∧ w7.rangeAt g 0 (flat U) ∧ U.length ≤ cap ∧ cap ≤ maxLen := by
                rcases own_open O7.out with ⟨_, h⟩ | h
                · rw [h] at hle; simp at hle; omega
                · exact h
              injection e1 with e1 _ e2
              subst e1 e2
              obtain ⟨W1, hW1⟩ : ∃ W1, s.W = W1 + 1 := ⟨s.W - 1, by omega⟩
              obtain ⟨_, u1⟩ := range_at hV W1 (by omega)
              rw [Nat.zero_add] at u1
              have hgw : g ≠ w6.heap.size := by
                have := (O6.out.lt g rfl).2
                omega
              have hdd : dirtyAt U (s.W - 1) = (lnth U W1).2 := by rw [hW1]; rfl
              have HD := Lib.hid hdd
              have back1 := Lib.hid (fun (h : dirtyAt U (s.W - 1) = true) => show Hid (Chg wr (((w7.setCell ⟨w6.heap.size, 2, none⟩ (.int .i64 12)).setCell ⟨w6.heap.size, 1, none⟩ (.bool true)).setCell ⟨w6.heap.size, 2, none⟩ (.int .i64 20)) none ∧ (((w7.setCell ⟨w6.heap.size, 2, none⟩ (.int .i64 12)).setCell ⟨w6.heap.size, 1, none⟩ (.bool true)).setCell ⟨w6.heap.size, 2, none⟩ (.int .i64 20)).heap[w6.heap.size]? = some (.cells #[.bool TT.hit, .bool TT.back, .int .i64 TT.cyc] 38 (0, 0)) ∧ (((w7.setCell ⟨w6.heap.size, 2, none⟩ (.int .i64 12)).setCell ⟨w6.heap.size, 1, none⟩ (.bool true)).setCell ⟨w6.heap.size, 2, none⟩ (.int .i64 20)).heap[w6.heap.size + 1]? = some (.cells #[.int .u32 t, .bool nd] 80 (0, 0))) from by
                have e : TT = ⟨false, true, 20⟩ := by rw [HT.out]; unfold farT; rw [if_neg hno, if_pos ⟨hle, h⟩]
                refine Lib.hid ⟨(C8.out.set_new _ _ (by omega)).set_new _ _ (by omega), ?_, ?_⟩
                · rw [e]; exact heap_setCell_same _ _ 2 _ _ _ (heap_setCell_same _ _ 1 _ _ _ RT2.out)
                · rw [heap_setCell_other _ _ _ _ (by simp), heap_setCell_other _ _ _ _ (by simp)]; exact RN2.out)
              have hq1 : (s.W : Int) ≤ (U.length : Int) := by omega
              have hq2 : IntKind.i64.wrap ((s.W : Int) - 1) = (W1 : Int) := by rw [IntKind.wrap_i64]; omega
              have hq3 : (W1 : Int) < (U.length : Int) := by omega
              clear hV hr hdd hno hle hW1
              generalize (lnth U W1).2 = dd at *
              cases dd with
              | true =>
                go_wp2
                go_meet
                exact back1.out HD.out
              | false =>
                go_wp2
                go_meet
                exact B0.out (by rw [HD.out]; simp)
            · have hq1 : ¬ (s.W : Int) ≤ (U.length : Int) := by omega
              go_wp2
              go_meet
              exact B0.out (by omega)
        case rest =>
          obtain ⟨w8, e8⟩ : ∃ X, X = wc := ⟨_, rfl⟩
          subst e8
          have C8 := Lib.hid hcut.out.1
          have RT8 := Lib.hid hcut.out.2.1
          have RN8 := Lib.hid hcut.out.2.2
          have O8 := Lib.hid (show Own w8 (p + 1) (.slice A2 U.length c2) U by
            have := (D.out.grow C8.out).own kk KK.out
            rw [← HV.out, ← HU.out] at this
            exact this)
          have QG := Lib.hid (show ∀ g, (vs kk).ownBlock = some g → p + 1 ≤ g ∧ g < wr.heap.size from fun g e => (D.out.own kk KK.out).lt g e)
          have VB := Lib.hid (congrArg Value.ownBlock HV.out)
          clear hcut C7 RN RT K7 O7 O6 g4 R9 R11 C6
          go_upto_if 84 with (fail)
          go_cut [12] from 85 to 89 (fun v12 wx => Hid (Own wx (p + 1) v12 (rest U t) ∧ v12.ownBlock = (vs kk).ownBlock ∧ Chg wr wx (vs kk).ownBlock ∧ wx.heap[w6.heap.size]? = some (.cells #[.bool TT.hit, .bool TT.back, .int .i64 TT.cyc] 38 (0, 0)) ∧ wx.heap[w6.heap.size + 1]? = some (.cells #[.int .u32 t, .bool nd] 80 (0, 0))))
          case first =>
            by_cases q0 : 0 ≤ I1
            · obtain ⟨j, hj⟩ : ∃ j : Nat, I1 = (j : Int) := ⟨I1.toNat, by omega⟩
              have hjs : seek U t < U.length ∧ seek U t = j := by
                have := HI.out
                unfold seekI at this
                split at this <;> omega
              have HR := Lib.hid (show rest U t = U.eraseIdx j by unfold rest; rw [if_pos hjs.1, hjs.2])
              have hjl : j < U.length := by rw [← hjs.2]; exact hjs.1
              subst hj
              obtain ⟨g, cc, e1, hgb, hr, hV, hnc, hm⟩ : ∃ g cap, Value.slice A2 U.length c2 = .slice (some ⟨g, 0, none⟩) U.length cap ∧ p + 1 ≤ g ∧ Row w8 g 80 (cap * 2) ∧ w8.rangeAt g 0 (flat U) ∧ U.length ≤ cap ∧ cap ≤ maxLen := by
                rcases own_open O8.out with ⟨_, h⟩ | h
                · rw [h] at hjl; simp at hjl
                · exact h
              injection e1 with e1 _ e2
              subst e1 e2
              have hwj : IntKind.i64.wrap ((j : Int) + 1) = (j : Int) + 1 := by rw [IntKind.wrap_i64]; omega
              have DEL := Lib.hid (seen_delete w8 (p + 1) g c2 j U.length U rfl hgb hr hV hnc hm hjl)
              have hgq : g < wr.heap.size := (QG.out g (by rw [← VB.out]; rfl)).2
              clear hV hr hjs
              go_wp2_with fail
              refine DEL.out.mono ?_
              rintro e w9 ⟨rfl, hO, hC⟩
              have F := Lib.hid (show Own w9 (p + 1) (.slice (some ⟨g, 0, none⟩) (U.length - 1) c2) (rest U t) ∧ (Value.slice (some ⟨g, 0, none⟩) (U.length - 1) c2).ownBlock = (vs kk).ownBlock ∧ Chg wr w9 (vs kk).ownBlock ∧ w9.heap[w6.heap.size]? = some (.cells #[.bool TT.hit, .bool TT.back, .int .i64 TT.cyc] 38 (0, 0)) ∧ w9.heap[w6.heap.size + 1]? = some (.cells #[.int .u32 t, .bool nd] 80 (0, 0)) from
                ⟨by rw [HR.out]; exact hO, VB.out, by rw [← VB.out]; exact (C8.out.any _).trans hC, by rw [hC.block _ (Array.getElem?_eq_some_iff.1 RT8.out).1 (fun e => by injection e; omega)]; exact RT8.out, by rw [hC.block _ (Array.getElem?_eq_some_iff.1 RN8.out).1 (fun e => by injection e; omega)]; exact RN8.out⟩)
              clear hO hC
              go_wp2
              go_meet
              exact F
            · have F := Lib.hid (show Own w8 (p + 1) (.slice A2 U.length c2) (rest U t) ∧ (Value.slice A2 U.length c2).ownBlock = (vs kk).ownBlock ∧ Chg wr w8 (vs kk).ownBlock ∧ w8.heap[w6.heap.size]? = some (.cells #[.bool TT.hit, .bool TT.back, .int .i64 TT.cyc] 38 (0, 0)) ∧ w8.heap[w6.heap.size + 1]? = some (.cells #[.int .u32 t, .bool nd] 80 (0, 0)) from by
                have hr : rest U t = U := by
                  unfold rest
                  rw [if_neg]
                  intro h
                  have := HI.out
                  unfold seekI at this
                  rw [if_pos h] at this
                  omega
                exact ⟨by rw [hr]; exact O8.out, VB.out, C8.out.any _, RT8.out, RN8.out⟩)
              go_wp2
              go_meet
              exact F
          case rest =>
            obtain ⟨w9, e9⟩ : ∃ X, X = wc := ⟨_, rfl⟩
            subst e9
            have O9 := Lib.hid hcut.out.1
            have B9 := Lib.hid hcut.out.2.1
            have C9 := Lib.hid hcut.out.2.2.1
            have RT9 := Lib.hid hcut.out.2.2.2.1
            have RN9 := Lib.hid hcut.out.2.2.2.2
            have n0 : w9.cell? ⟨w6.heap.size + 1, 0, none⟩ = some (.int .u32 t) := by rw [cell_of_row _ _ _ _ _ _ RN9.out]; rfl
            have n1 : w9.cell? ⟨w6.heap.size + 1, 1, none⟩ = some (.bool nd) := by rw [cell_of_row _ _ _ _ _ _ RN9.out]; rfl
            have hrl : (rest U t).length ≤ U.length := rest_len U t
            clear hcut C8 RT8 RN8 O8
            go_wp2_with fail
            have hs9 : wr.heap.size ≤ w9.heap.size := C9.out.size
            have hq9 : w6.heap.size < w9.heap.size := (Array.getElem?_eq_some_iff.1 RT9.out).1
            have A9 := Lib.hid ((Chg.refl w9 none).alloc (.cells #[.int .u32 t, .bool nd] 80))
            have L9 := Lib.hid (heap_alloc_last w9 (.cells #[.int .u32 t, .bool nd] 80))
            refine (seen_insert (w9.alloc (.cells #[.int .u32 t, .bool nd] 80)) (p + 1) _ (rest U t) (O9.out.kept A9.out (Classical.em _)) (by simp; omega) (by omega) w9.heap.size (t, nd) ?l1 ?l2 ?l3).mono ?_
            case l1 =>
              intro j u hu
              rw [Nat.zero_add, cell_of_row _ _ _ _ _ _ L9.out]
              rw [← hu]; simp [flat]
            case l2 => exact ⟨_, L9.out, rfl⟩
            case l3 =>
              rw [B9.out]
              intro e
              have := (QG.out _ e).2
              omega
            rintro e wb ⟨v', rfl, hO, hC, hob⟩
            have CB := Lib.hid (show Chg wr wb (vs kk).ownBlock from by
              rw [B9.out] at hC
              exact C9.out.trans ((A9.out.any _).trans hC))
            have FR := Lib.hid (D.out.frame CB.out (fun g e => (QG.out g e).1)).2.2.2
            have s1 := FR.out.cell hkk
            have s2 := FR.out.frozen kk
            have DP := Lib.hid (D.out.put KK.out CB.out hO (by
              rcases hob with h | h
              · exact .inl (h.trans B9.out)
              · exact .inr ⟨_, h, by simp; omega⟩))
            have RTb := Lib.hid (show (wb.setCell ⟨p, kk, none⟩ v').heap[w6.heap.size]? = some (.cells #[.bool TT.hit, .bool TT.back, .int .i64 TT.cyc] 38 (0, 0)) by
              rw [heap_setCell_other _ _ _ _ (by show w6.heap.size ≠ p; omega), hC.block _ (by simp; omega) (fun e => by
                rw [B9.out] at e
                have := (QG.out _ e.symm).2
                omega), A9.out.block _ hq9 (by simp)]
              exact RT9.out)
            obtain ⟨A3, c3, hv3⟩ := own_len hO
            rw [List.length_cons] at hv3
            subst hv3
            clear hO hC hob CB C9 RT9 RN9 n0 n1 O9 B9 A9 L9
            go_upto_region 22 with (fail)
            clear s1 s2 FR
            generalize hvs2 : (fun j => if j = kk then Value.slice A3 ((rest U t).length + 1) c3 else vs j) = vs2 at *
            have VK := Lib.hid (show vs2 kk = .slice A3 ((rest U t).length + 1) c3 by rw [← hvs2]; simp)
            clear hvs2
            generalize wb.setCell ⟨p, kk, none⟩ (.slice A3 ((rest U t).length + 1) c3) = w10 at *
            have HTT := Lib.hid (show TT.hit = hb by
              rw [HT.out, HH.out]
              unfold farT
              by_cases h : isHit s.W U t
              · rw [if_pos h]; simp [h]
              · rw [if_neg h]; split <;> simp [h])
            have r1 : w10.cell? ⟨p, kk, none⟩ = some (.slice A3 ((rest U t).length + 1) c3) := by rw [← VK.out]; exact DP.out.sets.cell hkk
            have m0 : w10.cell? ⟨w6.heap.size, 0, none⟩ = some (.bool hb) := by rw [cell_of_row _ _ _ _ _ _ RTb.out, ← HTT.out]; rfl
            have g1 : w10.cell? ⟨w.heap.size, 1, none⟩ = some (.int .i64 s.W) := DP.out.row.2.1
            go_cut [107] from 96 to 107 (fun s107 wx => s107 = .bool (!hb && decide (s.W < (rest U t).length + 1)) ∧ ∃ nq, wx = w10.drewN nq)
            case first =>
              cases hb with
              | true =>
                go_quiet (fail)
                go_wp2
                go_meet
                exact ⟨rfl, _, rfl⟩
              | false =>
                by_cases hl : (s.W : Int) < ((rest U t).length : Int) + 1
                · have hl2 := Lib.hid (show decide (s.W < (rest U t).length + 1) = true by simp; omega)
                  go_quiet (fail)
                  go_wp2
                  go_meet
                  exact ⟨by rw [hl2.out]; rfl, _, rfl⟩
                · have hl2 := Lib.hid (show decide (s.W < (rest U t).length + 1) = false by simp; omega)
                  go_quiet (fail)
                  go_wp2
                  go_meet
                  exact ⟨by rw [hl2.out]; rfl, _, rfl⟩
            case rest =>
              obtain ⟨rfl, nq, rfl⟩ := hcut
              have DQ := Lib.hid (DP.out.grow ((Chg.refl w10 none).drewN nq))
              have RQ := Lib.hid (show (w10.drewN nq).heap[w6.heap.size]? = some (.cells #[.bool TT.hit, .bool TT.back, .int .i64 TT.cyc] 38 (0, 0)) from RTb.out)
              have r1 : (w10.drewN nq).cell? ⟨p, kk, none⟩ = some (.slice A3 ((rest U t).length + 1) c3) := by rw [← VK.out]; exact DQ.out.sets.cell hkk
              have g1 : (w10.drewN nq).cell? ⟨w.heap.size, 1, none⟩ = some (.int .i64 s.W) := DQ.out.row.2.1
              clear DP RTb m0
              generalize w10.drewN nq = w11 at *
              obtain ⟨cl, hcl⟩ : ∃ cl : Bool, cl = (!hb && decide (s.W < (rest U t).length + 1)) := ⟨_, rfl⟩
              rw [← hcl]
              have HC := Lib.hid hcl
              clear hcl
              go_upto_if 107 with (fail)
              go_cut [] from 108 to 114 (fun wx => Hid (Pd w wx p s us k (far s us (k + 1)) u7 vs2 ∧ wx.heap[w6.heap.size]? = some (.cells #[.bool TT.hit, .bool TT.back, .int .i64 TT.cyc] 38 (0, 0))))
              case first =>
                have FK := Lib.hid (show put (far s us k) kk ((t, nd) :: rest U t) kk = (t, nd) :: rest U t from put_same _ _ _)
                cases cl with
                | true =>
                  obtain ⟨hb0, hl0⟩ : hb = false ∧ s.W < (rest U t).length + 1 := by
                    have := HC.out
                    cases hb with
                    | true => simp at this
                    | false => exact ⟨rfl, by simpa using this.symm⟩
                  subst hb0
                  obtain ⟨g, cc, e1, hgb, hr, hV, hnc, hm⟩ : ∃ g cap, Value.slice A3 ((rest U t).length + 1) c3 = .slice (some ⟨g, 0, none⟩) ((rest U t).length + 1) cap ∧ p + 1 ≤ g ∧ Row w11 g 80 (cap * 2) ∧ w11.rangeAt g 0 (flat ((t, nd) :: rest U t)) ∧ (rest U t).length + 1 ≤ cap ∧ cap ≤ maxLen := by
                    have := DQ.out.own kk KK.out
                    rw [FK.out, VK.out] at this
                    rcases own_open this with ⟨_, h⟩ | h
                    · cases h
                    · exact h
                  injection e1 with e1 _ e2
                  subst e1 e2
                  obtain ⟨v0, u0⟩ := hr.there (s.W * 2 + 1) 1 (by omega) 0 (by omega)
                  obtain ⟨v0, u1⟩ := Option.isSome_iff_exists.1 v0
                  have DC := Lib.hid (DQ.out.clean KK.out VK.out (W := s.W) (by rw [FK.out]; simp; omega))
                  have RC := Lib.hid (show (w11.setCell ⟨g, s.W * 2 + 1, none⟩ (.bool false)).heap[w6.heap.size]? = some (.cells #[.bool TT.hit, .bool TT.back, .int .i64 TT.cyc] 38 (0, 0)) by
                    rw [heap_setCell_other _ _ _ _ (by
                      show w6.heap.size ≠ g
                      intro e
                      obtain ⟨cs, hcs, _⟩ := hr
                      have := RQ.out
                      rw [e, hcs] at this
                      injection this with this
                      injection this with _ this _
                      cases this)]
                    exact RQ.out)
                  clear hV hr
                  have F := Lib.hid (show Pd w ((w11.setCell ⟨g, s.W * 2 + 1, none⟩ (.bool false)).drew) p s us k (far s us (k + 1)) u7 vs2 ∧ ((w11.setCell ⟨g, s.W * 2 + 1, none⟩ (.bool false)).drew).heap[w6.heap.size]? = some (.cells #[.bool TT.hit, .bool TT.back, .int .i64 TT.cyc] 38 (0, 0)) from by
                    have hno : ¬ isHit s.W U t := by have := HH.out; simpa using this
                    have h1 := DC.out.grow ((Chg.refl _ none).drewN 1)
                    rw [FK.out, put_put] at h1
                    refine ⟨?_, RC.out⟩
                    rw [DX.out.1]
                    unfold seenN
                    rw [if_neg hno]
                    have e : nd = x := by rw [HN.out]; simp
                    rw [e] at h1
                    exact h1)
                  go_wp2_with fail
                  go_region
                  go_wp2
                  go_meet
                  exact F
                | false =>
                  have F := Lib.hid (show Pd w w11 p s us k (far s us (k + 1)) u7 vs2 ∧ w11.heap[w6.heap.size]? = some (.cells #[.bool TT.hit, .bool TT.back, .int .i64 TT.cyc] 38 (0, 0)) from by
                    refine ⟨?_, RQ.out⟩
                    rw [DX.out.1]
                    unfold seenN
                    by_cases h : isHit s.W U t
                    · rw [if_pos h]
                      have e : nd = (x || dirtyAt U (seek U t)) := by rw [HN.out, HH.out]; simp [h]
                      have := DQ.out
                      rw [e] at this
                      exact this
                    · rw [if_neg h]
                      have e : nd = x := by rw [HN.out, HH.out]; simp [h]
                      have hl : ¬ s.W < (rest U t).length + 1 := by
                        have h1 := HC.out
                        rw [HH.out] at h1
                        simpa [h] using h1
                      have := DQ.out
                      rw [e] at this
                      unfold clean
                      rw [if_neg (by simpa using hl)]
                      exact this)
                  go_wp2
                  go_meet
                  exact F
              case rest =>
                obtain ⟨w12, e12⟩ : ∃ X, X = wc := ⟨_, rfl⟩
                subst e12
                have DZ := Lib.hid hcut.out.1
                have RZ := Lib.hid hcut.out.2
                have m0 : w12.cell? ⟨w6.heap.size, 0, none⟩ = some (.bool TT.hit) := by rw [cell_of_row _ _ _ _ _ _ RZ.out]; rfl
                have m1 : w12.cell? ⟨w6.heap.size, 1, none⟩ = some (.bool TT.back) := by rw [cell_of_row _ _ _ _ _ _ RZ.out]; rfl
                have m2 : w12.cell? ⟨w6.heap.size, 2, none⟩ = some (.int .i64 TT.cyc) := by rw [cell_of_row _ _ _ _ _ _ RZ.out]; rfl
                have DC := Lib.hid (show costs s (fun _ => []) us (k + 1) = costs s (fun _ => []) us k ++ tcells TT by rw [DX.out.2, HT.out])
                have TN := Lib.hid (fun (j : Nat) (u : Value) (hu : (tcells TT)[j]? = some u) => show (w12.alloc (.cells #[.bool TT.hit, .bool TT.back, .int .i64 TT.cyc] 38)).cell? ((⟨w12.heap.size, 0, none⟩ : Addr).add j) = some u by
                  rw [Addr.add_mid, Nat.zero_add, cell_of_row _ _ _ _ _ _ (heap_alloc_last w12 (.cells #[.bool TT.hit, .bool TT.back, .int .i64 TT.cyc] 38))]
                  show (tcells TT).toArray[j]? = some u
                  rw [List.getElem?_toArray]; exact hu)
                have DA := Lib.hid (DZ.out.grow ((Chg.refl w12 none).alloc (.cells #[.bool TT.hit, .bool TT.back, .int .i64 TT.cyc] 38)))
                have hps12 : p + 1 ≤ w12.heap.size := DZ.out.size
                clear hcut r1 g1 DQ RQ HC
                go_wp2_with (at_builtin; refine wpList_append_own _ rfl (.tmp 115) (.tmp 117) 32 rfl (p + 1) 38 i0 (.agg #[.bool false, .bool false, .int .i64 0]) 3 16 Tryd.underlying32 hi hz0 hz1 hz2 rfl (by decide) _ k (costs s (fun _ => []) us k) rfl DA.out.out ⟨w12.heap.size, 0, none⟩ 1 1 (tcells TT) rfl rfl TN.out ?qa ?qb ?qc ?qd ?_)
                case qa =>
                  intro u hu
                  simp only [tcells, List.mem_cons, List.not_mem_nil, or_false] at hu
                  rcases hu with rfl | rfl | rfl <;> rfl
                case qb => simp only [maxLen]; omega
                case qc => omega
                case qd => first | omega | (simp; omega) | exact DA.out.size
                intro v7 w7 hown hg hnil
                have F7 := Lib.hid (show ∃ vs, Pd w w7 p s us (k + 1) (far s us (k + 1)) v7 vs from ⟨_, DA.out.next hg (by rw [DC.out]; exact hown)⟩)
                clear hown hg hnil
                go_wp2
                go_roundw
                case rel => exact ⟨k + 1, by omega, by go_num, F7⟩
                case measure => simp [intOf]; omega
    · go_wp2
      go_ret2
      obtain rfl : k = us.length := by omega
      obtain ⟨vs, D⟩ := I.out
      refine ⟨_, rfl, ?_, D.chg⟩
      have := D.out
      refine ⟨this.1, ?_⟩
      rcases this.2 with h | ⟨g, cap, cur, h1, h2, h3⟩
      · exact .inl h
      · exact .inr ⟨g, cap, cur, h1, by have := D.pos; omega, h3⟩
end Go.Proofs.YtlmgiejemdifkaaDoor.Ca
