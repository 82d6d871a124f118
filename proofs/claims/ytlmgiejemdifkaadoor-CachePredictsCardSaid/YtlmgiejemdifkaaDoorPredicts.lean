/- CachePredicts: the walk. -/
import Derived.Test.YtlmgiejemdifkaaDoorMarks
namespace Go.Proofs.YtlmgiejemdifkaaDoor.Ca
open Go.RowKit Go.Proofs.YtlmgiejemdifkaaDoor.Kit
set_option linter.unusedSimpArgs false
set_option linter.unusedVariables false

set_option maxRecDepth 100000 in
set_option maxHeartbeats 8000000 in
theorem predicts_walk (w : World) (hT : TabAt w) (S W L : Int) (hS : i64ok S) (hL : i64ok L) (A0 : Option Addr) (n0 cap0 : Nat) (us0 : List Us) (hn0 : us0.length = n0) (h1 : Ru w (.slice A0 n0 cap0) us0) (hcap : n0 ≤ cap0) :
    Calls Tryd.prog 8 #[.agg #[.int .i64 S, .int .i64 W, .int .i64 L], .slice A0 n0 cap0] w fun e w' => e = .returned (.bool true) ∧ Chg w w' none := by
  have HT := Lib.hid hT
  have C1 := Lib.hid ((Chg.refl w none).alloc (.cells #[.int .i64 S, .int .i64 W, .int .i64 L] 23))
  have R1 := Lib.hid (heap_alloc_last w (.cells #[.int .i64 S, .int .i64 W, .int .i64 L] 23))
  have hfew0 : n0 ≤ 17592186043904 := by have := h1.few; omega
  have CUT := Lib.hid (show n0 ≤ 300 → ∃ us : List Us, us.length = n0 ∧ Ru w (.slice A0 n0 cap0) us from fun _ => ⟨us0, hn0, h1⟩)
  have CUT2 := Lib.hid (show 300 < n0 → ∃ us : List Us, us.length = 300 ∧ Ru w (.slice A0 300 cap0) us from fun h => ⟨us0.take 300, by rw [List.length_take]; omega, by subst hn0; exact h1.take 299 (by omega)⟩)
  clear hT hn0 h1
  go_enter Tryd.func8, Tryd.ntmps8
  go_upto_if 36 with (fail)
  go_cut [1] from 37 to 38 (fun s1 wx => (∃ n, n ≤ 300 ∧ n ≤ cap0 ∧ s1 = .slice A0 n cap0 ∧ Hid (∃ us : List Us, us.length = n ∧ Ru w (.slice A0 n cap0) us)) ∧ wx = w.alloc (.cells #[.int .i64 S, .int .i64 W, .int .i64 L] 23))
  case first =>
    by_cases h3 : n0 ≤ 300
    · have hx : ¬ (300 : Int) < (n0 : Int) := by omega
      have HC := Lib.hid (CUT.out h3)
      go_wp2
      go_meet
      exact ⟨⟨n0, h3, hcap, rfl, HC⟩, rfl⟩
    · have hx : (300 : Int) < (n0 : Int) := by omega
      have HC := Lib.hid (CUT2.out (by omega))
      have h33 : (300 : Int) ≤ (cap0 : Int) := by omega
      go_wp2
      go_meet
      exact ⟨⟨300, by omega, by omega, rfl, HC⟩, rfl⟩
  case rest =>
    obtain ⟨⟨n, hn, hnc, rfl, HU⟩, rfl⟩ := hcut
    generalize decide ((300 : Int) < (n0 : Int)) = d36
    obtain ⟨us, hul, hru⟩ := HU.out
    have RU := Lib.hid hru
    have UL := Lib.hid hul
    clear CUT CUT2 hcap hul hru HU hfew0
    obtain ⟨i0, hi0, hz0, hz1, hz2⟩ := info_parts info36'
    obtain ⟨w1, hw1⟩ : ∃ w1, w1 = w.alloc (.cells #[.int .i64 S, .int .i64 W, .int .i64 L] 23) := ⟨_, rfl⟩
    rw [← hw1] at C1 R1 ⊢
    have hs1 := Lib.hid (show w1.heap.size = w.heap.size + 1 by rw [hw1]; simp)
    clear hw1
    go_wp2_with (with_reducible (refine wpList_make_full w1 rfl (.tmp 41) (.tmp 41) 24 rfl w1.heap.size 36 i0 (.agg #[.int .u32 0, .bool false]) 2 Tryd.underlying24 hi0 hz0 hz1 _ _ ((n : Int) + 8) ((n : Int) + 8) (n + 8) rfl rfl (by omega) (by omega) ?mb ?mm (Nat.le_refl _) ?_))
    case mb => have : i0.bytes = 8 := hz2; rw [this]; omega
    case mm => unfold maxLen; omega
    intro w2 hown hg2
    rw [made_flat] at hown
    have K2 := Lib.hid (show Kp w w2 w1.heap.size S W L (List.replicate (n + 8) (0, false)) from
      ⟨C1.out.trans hg2, (hg2.block _ (by rw [hs1.out]; omega) (by simp)).trans R1.out, InB.made hown, by rw [hs1.out]; omega⟩)
    generalize w1.heap.size = p at *
    clear hown hg2 C1 R1 hs1
    have hcs : (flat us).length = n * 2 := by rw [flat_length, UL.out]; omega
    have hsrc : 0 < n → ∃ a, A0 = some a ∧ ∀ j v, (flat us)[j]? = some v → w2.cell? (a.add j) = some v := fun h0 => by
      have hr2 := RU.out.kept K2.out.chg
      obtain ⟨b, off, e, _⟩ := hr2.at_ 0 (by rw [UL.out]; exact h0)
      refine ⟨_, e, fun j v hv => ?_⟩
      have hj := (List.getElem?_eq_some_iff.1 hv).1
      rw [flat_length] at hj
      obtain ⟨b2, off2, e2, c0, c1⟩ := hr2.at_ (j / 2) (by omega)
      rw [e] at e2
      injection e2 with e2
      injection e2 with e2 e3 _
      subst e2 e3
      obtain ⟨f1, f2⟩ := flat_even us (j / 2) (by omega)
      rw [Addr.add_mid]
      by_cases h2 : j % 2 = 0
      · rw [show 2 * (j / 2) = j by omega, hv] at f1
        injection f1 with f1
        rw [f1, show off + j = off + j / 2 * 2 by omega]; exact c0
      · rw [show 2 * (j / 2) + 1 = j by omega, hv] at f2
        injection f2 with f2
        rw [f2, show off + j = off + j / 2 * 2 + 1 by omega]; exact c1
    have hrow2 : w2.heap[p]? = some (.cells (flat (List.replicate (n + 8) ((0 : Nat), false))).toArray 36 (0, 0)) := K2.out.inb
    have hsz36 : (Tryd.prog.info? 36).map (·.size) = some 2 := by rw [hi0]; exact congrArg some hz1
    have hcl : (flat us).length ≤ (flat (List.replicate (n + 8) ((0 : Nat), false))).length := by rw [hcs, flat_length, List.length_replicate]; omega
    have hn8 : n ≤ n + 8 := by omega
    go_wp2_with (with_reducible (refine wpList_copy_any w2 rfl (.tmp 43) (.tmp 44) 24 24 rfl 36 2 Tryd.underlying24 hsz36 p (n + 8) (n + 8) A0 n cap0 rfl rfl (flat (List.replicate (n + 8) ((0 : Nat), false))) 36 hrow2 hn8 (flat us) hcs hsrc hcl (flat_one us) ?_))
    intro w3 hrow hg3
    have e3 : flat us ++ (flat (List.replicate (n + 8) ((0 : Nat), false))).drop (n * 2) = flat (us ++ mks 0) := by
      rw [flat_append]
      congr 1
      rw [← List.replicate_append_replicate, flat_append, List.drop_append_of_le_length (by rw [flat_length, List.length_replicate]; omega), List.drop_of_length_le (by rw [flat_length, List.length_replicate]; omega)]
      rfl
    rw [e3] at hrow
    have hp2 := K2.out.hp
    have K3 := Lib.hid (show Kp w w3 p S W L (us ++ mks 0) from
      ⟨K2.out.chg.trans_new hg3 (Nat.le_of_lt hp2), (hg3.block _ (by have := K2.out.lt; omega) (fun e => by injection e with e; omega)).trans K2.out.box, hrow, hp2⟩)
    clear e3 hrow hg3 hsrc hcs hrow2 K2 hsz36 hcl hn8
    go_wp2_with fail
    go_loopw [6] (fun i wr => ∃ k : Nat, k ≤ 8 ∧ i = .int .i64 k ∧ Hid (Kp w wr p S W L (us ++ mks k))) (fun i _ => 8 - (intOf i).toNat)
    case atStart => exact ⟨0, by omega, rfl, K3⟩
    case round =>
      obtain ⟨k, hk, rfl, KK⟩ := hrel
      clear K3
      by_cases h8 : k < 8
      · obtain ⟨⟨a0, a1⟩, a2, a3⟩ := KK.out.inb.at_ (j := n + k) (by rw [List.length_append, mks_len, UL.out]; omega)
        have hwr : IntKind.u32.wrap ((71 : Int) + k) = ((71 + k : Nat) : Int) := by rw [IntKind.wrap_u32]; omega
        have K4 := Lib.hid (show Kp w ((wr.setCell ⟨p, (n + k) * 2, none⟩ (.int .u32 (71 + k : Nat))).setCell ⟨p, (n + k) * 2 + 1, none⟩ (.bool false)) p S W L (us ++ mks (k + 1)) by
          have := KK.out.set (n + k) (71 + k) false
          rw [← UL.out, List.set_append_right _ _ (by omega), Nat.add_sub_cancel_left, mks_set h8] at this
          rw [UL.out] at this
          exact this)
        go_wp2
        go_roundw
        case rel => exact ⟨k + 1, by omega, by first | rfl | go_num, K4⟩
        case measure => simp [intOf]; omega
      · obtain rfl : k = 8 := by omega
        have hul := UL.out
        have PR := Lib.hid (fun X (hK : Kp w X p S W L (us ++ mks 8)) => show Ru X (.slice (some ⟨p, 0, none⟩) n (n + 8)) us by
          have := hK.inb.ru n (n + 8) (by rw [List.length_append]; omega) (by omega) (unth_lt (fun u hu => by
            rcases List.mem_append.1 hu with h | h
            · obtain ⟨k, hk, e⟩ := List.mem_iff_getElem.1 h
              have := RU.out.okay k
              unfold unth at this
              rw [List.getD_eq_getElem?_getD, List.getElem?_eq_getElem hk, e] at this
              exact this
            · exact mks_lt 8 u h))
          rw [← hul, List.take_left' rfl] at this
          rw [hul] at this
          exact this)
        obtain ⟨n1, ts1, hTl⟩ := Tl.ex S W L us
        obtain ⟨tt, htn, hts, htl⟩ := hTl.tt
        subst htn hts
        have TL := Lib.hid hTl
        have PC := Lib.hid (fun X (hC : Chg w X none) v (hR : Ru X v us) => predict_all X (HT.out.kept hC (by simp)) S W L hS hL v us hR (by omega) TL.out)
        have RC := Lib.hid (fun X A c (hc : us.length ≤ c) (hR : Ru X (.slice A us.length c) us) => rpredict_all X S W L hS hL A c us hR (by omega) hc TL.out)
        obtain ⟨n3, ts3, hTl3⟩ := Tl.ex S W L (trs us n)
        obtain ⟨tu, htn, hts, htl3⟩ := hTl3.tt
        subst htn hts
        have TL3 := Lib.hid hTl3
        have hul3 : (trs us n).length = n := by rw [trs_len, hul]
        rw [hul3] at htl3
        have PC3 := Lib.hid (fun X (hC : Chg w X none) v (hR : Ru X v (trs us n)) => predict_all X (HT.out.kept hC (by simp)) S W L hS hL v (trs us n) hR (by omega) TL3.out)
        have RC3 := Lib.hid (fun X A c (hc : n ≤ c) (hR : Ru X (.slice A n c) (trs us n)) => show Calls Tryd.prog 29 #[.agg #[.int .i64 S, .int .i64 W, .int .i64 L], .slice A n c] X fun e w' => ∃ v', e = .returned (.tuple #[v', .bool (mayB S W L)]) ∧ w'.ownsRow X.heap.size 38 3 v' tu.length (trows tu) ∧ Chg X w' none by
          have := rpredict_all X S W L hS hL A c (trs us n) (by rw [hul3]; exact hR) (by omega) (by omega) TL3.out
          rw [hul3] at this
          exact this)
        have PR3 := Lib.hid (fun X (hK : Kp w X p S W L (trs us n ++ mks 8)) => show Ru X (.slice (some ⟨p, 0, none⟩) n (n + 8)) (trs us n) by
          have := hK.inb.ru n (n + 8) (by rw [List.length_append]; omega) (by omega) (unth_lt (fun u hu => by
            rcases List.mem_append.1 hu with h | h
            · exact trs_lt RU.out.okay n u h
            · exact mks_lt 8 u h))
          rw [show (trs us n ++ mks 8).take n = trs us n by rw [List.take_append_of_le_length (by omega), List.take_of_length_le (by omega)]] at this
          exact this)
        obtain ⟨wx1, wy1, hW1, hW2⟩ := worst_all S W L hS hL
        have WS1 := Lib.hid hW1
        have WS2 := Lib.hid hW2
        rw [hul] at RC htl
        clear hul hTl hTl3 hul3 hW1 hW2
        generalize hmb : mayB S W L = mb at *
        clear hmb
        have hnn8 : (n : Int) ≤ (n : Int) + 8 := by omega
        have A0c := Lib.hid (show Chg wr wr.drew none from (Chg.refl wr none).drewN 1)
        have KA := Lib.hid (KK.out.grow A0c.out)
        obtain ⟨d0, d1, d2⟩ := KK.out.cells
        have P1 := Lib.hid (PC.out _ KA.out.chg _ (PR.out _ KA.out))
        go_upto_region 9 with (fail)
        go_region_law (refine step_call rfl 28 #[.agg #[.int .i64 S, .int .i64 W, .int .i64 L], .slice (some ⟨p, 0, none⟩) n (n + 8)] (by simp [execOp, resolve, invoke, go_sem]) P1.out ?_; rintro e w4 ⟨va, rfl, ho, hC⟩; refine ⟨_, rfl, ?_⟩)
        have K4 := Lib.hid (KA.out.grow hC)
        have OA := Lib.hid (show Ot w4 wr.drew.heap.size va tt from ho)
        have HA := Lib.hid (show ∀ k, va.ownBlock = some k → p < k ∧ k < w4.heap.size from fun k e => by
          have h1 := OA.out.lt k e
          have h2 := KA.out.lt
          exact ⟨Nat.lt_of_lt_of_le h2 h1.1, h1.2⟩)
        obtain ⟨Aa, ca, hva⟩ := row_slice ho
        clear ho hC P1 KK KA A0c d0 d1 d2
        generalize wr.drew.heap.size = ba at *
        subst hva
        have A0c := Lib.hid (show Chg w4 w4.drew none from (Chg.refl w4 none).drewN 1)
        have KA := Lib.hid (K4.out.grow A0c.out)
        obtain ⟨d0, d1, d2⟩ := K4.out.cells
        have P1 := Lib.hid (PC.out _ KA.out.chg _ (PR.out _ KA.out))
        go_upto_region 10 with (fail)
        go_region_law (refine step_call rfl 28 #[.agg #[.int .i64 S, .int .i64 W, .int .i64 L], .slice (some ⟨p, 0, none⟩) n (n + 8)] (by simp [execOp, resolve, invoke, go_sem]) P1.out ?_; rintro e w5 ⟨vt, rfl, ho, hC⟩; refine ⟨_, rfl, ?_⟩)
        have K5 := Lib.hid (KA.out.grow hC)
        have OA := Lib.hid (OA.out.kept (A0c.out.trans hC) (Classical.em _))
        have OT := Lib.hid (show Ot w5 w4.drew.heap.size vt tt from ho)
        have HT2 := Lib.hid (show ∀ k, vt.ownBlock = some k → w4.heap.size ≤ k ∧ k < w5.heap.size from fun k e => OT.out.lt k e)
        obtain ⟨At, ct, hvt⟩ := row_slice ho
        have Q4s := Lib.hid (show p < w4.heap.size from K4.out.lt)
        have S45 := Lib.hid (show w4.heap.size ≤ w5.heap.size from (A0c.out.trans hC).size)
        clear ho hC P1 K4 KA A0c d0 d1 d2
        generalize w4.drew.heap.size = bt at *
        subst hvt
        obtain ⟨n2, ts2, hT2⟩ := Tl.ex 1 1 16 [(7, false), (7, false)]
        have AW := Lib.hid ((Chg.refl w5 none).alloc (.cells #[.int .u32 7, .bool false, .int .u32 7, .bool false] 36))
        have RW := Lib.hid (show Ru (w5.alloc (.cells #[.int .u32 7, .bool false, .int .u32 7, .bool false] 36)) (.slice (some ⟨w5.heap.size, 0, none⟩) 2 2) [(7, false), (7, false)] by
          have hh := heap_alloc_last w5 (.cells #[.int .u32 7, .bool false, .int .u32 7, .bool false] 36)
          have : InB (w5.alloc (.cells #[.int .u32 7, .bool false, .int .u32 7, .bool false] 36)) w5.heap.size [(7, false), (7, false)] := hh
          exact this.ru 2 2 (by decide) (by decide) (unth_lt (by simp)))
        have P1 := Lib.hid (predict_all _ (HT.out.kept (K5.out.chg.trans AW.out) (by simp)) 1 1 16 (by decide) (by decide) _ _ RW.out (by decide) hT2)
        clear hT2
        generalize mayB 1 1 16 = mb2 at *
        go_wp2_with fail
        refine P1.out.mono ?_
        rintro e w6 ⟨v6, rfl, _, hC⟩
        have K6 := Lib.hid (K5.out.grow (AW.out.trans hC))
        have OA := Lib.hid (OA.out.kept (AW.out.trans hC) (Classical.em _))
        have OT := Lib.hid (OT.out.kept (AW.out.trans hC) (Classical.em _))
        have S6 := Lib.hid (show w5.heap.size ≤ w6.heap.size from (AW.out.trans hC).size)
        clear hC P1 AW RW K5
        obtain ⟨d0, d1, d2⟩ := K6.out.cells
        have P1 := Lib.hid (RC.out w6 A0 cap0 hnc (RU.out.kept K6.out.chg))
        go_wp2_with fail
        refine P1.out.mono ?_
        rintro e w7 ⟨vb, rfl, ho, hC⟩
        have K7 := Lib.hid (K6.out.grow hC)
        have OA := Lib.hid (OA.out.kept hC (Classical.em _))
        have OT := Lib.hid (OT.out.kept hC (Classical.em _))
        have OB := Lib.hid (show Ot w7 w6.heap.size vb tt from ho)
        have HB := Lib.hid (show ∀ k, vb.ownBlock = some k → w5.heap.size ≤ k from fun k e => by have := (OB.out.lt k e).1; have := S6.out; omega)
        obtain ⟨Ab, cb, hvb⟩ := row_slice ho
        have Q45 := Lib.hid (show w4.heap.size ≤ w5.heap.size from S45.out)
        clear ho hC P1 K6 d0 d1 d2 S6 S45
        generalize w6.heap.size = bb at *
        generalize w5.heap.size = q5 at *
        generalize w4.heap.size = q4 at *
        subst hvb
        have hx0 : ((cond mb 0 30 : Int) == 0) = mb := by cases mb <;> rfl
        have hx1 : ((cond mb 0 30 : Int) == 30) = !mb := by cases mb <;> rfl
        have hx2 : ((!mb) == mb) = false := by cases mb <;> rfl
        have hx3 : (mb != mb) = false := by cases mb <;> rfl
        generalize (cond mb 0 30 : Int) = er at *
        go_wp2_with fail
        go_loopw [13] (fun i wr => ∃ k : Nat, k ≤ 8 ∧ i = .int .i64 k ∧ wr = w7) (fun i _ => 8 - (intOf i).toNat)
        case atStart => exact ⟨0, by omega, rfl, rfl⟩
        case round =>
          obtain ⟨k, hk, rfl, rfl⟩ := hrel
          clear hx0 hx1 hx2 hx3
          by_cases h8 : k < 8
          · obtain ⟨⟨a0, a1⟩, _⟩ := K7.out.inb.at_ (j := n + k) (by rw [List.length_append, mks_len, UL.out]; omega)
            rw [← UL.out, unth_app_r, mks_at h8, UL.out] at a0 a1
            have hwr : IntKind.u32.wrap ((71 : Int) + k) = ((71 + k : Nat) : Int) := by rw [IntKind.wrap_u32]; omega
            have hpc : ((71 + k : Nat) : Int) = (71 : Int) + (k : Int) := by omega
            go_wp2
            go_roundw
            case rel => exact ⟨k + 1, by omega, by first | rfl | go_num, by first | rfl | trivial⟩
            case measure => simp [intOf]; omega
          · obtain rfl : k = 8 := by omega
            rw [show ((8 : Nat) : Int) = 8 from rfl]
            have NE := Lib.hid (show ∀ g, (Value.slice Aa tt.length ca).ownBlock = some g → p < g ∧ (Value.slice At tt.length ct).ownBlock ≠ some g ∧ (Value.slice Ab tt.length cb).ownBlock ≠ some g from fun g e =>
              ⟨(HA.out g e).1, fun e2 => by have := (HA.out g e).2; have := (HT2.out g e2).1; omega, fun e2 => by have := (HA.out g e).2; have := HB.out g e2; have := Q45.out; omega⟩)
            have I3 := Lib.hid (show L3 w wr p S W L (us ++ mks 8) ba (.slice Aa tt.length ca) bt (.slice At tt.length ct) bb (.slice Ab tt.length cb) tt (mk M7 0 tt) from ⟨K7.out, OA.out, OT.out, OB.out, NE.out⟩)
            have TT2 := Lib.hid (fun g e => HT2.out g e)
            have BB2 := Lib.hid (fun g e => HB.out g e)
            have Q4p := Lib.hid Q4s.out
            clear K7 OA OT OB HA HT2 HB
            have hff : decide (tt.length < tt.length) = false := by simp
            go_wp2_with fail
            obtain ⟨w8, e8⟩ : ∃ X, X = wr := ⟨_, rfl⟩
            subst e8
            go_loopw [14] (fun i wr => ∃ k : Nat, k ≤ tt.length ∧ i = .int .i64 k ∧ Hid (L3 w wr p S W L (us ++ mks 8) ba (.slice Aa tt.length ca) bt (.slice At tt.length ct) bb (.slice Ab tt.length cb) tt (mk M7 k tt))) (fun i _ => tt.length - (intOf i).toNat)
            case atStart => exact ⟨0, by omega, rfl, I3⟩
            case round =>
              obtain ⟨k, hk, rfl, LL⟩ := hrel
              clear I3
              by_cases hlt : k < tt.length
              · obtain ⟨g, cap, e1, hg0, ⟨c0, c1, c2⟩, ⟨f0, f1, f2⟩, SET⟩ := LL.out.oa.at_ (j := k) (by rw [mk_len hk]; exact hlt)
                obtain ⟨gb, capb, e2, hgb0, ⟨b0, b1, b2⟩, _, _⟩ := LL.out.ob.at_ (j := k) hlt
                obtain ⟨⟨q0, q1⟩, _⟩ := LL.out.kp.inb.at_ (j := k) (by rw [List.length_append, mks_len, UL.out]; omega)
                obtain ⟨ab, ao, e3, r0, r1⟩ := (RU.out.kept LL.out.kp.chg).at_ k (by rw [UL.out]; omega)
                rw [mk_at hlt] at c0 c1 c2
                rw [unth_app_l (by rw [UL.out]; omega)] at q0 q1
                rw [mk_len hk] at e1
                injection e1 with e1 _ e1c
                injection e2 with e2 _ e2c
                have AD := Lib.hid (fun nq => show Chg wr (wr.drewN nq) none from (Chg.refl wr none).drewN nq)
                have F := Lib.hid (fun nq => Lib.hid (show L3 w ((((wr.drewN nq).setCell ⟨g, k * 3, none⟩ (.bool false)).setCell ⟨g, k * 3 + 1, none⟩ (.bool false)).setCell ⟨g, k * 3 + 2, none⟩ (.int .i64 (-7))) p S W L (us ++ mks 8) ba (.slice Aa tt.length ca) bt (.slice At tt.length ct) bb (.slice Ab tt.length cb) tt (mk M7 (k + 1) tt) by
                  have hG := LL.out.grow (AD.out nq)
                  obtain ⟨g9, cap9, e9, _, _, _, S9⟩ := hG.oa.at_ (j := k) (by rw [mk_len hk]; exact hlt)
                  have e9' := e9
                  rw [e1] at e9'
                  injection e9' with e9' _ _
                  injection e9' with e9'
                  injection e9' with e9' _ _
                  subst e9'
                  have := hG.set (by rw [e1]) k M7 (S9 M7)
                  rw [mk_set hlt] at this
                  exact this))
                subst e1 e2 e3 e1c e2c
                have hkn : k < n := by omega
                clear SET
                generalize tnth tt k = tk at *
                generalize unth us k = uk at *
                go_wp2_with fail
                go_quiet (fail)
                go_wp2
                go_roundw
                case rel => exact ⟨k + 1, by omega, by first | rfl | go_num, F.out _⟩
                case measure => simp [intOf]; omega
              · obtain rfl : k = tt.length := by omega
                rw [mk_full] at LL
                have NF := Lib.hid (show ∀ g, (Value.slice At tt.length ct).ownBlock = some g → p < g ∧ (Value.slice Aa tt.length ca).ownBlock ≠ some g ∧ (Value.slice Ab tt.length cb).ownBlock ≠ some g from fun g e => by
                  have h1 := TT2.out g e
                  exact ⟨by have := Q4p.out; omega, fun e2 => (LL.out.ne g e2).2.1 e, fun e2 => by have := BB2.out g e2; omega⟩)
                have I4 := Lib.hid (L4.first LL.out NF.out)
                have hl64 : tt.length ≤ 300 := by omega
                obtain ⟨i3, hi3, hy0, hy1, hy2⟩ := info_parts info38'
                clear LL NF
                go_wp2_with fail
                obtain ⟨w9, e9⟩ : ∃ X, X = wr := ⟨_, rfl⟩
                subst e9
                go_loopw [15, 16, 17] (fun one far i wx => ∃ k : Nat, k ≤ 64 ∧ i = .int .i64 k ∧ (∃ A c, one = .slice A (tt.length + k) c) ∧ (∃ A c, far = .slice A (tt.length + k) c) ∧ Hid (L4 w wx p S W L (us ++ mks 8) ba (.slice Aa tt.length ca) bt (.slice At tt.length ct) bb (.slice Ab tt.length cb) tt one far k k)) (fun _ _ i _ => 64 - (intOf i).toNat)
                case atStart => exact ⟨0, by omega, rfl, ⟨_, _, rfl⟩, ⟨_, _, rfl⟩, I4⟩
                case round =>
                  obtain ⟨k, hk, rfl, ⟨Ao, co, rfl⟩, ⟨Af, cf, rfl⟩, LL⟩ := hrel
                  clear I4
                  by_cases hlt : k < 64
                  · have KA := Lib.hid ((Chg.refl wr none).alloc (.cells #[.bool false, .bool false, .int .i64 (-7)] 38))
                    have L1 := Lib.hid (LL.out.grow KA.out)
                    have o1 := own_len2 L1.out.oo
                    rw [List.length_replicate] at o1
                    have hM1 : ∀ u ∈ trows [M7], u.oneCell' = true := by decide
                    have hM2 : ∀ u ∈ trows [M8], u.oneCell' = true := by decide
                    have q1 : tt.length + k + 1 ≤ maxLen := by unfold maxLen; omega
                    have q2 : (tt.length + k + 1) * 16 ≤ 140737488355328 := by omega
                    have n1 : ∀ j u, (trows [M7])[j]? = some u → (wr.alloc (.cells #[.bool false, .bool false, .int .i64 (-7)] 38)).cell? ((⟨wr.heap.size, 0, none⟩ : Addr).add j) = some u := World.news_of_block (heap_alloc_last wr (.cells #[.bool false, .bool false, .int .i64 (-7)] 38))
                    have OO := Lib.hid o1
                    have HM := Lib.hid (And.intro hM1 hM2)
                    have NN := Lib.hid n1
                    clear o1 hM1 hM2 n1
                    go_wp2_with (at_builtin; refine wpList_append_two _ rfl (.tmp 158) (.tmp 160) 32 rfl 0 38 i3 (.agg #[.bool false, .bool false, .int .i64 0]) 3 16 Tryd.underlying32 hi3 hy0 hy1 hy2 rfl (by decide) _ (tt.length + k) (trows (List.replicate (tt.length + k) M7)) rfl OO.out ⟨wr.heap.size, 0, none⟩ 1 1 (trows [M7]) rfl rfl NN.out HM.out.1 (by decide) q1 q2 (Nat.zero_le _) ?_)
                    intro one' w10 ho1 ht1
                    have L2 := Lib.hid (L1.out.app1 ht1 ho1)
                    obtain ⟨A1, c1, hv1⟩ := row_slice ho1
                    subst hv1
                    clear ho1 ht1 OO NN KA L1 LL
                    have KA := Lib.hid ((Chg.refl w10 none).alloc (.cells #[.bool false, .bool false, .int .i64 (-8)] 38))
                    have L1 := Lib.hid (L2.out.grow KA.out)
                    have o1 := own_len2 L1.out.of
                    rw [List.length_append, List.length_replicate] at o1
                    have OO := Lib.hid o1
                    have n1 : ∀ j u, (trows [M8])[j]? = some u → (w10.alloc (.cells #[.bool false, .bool false, .int .i64 (-8)] 38)).cell? ((⟨w10.heap.size, 0, none⟩ : Addr).add j) = some u := World.news_of_block (heap_alloc_last w10 (.cells #[.bool false, .bool false, .int .i64 (-8)] 38))
                    have NN := Lib.hid n1
                    clear o1 n1
                    go_wp2_with (at_builtin; refine wpList_append_two _ rfl (.tmp 162) (.tmp 164) 32 rfl 0 38 i3 (.agg #[.bool false, .bool false, .int .i64 0]) 3 16 Tryd.underlying32 hi3 hy0 hy1 hy2 rfl (by decide) _ (tt.length + k) (trows (tt ++ List.replicate k M8)) rfl OO.out ⟨w10.heap.size, 0, none⟩ 1 1 (trows [M8]) rfl rfl NN.out HM.out.2 (by decide) q1 q2 (Nat.zero_le _) ?_)
                    intro far' w11 ho1 ht1
                    have L3x := Lib.hid (L1.out.app2 ht1 ho1)
                    obtain ⟨A2, c2, hv2⟩ := row_slice ho1
                    subst hv2
                    clear ho1 ht1 OO NN KA L1 L2 HM q1 q2
                    go_wp2
                    go_roundw
                    case rel => exact ⟨k + 1, by omega, by first | rfl | go_num, ⟨_, _, rfl⟩, ⟨_, _, rfl⟩, L3x⟩
                    case measure => simp [intOf]; omega
                  · obtain rfl : k = 64 := by omega
                    rw [show ((64 : Nat) : Int) = 64 from rfl]
                    have L5 := Lib.hid LL.out
                    clear LL
                    go_wp2_with fail
                    obtain ⟨wa, ea⟩ : ∃ X, X = wr := ⟨_, rfl⟩
                    subst ea
                    go_loopw [18] (fun i wx => ∃ k : Nat, k ≤ 64 ∧ i = .int .i64 k ∧ wx = wa) (fun i _ => 64 - (intOf i).toNat)
                    case atStart => exact ⟨0, by omega, rfl, rfl⟩
                    case round =>
                      obtain ⟨k, hk, rfl, rfl⟩ := hrel
                      by_cases hlt : k < 64
                      · obtain ⟨g, cap, e1, _, ⟨_, _, c2⟩, _, _⟩ := L5.out.oo.at_ (j := tt.length + k) (by rw [List.length_replicate]; omega)
                        obtain ⟨gb, capb, e2, _, ⟨_, _, b2⟩, _, _⟩ := L5.out.of.at_ (j := tt.length + k) (by rw [List.length_append, List.length_replicate]; omega)
                        rw [tnth_rep (by omega)] at c2
                        rw [tnth_app_r rfl, tnth_rep hlt] at b2
                        rw [List.length_replicate] at e1
                        rw [List.length_append, List.length_replicate] at e2
                        injection e1 with e1 _ e1c
                        injection e2 with e2 _ e2c
                        subst e1 e2 e1c e2c
                        simp only [M7, M8] at c2 b2
                        go_wp2
                        go_roundw
                        case rel => exact ⟨k + 1, by omega, by first | rfl | go_num, by first | rfl | trivial⟩
                        case measure => simp [intOf]; omega
                      · obtain rfl : k = 64 := by omega
                        rw [show ((64 : Nat) : Int) = 64 from rfl]
                        obtain ⟨d0, d1, d2⟩ := L5.out.l3.kp.cells
                        have P1 := Lib.hid (PC.out wr L5.out.l3.kp.chg _ (RU.out.kept L5.out.l3.kp.chg))
                        go_wp2_with fail
                        refine P1.out.mono ?_
                        rintro e w12 ⟨vc, rfl, ho, hC⟩
                        have L6 := Lib.hid (L5.out.grow hC)
                        have OC := Lib.hid (show Ot w12 wr.heap.size vc tt from ho)
                        obtain ⟨Ac, cc, hvc⟩ := row_slice ho
                        subst hvc
                        clear ho hC P1 L5 d0 d1 d2
                        generalize wr.heap.size = bc at *
                        go_wp2_with fail
                        go_loopw [21] (fun i wx => ∃ k nq : Nat, k ≤ tt.length ∧ i = .int .i64 k ∧ wx = w12.drewN nq) (fun i _ => tt.length - (intOf i).toNat)
                        case atStart => exact ⟨0, 0, by omega, rfl, rfl⟩
                        case round =>
                          obtain ⟨k, nq, hk, rfl, rfl⟩ := hrel
                          by_cases hlt : k < tt.length
                          · obtain ⟨g1, q1, e1, _, ⟨c0, c1, c2⟩, _, _⟩ := OC.out.at_ hlt
                            obtain ⟨g2, q2, e2, _, ⟨b0, b1, b2⟩, _, _⟩ := L6.out.l3.ob.at_ hlt
                            obtain ⟨g3, q3, e3, _, ⟨t0, t1, t2⟩, _, _⟩ := L6.out.l3.ot.at_ hlt
                            obtain ⟨g4, q4x, e4, _, ⟨_, _, a2⟩, _, _⟩ := L6.out.l3.oa.at_ (j := k) (by rw [List.length_replicate]; exact hlt)
                            obtain ⟨g5, q5x, e5, _, ⟨_, _, o2⟩, _, _⟩ := L6.out.oo.at_ (j := k) (by rw [List.length_replicate]; omega)
                            rw [tnth_rep hlt] at a2
                            rw [tnth_rep (by omega)] at o2
                            rw [List.length_replicate] at e4 e5
                            injection e1 with e1 _ f1
                            injection e2 with e2 _ f2
                            injection e3 with e3 _ f3
                            injection e4 with e4 _ f4
                            injection e5 with e5 _ f5
                            subst e1 e2 e3 e4 e5 f1 f2 f3 f4 f5
                            simp only [M7] at a2 o2
                            have hb64 : (k : Int) < (tt.length : Int) + 64 := by omega
                            have hb65 : k < tt.length + 64 := by omega
                            generalize tnth tt k = tk at *
                            go_wp2_with fail
                            go_quiet (fail)
                            go_wp2
                            go_roundw
                            case rel => exact ⟨k + 1, _, by omega, by first | rfl | go_num, by first | rfl | trivial⟩
                            case measure => simp [intOf]; omega
                          · obtain rfl : k = tt.length := by omega
                            have AD := Lib.hid (show Chg w12 (w12.drewN nq) none from (Chg.refl w12 none).drewN nq)
                            have K13 := Lib.hid (L6.out.l3.kp.grow AD.out)
                            clear L6 OC AD
                            generalize w12.drewN nq = w13 at *
                            have A0c := Lib.hid (show Chg w13 w13.drew none from (Chg.refl w13 none).drewN 1)
                            have KA := Lib.hid (K13.out.grow A0c.out)
                            obtain ⟨d0, d1, d2⟩ := K13.out.cells
                            have P1 := Lib.hid (PC.out _ KA.out.chg _ (PR.out _ KA.out))
                            go_upto_region 44 with (fail)
                            go_region_law (refine step_call rfl 28 #[.agg #[.int .i64 S, .int .i64 W, .int .i64 L], .slice (some ⟨p, 0, none⟩) n (n + 8)] (by simp [execOp, resolve, invoke, go_sem]) P1.out ?_; rintro e w14 ⟨v14, rfl, _, hC⟩; refine ⟨_, rfl, ?_⟩)
                            have K14 := Lib.hid (show Kp w w14 p S W L (trs us 0 ++ mks 8) by rw [trs_zero]; exact KA.out.grow hC)
                            clear hC P1 KA A0c d0 d1 d2 K13
                            go_wp2_with fail
                            go_loopw [22] (fun i wr => ∃ k : Nat, k ≤ n ∧ i = .int .i64 k ∧ Hid (Kp w wr p S W L (trs us k ++ mks 8))) (fun i _ => n - (intOf i).toNat)
                            case atStart => exact ⟨0, by omega, rfl, K14⟩
                            case round =>
                              obtain ⟨k, hk, rfl, KK⟩ := hrel
                              clear K14
                              by_cases hlt : k < n
                              · have hul := UL.out
                                obtain ⟨⟨q0, q1⟩, y0, y1⟩ := KK.out.inb.at_ (j := k) (by rw [List.length_append, mks_len, trs_len]; omega)
                                obtain ⟨ab, ao, e3, r0, _⟩ := (RU.out.kept KK.out.chg).at_ (n - 1 - k) (by omega)
                                obtain ⟨ab2, ao2, e4, _, r1⟩ := (RU.out.kept KK.out.chg).at_ k (by omega)
                                rw [e3] at e4
                                injection e4 with e4
                                injection e4 with e4 e5 _
                                subst e3 e4 e5
                                have hbx := bits_xor (RU.out.okay (n - 1 - k))
                                have AD := Lib.hid (show Chg wr wr.drew none from (Chg.refl wr none).drewN 1)
                                have K4 := Lib.hid (show Kp w ((wr.drew.setCell ⟨p, k * 2, none⟩ (.int .u32 ((unth us (n - 1 - k)).1 ^^^ 64 : Nat))).setCell ⟨p, k * 2 + 1, none⟩ (.bool (!(unth us k).2))) p S W L (trs us (k + 1) ++ mks 8) by
                                  have := (KK.out.grow AD.out).set k ((unth us (n - 1 - k)).1 ^^^ 64) (!(unth us k).2)
                                  rw [List.set_append_left _ _ (by rw [trs_len]; omega)] at this
                                  have e : ((unth us (n - 1 - k)).1 ^^^ 64, !(unth us k).2) = trn us k := by unfold trn; rw [hul]
                                  rw [e, trs_set (by omega)] at this
                                  exact this)
                                clear hul
                                generalize (unth us (n - 1 - k)).1 = xa at *
                                generalize (unth us k).2 = xb at *
                                generalize unth (trs us k ++ mks 8) k = xc at *
                                have hi1 : (0 : Int) ≤ (n : Int) - 1 - (k : Int) := by omega
                                have hi2 : (n : Int) - 1 - (k : Int) < (n : Int) := by omega
                                have hi4 : (k : Int) ≤ (n : Int) - 1 := by omega
                                have hi5 : (k : Int) < (n : Int) + 8 := by omega
                                have hi6 : k < n + 8 := by omega
                                have hi3 : ((n : Int) - 1 - (k : Int)).toNat = n - 1 - k := by omega
                                have hw1 : IntKind.i64.wrap ((n : Int) - 1) = (n : Int) - 1 := by rw [IntKind.wrap_i64]; omega
                                have hw2 : IntKind.i64.wrap ((n : Int) - 1 - (k : Int)) = (n : Int) - 1 - (k : Int) := by rw [IntKind.wrap_i64]; omega
                                go_wp2_with fail
                                refine wp_region_tail 20 (by kernel_rfl) (by kernel_rfl) ?_
                                simp only [List.take_succ_cons, List.take_zero, List.drop_succ_cons, List.drop_zero]
                                iterate 20 still_step
                                refine wpStill_nil ?_
                                clear hw1 hw2 hi1 hi2 hi3 hi4 hi5 hi6
                                go_wp2
                                go_roundw
                                case rel => exact ⟨k + 1, by omega, by first | rfl | go_num, K4⟩
                                case measure => simp [intOf]; omega
                              · obtain rfl : k = n := by omega
                                clear PC RC PR
                                have A0c := Lib.hid (show Chg wr wr.drew none from (Chg.refl wr none).drewN 1)
                                have KA := Lib.hid (KK.out.grow A0c.out)
                                obtain ⟨d0, d1, d2⟩ := KK.out.cells
                                have P1 := Lib.hid (PC3.out _ KA.out.chg _ (PR3.out _ KA.out))
                                go_upto_region 49 with (fail)
                                go_region_law (refine step_call rfl 28 #[.agg #[.int .i64 S, .int .i64 W, .int .i64 L], .slice (some ⟨p, 0, none⟩) k (k + 8)] (by simp [execOp, resolve, invoke, go_sem]) P1.out ?_; rintro e w15 ⟨vd, rfl, ho, hC⟩; refine ⟨_, rfl, ?_⟩)
                                have K15 := Lib.hid (KA.out.grow hC)
                                have OD := Lib.hid (show Ot w15 wr.drew.heap.size vd tu from ho)
                                obtain ⟨Ad, cd, hvd⟩ := row_slice ho
                                subst hvd
                                clear ho hC P1 KK KA A0c d0 d1 d2
                                generalize wr.drew.heap.size = bd at *
                                have A0c := Lib.hid (show Chg w15 w15.drew none from (Chg.refl w15 none).drewN 1)
                                have KA := Lib.hid (K15.out.grow A0c.out)
                                obtain ⟨d0, d1, d2⟩ := K15.out.cells
                                have P1 := Lib.hid (RC3.out w15.drew (some ⟨p, 0, none⟩) (k + 8) (by omega) (PR3.out _ KA.out))
                                go_upto_region 50 with (fail)
                                go_region_law (refine step_call rfl 29 #[.agg #[.int .i64 S, .int .i64 W, .int .i64 L], .slice (some ⟨p, 0, none⟩) k (k + 8)] (by simp [execOp, resolve, invoke, go_sem]) P1.out ?_; rintro e w16 ⟨vg, rfl, ho, hC⟩; refine ⟨_, rfl, ?_⟩)
                                have K16 := Lib.hid (KA.out.grow hC)
                                have OD := Lib.hid (show Ot w16 bd (.slice Ad tu.length cd) tu from OD.out.kept (A0c.out.trans hC) (Classical.em _))
                                have OG := Lib.hid (show Ot w16 w15.drew.heap.size vg tu from ho)
                                obtain ⟨Ag, cg, hvg⟩ := row_slice ho
                                subst hvg
                                clear ho hC P1 K15 KA A0c d0 d1 d2
                                generalize w15.drew.heap.size = bg at *
                                have hll : decide (tu.length < tu.length) = false := by simp
                                go_wp2_with fail
                                go_loopw [27] (fun i wx => ∃ j nq : Nat, j ≤ tu.length ∧ i = .int .i64 j ∧ wx = w16.drewN nq) (fun i _ => tu.length - (intOf i).toNat)
                                case atStart => exact ⟨0, 0, by omega, rfl, rfl⟩
                                case round =>
                                  obtain ⟨j, nq, hj, rfl, rfl⟩ := hrel
                                  by_cases hlt2 : j < tu.length
                                  · obtain ⟨g1, q1, e1, _, ⟨c0, c1, c2⟩, _, _⟩ := OD.out.at_ hlt2
                                    obtain ⟨g2, q2, e2, _, ⟨b0, b1, b2⟩, _, _⟩ := OG.out.at_ hlt2
                                    injection e1 with e1 _ f1
                                    injection e2 with e2 _ f2
                                    subst e1 e2 f1 f2
                                    generalize tnth tu j = tk at *
                                    go_wp2_with fail
                                    go_quiet (fail)
                                    go_wp2
                                    go_roundw
                                    case rel => exact ⟨j + 1, _, by omega, by first | rfl | go_num, by first | rfl | trivial⟩
                                    case measure => simp [intOf]; omega
                                  · obtain rfl : j = tu.length := by omega
                                    have AD := Lib.hid (show Chg w16 (w16.drewN nq) none from (Chg.refl w16 none).drewN nq)
                                    have K17 := Lib.hid (K16.out.grow AD.out)
                                    clear OD OG AD
                                    generalize w16.drewN nq = w17 at *
                                    obtain ⟨d0, d1, d2⟩ := K17.out.cells
                                    go_wp2_with fail
                                    refine (WS1.out w17).mono ?_
                                    rintro e w18 ⟨rfl, hC⟩
                                    have K18 := Lib.hid (K17.out.grow hC)
                                    clear hC d0 d1 d2
                                    obtain ⟨d0, d1, d2⟩ := K18.out.cells
                                    go_wp2_with fail
                                    refine (WS2.out w18).mono ?_
                                    rintro e w19 ⟨rfl, hC⟩
                                    have K19 := Lib.hid (K18.out.grow hC)
                                    clear hC d0 d1 d2
                                    have P1 := Lib.hid (worst_any w19 ⟨1, 1, 16, 0, 4, rfl, rfl, by decide, by decide, by decide, by decide⟩)
                                    go_wp2_with fail
                                    refine P1.out.mono ?_
                                    rintro e w20 ⟨rfl, hC⟩
                                    have K20 := Lib.hid (K19.out.grow hC)
                                    clear hC P1
                                    go_wp2
                                    go_ret
                                    exact ⟨rfl, K20.out.chg⟩
end Go.Proofs.YtlmgiejemdifkaaDoor.Ca
