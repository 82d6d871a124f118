/- step: Load. No statement of the seat is proved here. -/
import Derived.Test.YtfoofipkbijajaaStLd
namespace Go.Proofs.Ytfoofipkbijajaa.Sa
open Go.RowKit Go.Proofs.Ytfoofipkbijajaa.Kit
set_option linter.unusedSimpArgs false
set_option linter.unusedVariables false
set_option maxRecDepth 8000 in
set_option maxHeartbeats 8000000 in
theorem step_load (w : World) (bx by_ b t c : Nat) (T : Nat → Nat) (P : PA) (d : OpD) (ls : List En) (hs fs : List Fr) (pr : Pr w T bx by_ t P P) (bk : BkIs w b T c ls hs fs) (ar : Oa w T d) (ht : 20 ≤ t ∧ t ≤ 900) (hk : d.kind = 5) (hfl : fs.length ≤ 990) :
    Calls Try.prog 19 #[.pointer (some ⟨bx, 0, none⟩), .pointer (some ⟨by_, 0, none⟩), .agg (opCells d).toArray, .pointer (some ⟨b, 0, none⟩)] w (StepPost w T bx by_ b t c ls hs fs []) := by
  have S0 := St.start pr bk ar ht
  obtain ⟨kind, cell, tick, dv, data, there, waits, lv, ld, lt, nv, nd, nt⟩ := d
  simp only at hk
  subst hk
  obtain ⟨w1, hw1⟩ : ∃ x, x = w.alloc (.cells (opCells ⟨5, cell, tick, dv, data, there, waits, lv, ld, lt, nv, nd, nt⟩).toArray 46) := ⟨_, rfl⟩
  rw [← hw1] at S0
  have S1 := Lib.hid S0
  have W1 := Lib.hid (show w1 = w.alloc (.cells #[.int .i64 5, .int .i64 cell, .int .u64 tick, dv, .bool there, .bool waits, lv, .int .u64 lt, nv, .int .u64 nt] 46) from hw1)
  obtain ⟨q, hq⟩ : ∃ q, q = w.heap.size := ⟨_, rfl⟩
  rw [← hq] at S1
  have HQ := Lib.hid hq
  have hd := ar.ldata.1
  simp only at hd
  have hdl : ld.length ≤ 140737488351232 := by have := hd.few; omega
  obtain ⟨⟨A, ca, e, hca, _⟩, _⟩ := hd
  subst e
  have hd := ar.ndata.1
  simp only at hd
  have hdn : nd.length ≤ 140737488351232 := by have := hd.few; omega
  obtain ⟨⟨B, cb, e, hcb, _⟩, _⟩ := hd
  subst e
  have hltk : lt < 18446744073709551616 := ar.ltick
  have hntk : nt < 18446744073709551616 := ar.ntick
  have hPS : 4 ≤ P.S := pr.size.1
  clear pr bk S0 hw1 hq
  go_enter Try.func19, Try.ntmps19
  simp only [opCells]
  go_upto_region 43 with (fail)
  rw [← W1.out, ← HQ.out]
  clear W1
  have r4 : w1.cell? ⟨q, 4, none⟩ = some (.bool there) := S1.out.cells rfl
  have r5 : w1.cell? ⟨q, 5, none⟩ = some (.bool waits) := S1.out.cells rfl
  have r6 : w1.cell? ⟨q, 6, none⟩ = some ((.slice A ld.length ca)) := S1.out.cells rfl
  have r7 : w1.cell? ⟨q, 7, none⟩ = some (.int .u64 lt) := S1.out.cells rfl
  have r8 : w1.cell? ⟨q, 8, none⟩ = some ((.slice B nd.length cb)) := S1.out.cells rfl
  have r9 : w1.cell? ⟨q, 9, none⟩ = some (.int .u64 nt) := S1.out.cells rfl
  obtain ⟨S2, B2⟩ := S1.out.box [.bool there, .bool waits, (.slice A ld.length ca), .int .u64 lt, (.slice B nd.length cb), .int .u64 nt]
  have S2H := Lib.hid S2
  have B2H := Lib.hid B2
  clear S2 B2
  obtain ⟨p, hp⟩ : ∃ p, p = w1.heap.size := ⟨_, rfl⟩
  rw [← hp] at S2H B2H
  go_upto_region 44 with (fail)
  rw [← hp]
  clear hp r4 r5 r6 r7 r8 r9
  generalize w1.alloc (.cells #[.bool there, .bool waits, (.slice A ld.length ca), .int .u64 lt, (.slice B nd.length cb), .int .u64 nt] 44) = w2 at *
  have r6 : w2.cell? ⟨q, 6, none⟩ = some (.slice A ld.length ca) := S2H.out.cells rfl
  go_wp2_with fail
  clear r6
  refine (S2H.out.lent (.slice A ld.length ca) ld S2H.out.arg.2.1.1 9).mono ?_
  rintro e w3 ⟨g1, k1, rfl, hc3, S3, L3⟩
  have S3H := Lib.hid S3
  have L3H := Lib.hid L3
  have B3H := Lib.hid (B2H.out.kept (hc3.block p B2H.out.lt (by simp)) (tagN_old (t := 9) B2H.out.lt))
  have r8 : w3.cell? ⟨q, 8, none⟩ = some (.slice B nd.length cb) := S3.cells rfl
  clear S3 L3 hc3 S2H B2H
  go_wp2_with fail
  refine (S3H.out.lent (.slice B nd.length cb) nd S3H.out.arg.2.2.1 10).mono ?_
  rintro e w4 ⟨g2, k2, rfl, hc4, S4, L4⟩
  have S4H := Lib.hid S4
  have L4H := Lib.hid L4
  have B4H := Lib.hid (B3H.out.kept (hc4.block p B3H.out.lt (by simp)) (tagN_old (t := 10) B3H.out.lt))
  have L3I := Lib.hid (L3H.out.kept (hc4.block g1 L3H.out.lt (by simp)) (tagN_old (t := 10) L3H.out.lt))
  clear S4 L4 hc4 r8 S3H B3H L3H
  have r6 : w4.cell? ⟨q, 6, none⟩ = some (.slice A ld.length ca) := S4H.out.cells rfl
  have r8 : w4.cell? ⟨q, 8, none⟩ = some (.slice B nd.length cb) := S4H.out.cells rfl
  by_cases h1 : ld.length ≤ 300
  · by_cases h2 : nd.length ≤ 300
    ·
      obtain ⟨vl, c7, ⟨Av, nv1, cv, hvl⟩, LA⟩ := (S4H.out.grow (show Chg w4 w4.drew none from ⟨rfl, rfl, rfl, Nat.le_refl _, fun _ _ _ => rfl⟩) (fun _ _ => rfl)).laid (k := 7) (tg := 9) (.inl ⟨rfl, rfl⟩) (.slice A ld.length ca) ld ⟨S4H.out.arg.2.1.1.shape, S4H.out.arg.2.1.1.few⟩ h1
      subst hvl
      have LAH := Lib.hid LA
      have d7 : w4.cell? ⟨b, 7, none⟩ = some (.slice Av nv1 cv) := c7
      have e6 : w4.drew.cell? ⟨q, 6, none⟩ = some (.slice A ld.length ca) := r6
      clear LA
      have X47 : True := trivial
      go_wp2_with fail
      go_region_law (refine step_call rfl 37 #[.slice Av nv1 cv, (.slice A ld.length ca)] (by simp [execOp, resolve, invoke, go_sem, Act.eval, Act.put]) LAH.out ?_; rintro e w5 ⟨g3, rfl, hc5, c57, f57, L5, T6, S6, L6, hT6, F6, j6, n6⟩; refine ⟨_, rfl, ?_⟩; have SXH := Lib.hid S6; have LXH := Lib.hid L6; have TXH := Lib.hid hT6; have FXH := Lib.hid F6; have JXH := Lib.hid j6; clear hc5 L5 S6 L6 hT6 F6 j6 n6)
      all_goals
        have B6H := Lib.hid (B4H.out.kept (FXH.out.block p B4H.out.lt (by have := B4H.out.2.1; omega)) (TXH.out p B4H.out.lt))
        have JJ := JXH.out
        clear c57 f57 TXH FXH JXH d7 c7 e6 LAH r6 r8 S4H B4H
        generalize w5.setCell ⟨b, 7, none⟩ (.slice (some ⟨g3, 0, none⟩) 310 310) = w6 at *
        obtain ⟨vl2, c8, ⟨Aw, nv2, cw, hvl2⟩, LA⟩ := (SXH.out.grow (show Chg w6 w6.drew none from ⟨rfl, rfl, rfl, Nat.le_refl _, fun _ _ _ => rfl⟩) (fun _ _ => rfl)).laid (k := 8) (tg := 10) (.inr ⟨rfl, rfl⟩) (.slice B nd.length cb) nd ⟨SXH.out.arg.2.2.1.shape, SXH.out.arg.2.2.1.few⟩ h2
        subst hvl2
        have LAH := Lib.hid LA
        have d8 : w6.cell? ⟨b, 8, none⟩ = some (.slice Aw nv2 cw) := c8
        have r8 : w6.cell? ⟨q, 8, none⟩ = some (.slice B nd.length cb) := SXH.out.cells rfl
        have e8 : w6.drew.cell? ⟨q, 8, none⟩ = some (.slice B nd.length cb) := r8
        clear LA
        go_wp2_with fail
        go_region_law (refine step_call rfl 37 #[.slice Aw nv2 cw, (.slice B nd.length cb)] (by simp [execOp, resolve, invoke, go_sem, Act.eval, Act.put]) LAH.out ?_; rintro e w7 ⟨g4, rfl, hc7, c78, f78, L7, T8, S8, L8, hT8, F8, j8, n8⟩; refine ⟨_, rfl, ?_⟩; have SYH := Lib.hid S8; have LYH := Lib.hid L8; have TYH := Lib.hid hT8; have FYH := Lib.hid F8; have JYH := Lib.hid j8; have NYH := Lib.hid n8; clear hc7 L7 S8 L8 hT8 F8 j8 n8)
        all_goals
          have B8H := Lib.hid (B6H.out.kept (FYH.out.block p B6H.out.lt (by have := B6H.out.2.1; omega)) (TYH.out p B6H.out.lt))
          have L38 := Lib.hid (LXH.out.kept (FYH.out.block g3 LXH.out.lt (by have := LXH.out.2.2; omega)) (TYH.out g3 LXH.out.lt))
          have k8 := JYH.out
          have k7 := (NYH.out 7 (by omega)).trans JJ
          clear c78 f78 TYH FYH JYH NYH d8 c8 e8 LAH r8 B6H LXH JJ SXH
          generalize w7.setCell ⟨b, 8, none⟩ (.slice (some ⟨g4, 0, none⟩) 310 310) = w8 at *
          have r6 : w8.cell? ⟨q, 6, none⟩ = some (.slice A ld.length ca) := SYH.out.cells rfl
          have r8 : w8.cell? ⟨q, 8, none⟩ = some (.slice B nd.length cb) := SYH.out.cells rfl
          have cpa := L38.out.1.cap
          have cpb := LYH.out.1.cap
          go_wp2_with fail
          go_quiet (fail)
          have DQ := Lib.hid ((Chg.refl w8 none).drewN nq)
          have m8 : (w8.drewN nq).cell? ⟨b, 8, none⟩ = some (.slice (some ⟨g4, 0, none⟩) 310 310) := k8
          have q8 : (w8.drewN nq).cell? ⟨q, 8, none⟩ = some (.slice B nd.length cb) := r8
          have SZ := Lib.hid (SYH.out.grow DQ.out (fun _ _ => rfl))
          have BZ := Lib.hid (B8H.out.kept (DQ.out.block p B8H.out.lt (by simp)) rfl)
          have LZ3 := Lib.hid (L38.out.kept (DQ.out.block g3 L38.out.lt (by simp)) rfl)
          have LZ4 := Lib.hid (LYH.out.kept (DQ.out.block g4 LYH.out.lt (by simp)) rfl)
          clear k7 k8 r6 r8 DQ SYH B8H L38 LYH
          generalize w8.drewN nq = wz at *
          go_wp2_with fail
          go_quiet (fail)
          have DQ := Lib.hid ((Chg.refl wz none).drewN nq)
          have S9H := Lib.hid (SZ.out.grow DQ.out (fun _ _ => rfl))
          have B9H := Lib.hid (BZ.out.kept (DQ.out.block p BZ.out.lt (by simp)) rfl)
          have L9a := Lib.hid (LZ3.out.kept (DQ.out.block g3 LZ3.out.lt (by simp)) rfl)
          have L9b := Lib.hid (LZ4.out.kept (DQ.out.block g4 LZ4.out.lt (by simp)) rfl)
          clear m8 q8 DQ SZ BZ LZ3 LZ4
          generalize wz.drewN nq = w9 at *
          have hc1 := L9a.out.1.cap
          have hc2 := L9b.out.1.cap
          have z2 : w9.cell? ⟨p, 2, none⟩ = some (.slice A ld.length ca) := B9H.out.cell rfl
          have z4 : w9.cell? ⟨p, 4, none⟩ = some (.slice B nd.length cb) := B9H.out.cell rfl
          have y2 := frozen_of_row w9 p 2 _ _ B9H.out.1
          have y4 := frozen_of_row w9 p 4 _ _ B9H.out.1
          go_upto_region 53 with (fail)
          clear z2 z4 y2 y4
          have KP := Lib.hid (((Chg.refl w9 (some p)).set 2 (.slice (some ⟨g3, 0, none⟩) ld.length 310)).set 4 (.slice (some ⟨g4, 0, none⟩) nd.length 310))
          have SA := Lib.hid (S9H.out.poke B9H.out.2.1 B9H.out.2.2 KP.out)
          have BA := Lib.hid ((B9H.out.set 2 (.slice (some ⟨g3, 0, none⟩) ld.length 310)).set 4 (.slice (some ⟨g4, 0, none⟩) nd.length 310))
          have LA1 := Lib.hid (L9a.out.kept (KP.out.block g3 L9a.out.lt (fun e => by have h1 := L9a.out.2.2; have h2 := B9H.out.2.1; injection e with e; rw [e] at h1; omega)) rfl)
          have LB1 := Lib.hid (L9b.out.kept (KP.out.block g4 L9b.out.lt (fun e => by have h1 := L9b.out.2.2; have h2 := B9H.out.2.1; injection e with e; rw [e] at h1; omega)) rfl)
          clear KP
          generalize (w9.setCell ⟨p, 2, none⟩ (.slice (some ⟨g3, 0, none⟩) ld.length 310)).setCell ⟨p, 4, none⟩ (.slice (some ⟨g4, 0, none⟩) nd.length 310) = wa at *
          have b0 : wa.cell? ⟨p, 0, none⟩ = some (.bool there) := BA.out.cell rfl
          have b1 : wa.cell? ⟨p, 1, none⟩ = some (.bool waits) := BA.out.cell rfl
          have b2 : wa.cell? ⟨p, 2, none⟩ = some ((.slice (some ⟨g3, 0, none⟩) ld.length 310)) := BA.out.cell rfl
          have b3 : wa.cell? ⟨p, 3, none⟩ = some (.int .u64 lt) := BA.out.cell rfl
          have b4 : wa.cell? ⟨p, 4, none⟩ = some ((.slice (some ⟨g4, 0, none⟩) nd.length 310)) := BA.out.cell rfl
          have b5 : wa.cell? ⟨p, 5, none⟩ = some (.int .u64 nt) := BA.out.cell rfl
          go_wp2_with fail
          refine (SA.out.loadx there waits (.slice (some ⟨g3, 0, none⟩) ld.length 310) (.slice (some ⟨g4, 0, none⟩) nd.length 310) ld nd lt nt LA1.out.1.data LB1.out.1.data (fun x e e2 => by have h1 := LA1.out.2.2; have h2 := SA.out.pr.tx; have h3 := SA.out.ht; have e3 : g3 = x := Option.some.inj e; rw [e3, e2] at h1; omega) (fun x e e2 => by have h1 := LB1.out.2.2; have h2 := SA.out.pr.tx; have h3 := SA.out.ht; have e3 : g4 = x := Option.some.inj e; rw [e3, e2] at h1; omega)).mono ?_
          rintro e wb ⟨rfl, hcb2, Tb, SB, hTb⟩
          have SBH := Lib.hid SB
          have LA2 := Lib.hid (LA1.out.kept (hcb2.block g3 LA1.out.lt (fun e => by have h1 := LA1.out.2.2; have h2 := SA.out.pr.tx; have h3 := SA.out.ht; injection e with e; rw [e] at h1; omega)) (hTb _ LA1.out.lt))
          have LB2 := Lib.hid (LB1.out.kept (hcb2.block g4 LB1.out.lt (fun e => by have h1 := LB1.out.2.2; have h2 := SA.out.pr.tx; have h3 := SA.out.ht; injection e with e; rw [e] at h1; omega)) (hTb _ LB1.out.lt))
          have r6 : wb.cell? ⟨q, 6, none⟩ = some (.slice A ld.length ca) := SB.cells rfl
          clear SB hcb2 hTb b0 b1 b2 b3 b4 b5 SA BA LA1 LB1
          go_wp2_with fail
          refine (SBH.out.kepL g3 310 9 (.slice A ld.length ca) ld LA2.out (by omega) SBH.out.arg.2.1.1).mono ?_
          rintro e wd ⟨rfl, hcd, SD⟩
          have SDH := Lib.hid SD
          have LB3 := Lib.hid (LB2.out.kept (hcd.block g4 LB2.out.lt (fun e => by have h1 := LB2.out.2.2; have h2 := LA2.out.2.2; injection e with e; rw [e] at h1; omega)) rfl)
          have r8 : wd.cell? ⟨q, 8, none⟩ = some (.slice B nd.length cb) := SD.cells rfl
          clear SD hcd r6 LA2 LB2 SBH
          go_wp2_with fail
          refine (SDH.out.kepL g4 310 10 (.slice B nd.length cb) nd LB3.out (by omega) SDH.out.arg.2.2.1).mono ?_
          rintro e we ⟨rfl, hce, SE⟩
          have SEH := Lib.hid SE
          clear SE hce r8 LB3 SDH
          have r4 : we.cell? ⟨q, 4, none⟩ = some (.bool there) := SEH.out.cells rfl
          have r5 : we.cell? ⟨q, 5, none⟩ = some (.bool waits) := SEH.out.cells rfl
          have r6 : we.cell? ⟨q, 6, none⟩ = some ((.slice A ld.length ca)) := SEH.out.cells rfl
          have r7 : we.cell? ⟨q, 7, none⟩ = some (.int .u64 lt) := SEH.out.cells rfl
          have r8 : we.cell? ⟨q, 8, none⟩ = some ((.slice B nd.length cb)) := SEH.out.cells rfl
          have r9 : we.cell? ⟨q, 9, none⟩ = some (.int .u64 nt) := SEH.out.cells rfl
          go_wp2_with fail
          refine (SEH.out.loady hPS there waits (.slice A ld.length ca) (.slice B nd.length cb) ld nd lt nt hltk hntk SEH.out.arg.2.1.1 SEH.out.arg.2.2.1).mono ?_
          rintro e wf ⟨rfl, Tf, SF⟩
          have SFH := Lib.hid SF
          clear SF r4 r5 r6 r7 r8 r9 SEH
          go_wp2
          go_ret
          exact SFH.out.done (by omega)
    ·
      have hc1 := L3I.out.1.cap
      have hc2 := L4H.out.1.cap
      have z2 : w4.cell? ⟨p, 2, none⟩ = some (.slice A ld.length ca) := B4H.out.cell rfl
      have z4 : w4.cell? ⟨p, 4, none⟩ = some (.slice B nd.length cb) := B4H.out.cell rfl
      have y2 := frozen_of_row w4 p 2 _ _ B4H.out.1
      have y4 := frozen_of_row w4 p 4 _ _ B4H.out.1
      go_upto_region 53 with (fail)
      clear z2 z4 y2 y4
      have KP := Lib.hid (((Chg.refl w4 (some p)).set 2 (.slice (some ⟨g1, 0, none⟩) ld.length k1)).set 4 (.slice (some ⟨g2, 0, none⟩) nd.length k2))
      have SA := Lib.hid (S4H.out.poke B4H.out.2.1 B4H.out.2.2 KP.out)
      have BA := Lib.hid ((B4H.out.set 2 (.slice (some ⟨g1, 0, none⟩) ld.length k1)).set 4 (.slice (some ⟨g2, 0, none⟩) nd.length k2))
      have LA1 := Lib.hid (L3I.out.kept (KP.out.block g1 L3I.out.lt (fun e => by have h1 := L3I.out.2.2; have h2 := B4H.out.2.1; injection e with e; rw [e] at h1; omega)) rfl)
      have LB1 := Lib.hid (L4H.out.kept (KP.out.block g2 L4H.out.lt (fun e => by have h1 := L4H.out.2.2; have h2 := B4H.out.2.1; injection e with e; rw [e] at h1; omega)) rfl)
      clear KP
      generalize (w4.setCell ⟨p, 2, none⟩ (.slice (some ⟨g1, 0, none⟩) ld.length k1)).setCell ⟨p, 4, none⟩ (.slice (some ⟨g2, 0, none⟩) nd.length k2) = wa at *
      have b0 : wa.cell? ⟨p, 0, none⟩ = some (.bool there) := BA.out.cell rfl
      have b1 : wa.cell? ⟨p, 1, none⟩ = some (.bool waits) := BA.out.cell rfl
      have b2 : wa.cell? ⟨p, 2, none⟩ = some ((.slice (some ⟨g1, 0, none⟩) ld.length k1)) := BA.out.cell rfl
      have b3 : wa.cell? ⟨p, 3, none⟩ = some (.int .u64 lt) := BA.out.cell rfl
      have b4 : wa.cell? ⟨p, 4, none⟩ = some ((.slice (some ⟨g2, 0, none⟩) nd.length k2)) := BA.out.cell rfl
      have b5 : wa.cell? ⟨p, 5, none⟩ = some (.int .u64 nt) := BA.out.cell rfl
      go_wp2_with fail
      refine (SA.out.loadx there waits (.slice (some ⟨g1, 0, none⟩) ld.length k1) (.slice (some ⟨g2, 0, none⟩) nd.length k2) ld nd lt nt LA1.out.1.data LB1.out.1.data (fun x e e2 => by have h1 := LA1.out.2.2; have h2 := SA.out.pr.tx; have h3 := SA.out.ht; have e3 : g1 = x := Option.some.inj e; rw [e3, e2] at h1; omega) (fun x e e2 => by have h1 := LB1.out.2.2; have h2 := SA.out.pr.tx; have h3 := SA.out.ht; have e3 : g2 = x := Option.some.inj e; rw [e3, e2] at h1; omega)).mono ?_
      rintro e wb ⟨rfl, hcb2, Tb, SB, hTb⟩
      have SBH := Lib.hid SB
      have LA2 := Lib.hid (LA1.out.kept (hcb2.block g1 LA1.out.lt (fun e => by have h1 := LA1.out.2.2; have h2 := SA.out.pr.tx; have h3 := SA.out.ht; injection e with e; rw [e] at h1; omega)) (hTb _ LA1.out.lt))
      have LB2 := Lib.hid (LB1.out.kept (hcb2.block g2 LB1.out.lt (fun e => by have h1 := LB1.out.2.2; have h2 := SA.out.pr.tx; have h3 := SA.out.ht; injection e with e; rw [e] at h1; omega)) (hTb _ LB1.out.lt))
      have r6 : wb.cell? ⟨q, 6, none⟩ = some (.slice A ld.length ca) := SB.cells rfl
      clear SB hcb2 hTb b0 b1 b2 b3 b4 b5 SA BA LA1 LB1
      go_wp2_with fail
      refine (SBH.out.kepL g1 k1 9 (.slice A ld.length ca) ld LA2.out (by omega) SBH.out.arg.2.1.1).mono ?_
      rintro e wd ⟨rfl, hcd, SD⟩
      have SDH := Lib.hid SD
      have LB3 := Lib.hid (LB2.out.kept (hcd.block g2 LB2.out.lt (fun e => by have h1 := LB2.out.2.2; have h2 := LA2.out.2.2; injection e with e; rw [e] at h1; omega)) rfl)
      have r8 : wd.cell? ⟨q, 8, none⟩ = some (.slice B nd.length cb) := SD.cells rfl
      clear SD hcd r6 LA2 LB2 SBH
      go_wp2_with fail
      refine (SDH.out.kepL g2 k2 10 (.slice B nd.length cb) nd LB3.out (by omega) SDH.out.arg.2.2.1).mono ?_
      rintro e we ⟨rfl, hce, SE⟩
      have SEH := Lib.hid SE
      clear SE hce r8 LB3 SDH
      have r4 : we.cell? ⟨q, 4, none⟩ = some (.bool there) := SEH.out.cells rfl
      have r5 : we.cell? ⟨q, 5, none⟩ = some (.bool waits) := SEH.out.cells rfl
      have r6 : we.cell? ⟨q, 6, none⟩ = some ((.slice A ld.length ca)) := SEH.out.cells rfl
      have r7 : we.cell? ⟨q, 7, none⟩ = some (.int .u64 lt) := SEH.out.cells rfl
      have r8 : we.cell? ⟨q, 8, none⟩ = some ((.slice B nd.length cb)) := SEH.out.cells rfl
      have r9 : we.cell? ⟨q, 9, none⟩ = some (.int .u64 nt) := SEH.out.cells rfl
      go_wp2_with fail
      refine (SEH.out.loady hPS there waits (.slice A ld.length ca) (.slice B nd.length cb) ld nd lt nt hltk hntk SEH.out.arg.2.1.1 SEH.out.arg.2.2.1).mono ?_
      rintro e wf ⟨rfl, Tf, SF⟩
      have SFH := Lib.hid SF
      clear SF r4 r5 r6 r7 r8 r9 SEH
      go_wp2
      go_ret
      exact SFH.out.done (by omega)
  ·
    have hc1 := L3I.out.1.cap
    have hc2 := L4H.out.1.cap
    have z2 : w4.cell? ⟨p, 2, none⟩ = some (.slice A ld.length ca) := B4H.out.cell rfl
    have z4 : w4.cell? ⟨p, 4, none⟩ = some (.slice B nd.length cb) := B4H.out.cell rfl
    have y2 := frozen_of_row w4 p 2 _ _ B4H.out.1
    have y4 := frozen_of_row w4 p 4 _ _ B4H.out.1
    go_upto_region 53 with (fail)
    clear z2 z4 y2 y4
    have KP := Lib.hid (((Chg.refl w4 (some p)).set 2 (.slice (some ⟨g1, 0, none⟩) ld.length k1)).set 4 (.slice (some ⟨g2, 0, none⟩) nd.length k2))
    have SA := Lib.hid (S4H.out.poke B4H.out.2.1 B4H.out.2.2 KP.out)
    have BA := Lib.hid ((B4H.out.set 2 (.slice (some ⟨g1, 0, none⟩) ld.length k1)).set 4 (.slice (some ⟨g2, 0, none⟩) nd.length k2))
    have LA1 := Lib.hid (L3I.out.kept (KP.out.block g1 L3I.out.lt (fun e => by have h1 := L3I.out.2.2; have h2 := B4H.out.2.1; injection e with e; rw [e] at h1; omega)) rfl)
    have LB1 := Lib.hid (L4H.out.kept (KP.out.block g2 L4H.out.lt (fun e => by have h1 := L4H.out.2.2; have h2 := B4H.out.2.1; injection e with e; rw [e] at h1; omega)) rfl)
    clear KP
    generalize (w4.setCell ⟨p, 2, none⟩ (.slice (some ⟨g1, 0, none⟩) ld.length k1)).setCell ⟨p, 4, none⟩ (.slice (some ⟨g2, 0, none⟩) nd.length k2) = wa at *
    have b0 : wa.cell? ⟨p, 0, none⟩ = some (.bool there) := BA.out.cell rfl
    have b1 : wa.cell? ⟨p, 1, none⟩ = some (.bool waits) := BA.out.cell rfl
    have b2 : wa.cell? ⟨p, 2, none⟩ = some ((.slice (some ⟨g1, 0, none⟩) ld.length k1)) := BA.out.cell rfl
    have b3 : wa.cell? ⟨p, 3, none⟩ = some (.int .u64 lt) := BA.out.cell rfl
    have b4 : wa.cell? ⟨p, 4, none⟩ = some ((.slice (some ⟨g2, 0, none⟩) nd.length k2)) := BA.out.cell rfl
    have b5 : wa.cell? ⟨p, 5, none⟩ = some (.int .u64 nt) := BA.out.cell rfl
    go_wp2_with fail
    refine (SA.out.loadx there waits (.slice (some ⟨g1, 0, none⟩) ld.length k1) (.slice (some ⟨g2, 0, none⟩) nd.length k2) ld nd lt nt LA1.out.1.data LB1.out.1.data (fun x e e2 => by have h1 := LA1.out.2.2; have h2 := SA.out.pr.tx; have h3 := SA.out.ht; have e3 : g1 = x := Option.some.inj e; rw [e3, e2] at h1; omega) (fun x e e2 => by have h1 := LB1.out.2.2; have h2 := SA.out.pr.tx; have h3 := SA.out.ht; have e3 : g2 = x := Option.some.inj e; rw [e3, e2] at h1; omega)).mono ?_
    rintro e wb ⟨rfl, hcb2, Tb, SB, hTb⟩
    have SBH := Lib.hid SB
    have LA2 := Lib.hid (LA1.out.kept (hcb2.block g1 LA1.out.lt (fun e => by have h1 := LA1.out.2.2; have h2 := SA.out.pr.tx; have h3 := SA.out.ht; injection e with e; rw [e] at h1; omega)) (hTb _ LA1.out.lt))
    have LB2 := Lib.hid (LB1.out.kept (hcb2.block g2 LB1.out.lt (fun e => by have h1 := LB1.out.2.2; have h2 := SA.out.pr.tx; have h3 := SA.out.ht; injection e with e; rw [e] at h1; omega)) (hTb _ LB1.out.lt))
    have r6 : wb.cell? ⟨q, 6, none⟩ = some (.slice A ld.length ca) := SB.cells rfl
    clear SB hcb2 hTb b0 b1 b2 b3 b4 b5 SA BA LA1 LB1
    go_wp2_with fail
    refine (SBH.out.kepL g1 k1 9 (.slice A ld.length ca) ld LA2.out (by omega) SBH.out.arg.2.1.1).mono ?_
    rintro e wd ⟨rfl, hcd, SD⟩
    have SDH := Lib.hid SD
    have LB3 := Lib.hid (LB2.out.kept (hcd.block g2 LB2.out.lt (fun e => by have h1 := LB2.out.2.2; have h2 := LA2.out.2.2; injection e with e; rw [e] at h1; omega)) rfl)
    have r8 : wd.cell? ⟨q, 8, none⟩ = some (.slice B nd.length cb) := SD.cells rfl
    clear SD hcd r6 LA2 LB2 SBH
    go_wp2_with fail
    refine (SDH.out.kepL g2 k2 10 (.slice B nd.length cb) nd LB3.out (by omega) SDH.out.arg.2.2.1).mono ?_
    rintro e we ⟨rfl, hce, SE⟩
    have SEH := Lib.hid SE
    clear SE hce r8 LB3 SDH
    have r4 : we.cell? ⟨q, 4, none⟩ = some (.bool there) := SEH.out.cells rfl
    have r5 : we.cell? ⟨q, 5, none⟩ = some (.bool waits) := SEH.out.cells rfl
    have r6 : we.cell? ⟨q, 6, none⟩ = some ((.slice A ld.length ca)) := SEH.out.cells rfl
    have r7 : we.cell? ⟨q, 7, none⟩ = some (.int .u64 lt) := SEH.out.cells rfl
    have r8 : we.cell? ⟨q, 8, none⟩ = some ((.slice B nd.length cb)) := SEH.out.cells rfl
    have r9 : we.cell? ⟨q, 9, none⟩ = some (.int .u64 nt) := SEH.out.cells rfl
    go_wp2_with fail
    refine (SEH.out.loady hPS there waits (.slice A ld.length ca) (.slice B nd.length cb) ld nd lt nt hltk hntk SEH.out.arg.2.1.1 SEH.out.arg.2.2.1).mono ?_
    rintro e wf ⟨rfl, Tf, SF⟩
    have SFH := Lib.hid SF
    clear SF r4 r5 r6 r7 r8 r9 SEH
    go_wp2
    go_ret
    exact SFH.out.done (by omega)
end Go.Proofs.Ytfoofipkbijajaa.Sa
