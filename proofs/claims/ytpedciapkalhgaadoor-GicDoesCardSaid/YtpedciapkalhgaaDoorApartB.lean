/- GicApart: the plain law of a step, and the walk. -/
import Derived.Test.YtpedciapkalhgaaDoorRo
namespace Go.Proofs.YtpedciapkalhgaaDoor.Gk
open Go.RowKit Go.Proofs.YtpedciapkalhgaaDoor.Kit
set_option linter.unusedSimpArgs false
set_option linter.unusedVariables false

theorem isC_pos {c : Int} (h : isC c = true) : c ≠ 0 := by
  intro e; subst e; simp [isC] at h
theorem isC_pk (x : Int) : isC (1 + pk x 8) = true := by
  have := pk_range x 8 (by omega); simp [isC]; omega
theorem agree_foreign {r : List Int} {c : Int} {p m p2 m2 : Nat} {d : OpD} (h : Agree r c p m p2 m2) (f : Fit p m) (hd : d.okay) (hc : isC c = true) (hw : whoseC r d ≠ c) : Agree r c (doesP r p m d) (doesM r p m d) p2 m2 := by
  intro i hi hr
  obtain ⟨e1, e2⟩ := h i hi hr
  have hl := pk_range d.line 32 (by omega)
  have hC := isC_pk d.cell
  rw [← e1, ← e2]
  unfold doesP doesM
  by_cases h0 : pk d.kind 4 = 0
  · have h1 : pk d.kind 4 ≠ 1 := by omega
    rw [if_pos h0, if_neg h1, raised_bit]
    unfold whoseC at hw
    rw [if_pos h0] at hw
    have : ¬ (pk d.line 32).toNat = i := fun e => hw (by rw [e]; exact hr)
    simp [this]
  · have hw' : (1 + pk d.cell 8) ≠ c := by unfold whoseC at hw; rw [if_neg h0] at hw; exact hw
    have hne : nth r i ≠ 1 + pk d.cell 8 := fun e => hw' (by rw [← e, hr])
    rw [if_neg h0]
    by_cases h1 : pk d.kind 4 = 1
    · rw [if_pos h1, if_pos h1, maskTo_bit]
      simp [hne, hi]
    · rw [if_neg h1, if_neg h1]
      refine ⟨?_, rfl⟩
      by_cases h2 : pk d.kind 4 = 2
      · rw [if_pos h2]
        split
        · rfl
        · rename_i hz
          obtain ⟨hc1, hc2, hc3⟩ := ctz_bit _ hz (someOf_lt _ _ _)
          rw [drop_bit _ _ _ hc2]
          rw [some_bit _ _ _ _ hC] at hc1
          have : ¬ Lib.ctz 32 (someOf r (1 + pk d.cell 8) (wait p m)) = i := by
            intro e
            rw [e] at hc1
            simp [hne] at hc1
          simp [this, hi]
      · rw [if_neg h2, wait_bit _ _ _ (someOf_lt _ _ _), some_bit _ _ _ _ hC]
        simp [hne, hi]
theorem agree_own {r : List Int} {c : Int} {p m p2 m2 : Nat} {d : OpD} (h : Agree r c p m p2 m2) (f : Fit p m) (f2 : Fit p2 m2) (hd : d.okay) (hc : isC c = true) (hw : whoseC r d = c) :
    doesN r p m d = doesN r p2 m2 d ∧ doesB r p m d = doesB r p2 m2 d ∧ Agree r c (doesP r p m d) (doesM r p m d) (doesP r p2 m2 d) (doesM r p2 m2 d) := by
  have hl := pk_range d.line 32 (by omega)
  by_cases h0 : pk d.kind 4 = 0
  · have h1 : pk d.kind 4 ≠ 1 := by omega
    have h2 : pk d.kind 4 ≠ 2 := by omega
    unfold whoseC at hw
    rw [if_pos h0] at hw
    obtain ⟨e1, e2⟩ := h _ (by omega) hw
    refine ⟨?_, ?_, ?_⟩
    · simp [doesN, h2]
    · simp [doesB, h0, isNew, e1]
    · intro i hi hr
      obtain ⟨e1, e2⟩ := h i hi hr
      simp only [doesP, doesM, if_pos h0, if_neg h1, raised_bit, e1, e2, and_self]
  · have hw' : (1 + pk d.cell 8) = c := by unfold whoseC at hw; rw [if_neg h0] at hw; exact hw
    have hs := some_agree h f f2 hc
    by_cases h1 : pk d.kind 4 = 1
    · have h2 : pk d.kind 4 ≠ 2 := by omega
      refine ⟨by simp [doesN, h2], by simp [doesB, h0, h2], fun i hi hr => ?_⟩
      obtain ⟨e1, e2⟩ := h i hi hr
      simp only [doesP, doesM, if_neg h0, if_pos h1, maskTo_bit, e1, e2, and_self]
    · by_cases h2 : pk d.kind 4 = 2
      · refine ⟨by simp only [doesN, hw', hs], by simp only [doesB, hw', hs, if_neg h0], fun i hi hr => ?_⟩
        obtain ⟨e1, e2⟩ := h i hi hr
        simp only [doesP, doesM, if_neg h0, if_neg h1, if_pos h2, hw', hs]
        refine ⟨?_, e2⟩
        split
        · exact e1
        · rename_i hz
          obtain ⟨hc1, hc2, hc3⟩ := ctz_bit _ hz (someOf_lt _ _ _)
          rw [drop_bit _ _ _ hc2, drop_bit _ _ _ hc2, e1]
      · refine ⟨by simp [doesN, h2], by simp [doesB, h0, h2], fun i hi hr => ?_⟩
        obtain ⟨e1, e2⟩ := h i hi hr
        simp only [doesP, doesM, if_neg h0, if_neg h1, if_neg h2, wait_bit _ _ _ (someOf_lt _ _ _), e1, e2, and_self]
theorem masked_agree {r : List Int} {c : Int} {p m p2 m2 : Nat} (h : Agree r c p m p2 m2) (hi : isC c = true) : someOf r c m = someOf r c m2 := by
  apply Nat.eq_of_testBit_eq
  intro i
  rw [some_bit _ _ _ _ hi, some_bit _ _ _ _ hi]
  by_cases h1 : i < 32
  · by_cases h2 : nth r i = c
    · rw [(h i h1 h2).2]
    · simp [h2]
  · simp [h1]

theorem GicAt.below {w w' : World} {B b : Nat} {r : List Int} {p m : Nat} (h : GicAt w b r p m) (hb : Below B w w') (hlt : b < B) : GicAt w' b r p m :=
  ⟨by rw [hb.block b hlt]; exact h.heap, h.len, h.hp, h.hm⟩
theorem info41 : (Tryd.prog.info? 41).map (·.size) = some 38 := by kernel_rfl
theorem opInfo {d : OpD} (h : d.okay) : (Tryd.prog.info? 41).map (·.size) = some (opCells d).length := by rw [opCells_len d h.len]; exact info41
set_option maxHeartbeats 2000000 in
theorem apart_walk (w : World) (hT : TabAt w) (v1 : Value) (xs : List Int) (h1 : Rd w v1 xs) (v2 : Value) (ds : List OpD) (h2 : Ro w v2 ds) (c0 : Int) (hc : i64ok c0) :
    Calls Tryd.prog 4 #[v1, v2, .int .i64 c0] w fun e w' => e = .returned (.bool true) ∧ Below w.heap.size w w' := by
  have h0 : 0 < w.heap.size := World.block_lt_of_cell? w _ (hT 0 (by omega))
  have HT := Lib.hid (fun w' (h : Below w.heap.size w w') => hT.below h h0)
  have HA := Lib.hid (awake_any w hT)
  have H1 := Lib.hid (fun w' (h : Below w.heap.size w w') => h1.below h)
  have H2 := Lib.hid (fun w' (h : Below w.heap.size w w') => h2.below h)
  have Hc := Lib.hid hc
  obtain ⟨⟨A, cap, rfl, _⟩, hfew, hok⟩ := h2
  have HO := Lib.hid hok
  clear h1 hc hT hok
  go_enter Tryd.func4, Tryd.ntmps4
  go_wp2_with fail
  refine HA.out.mono ?_
  rintro e w1 ⟨rfl, b1⟩
  have B1 := Lib.hid b1; clear b1
  go_wp2_with fail
  refine (routed_any _ _ xs (H1.out _ B1.out)).mono ?_
  rintro e w2 ⟨rfl, g2, b2⟩
  have hs := B1.out.size
  have hlt2 := g2.lt
  generalize w1.heap.size = g at *
  have B2 := Lib.hid (B1.out.trans (b2.mono hs))
  have G2 := Lib.hid g2
  clear g2 b2 B1
  go_wp2_with fail
  refine (routed_any _ _ xs (H1.out _ B2.out)).mono ?_
  rintro e w3 ⟨rfl, g3, b3⟩
  have hs3 := B2.out.size
  have G := Lib.hid (G2.out.below b3 hlt2)
  have hlt3 := g3.lt
  have hne : g ≠ w2.heap.size := by omega
  generalize w2.heap.size = h at *
  have B3 := Lib.hid (B2.out.trans (b3.mono hs3))
  have G3 := Lib.hid g3
  clear g3 b3 B2 G2
  generalize rt (fr xs) 32 = R at *
  go_wp2_with fail
  refine (pick_any _ _ _ Hc.out (by omega) (by omega)).mono ?_
  rintro e w4 ⟨rfl, rfl⟩
  have hC := isC_pk c0
  have hpk := pk_range c0 8 (by omega)
  generalize pk c0 8 = q at *
  have HC := Lib.hid hC; clear hC
  go_wp2_with fail
  clear HA H1
  go_loopw [11, 12, 13, 14, 15, 16] (fun i _ _ _ _ _ wr => ∃ k p m p2 m2 : Nat, k ≤ ds.length ∧ i = .int .i64 k ∧ GicAt wr g R p m ∧ GicAt wr h R p2 m2 ∧ Agree R (1 + q) p m p2 m2 ∧ Below w.heap.size w wr) (fun i _ _ _ _ _ _ => ds.length - (intOf i).toNat)
  case atStart => exact ⟨0, 0, 0, 0, 0, by omega, rfl, G.out, G3.out, fun _ _ _ => ⟨rfl, rfl⟩, B3.out⟩
  case round =>
    obtain ⟨k, p, m, p2, m2, hk, rfl, hg, hh, hag, hb⟩ := hrel
    have Gg := Lib.hid hg
    have Gh := Lib.hid hh
    have AG := Lib.hid hag
    have B := Lib.hid hb
    clear hg hh hag hb G G3 B3
    have hpos : 0 ≤ 1 + q := by omega
    by_cases hlt : k < ds.length
    · obtain ⟨ab, aoff, hA, hcell⟩ := (H2.out _ B.out).at_ k hlt
      subst hA
      have HD := Lib.hid (HO.out k)
      have HX := Lib.hid (show ∀ w', Below w.heap.size w w' → w'.rangeAt ab (aoff + k * 38) (opCells (dth ds k)) from fun w' hb' => by
        obtain ⟨b', o', e, hc⟩ := (H2.out _ hb').at_ k hlt; injection e with e; injection e with e1 e2; subst e1 e2; exact hc)
      clear hcell
      generalize dth ds k = d at *
      go_wp2_with (refine wpList_load_mid (op := ⟨some 47, _, _, _, _, _⟩) rfl 41 (.tmp 46) rfl ab (aoff + k * 38) rfl (opCells d) _ (HX.out _ B.out) Tryd.underlying41 rfl (opInfo HD.out) ?_)
      refine (whose_any wr g R p m d Gg.out HD.out).mono ?_
      rintro e w5 ⟨rfl, g5, c5⟩
      have Gg5 := Lib.hid g5
      have Gh5 := Lib.hid (Gh.out.kept c5 (fun e => hne (Option.some.inj e)))
      have B5 := Lib.hid (chg_below B.out B.out.size hs c5)
      clear g5 c5 Gg Gh B
      by_cases hw : whoseC R d = 1 + q
      · obtain ⟨e1, e2, hag'⟩ := agree_own AG.out ⟨Gg5.out.hp, Gg5.out.hm⟩ ⟨Gh5.out.hp, Gh5.out.hm⟩ HD.out HC.out hw
        have HE1 := Lib.hid e1
        have HE2 := Lib.hid e2
        have AG' := Lib.hid hag'
        rw [hw]
        clear hw e1 e2 hag'
        go_wp2_with (refine wpList_load_mid (op := ⟨some 56, _, _, _, _, _⟩) rfl 41 (.tmp 55) rfl ab (aoff + k * 38) rfl (opCells d) _ (HX.out _ B5.out) Tryd.underlying41 rfl (opInfo HD.out) ?_)
        refine (does_any w5 g R p m d Gg5.out (HT.out _ B5.out) HD.out).mono ?_
        rintro e w6 ⟨rfl, g6, c6⟩
        rw [HE1.out, HE2.out]
        have Gg6 := Lib.hid g6
        have Gh6 := Lib.hid (Gh5.out.kept c6 (fun e => hne (Option.some.inj e)))
        have B6 := Lib.hid (chg_below B5.out B5.out.size hs c6)
        clear g6 c6 Gg5 Gh5 B5
        go_wp2_with (refine wpList_load_mid (op := ⟨some 67, _, _, _, _, _⟩) rfl 41 (.tmp 66) rfl ab (aoff + k * 38) rfl (opCells d) _ (HX.out _ B6.out) Tryd.underlying41 rfl (opInfo HD.out) ?_)
        refine (does_any w6 h R p2 m2 d Gh6.out (HT.out _ B6.out) HD.out).mono ?_
        rintro e w7 ⟨rfl, g7, c7⟩
        have Gh7 := Lib.hid g7
        have Gg7 := Lib.hid (Gg6.out.kept c7 (fun e => hne (Option.some.inj e).symm))
        have B7 := Lib.hid (chg_below B6.out B6.out.size hs3 c7)
        clear g7 c7 Gg6 Gh6 B6
        generalize doesN R p2 m2 d = dn at *
        generalize doesB R p2 m2 d = db at *
        go_wp2
        go_roundw
        case rel => exact ⟨k + 1, _, _, _, _, by omega, by go_num, Gg7.out, Gh7.out, AG'.out, B7.out⟩
        case measure => simp [intOf]; omega
      · have AG' := Lib.hid (agree_foreign AG.out ⟨Gg5.out.hp, Gg5.out.hm⟩ HD.out HC.out hw)
        have hwb : (whoseC R d == 1 + q) = false := by simpa using hw
        clear hw
        go_wp2_with (refine wpList_load_mid (op := ⟨some 56, _, _, _, _, _⟩) rfl 41 (.tmp 55) rfl ab (aoff + k * 38) rfl (opCells d) _ (HX.out _ B5.out) Tryd.underlying41 rfl (opInfo HD.out) ?_)
        refine (does_any w5 g R p m d Gg5.out (HT.out _ B5.out) HD.out).mono ?_
        rintro e w6 ⟨rfl, g6, c6⟩
        have Gg6 := Lib.hid g6
        have Gh6 := Lib.hid (Gh5.out.kept c6 (fun e => hne (Option.some.inj e)))
        have B6 := Lib.hid (chg_below B5.out B5.out.size hs c6)
        clear g6 c6 Gg5 Gh5 B5
        go_wp2
        go_roundw
        case rel => exact ⟨k + 1, _, _, _, _, by omega, by go_num, Gg6.out, Gh6.out, AG'.out, B6.out⟩
        case measure => simp [intOf]; omega
    · have HM := Lib.hid (masked_agree AG.out HC.out)
      have HW := Lib.hid (some_agree AG.out ⟨Gg.out.hp, Gg.out.hm⟩ ⟨Gh.out.hp, Gh.out.hm⟩ HC.out)
      go_wp2_with fail
      refine (masked_any wr g R p m _ Gg.out).mono ?_
      rintro e w5 ⟨rfl, rfl⟩
      rw [HM.out]
      go_wp2_with fail
      refine (waiting_any wr g R p m _ Gg.out).mono ?_
      rintro e w5 ⟨rfl, n5, rfl⟩
      rw [HW.out]
      have Gh5 := Lib.hid (Gh.out.drewN n5)
      have B5 := Lib.hid (pw_drewN B.out n5)
      clear Gg Gh B
      generalize wr.drewN n5 = w5 at *
      go_wp2_with fail
      refine (masked_any w5 h R p2 m2 _ Gh5.out).mono ?_
      rintro e w5 ⟨rfl, rfl⟩
      go_wp2_with fail
      refine (waiting_any _ h R p2 m2 _ Gh5.out).mono ?_
      rintro e w5 ⟨rfl, n6, rfl⟩
      have B6 := Lib.hid (pw_drewN B5.out n6)
      go_wp2
      go_ret
      exact ⟨rfl, B6.out⟩
end Go.Proofs.YtpedciapkalhgaaDoor.Gk
