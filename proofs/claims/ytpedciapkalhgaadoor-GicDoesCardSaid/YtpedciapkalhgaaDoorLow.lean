/- GicLowest: the plain law and the walk. -/
import Derived.Test.YtpedciapkalhgaaDoorBase5
namespace Go.Proofs.YtpedciapkalhgaaDoor.Gk
open Go.RowKit Go.Proofs.YtpedciapkalhgaaDoor.Kit
set_option linter.unusedSimpArgs false
set_option linter.unusedVariables false

theorem all1_bit (i : Nat) : (4294967295 : Nat).testBit i = decide (i < 32) := by
  have : (4294967295 : Nat) = 2 ^ 32 - 1 := by decide
  rw [this, Nat.testBit_two_pow_sub_one]
theorem compl_bit (m i : Nat) (hm : m < 4294967296) : (4294967295 - m).testBit i = (decide (i < 32) && !m.testBit i) := by
  have h : 4294967295 - m = 2 ^ 32 - (m + 1) := by omega
  rw [h, Nat.testBit_two_pow_sub_succ (by simpa using hm)]
theorem wait_bit (p m i : Nat) (hm : m < 4294967296) : (wait p m).testBit i = (p.testBit i && (decide (i < 32) && !m.testBit i)) := by
  unfold wait; rw [Nat.testBit_and, compl_bit m i hm]
theorem drop_bit (p k i : Nat) (hk : k < 32) : (drop p k).testBit i = (p.testBit i && (decide (i < 32) && !decide (k = i))) := by
  unfold drop; rw [Nat.testBit_and, compl_bit _ i (two_lt k hk), Nat.testBit_two_pow]
theorem some_bit (r : List Int) (c : Int) (x i : Nat) (hi : isC c = true) : (someOf r c x).testBit i = (x.testBit i && (decide (i < 32) && decide (nth r i = c))) := by
  unfold someOf; rw [if_pos hi, Nat.testBit_and, own_bit]
/-- The lowest bit that is set. -/
theorem ctz_bit (x : Nat) (h0 : x ≠ 0) (h : x < 4294967296) : x.testBit (Lib.ctz 32 x) = true ∧ Lib.ctz 32 x < 32 ∧ ∀ i, i < Lib.ctz 32 x → x.testBit i = false := by
  obtain ⟨hl, hk⟩ := Lib.lowest_bit 32 x h0 h
  have e : Lib.ctz 32 x = Lib.ctzFrom 32 x := by simp [Lib.ctz, h0]
  obtain ⟨m, hm, _⟩ := Lib.ctzFrom_spec 32 x (by omega) h
  rw [← e] at hm
  generalize Lib.ctz 32 x = k at *
  subst hm
  refine ⟨?_, hk, fun i hi => ?_⟩
  · rw [Nat.mul_comm, Nat.testBit_mul_two_pow]; simp [Nat.testBit_zero]
  · rw [Nat.mul_comm, Nat.testBit_mul_two_pow]; simp; omega
/-- .. and the set without it. -/
theorem low_sub (x : Nat) (h0 : x ≠ 0) (h : x < 4294967296) : 2 ^ Lib.ctz 32 x ≤ x ∧ ∀ i, (x - 2 ^ Lib.ctz 32 x).testBit i = (x.testBit i && !decide (Lib.ctz 32 x = i)) := by
  have e : Lib.ctz 32 x = Lib.ctzFrom 32 x := by simp [Lib.ctz, h0]
  obtain ⟨m, hm, _⟩ := Lib.ctzFrom_spec 32 x (by omega) h
  rw [← e] at hm
  generalize Lib.ctz 32 x = k at *
  subst hm
  have hp := Nat.two_pow_pos k
  refine ⟨Nat.le_mul_of_pos_right _ (by omega), fun i => ?_⟩
  have e2 : 2 ^ k * (2 * m + 1) - 2 ^ k = (2 * m) * 2 ^ k := by rw [Nat.mul_add, Nat.mul_one, Nat.add_sub_cancel, Nat.mul_comm]
  rw [e2, Nat.mul_comm (2 ^ k), Nat.testBit_mul_two_pow, Nat.testBit_mul_two_pow]
  by_cases h1 : k ≤ i
  · by_cases h2 : k = i
    · subst h2; simp [Nat.testBit_zero]
    · obtain ⟨j, rfl⟩ : ∃ j, i = k + (j + 1) := ⟨i - k - 1, by omega⟩
      have e3 : k + (j + 1) - k = j + 1 := by omega
      have d1 : (2 * m + 1) / 2 = m := by omega
      have d2 : (2 * m) / 2 = m := by omega
      simp only [e3, Nat.testBit_succ, d1, d2, h1, decide_true, Bool.true_and]
      simp
  · simp [h1]

/-- One step of the law: what waits, less the line that is taken. -/
theorem took (r : List Int) (c : Int) (p : Nat) (hi : isC c = true) (h0 : someOf r c (wait p 0) ≠ 0) :
    someOf r c (wait p 0) - 2 ^ Lib.ctz 32 (someOf r c (wait p 0)) = someOf r c (wait (drop p (Lib.ctz 32 (someOf r c (wait p 0)))) 0) ∧ 2 ^ Lib.ctz 32 (someOf r c (wait p 0)) ≤ someOf r c (wait p 0) := by
  have hlt := someOf_lt r c (wait p 0)
  obtain ⟨h1, h2, h3⟩ := ctz_bit _ h0 hlt
  obtain ⟨h4, h5⟩ := low_sub _ h0 hlt
  refine ⟨?_, h4⟩
  apply Nat.eq_of_testBit_eq
  intro i
  rw [h5, some_bit r c _ i hi, some_bit r c _ i hi, wait_bit _ _ _ (by decide), wait_bit _ _ _ (by decide), drop_bit _ _ _ h2]
  generalize Lib.ctz 32 (someOf r c (wait p 0)) = k
  cases p.testBit i <;> cases decide (i < 32) <;> cases decide (nth r i = c) <;> cases decide (k = i) <;> simp
theorem took_bits (r : List Int) (c : Int) (p : Nat) (hi : isC c = true) (h0 : someOf r c (wait p 0) ≠ 0) (i : Nat) (hb : (someOf r c (wait (drop p (Lib.ctz 32 (someOf r c (wait p 0)))) 0)).testBit i = true) :
    Lib.ctz 32 (someOf r c (wait p 0)) < i := by
  have hlt := someOf_lt r c (wait p 0)
  obtain ⟨h1, h2, h3⟩ := ctz_bit _ h0 hlt
  obtain ⟨h4, h5⟩ := low_sub _ h0 hlt
  rw [← (took r c p hi h0).1, h5] at hb
  simp only [Bool.and_eq_true, Bool.not_eq_true', decide_eq_false_iff_not] at hb
  rcases Nat.lt_trichotomy (Lib.ctz 32 (someOf r c (wait p 0))) i with h | h | h
  · exact h
  · exact absurd h hb.2
  · rw [h3 i h] at hb; exact absurd hb.1 (by decide)

theorem Rd.at_ {w : World} {A : Option Addr} {n cap : Nat} {xs : List Int} (h : Rd w (.slice A n cap) xs) (k : Nat) (hk : k < xs.length) : ∃ ad, A = some ad ∧ w.cell? (ad.add k) = some (.int .i64 (nth xs k)) := by
  obtain ⟨⟨A', cap', he, hcc⟩, _, _⟩ := h
  obtain ⟨ad, hA, hj⟩ := hcc (by omega)
  injection he with eA _ _
  exact ⟨ad, eA.trans hA, hj k hk⟩

/-! ### Raise and Take, in one form each -/
def raised (r : List Int) (p k : Nat) : Nat := if nth r k = 0 then p else p ||| 2 ^ k
def isNew (r : List Int) (p k : Nat) : Bool := !decide (nth r k = 0) && !p.testBit k
theorem raise_any (w : World) (b : Nat) (r : List Int) (p m : Nat) (l : Int) (h : GicAt w b r p m) (h0 : 0 ≤ l) (h1 : l < 32) :
    Calls Tryd.prog 12 #[.pointer (some ⟨b, 0, none⟩), .int .i64 l] w fun e w' => e = .returned (.tuple #[.bool (isNew r p l.toNat), .int .i64 0]) ∧ GicAt w' b r (raised r p l.toNat) m ∧ Chg w w' b := by
  obtain ⟨k, rfl⟩ := Int.eq_ofNat_of_zero_le h0
  rw [Int.toNat_natCast]
  by_cases hr : nth r k = 0
  · refine (raise_no w b r p m k h (by omega) hr).mono ?_
    rintro e w' ⟨rfl, rfl⟩
    exact ⟨by simp [isNew, hr], by unfold raised; rw [if_pos hr]; exact h, Chg.refl _ _⟩
  · refine (raise_yes w b r p m k h (by omega) hr).mono ?_
    rintro e w' ⟨rfl, h2, h3⟩
    exact ⟨by simp [isNew, hr], by unfold raised; rw [if_neg hr]; exact h2, h3⟩

theorem bit_one (x n : Nat) (h : x.testBit n = true) : ((((x : Nat) : Int) / 2 ^ n).tmod 2 != 1) = false := by
  have e : ((x : Nat) : Int) / 2 ^ n = ((x / 2 ^ n : Nat) : Int) := by simp
  rw [e, Int.tmod_eq_emod_of_nonneg (Int.natCast_nonneg _)]
  rw [Nat.testBit_eq_decide_div_mod_eq] at h
  simp only [decide_eq_true_eq] at h
  have : (((x / 2 ^ n : Nat) : Int) % 2) = 1 := by omega
  rw [this]; rfl
theorem sub_u32 (x y n : Nat) (hn : n < 32) (h : x - 2 ^ n = y) (h2 : 2 ^ n ≤ x) (hx : x < 4294967296) : ((x : Int) - 2 ^ n % 4294967296) % 4294967296 = (y : Int) := by
  rw [bit_nat n hn]
  have := Nat.two_pow_pos n
  omega
theorem pw_drewN {B : Nat} {w W : World} (h : Below B w W) (n : Nat) : Below B w (W.drewN n) := ⟨h.os, h.tape, h.output, h.size, h.block⟩
set_option maxHeartbeats 2000000 in
theorem lowest_walk (w : World) (hT : TabAt w) (v1 : Value) (xs : List Int) (h1 : Rd w v1 xs) (v2 : Value) (ys : List Int) (h2 : Rd w v2 ys) (c0 : Int) (hc : i64ok c0) :
    Calls Tryd.prog 3 #[v1, v2, .int .i64 c0] w fun e w' => e = .returned (.bool true) ∧ Below w.heap.size w w' := by
  have h0 : 0 < w.heap.size := World.block_lt_of_cell? w _ (hT 0 (by omega))
  have HT := Lib.hid (fun w' (h : Below w.heap.size w w') => hT.below h h0)
  have HA := Lib.hid (awake_any w hT)
  have H1 := Lib.hid (fun w' (h : Below w.heap.size w w') => h1.below h)
  have H2 := Lib.hid (fun w' (h : Below w.heap.size w w') => h2.below h)
  have Hc := Lib.hid hc
  obtain ⟨⟨A, cap, rfl, _⟩, hfew, _⟩ := h2
  clear h1 hc hT
  go_enter Tryd.func3, Tryd.ntmps3
  go_wp2_with fail
  refine HA.out.mono ?_
  rintro e w1 ⟨rfl, b1⟩
  have B1 := Lib.hid b1; clear b1
  go_wp2_with fail
  refine (routed_any _ _ xs (H1.out _ B1.out)).mono ?_
  rintro e w2 ⟨rfl, g2, b2⟩
  have hs := B1.out.size
  generalize w1.heap.size = b at *
  have B2 := Lib.hid (B1.out.trans (b2.mono hs))
  have G2 := Lib.hid g2
  clear g2 b2 B1
  generalize rt (fr xs) 32 = R at *
  go_wp2_with fail
  refine (pick_any _ _ _ Hc.out (by omega) (by omega)).mono ?_
  rintro e w3 ⟨rfl, rfl⟩
  have hpk := pk_range c0 8 (by omega)
  generalize pk c0 8 = q at *
  have hC : isC (1 + q) = true := by simp [isC]; omega
  have HC := Lib.hid hC; clear hC
  go_wp2_with fail
  clear HA H1
  go_loopw [10] (fun i wr => ∃ k p : Nat, k ≤ ys.length ∧ i = .int .i64 k ∧ GicAt wr b R p 0 ∧ Below w.heap.size w wr) (fun i _ => ys.length - (intOf i).toNat)
  case atStart => exact ⟨0, 0, by omega, rfl, G2.out, B2.out⟩
  case round =>
    obtain ⟨k, p, hk, rfl, hg, hb⟩ := hrel
    have G := Lib.hid hg
    have B := Lib.hid hb
    clear hg hb G2 B2
    have hpos : 0 ≤ 1 + q := by omega
    by_cases hlt : k < ys.length
    · obtain ⟨ad, hA, hcell⟩ := (H2.out _ B.out).at_ k hlt
      subst hA
      have HO := Lib.hid ((H2.out _ B.out).okay k)
      have hr32 := pk_range (nth ys k) 32 (by omega)
      go_wp2_with (first | (go_at_call 11; refine (pick_any _ _ _ HO.out (by omega) (by omega)).mono ?_; rintro e w' ⟨rfl, rfl⟩) | (go_at_call 12; refine (raise_any _ _ R _ 0 _ G.out hr32.1 hr32.2).mono ?_; rintro e w' ⟨rfl, hg', hch⟩; have G' := Lib.hid hg'; have B' := Lib.hid (chg_below B.out B.out.size hs hch); clear hg' hch))
      go_roundw
      case rel => exact ⟨k + 1, _, by omega, by go_num, G'.out, B'.out⟩
      case measure => simp [intOf]; omega
    · go_wp2_with (go_at_call 13; refine (waiting_any _ _ R p 0 _ G.out).mono ?_; rintro e w' ⟨rfl, n, rfl⟩)
      have G' := Lib.hid (G.out.drewN n)
      have B' := Lib.hid (pw_drewN B.out n)
      clear G B H2
      generalize wr.drewN n = w5 at *
      go_loopw [11, 12, 13, 14, 15] (fun la x i _ _ wr => ∃ (k p : Nat) (l : Int), k ≤ 32 ∧ i = .int .i64 k ∧ la = .int .i64 l ∧ (k : Int) - 1 ≤ l ∧ l < 32 ∧ x = .int .u32 (someOf R (1 + q) (wait p 0)) ∧
          (∀ i, (someOf R (1 + q) (wait p 0)).testBit i = true → l < i) ∧ GicAt wr b R p 0 ∧ Below w.heap.size w wr) (fun _ _ i _ _ _ => 33 - (intOf i).toNat)
      case atStart => exact ⟨0, p, -1, by omega, rfl, rfl, by omega, by omega, rfl, fun i _ => by omega, G'.out, B'.out⟩
      case round =>
        obtain ⟨k2, p2, l, hk2, rfl, rfl, hl1, hl2, rfl, hbits, hg, hb⟩ := hrel
        have G := Lib.hid hg
        have B := Lib.hid hb
        have HB := Lib.hid hbits
        clear hg hb G' B' hbits
        by_cases hz : someOf R (1 + q) (wait p2 0) = 0
        · have HZ := Lib.hid hz
          rw [hz]
          clear hz
          go_wp2_with (go_at_call 14; refine (take_none _ _ R p2 0 _ G.out HZ.out).mono ?_; rintro e w' ⟨rfl, hg', hch⟩; have B' := Lib.hid (chg_below B.out B.out.size hs hch); clear hg' hch)
          go_ret
          exact ⟨rfl, B'.out⟩
        · obtain ⟨hc1, hc2, hc3⟩ := ctz_bit _ hz (someOf_lt _ _ _)
          obtain ⟨ht1, ht2⟩ := took R (1 + q) p2 HC.out hz
          have htb := took_bits R (1 + q) p2 HC.out hz
          have hn1 := HB.out _ hc1
          obtain ⟨n2, hn2⟩ : ∃ n2, Lib.ctz 32 (someOf R (1 + q) (wait p2 0)) = n2 := ⟨_, rfl⟩
          rw [hn2] at hc1 hc2 hn1 ht1 ht2 htb
          have hd1 : decide ((n2 : Int) ≤ l) = false := by simp only [decide_eq_false_iff_not]; omega
          have hd2 : decide ((32 : Int) ≤ (n2 : Int)) = false := by simp only [decide_eq_false_iff_not]; omega
          have hd3 := bit_one _ _ hc1
          have HN := Lib.hid hn2
          have HT1 := Lib.hid ht1
          have HT2 := Lib.hid ht2
          have HTB := Lib.hid htb
          have Hz := Lib.hid hz
          clear hz hn2 hc1 hc3 ht1 ht2 htb
          go_wp2_with (go_at_call 14; refine (take_some _ _ R p2 0 _ n2 G.out (HT.out _ B.out) Hz.out HN.out).mono ?_; rintro e w' ⟨rfl, hg', hch⟩; have G' := Lib.hid hg'; have B' := Lib.hid (chg_below B.out B.out.size hs hch); clear hg' hch)
          go_roundw
          case rel =>
            refine ⟨k2 + 1, _, n2, by omega, by go_num, rfl, by omega, by omega, ?_, ?_, G'.out, B'.out⟩
            · rw [sub_u32 _ _ n2 (by omega) HT1.out HT2.out (someOf_lt _ _ _)]
            · intro i hi
              have := HTB.out i hi
              omega
          case measure => simp [intOf]; omega
end Go.Proofs.YtpedciapkalhgaaDoor.Gk
