/- The document's controller: Set, Next, Take, Own, Told. No statement of the seat is proved here. -/
import Derived.Test.YtpedciapkalhgaaDoorRefC
namespace Go.Proofs.YtpedciapkalhgaaDoor.Gk
open Go.RowKit Go.Proofs.YtpedciapkalhgaaDoor.Kit
set_option linter.unusedSimpArgs false
set_option linter.unusedVariables false

theorem add_u32 (f : Nat → Bool) (k : Nat) (hk : k < 32) : (((bitsTo f k : Nat) : Int) + (2 : Int) ^ k % 4294967296) % 4294967296 = ((bitsTo f k ||| 2 ^ k : Nat) : Int) := by
  rw [add_bit f k hk]
  have := Nat.or_lt_two_pow (n := 32) (bitsTo_lt32 f k (by omega)) (two_lt k hk)
  omega
theorem bitsTo_yes {f : Nat → Bool} {k : Nat} (h : f k = true) : bitsTo f k ||| 2 ^ k = bitsTo f (k + 1) := by simp [bitsTo, h]
theorem bitsTo_no {f : Nat → Bool} {k : Nat} (h : f k = false) : bitsTo f k = bitsTo f (k + 1) := by simp [bitsTo, h]

/-! ### Set -/
def f1 (r : List Int) (c : Int) (m i : Nat) : Bool := decide (nth r i = c) && m.testBit i
def f2 (r : List Int) (c : Int) (p m i : Nat) : Bool := decide (nth r i = c) && (p.testBit i && !m.testBit i)
theorem f1_end (r : List Int) (c : Int) (m : Nat) (hi : isC c = true) : bitsTo (f1 r c m) 32 = someOf r c m := bitsTo_eq (someOf_lt _ _ _) fun i h => by
  rw [some_bit _ _ _ _ hi]; simp [f1, h, Bool.and_comm]
theorem f2_end (r : List Int) (c : Int) (p m : Nat) (hm : m < 4294967296) (hi : isC c = true) : bitsTo (f2 r c p m) 32 = someOf r c (wait p m) := bitsTo_eq (someOf_lt _ _ _) fun i h => by
  rw [some_bit _ _ _ _ hi, wait_bit _ _ _ hm]; simp [f2, h, Bool.and_comm]
theorem some_not (r : List Int) (c : Int) (x : Nat) (hi : isC c = false) : someOf r c x = 0 := by unfold someOf; rw [hi]; rfl
theorem rset_not (w : World) (b : Nat) (c k : Int) (hi : isC c = false) :
    Calls Tryd.prog 46 #[.pointer (some ⟨b, 0, none⟩), .int .i64 c, .int .i64 k] w fun e w' => e = .returned (.int .u32 0) ∧ w = w' := by
  have HI := Lib.hid hi; clear hi
  go_enter Tryd.func46, Tryd.ntmps46
  go_wp2_with (go_at_call 51; refine (isCell_any _ _).mono ?_; rintro e w' ⟨rfl, rfl⟩; rw [HI.out])
  refine wp_loop_rounds 1 ?_
  rw [rounds_succ]
  go_wp2
  go_ret
  exact ⟨rfl, rfl⟩
set_option maxHeartbeats 2000000 in
theorem rset_one (w : World) (b x y z : Nat) (r : List Int) (p m : Nat) (c : Int) (h : RAt w b x y z r p m) :
    Calls Tryd.prog 46 #[.pointer (some ⟨b, 0, none⟩), .int .i64 c, .int .i64 1] w fun e w' => e = .returned (.int .u32 (someOf r c m)) ∧ w = w' := by
  by_cases hi : isC c = true
  · have HI := Lib.hid hi
    rw [← f1_end r c m hi]
    clear hi
    have d0 := h.c0
    have d2 := h.c2
    have H := Lib.hid h
    clear h
    go_enter Tryd.func46, Tryd.ntmps46
    go_wp2_with (go_at_call 51; refine (isCell_any _ _).mono ?_; rintro e w' ⟨rfl, rfl⟩; rw [HI.out])
    go_loop [8, 9, 10] (fun n i _ => ∃ k : Nat, k ≤ 32 ∧ i = .int .i64 k ∧ n = .int .u32 (bitsTo (f1 r c m) k)) (fun _ i _ => 32 - (intOf i).toNat)
    case atStart => exact ⟨0, by omega, rfl, rfl⟩
    case round =>
      obtain ⟨k, hk, rfl, rfl⟩ := hrel
      by_cases hlt : k < 32
      · have cx := H.out.cx k hlt
        have cz := H.out.cz k hlt
        by_cases hc : nth r k = c
        · have hd : (nth r k == c) = true := by simp [hc]
          cases hb : m.testBit k with
          | true =>
            have E := Lib.hid (bitsTo_yes (f := f1 r c m) (k := k) (by simp [f1, hc, hb]))
            have A := Lib.hid (add_u32 (f1 r c m) k hlt)
            rw [hb] at cz
            clear hc hb
            go_wp2
            go_round
            case rel => exact ⟨k + 1, by omega, by go_num, by rw [A.out, E.out]⟩
            case measure => simp [intOf]; omega
          | false =>
            have E := Lib.hid (bitsTo_no (f := f1 r c m) (k := k) (by simp [f1, hb]))
            rw [hb] at cz
            clear hc hb
            go_wp2
            go_round
            case rel => exact ⟨k + 1, by omega, by go_num, by rw [E.out]⟩
            case measure => simp [intOf]; omega
        · have hd : (nth r k == c) = false := by simp [hc]
          have E := Lib.hid (bitsTo_no (f := f1 r c m) (k := k) (by simp [f1, hc]))
          clear hc
          go_wp2
          go_round
          case rel => exact ⟨k + 1, by omega, by go_num, by rw [E.out]⟩
          case measure => simp [intOf]; omega
      · obtain rfl : k = 32 := by omega
        go_wp2
        go_ret
        exact ⟨rfl, rfl⟩
  · have hi' : isC c = false := by simpa using hi
    rw [some_not r c m hi']
    exact rset_not w b c 1 hi'
set_option maxHeartbeats 2000000 in
theorem rset_two (w : World) (b x y z : Nat) (r : List Int) (p m : Nat) (c : Int) (h : RAt w b x y z r p m) :
    Calls Tryd.prog 46 #[.pointer (some ⟨b, 0, none⟩), .int .i64 c, .int .i64 2] w fun e w' => e = .returned (.int .u32 (someOf r c (wait p m))) ∧ w = w' := by
  by_cases hi : isC c = true
  · have HI := Lib.hid hi
    rw [← f2_end r c p m h.hm hi]
    clear hi
    have d0 := h.c0
    have d1 := h.c1
    have d2 := h.c2
    have H := Lib.hid h
    clear h
    go_enter Tryd.func46, Tryd.ntmps46
    go_wp2_with (go_at_call 51; refine (isCell_any _ _).mono ?_; rintro e w' ⟨rfl, rfl⟩; rw [HI.out])
    go_loop [8, 9, 10] (fun n i _ => ∃ k : Nat, k ≤ 32 ∧ i = .int .i64 k ∧ n = .int .u32 (bitsTo (f2 r c p m) k)) (fun _ i _ => 32 - (intOf i).toNat)
    case atStart => exact ⟨0, by omega, rfl, rfl⟩
    case round =>
      obtain ⟨k, hk, rfl, rfl⟩ := hrel
      by_cases hlt : k < 32
      · have cx := H.out.cx k hlt
        have cy := H.out.cy k hlt
        have cz := H.out.cz k hlt
        by_cases hc : nth r k = c
        · have hd : (nth r k == c) = true := by simp [hc]
          cases ha : p.testBit k with
          | true =>
            cases hb : m.testBit k with
            | false =>
              have E := Lib.hid (bitsTo_yes (f := f2 r c p m) (k := k) (by simp [f2, hc, hb, ha]))
              have A := Lib.hid (add_u32 (f2 r c p m) k hlt)
              rw [hb] at cz
              rw [ha] at cy
              clear hc hb ha
              go_wp2
              go_round
              case rel => exact ⟨k + 1, by omega, by go_num, by rw [A.out, E.out]⟩
              case measure => simp [intOf]; omega
            | true =>
              have E := Lib.hid (bitsTo_no (f := f2 r c p m) (k := k) (by simp [f2, hb]))
              rw [hb] at cz
              rw [ha] at cy
              clear hc hb ha
              go_wp2
              go_round
              case rel => exact ⟨k + 1, by omega, by go_num, by rw [E.out]⟩
              case measure => simp [intOf]; omega
          | false =>
            have E := Lib.hid (bitsTo_no (f := f2 r c p m) (k := k) (by simp [f2, ha]))
            rw [ha] at cy
            clear hc ha
            go_wp2
            go_round
            case rel => exact ⟨k + 1, by omega, by go_num, by rw [E.out]⟩
            case measure => simp [intOf]; omega
        · have hd : (nth r k == c) = false := by simp [hc]
          have E := Lib.hid (bitsTo_no (f := f2 r c p m) (k := k) (by simp [f2, hc]))
          clear hc
          go_wp2
          go_round
          case rel => exact ⟨k + 1, by omega, by go_num, by rw [E.out]⟩
          case measure => simp [intOf]; omega
      · obtain rfl : k = 32 := by omega
        go_wp2
        go_ret
        exact ⟨rfl, rfl⟩
  · have hi' : isC c = false := by simpa using hi
    rw [some_not r c _ hi']
    exact rset_not w b c 2 hi'

/-! ### Next, Take -/
def nx (v : Nat) : Int := if v = 0 then -1 else (Lib.ctz 32 v : Nat)
theorem nx_at {v k : Nat} (hv : v < 4294967296) (hb : v.testBit k = true) (hl : ∀ j, j < k → v.testBit j = false) : nx v = k := by
  have h0 : v ≠ 0 := by rintro rfl; simp at hb
  obtain ⟨h1, h2, h3⟩ := ctz_bit v h0 hv
  unfold nx
  rw [if_neg h0]
  rcases Nat.lt_trichotomy k (Lib.ctz 32 v) with h | h | h
  · rw [h3 k h] at hb; cases hb
  · rw [h]
  · rw [hl _ h] at h1; cases h1
theorem nx_none {v : Nat} (hv : v < 4294967296) (hl : ∀ j, j < 32 → v.testBit j = false) : nx v = -1 := by
  have : v = 0 := bits_ext hv (by decide) fun i hi => by rw [hl i hi, Nat.zero_testBit]
  unfold nx; rw [if_pos this]
set_option maxHeartbeats 2000000 in
theorem rnext_any (w : World) (b x y z : Nat) (r : List Int) (p m : Nat) (c : Int) (h : RAt w b x y z r p m) :
    Calls Tryd.prog 45 #[.pointer (some ⟨b, 0, none⟩), .int .i64 c] w fun e w' => e = .returned (.int .i64 (nx (someOf r c (wait p m)))) ∧ w = w' := by
  have R := rset_two w b x y z r p m c h
  clear h
  have hv := Lib.hid (someOf_lt r c (wait p m))
  generalize someOf r c (wait p m) = v at *
  have RH := Lib.hid R
  clear R
  go_enter Tryd.func45, Tryd.ntmps45
  go_wp2_with (go_at_call 46; refine RH.out.mono ?_; rintro e w' ⟨rfl, rfl⟩)
  go_loop [6] (fun i => ∃ k : Nat, k ≤ 32 ∧ i = .int .i64 k ∧ Hid (∀ j, j < k → v.testBit j = false)) (fun i => 32 - (intOf i).toNat)
  case atStart => exact ⟨0, by omega, rfl, Lib.hid (fun j hj => by omega)⟩
  case round =>
    obtain ⟨k, hk, rfl, L⟩ := hrel
    by_cases hlt : k < 32
    · cases hb : v.testBit k with
      | true =>
        have E := Lib.hid (nx_at hv.out hb L.out)
        have HB := Lib.hid hb
        clear hb
        go_wp2_with (go_at_call 52; refine (bit_any _ v k hv.out hlt).mono ?_; rintro e w' ⟨rfl, rfl⟩; rw [HB.out])
        go_ret
        exact ⟨by rw [E.out]; rfl, rfl⟩
      | false =>
        have HB := Lib.hid hb
        have L2 := Lib.hid (show ∀ j, j < k + 1 → v.testBit j = false from fun j hj => by
          by_cases e : j = k
          · subst e; exact hb
          · exact L.out j (by omega))
        clear hb
        go_wp2_with (go_at_call 52; refine (bit_any _ v k hv.out hlt).mono ?_; rintro e w' ⟨rfl, rfl⟩; rw [HB.out])
        go_round
        case rel => exact ⟨k + 1, by omega, by go_num, L2⟩
        case measure => simp [intOf]; omega
    · obtain rfl : k = 32 := by omega
      have E := Lib.hid (nx_none hv.out L.out)
      go_wp2
      go_ret
      exact ⟨by rw [E.out]; rfl, rfl⟩
/-- What Take leaves pending. -/
def taken (p v : Nat) : Nat := if v = 0 then p else drop p (Lib.ctz 32 v)
set_option maxHeartbeats 2000000 in
theorem rtake_any (w : World) (b x y z : Nat) (r : List Int) (p m : Nat) (c : Int) (h : RAt w b x y z r p m) :
    Calls Tryd.prog 26 #[.pointer (some ⟨b, 0, none⟩), .int .i64 c] w fun e w' => e = .returned (.int .i64 (nx (someOf r c (wait p m)))) ∧ RAt w' b x y z r (taken p (someOf r c (wait p m))) m ∧ Ex (F3 x y z) w w' := by
  have H := Lib.hid h
  have d1 := h.c1
  by_cases hz : someOf r c (wait p m) = 0
  · have e1 : nx (someOf r c (wait p m)) = -1 := by unfold nx; rw [if_pos hz]
    have e2 : taken p (someOf r c (wait p m)) = p := by unfold taken; rw [if_pos hz]
    rw [e1, e2]
    have E1 := Lib.hid e1
    clear h hz e1 e2
    go_enter Tryd.func26, Tryd.ntmps26
    go_wp2_with (go_at_call 45; refine (rnext_any _ b x y z r p m c H.out).mono ?_; rintro e w' ⟨rfl, rfl⟩; rw [E1.out])
    go_ret
    exact ⟨rfl, H.out, Ex.refl _ _⟩
  · obtain ⟨h1, h2, h3⟩ := ctz_bit _ hz (someOf_lt _ _ _)
    have e1 : nx (someOf r c (wait p m)) = (Lib.ctz 32 (someOf r c (wait p m)) : Nat) := by unfold nx; rw [if_neg hz]
    have e2 : taken p (someOf r c (wait p m)) = drop p (Lib.ctz 32 (someOf r c (wait p m))) := by unfold taken; rw [if_neg hz]
    rw [e1, e2]
    have E1 := Lib.hid e1
    clear h1 h3 hz e1 e2
    generalize Lib.ctz 32 (someOf r c (wait p m)) = k at *
    have cy := h.cy k h2
    have fy := h.fy k
    have F := Lib.hid (h.setY k h2 false (drop p k) (drop_lt p k) (drop_hit p k h2 h.hp))
    clear h
    go_enter Tryd.func26, Tryd.ntmps26
    go_wp2_with (go_at_call 45; refine (rnext_any _ b x y z r p m c H.out).mono ?_; rintro e w' ⟨rfl, rfl⟩; rw [E1.out])
    go_ret
    exact ⟨rfl, F.out, (Ex.refl _ w).chg (chg_set _ y k _) (.inl (.inr (.inl rfl)))⟩
end Go.Proofs.YtpedciapkalhgaaDoor.Gk
