/- The document's controller: Mask, Clear, Set, Next, Take. No statement of the seat is proved here. -/
import Derived.Test.YtpedciapkalhgaaDoorRefB
namespace Go.Proofs.YtpedciapkalhgaaDoor.Gk
open Go.RowKit Go.Proofs.YtpedciapkalhgaaDoor.Kit
set_option linter.unusedSimpArgs false
set_option linter.unusedVariables false

/-! ### a set by its bits -/
def bitsTo (f : Nat → Bool) : Nat → Nat
  | 0 => 0
  | k + 1 => if f k then bitsTo f k ||| 2 ^ k else bitsTo f k
theorem bitsTo_lt (f : Nat → Bool) (k : Nat) : bitsTo f k < 2 ^ k := by
  induction k with
  | zero => simp [bitsTo]
  | succ k ih =>
    have h2 : 2 ^ (k + 1) = 2 ^ k + 2 ^ k := by rw [Nat.pow_succ]; omega
    unfold bitsTo
    split
    · exact Nat.or_lt_two_pow (by omega) (by omega)
    · omega
theorem bitsTo_lt32 (f : Nat → Bool) (k : Nat) (h : k ≤ 32) : bitsTo f k < 4294967296 := Nat.lt_of_lt_of_le (bitsTo_lt f k) (show 2 ^ k ≤ 2 ^ 32 from Nat.pow_le_pow_right (by decide) h)
theorem bitsTo_bit (f : Nat → Bool) (k i : Nat) : (bitsTo f k).testBit i = (decide (i < k) && f i) := by
  induction k with
  | zero => simp [bitsTo]
  | succ k ih =>
    unfold bitsTo
    split
    · rename_i h
      rw [Nat.testBit_or, ih, Nat.testBit_two_pow]
      by_cases e : k = i
      · subst e; simp [h]
      · by_cases e2 : i < k
        · simp [e, e2, show i < k + 1 by omega]
        · simp [e, e2, show ¬ i < k + 1 by omega]
    · rename_i h
      rw [ih]
      by_cases e : k = i
      · subst e; simp [h]
      · by_cases e2 : i < k
        · simp [e2, show i < k + 1 by omega]
        · simp [e2, show ¬ i < k + 1 by omega]
theorem bitsTo_eq {f : Nat → Bool} {x : Nat} (hx : x < 4294967296) (h : ∀ i, i < 32 → f i = x.testBit i) : bitsTo f 32 = x := by
  apply Nat.eq_of_testBit_eq; intro i
  rw [bitsTo_bit]
  by_cases hi : i < 32
  · simp [hi, h i hi]
  · rw [lt_bit x i hx hi]; simp [hi]
theorem bits_ext {p q : Nat} (hp : p < 4294967296) (hq : q < 4294967296) (h : ∀ i, i < 32 → p.testBit i = q.testBit i) : p = q := by
  apply Nat.eq_of_testBit_eq; intro i
  by_cases hi : i < 32
  · exact h i hi
  · rw [lt_bit p i hp hi, lt_bit q i hq hi]
theorem add_bit (f : Nat → Bool) (k : Nat) (hk : k < 32) : ((bitsTo f k : Nat) : Int) + (2 : Int) ^ k % 4294967296 = ((bitsTo f k ||| 2 ^ k : Nat) : Int) := by
  rw [bit_nat k hk]
  have := Nat.two_pow_add_eq_or_of_lt (bitsTo_lt f k) 1
  rw [Nat.mul_one, Nat.or_comm] at this
  rw [← this]; omega

/-! ### Mask -/
def mbits (r : List Int) (c : Int) (m x k : Nat) (i : Nat) : Bool := if i < k ∧ nth r i = c then x.testBit i else m.testBit i
theorem mask_start (r : List Int) (c : Int) (m x : Nat) (hm : m < 4294967296) : bitsTo (mbits r c m x 0) 32 = m := bitsTo_eq hm fun i _ => by simp [mbits]
theorem mask_end (r : List Int) (c : Int) (m x : Nat) (hm : m < 4294967296) : bitsTo (mbits r c m x 32) 32 = maskTo r c m x := bitsTo_eq (maskTo_lt _ _ _ _) fun i hi => by
  rw [maskTo_bit]; by_cases h : nth r i = c <;> simp [mbits, hi, h]
theorem mask_hit {r : List Int} {c : Int} {m x k : Nat} (h : nth r k = c) : ∀ i, i < 32 → (bitsTo (mbits r c m x (k + 1)) 32).testBit i = if i = k then x.testBit k else (bitsTo (mbits r c m x k) 32).testBit i := fun i hi => by
  rw [bitsTo_bit, bitsTo_bit]
  by_cases e : i = k
  · subst e; simp [mbits, hi, h]
  · by_cases e2 : i < k
    · simp [mbits, hi, e, e2, show i < k + 1 by omega]
    · simp [mbits, hi, e, e2, show ¬ i < k + 1 by omega]
theorem mask_skip {r : List Int} {c : Int} {m x k : Nat} (h : ¬ nth r k = c) : bitsTo (mbits r c m x (k + 1)) 32 = bitsTo (mbits r c m x k) 32 := bits_ext (bitsTo_lt32 _ _ (by omega)) (bitsTo_lt32 _ _ (by omega)) fun i hi => by
  rw [bitsTo_bit, bitsTo_bit]
  by_cases e : i = k
  · subst e; simp [mbits, hi, h]
  · by_cases e2 : i < k
    · simp [mbits, hi, e2, show i < k + 1 by omega]
    · simp [mbits, hi, e2, show ¬ i < k + 1 by omega]
theorem bit_still (w : World) (x k : Nat) (hx : x < 4294967296) (hk : k < 32) : Calls Tryd.prog 52 #[.int .u32 x, .int .i64 k] w fun e w' => e = .returned (.bool (x.testBit k)) ∧ w' = w := (bit_any w x k hx hk).mono fun _ _ h => ⟨h.1, h.2.symm⟩
theorem rmask_not (w : World) (b : Nat) (c : Int) (x : Nat) (hi : isC c = false) :
    Calls Tryd.prog 41 #[.pointer (some ⟨b, 0, none⟩), .int .i64 c, .int .u32 x] w fun e w' => e = .returned (.tuple #[]) ∧ w = w' := by
  have HI := Lib.hid hi; clear hi
  go_enter Tryd.func41, Tryd.ntmps41
  go_wp2_with (go_at_call 51; refine (isCell_any _ _).mono ?_; rintro e w' ⟨rfl, rfl⟩; rw [HI.out])
  refine wp_loop_rounds 1 ?_
  rw [rounds_succ]
  go_wp2
  go_end0
  exact ⟨rfl, rfl⟩
set_option maxHeartbeats 2000000 in
theorem rmask_yes (w : World) (b x y z : Nat) (r : List Int) (p m : Nat) (c : Int) (s : Nat) (hs : s < 4294967296) (h : RAt w b x y z r p m) (hi : isC c = true) :
    Calls Tryd.prog 41 #[.pointer (some ⟨b, 0, none⟩), .int .i64 c, .int .u32 s] w fun e w' => e = .returned (.tuple #[]) ∧ RAt w' b x y z r p (maskTo r c m s) ∧ Ex (F3 x y z) w w' := by
  have HI := Lib.hid hi; clear hi
  have HS := Lib.hid hs; clear hs
  have hm := Lib.hid h.hm
  have I0 := Lib.hid (show RAt w b x y z r p (bitsTo (mbits r c m s 0) 32) ∧ Ex (F3 x y z) w w from ⟨by rw [mask_start r c m s h.hm]; exact h, Ex.refl _ _⟩)
  clear h
  go_enter Tryd.func41, Tryd.ntmps41
  go_wp2_with (go_at_call 51; refine (isCell_any _ _).mono ?_; rintro e w' ⟨rfl, rfl⟩; rw [HI.out])
  go_loopw [7] (fun i wr => ∃ k : Nat, k ≤ 32 ∧ i = .int .i64 k ∧ Hid (RAt wr b x y z r p (bitsTo (mbits r c m s k) 32) ∧ Ex (F3 x y z) w wr)) (fun i _ => 32 - (intOf i).toNat)
  case atStart => exact ⟨0, by omega, rfl, I0⟩
  case round =>
    obtain ⟨k, hk, rfl, I⟩ := hrel
    clear I0
    by_cases hlt : k < 32
    · have d0 := I.out.1.c0
      have d2 := I.out.1.c2
      have cx := I.out.1.cx k hlt
      have cz := I.out.1.cz k hlt
      have fz := I.out.1.fz k
      by_cases hc : nth r k = c
      · have hd : (nth r k == c) = true := by simp [hc]
        have F := Lib.hid (show ∀ W, wr.drew.setCell ⟨z, k, none⟩ (.bool (s.testBit k)) = W → RAt W b x y z r p (bitsTo (mbits r c m s (k + 1)) 32) ∧ Ex (F3 x y z) w W from fun W e => by
          rw [← e]
          exact ⟨I.out.1.drew.setZ k hlt _ _ (bitsTo_lt32 _ _ (by omega)) (mask_hit hc), I.out.2.drew.chg (chg_set _ z k _) (.inl (.inr (.inr rfl)))⟩)
        clear hc I
        go_wp2_with fail
        refine wp_region_tail 9 (by kernel_rfl) (by kernel_rfl) ?_
        simp only [List.take_succ_cons, List.take_zero, List.drop_succ_cons, List.drop_zero]
        iterate 7 still_step
        still_call (bit_still _ s k HS.out hlt)
        still_step
        refine wpStill_nil ?_
        go_wp2
        go_roundw
        case rel => exact ⟨k + 1, by omega, by go_num, Lib.hid (F.out _ rfl)⟩
        case measure => simp [intOf]; omega
      · have hd : (nth r k == c) = false := by simp [hc]
        have F := Lib.hid (show RAt wr b x y z r p (bitsTo (mbits r c m s (k + 1)) 32) ∧ Ex (F3 x y z) w wr from by rw [mask_skip hc]; exact I.out)
        clear hc I
        go_wp2
        go_roundw
        case rel => exact ⟨k + 1, by omega, by go_num, F⟩
        case measure => simp [intOf]; omega
    · obtain rfl : k = 32 := by omega
      go_wp2
      go_end0
      have := I.out.1
      rw [mask_end r c m s hm.out] at this
      exact ⟨rfl, this, I.out.2⟩

/-! ### Clear -/
def cbits (r : List Int) (c : Int) (p k : Nat) (i : Nat) : Bool := if i < k ∧ nth r i = c then false else p.testBit i
theorem clear_start (r : List Int) (c : Int) (p : Nat) (hp : p < 4294967296) : bitsTo (cbits r c p 0) 32 = p := bitsTo_eq hp fun i _ => by simp [cbits]
theorem clear_end (r : List Int) (c : Int) (p : Nat) (hp : p < 4294967296) (hi : isC c = true) : bitsTo (cbits r c p 32) 32 = wait p (someOf r c 4294967295) := bitsTo_eq (wait_lt _ _) fun i h32 => by
  rw [wait_bit _ _ _ (someOf_lt _ _ _), some_bit _ _ _ _ hi, all1_bit]
  by_cases h : nth r i = c <;> simp [cbits, h32, h]
theorem clear_hit {r : List Int} {c : Int} {p k : Nat} (h : nth r k = c) : ∀ i, i < 32 → (bitsTo (cbits r c p (k + 1)) 32).testBit i = if i = k then false else (bitsTo (cbits r c p k) 32).testBit i := fun i hi => by
  rw [bitsTo_bit, bitsTo_bit]
  by_cases e : i = k
  · subst e; simp [cbits, hi, h]
  · by_cases e2 : i < k
    · simp [cbits, hi, e, e2, show i < k + 1 by omega]
    · simp [cbits, hi, e, e2, show ¬ i < k + 1 by omega]
theorem clear_skip {r : List Int} {c : Int} {p k : Nat} (h : ¬ nth r k = c) : bitsTo (cbits r c p (k + 1)) 32 = bitsTo (cbits r c p k) 32 := bits_ext (bitsTo_lt32 _ _ (by omega)) (bitsTo_lt32 _ _ (by omega)) fun i hi => by
  rw [bitsTo_bit, bitsTo_bit]
  by_cases e : i = k
  · subst e; simp [cbits, hi, h]
  · by_cases e2 : i < k
    · simp [cbits, hi, e2, show i < k + 1 by omega]
    · simp [cbits, hi, e2, show ¬ i < k + 1 by omega]
theorem rclear_not (w : World) (b : Nat) (c : Int) (hi : isC c = false) :
    Calls Tryd.prog 42 #[.pointer (some ⟨b, 0, none⟩), .int .i64 c] w fun e w' => e = .returned (.tuple #[]) ∧ w = w' := by
  have HI := Lib.hid hi; clear hi
  go_enter Tryd.func42, Tryd.ntmps42
  go_wp2_with (go_at_call 51; refine (isCell_any _ _).mono ?_; rintro e w' ⟨rfl, rfl⟩; rw [HI.out])
  refine wp_loop_rounds 1 ?_
  rw [rounds_succ]
  go_wp2
  go_end0
  exact ⟨rfl, rfl⟩
set_option maxHeartbeats 2000000 in
theorem rclear_yes (w : World) (b x y z : Nat) (r : List Int) (p m : Nat) (c : Int) (h : RAt w b x y z r p m) (hi : isC c = true) :
    Calls Tryd.prog 42 #[.pointer (some ⟨b, 0, none⟩), .int .i64 c] w fun e w' => e = .returned (.tuple #[]) ∧ RAt w' b x y z r (wait p (someOf r c 4294967295)) m ∧ Ex (F3 x y z) w w' := by
  have HI := Lib.hid hi; clear hi
  have hp := Lib.hid h.hp
  have I0 := Lib.hid (show RAt w b x y z r (bitsTo (cbits r c p 0) 32) m ∧ Ex (F3 x y z) w w from ⟨by rw [clear_start r c p h.hp]; exact h, Ex.refl _ _⟩)
  clear h
  go_enter Tryd.func42, Tryd.ntmps42
  go_wp2_with (go_at_call 51; refine (isCell_any _ _).mono ?_; rintro e w' ⟨rfl, rfl⟩; rw [HI.out])
  go_loopw [5] (fun i wr => ∃ k : Nat, k ≤ 32 ∧ i = .int .i64 k ∧ Hid (RAt wr b x y z r (bitsTo (cbits r c p k) 32) m ∧ Ex (F3 x y z) w wr)) (fun i _ => 32 - (intOf i).toNat)
  case atStart => exact ⟨0, by omega, rfl, I0⟩
  case round =>
    obtain ⟨k, hk, rfl, I⟩ := hrel
    clear I0
    by_cases hlt : k < 32
    · have d0 := I.out.1.c0
      have d1 := I.out.1.c1
      have cx := I.out.1.cx k hlt
      have cy := I.out.1.cy k hlt
      have fy := I.out.1.fy k
      by_cases hc : nth r k = c
      · have hd : (nth r k == c) = true := by simp [hc]
        have F := Lib.hid (show ∀ W, wr.setCell ⟨y, k, none⟩ (.bool false) = W → RAt W b x y z r (bitsTo (cbits r c p (k + 1)) 32) m ∧ Ex (F3 x y z) w W from fun W e => by
          rw [← e]
          exact ⟨I.out.1.setY k hlt _ _ (bitsTo_lt32 _ _ (by omega)) (clear_hit hc), I.out.2.chg (chg_set _ y k _) (.inl (.inr (.inl rfl)))⟩)
        clear hc I
        go_wp2
        go_roundw
        case rel => exact ⟨k + 1, by omega, by go_num, Lib.hid (F.out _ rfl)⟩
        case measure => simp [intOf]; omega
      · have hd : (nth r k == c) = false := by simp [hc]
        have F := Lib.hid (show RAt wr b x y z r (bitsTo (cbits r c p (k + 1)) 32) m ∧ Ex (F3 x y z) w wr from by rw [clear_skip hc]; exact I.out)
        clear hc I
        go_wp2
        go_roundw
        case rel => exact ⟨k + 1, by omega, by go_num, F⟩
        case measure => simp [intOf]; omega
    · obtain rfl : k = 32 := by omega
      go_wp2
      go_end0
      have := I.out.1
      rw [clear_end r c p hp.out HI.out] at this
      exact ⟨rfl, this, I.out.2⟩
end Go.Proofs.YtpedciapkalhgaaDoor.Gk
