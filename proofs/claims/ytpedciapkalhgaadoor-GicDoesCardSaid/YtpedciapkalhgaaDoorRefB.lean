/- The document's controller: RouteTo, Raise, Mask, Clear. No statement of the seat is proved here. -/
import Derived.Test.YtpedciapkalhgaaDoorRefA
namespace Go.Proofs.YtpedciapkalhgaaDoor.Gk
open Go.RowKit Go.Proofs.YtpedciapkalhgaaDoor.Kit
set_option linter.unusedSimpArgs false
set_option linter.unusedVariables false

theorem drop_hit (x k : Nat) (hk : k < 32) (hx : x < 4294967296) : ∀ i, i < 32 → (drop x k).testBit i = if i = k then false else x.testBit i := fun i hi => by
  rw [drop_bit _ _ _ hk]
  by_cases e : i = k
  · subst e; simp
  · simp [hi, e, Ne.symm e]
theorem or_hit (x k : Nat) : ∀ i, i < 32 → (x ||| 2 ^ k).testBit i = if i = k then true else x.testBit i := fun i hi => by
  rw [Nat.testBit_or, Nat.testBit_two_pow]
  by_cases e : i = k
  · subst e; simp
  · simp [e, Ne.symm e]

/-! ### RouteTo -/
theorem rroute_line (w : World) (b : Nat) (l c : Int) (hl : isL l = false) :
    Calls Tryd.prog 39 #[.pointer (some ⟨b, 0, none⟩), .int .i64 l, .int .i64 c] w fun e w' => e = .returned (.int .i64 90) ∧ w = w' := by
  have HL := Lib.hid hl; clear hl
  go_enter Tryd.func39, Tryd.ntmps39
  go_wp2_with (first | (go_at_call 50; refine (isLine_any _ _).mono ?_; rintro e w' ⟨rfl, rfl⟩; rw [HL.out]) | (go_at_call 51; refine (isCell_any _ _).mono ?_; rintro e w' ⟨rfl, rfl⟩))
  go_ret
  exact ⟨rfl, rfl⟩
theorem rroute_cell (w : World) (b : Nat) (l c : Int) (hl : isL l = true) (hc : c ≠ 0) (hi : isC c = false) :
    Calls Tryd.prog 39 #[.pointer (some ⟨b, 0, none⟩), .int .i64 l, .int .i64 c] w fun e w' => e = .returned (.int .i64 91) ∧ w = w' := by
  have HL := Lib.hid hl; clear hl
  have HI := Lib.hid hi; clear hi
  have hn : (c != 0) = true := by simpa using hc
  clear hc
  go_enter Tryd.func39, Tryd.ntmps39
  go_wp2_with (first | (go_at_call 50; refine (isLine_any _ _).mono ?_; rintro e w' ⟨rfl, rfl⟩; rw [HL.out]) | (go_at_call 51; refine (isCell_any _ _).mono ?_; rintro e w' ⟨rfl, rfl⟩; rw [HI.out]))
  go_ret
  exact ⟨rfl, rfl⟩
theorem isL_nat {l : Int} (h : isL l = true) : ∃ k : Nat, l = k ∧ k < 32 := by
  simp only [isL, Bool.and_eq_true, decide_eq_true_eq] at h
  obtain ⟨k, rfl⟩ := Int.eq_ofNat_of_zero_le h.1
  exact ⟨k, rfl, by omega⟩
theorem isL_of (k : Nat) (h : k < 32) : isL (k : Int) = true := by simp [isL]; omega
set_option maxHeartbeats 1000000 in
theorem rroute_ok (w : World) (b x y z : Nat) (r : List Int) (p m : Nat) (k : Nat) (c : Int) (h : RAt w b x y z r p m) (hk : k < 32) (hc : c = 0 ∨ isC c = true) :
    Calls Tryd.prog 39 #[.pointer (some ⟨b, 0, none⟩), .int .i64 k, .int .i64 c] w fun e w' => e = .returned (.int .i64 0) ∧
      RAt w' b x y z (if nth r k = c then r else r.set k c) (if nth r k = c then p else drop p k) (if nth r k = c then m else drop m k) ∧ Ex (F3 x y z) w w' := by
  have HL := Lib.hid (isL_of k hk)
  have HT : ∃ t : Bool, isC c = t ∧ (t = true ∨ c = 0) := by rcases hc with rfl | h; exact ⟨_, rfl, .inr rfl⟩; exact ⟨true, h, .inl rfl⟩
  obtain ⟨t, ht, htc⟩ := HT
  have HI := Lib.hid ht
  clear hc ht
  have d0 := h.c0
  have d1 := h.c1
  have d2 := h.c2
  have cx := h.cx k hk
  have cy := h.cy k hk
  have cz := h.cz k hk
  have fx := h.fx k
  have fy := h.fy k
  have fz := h.fz k
  obtain ⟨n1, n2, n3, n4, n5⟩ := h.ne1
  have n6 := h.ne
  have H := Lib.hid h
  clear h
  by_cases hr : nth r k = c
  · have hn : (nth r k != c) = false := by simp [hr]
    simp only [if_pos hr]
    have hcc : t = true ∨ (c != 0) = false := by rcases htc with h | h; exact .inl h; exact .inr (by simp [h])
    clear hr htc
    rcases hcc with rfl | hcc
    · go_enter Tryd.func39, Tryd.ntmps39
      go_wp2_with (first | (go_at_call 50; refine (isLine_any _ _).mono ?_; rintro e w' ⟨rfl, rfl⟩; rw [HL.out]) | (go_at_call 51; refine (isCell_any _ _).mono ?_; rintro e w' ⟨rfl, rfl⟩; rw [HI.out]))
      go_ret
      exact ⟨rfl, H.out, Ex.refl _ _⟩
    · cases t
      all_goals
        go_enter Tryd.func39, Tryd.ntmps39
        go_wp2_with (first | (go_at_call 50; refine (isLine_any _ _).mono ?_; rintro e w' ⟨rfl, rfl⟩; rw [HL.out]) | (go_at_call 51; refine (isCell_any _ _).mono ?_; rintro e w' ⟨rfl, rfl⟩; rw [HI.out]))
        go_ret
        exact ⟨rfl, H.out, Ex.refl _ _⟩
  · have hn : (nth r k != c) = true := by simpa using hr
    simp only [if_neg hr]
    have fin : ∀ W, (((w.setCell ⟨x, k, none⟩ (.int .i64 c)).setCell ⟨y, k, none⟩ (.bool false)).setCell ⟨z, k, none⟩ (.bool false)) = W → RAt W b x y z (r.set k c) (drop p k) (drop m k) ∧ Ex (F3 x y z) w W := by
      rintro W rfl
      have a1 := H.out.setX k hk c
      have a2 := a1.setY k hk false (drop p k) (drop_lt p k) (drop_hit p k hk a1.hp)
      have a3 := a2.setZ k hk false (drop m k) (drop_lt m k) (drop_hit m k hk a2.hm)
      exact ⟨a3, (((Ex.refl _ w).chg (chg_set _ x k _) (.inl (.inl rfl))).chg (chg_set _ y k _) (.inl (.inr (.inl rfl)))).chg (chg_set _ z k _) (.inl (.inr (.inr rfl)))⟩
    have FIN := Lib.hid fin
    clear fin hr
    have hcc : t = true ∨ (c != 0) = false := by rcases htc with h | h; exact .inl h; exact .inr (by simp [h])
    clear htc
    rcases hcc with rfl | hcc
    · go_enter Tryd.func39, Tryd.ntmps39
      go_wp2_with (first | (go_at_call 50; refine (isLine_any _ _).mono ?_; rintro e w' ⟨rfl, rfl⟩; rw [HL.out]) | (go_at_call 51; refine (isCell_any _ _).mono ?_; rintro e w' ⟨rfl, rfl⟩; rw [HI.out]))
      go_ret
      exact ⟨rfl, FIN.out _ rfl⟩
    · cases t
      all_goals
        go_enter Tryd.func39, Tryd.ntmps39
        go_wp2_with (first | (go_at_call 50; refine (isLine_any _ _).mono ?_; rintro e w' ⟨rfl, rfl⟩; rw [HL.out]) | (go_at_call 51; refine (isCell_any _ _).mono ?_; rintro e w' ⟨rfl, rfl⟩; rw [HI.out]))
        go_ret
        exact ⟨rfl, FIN.out _ rfl⟩

/-! ### Raise -/
theorem rraise_out (w : World) (b : Nat) (l : Int) (hl : isL l = false) :
    Calls Tryd.prog 40 #[.pointer (some ⟨b, 0, none⟩), .int .i64 l] w fun e w' => e = .returned (.tuple #[.bool false, .int .i64 90]) ∧ w = w' := by
  have HL := Lib.hid hl; clear hl
  go_enter Tryd.func40, Tryd.ntmps40
  go_wp2_with (go_at_call 50; refine (isLine_any _ _).mono ?_; rintro e w' ⟨rfl, rfl⟩; rw [HL.out])
  go_ret2
  exact ⟨rfl, rfl⟩
set_option maxHeartbeats 1000000 in
theorem rraise_ok (w : World) (b x y z : Nat) (r : List Int) (p m : Nat) (k : Nat) (h : RAt w b x y z r p m) (hk : k < 32) :
    Calls Tryd.prog 40 #[.pointer (some ⟨b, 0, none⟩), .int .i64 k] w fun e w' => e = .returned (.tuple #[.bool (isNew r p k), .int .i64 0]) ∧ RAt w' b x y z r (raised r p k) m ∧ Ex (F3 x y z) w w' := by
  have HL := Lib.hid (isL_of k hk)
  have d0 := h.c0
  have d1 := h.c1
  have cx := h.cx k hk
  have cy := h.cy k hk
  have fy := h.fy k
  have H := Lib.hid h
  clear h
  by_cases hr : nth r k = 0
  · have hd : (nth r k == 0) = true := by simp [hr]
    have e1 : isNew r p k = false := by simp [isNew, hr]
    have e2 : raised r p k = p := by simp [raised, hr]
    rw [e1, e2]
    clear hr e1 e2
    go_enter Tryd.func40, Tryd.ntmps40
    go_wp2_with (go_at_call 50; refine (isLine_any _ _).mono ?_; rintro e w' ⟨rfl, rfl⟩; rw [HL.out])
    go_ret2
    exact ⟨rfl, H.out, Ex.refl _ _⟩
  · have hd : (nth r k == 0) = false := by simp [hr]
    by_cases hp : p.testBit k = true
    · have e1 : isNew r p k = false := by simp [isNew, hp]
      have e2 : raised r p k = p := by
        have : p ||| 2 ^ k = p := by
          apply Nat.eq_of_testBit_eq; intro i
          rw [Nat.testBit_or, Nat.testBit_two_pow]
          by_cases e : k = i
          · subst e; simp [hp]
          · simp [e]
        simp [raised, hr, this]
      rw [hp] at cy
      rw [e1, e2]
      clear hr e1 e2 hp
      go_enter Tryd.func40, Tryd.ntmps40
      go_wp2_with (go_at_call 50; refine (isLine_any _ _).mono ?_; rintro e w' ⟨rfl, rfl⟩; rw [HL.out])
      go_ret2
      exact ⟨rfl, H.out, Ex.refl _ _⟩
    · have hp' : p.testBit k = false := by simpa using hp
      have e1 : isNew r p k = true := by simp [isNew, hp', hr]
      have e2 : raised r p k = p ||| 2 ^ k := by simp [raised, hr]
      rw [hp'] at cy
      rw [e1, e2]
      have FIN := Lib.hid (show RAt (w.setCell ⟨y, k, none⟩ (.bool true)) b x y z r (p ||| 2 ^ k) m from H.out.setY k hk true _ (Nat.or_lt_two_pow (n := 32) H.out.hp (two_lt k hk)) (or_hit p k))
      clear hr e1 e2 hp hp'
      go_enter Tryd.func40, Tryd.ntmps40
      go_wp2_with (go_at_call 50; refine (isLine_any _ _).mono ?_; rintro e w' ⟨rfl, rfl⟩; rw [HL.out])
      go_ret2
      exact ⟨rfl, FIN.out, (Ex.refl _ w).chg (chg_set _ y k _) (.inl (.inr (.inl rfl)))⟩
end Go.Proofs.YtpedciapkalhgaaDoor.Gk
