/- The document's page, Encode, Show: contracts. No statement of the seat is proved here. -/
import Derived.Test.YtjijejeeejjplaaDoorLaws
import Derived.Outline
namespace Go.Proofs.YtjijejeeejjplaaDoor.En
open Go.RowKit Go.Proofs.YtjijejeeejjplaaDoor.Kit
set_option linter.unusedSimpArgs false
set_option linter.unusedVariables false

theorem pageT (w : World) (p : Nat) (h : p = 1 ∨ p = 3 ∨ p = 4 ∨ p = 5 ∨ p = 7) : Calls Tryd.prog 17 #[.int .u8 p] w fun e w' => e = .returned (.bool true) ∧ w = w' := by
  rcases h with rfl | rfl | rfl | rfl | rfl
  all_goals
    go_enter Tryd.func17, Tryd.ntmps17
    go_wp2
    go_ret
    exact ⟨rfl, rfl⟩
theorem pageF (w : World) (p : Nat) (h1 : ((p : Int) == 1) = false) (h3 : ((p : Int) == 3) = false) (h4 : ((p : Int) == 4) = false) (h5 : ((p : Int) == 5) = false) (h7 : ((p : Int) == 7) = false) : Calls Tryd.prog 17 #[.int .u8 p] w fun e w' => e = .returned (.bool false) ∧ w = w' := by
  go_enter Tryd.func17, Tryd.ntmps17
  go_wp2
  go_ret
  exact ⟨rfl, rfl⟩
theorem rpage_any (w : World) (p : Nat) : Calls Tryd.prog 17 #[.int .u8 p] w fun e w' => e = .returned (.bool (pagep p)) ∧ w = w' := by
  cases hq : pagep p with
  | true => exact pageT w p (pagep_cases hq)
  | false =>
    unfold pagep at hq
    simp only [Bool.or_eq_false_iff, beq_eq_false_iff_ne] at hq
    obtain ⟨⟨⟨⟨a, b⟩, c⟩, d⟩, e⟩ := hq
    exact pageF w p (by simp; omega) (by simp; omega) (by simp; omega) (by simp; omega) (by simp; omega)
set_option maxHeartbeats 2000000 in
theorem renc_any (w : World) (k : Int) (p f : Nat) (hp : p < 256) (hf : f < 4294967296) (hk : -9223372036854775808 ≤ k ∧ k ≤ 9223372036854775807) :
    Calls Tryd.prog 10 #[.agg #[.int .i64 k, .int .u8 p, .int .u32 f]] w fun e w' => e = .returned (.tuple #[.int .u32 (encW ⟨k, p, f⟩).1, .int .i64 (encW ⟨k, p, f⟩).2]) ∧ Chg w w' none := by
  have C1 := Lib.hid ((Chg.refl w none).alloc (.cells #[.int .i64 k, .int .u8 p, .int .u32 f] 26))
  by_cases h0 : k = 0
  · subst h0
    by_cases h1 : p = 0
    · subst h1
      by_cases h2 : f = 0
      · subst h2
        go_enter Tryd.func10, Tryd.ntmps10
        go_wp2
        go_ret2
        exact ⟨rfl, C1.out⟩
      · have e : encW ⟨0, 0, f⟩ = (0, 42) := by simp [encW, h2]
        rw [e]
        have hx : ((f : Int) != 0) = true := by simp; omega
        clear e h2
        go_enter Tryd.func10, Tryd.ntmps10
        go_wp2
        go_ret2
        exact ⟨rfl, C1.out⟩
    · have e : encW ⟨0, p, f⟩ = (0, 41) := by simp [encW, h1]
      rw [e]
      have hx : ((p : Int) != 0) = true := by simp; omega
      clear e h1
      go_enter Tryd.func10, Tryd.ntmps10
      go_wp2
      go_ret2
      exact ⟨rfl, C1.out⟩
  · by_cases h1 : k = 1
    · subst h1
      have PG := Lib.hid (fun X => rpage_any X p)
      cases hq : pagep p with
      | false =>
        have e : encW ⟨1, p, f⟩ = (0, 41) := by simp [encW, hq]
        rw [e]
        rw [hq] at PG
        clear e h0 hq
        go_enter Tryd.func10, Tryd.ntmps10
        go_wp2_with fail
        refine (PG.out _).mono ?_
        rintro e w1 ⟨rfl, rfl⟩
        go_wp2
        go_ret2
        exact ⟨rfl, C1.out⟩
      | true =>
        have hp8 : p < 8 := by rcases pagep_cases hq with rfl | rfl | rfl | rfl | rfl <;> decide
        rw [hq] at PG
        by_cases h2 : 4095 < f
        · have e : encW ⟨1, p, f⟩ = (0, 42) := by simp [encW, hq, h2]
          rw [e]
          have hx : decide ((4095 : Int) < (f : Int)) = true := by simp; omega
          have hy : decide (4095 < f) = true := by simp; omega
          clear e h0 hq h2
          go_enter Tryd.func10, Tryd.ntmps10
          go_wp2_with fail
          refine (PG.out _).mono ?_
          rintro e w1 ⟨rfl, rfl⟩
          go_wp2
          go_ret2
          exact ⟨rfl, C1.out⟩
        · have e : encW ⟨1, p, f⟩ = (4096 * f + 2 * p + 1, 0) := by simp [encW, hq, h2]
          rw [e]
          have hx : decide ((4095 : Int) < (f : Int)) = false := by simp; omega
          have hy : decide (4095 < f) = false := by simp; omega
          have m1 : IntKind.u32.wrap (4096 * (f : Int)) = 4096 * (f : Int) := by rw [IntKind.wrap_u32']; omega
          have m2 : IntKind.u32.wrap (2 * (p : Int)) = 2 * (p : Int) := by rw [IntKind.wrap_u32']; omega
          have m3 : IntKind.u32.wrap (4096 * (f : Int) + 2 * (p : Int)) = 4096 * (f : Int) + 2 * (p : Int) := by rw [IntKind.wrap_u32']; omega
          have m4 : IntKind.u32.wrap (4096 * (f : Int) + 2 * (p : Int) + 1) = 4096 * (f : Int) + 2 * (p : Int) + 1 := by rw [IntKind.wrap_u32']; omega
          have E := Lib.hid (show (4096 * (f : Int) + 2 * (p : Int) + 1) = ((4096 * f + 2 * p + 1 : Nat) : Int) by omega)
          clear e h0 hq h2
          go_enter Tryd.func10, Tryd.ntmps10
          go_wp2_with fail
          refine (PG.out _).mono ?_
          rintro e w1 ⟨rfl, rfl⟩
          go_wp2
          go_ret2
          exact ⟨by rw [← E.out]; rfl, C1.out⟩
    · by_cases h2 : k = 2
      · subst h2
        by_cases h3 : p = 0
        · subst h3
          by_cases h4 : 4095 < f
          · have e : encW ⟨2, 0, f⟩ = (0, 42) := by simp [encW, h4]
            rw [e]
            have hx : decide ((4095 : Int) < (f : Int)) = true := by simp; omega
            have hy : decide (4095 < f) = true := by simp; omega
            clear e h0 h1 h4
            go_enter Tryd.func10, Tryd.ntmps10
            go_wp2
            go_ret2
            exact ⟨rfl, C1.out⟩
          · have e : encW ⟨2, 0, f⟩ = (4096 * f + 17, 0) := by simp [encW, h4]
            rw [e]
            have hx : decide ((4095 : Int) < (f : Int)) = false := by simp; omega
            have hy : decide (4095 < f) = false := by simp; omega
            have m1 : IntKind.u32.wrap (4096 * (f : Int)) = 4096 * (f : Int) := by rw [IntKind.wrap_u32']; omega
            have m4 : IntKind.u32.wrap (4096 * (f : Int) + 17) = 4096 * (f : Int) + 17 := by rw [IntKind.wrap_u32']; omega
            have E := Lib.hid (show (4096 * (f : Int) + 17) = ((4096 * f + 17 : Nat) : Int) by omega)
            clear e h0 h1 h4
            go_enter Tryd.func10, Tryd.ntmps10
            go_wp2
            go_ret2
            exact ⟨by rw [← E.out]; rfl, C1.out⟩
        · have e : encW ⟨2, p, f⟩ = (0, 41) := by simp [encW, h3]
          rw [e]
          have hx : ((p : Int) != 0) = true := by simp; omega
          clear e h0 h1 h3
          go_enter Tryd.func10, Tryd.ntmps10
          go_wp2
          go_ret2
          exact ⟨rfl, C1.out⟩
      · have e : encW ⟨k, p, f⟩ = (0, 40) := by simp [encW, h0, h1, h2]
        rw [e]
        have x0 : (k == 0) = false := by simpa using h0
        have x1 : (k == 1) = false := by simpa using h1
        have x2 : (k == 2) = false := by simpa using h2
        clear e h0 h1 h2
        go_enter Tryd.func10, Tryd.ntmps10
        go_wp2
        go_ret2
        exact ⟨rfl, C1.out⟩
end Go.Proofs.YtjijejeeejjplaaDoor.En
