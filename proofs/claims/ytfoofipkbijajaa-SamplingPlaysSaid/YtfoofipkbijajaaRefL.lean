/- The document's port: fits: contract. No statement of the seat is proved here. -/
import Derived.Test.YtfoofipkbijajaaRefB
import Derived.Test.YtfoofipkbijajaaLoad
namespace Go.Proofs.Ytfoofipkbijajaa.Sa
open Go.RowKit Go.Proofs.Ytfoofipkbijajaa.Kit
set_option linter.unusedSimpArgs false
set_option linter.unusedVariables false
theorem chk0 {S : Int} {n : Nat} : (chk S n == 0) = (decide ((n : Int) ≤ S) && (((n : Int) % 4) == 0)) := by
  unfold chk
  by_cases h : S < n
  · have h2 : ¬ (n : Int) ≤ S := by omega
    simp [h, h2]
  · have h2 : (n : Int) ≤ S := by omega
    by_cases h4 : n % 4 = 0
    · have h5 : (n : Int) % 4 = 0 := by omega
      simp [h, h2, h4, h5]
    · have h5 : ¬ (n : Int) % 4 = 0 := by omega
      simp only [h, h2, h4, if_false, decide_true, Bool.true_and]
      simp; omega
theorem chk_zero {S : Int} (h : 4 ≤ S) : chk S 0 = 0 := by
  unfold chk; rw [if_neg (by omega)]; rfl
set_option maxHeartbeats 2000000 in
theorem fits_any (w : World) (b : Nat) (F : Nat → Prop) (P : PA) (h : RefIs w b F P) (hS : 4 ≤ P.S) (th : Bool) (A : Option Addr) (n cap t : Nat) (hn : n ≤ 140737488351232) (ht : t < 18446744073709551616) :
    Calls Try.prog 42 #[.pointer (some ⟨b, 0, none⟩), .bool th, .agg #[.slice A n cap, .int .u64 t]] w fun e w' => e = .returned (.bool (mok P.S th n t)) ∧ Chg w w' none := by
  have C1 := Lib.hid ((Chg.refl w none).alloc (.cells #[.slice A n cap, .int .u64 t] 42))
  have h1 := h.kept C1.out (by simp) (fun _ _ => by simp)
  obtain ⟨c0, c1⟩ := h1.cells
  have hr := heap_alloc_last w (.cells #[.slice A n cap, .int .u64 t] 42)
  have d0 : (w.alloc (.cells #[.slice A n cap, .int .u64 t] 42)).cell? ⟨w.heap.size, 0, none⟩ = some (.slice A n cap) := by rw [cell_of_row _ _ _ _ _ _ hr]; rfl
  have d1 : (w.alloc (.cells #[.slice A n cap, .int .u64 t] 42)).cell? ⟨w.heap.size, 1, none⟩ = some (.int .u64 t) := by rw [cell_of_row _ _ _ _ _ _ hr]; rfl
  have hblt := h1.blt
  clear h h1 hr
  cases th with
  | false =>
    by_cases hn0 : n = 0
    · subst hn0
      by_cases ht0 : t = 0
      · subst ht0
        have HR := Lib.hid (show mok P.S false 0 0 = true from by simp [mok, chk_zero hS])
        go_enter Try.func42, Try.ntmps42
        go_wp2
        go_ret
        exact ⟨by rw [HR.out]; rfl, C1.out⟩
      · have hb : ((t : Int) == 0) = false := by simp; omega
        have HR := Lib.hid (show mok P.S false 0 t = false from by simp [mok, ht0])
        clear ht0
        go_enter Try.func42, Try.ntmps42
        go_wp2
        go_ret
        exact ⟨by rw [HR.out]; rfl, C1.out⟩
    · have hb : ((n : Int) == 0) = false := by simp; omega
      have HR := Lib.hid (show mok P.S false n t = false from by simp [mok, hn0])
      clear hn0
      go_enter Try.func42, Try.ntmps42
      go_wp2
      go_ret
      exact ⟨by rw [HR.out]; rfl, C1.out⟩
  | true =>
    have HR := Lib.hid (show mok P.S true n t = (decide ((n : Int) ≤ P.S) && (((n : Int) % 4) == 0)) from by simp [mok, chk0])
    by_cases hle : (n : Int) ≤ P.S
    · have hd : decide ((n : Int) ≤ P.S) = true := by simpa using hle
      by_cases h4 : (n : Int) % 4 = 0
      · have hb : (((n : Int) % 4) == 0) = true := by simpa using h4
        rw [hd, hb] at HR
        clear hle h4
        go_enter Try.func42, Try.ntmps42
        go_wp2_with fail
        go_quiet (fail)
        have CF := Lib.hid (C1.out.drewN nq)
        go_wp2
        go_ret
        exact ⟨by rw [HR.out]; rfl, CF.out⟩
      · have hb : (((n : Int) % 4) == 0) = false := by simpa using h4
        rw [hd, hb] at HR
        clear hle h4
        go_enter Try.func42, Try.ntmps42
        go_wp2_with fail
        go_quiet (fail)
        have CF := Lib.hid (C1.out.drewN nq)
        go_wp2
        go_ret
        exact ⟨by rw [HR.out]; rfl, CF.out⟩
    · have hd : decide ((n : Int) ≤ P.S) = false := by simpa using hle
      rw [hd, Bool.false_and] at HR
      clear hle
      go_enter Try.func42, Try.ntmps42
      go_wp2_with fail
      go_quiet (fail)
      have CF := Lib.hid (C1.out.drewN nq)
      go_wp2
      go_ret
      exact ⟨by rw [HR.out]; rfl, CF.out⟩
end Go.Proofs.Ytfoofipkbijajaa.Sa
