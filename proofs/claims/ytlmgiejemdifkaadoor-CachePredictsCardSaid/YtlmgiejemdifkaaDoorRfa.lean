/- Which shapes may be (the code's word and the document's); the document's line and set: contracts. No statement of the seat is proved here. -/
import Derived.Test.YtlmgiejemdifkaaDoorNew
import Derived.Test.YtlmgiejemdifkaaDoorShape
namespace Go.Proofs.YtlmgiejemdifkaaDoor.Ca
open Go.RowKit Go.Proofs.YtlmgiejemdifkaaDoor.Kit
set_option linter.unusedSimpArgs false
set_option linter.unusedVariables false

def pows : List Int := [1, 2, 4, 8, 16, 32, 64, 128, 256]
def pw (n lo : Int) : Bool := decide (lo ≤ n) && pows.contains n
theorem and_pows : ∀ n : Fin 257, 1 ≤ n.1 → ((n.1 &&& (n.1 - 1)) == 0) = pows.contains (n.1 : Int) := by decide +kernel
theorem pows_le : ∀ n ∈ pows, 1 ≤ n ∧ n ≤ 256 := by decide
theorem pw_lo {n lo : Int} (h : ¬ lo ≤ n) : pw n lo = false := by unfold pw; simp; omega
theorem pw_hi {n lo : Int} (h : ¬ n ≤ 256) : pw n lo = false := by
  unfold pw
  cases hc : pows.contains n with
  | false => simp
  | true => have := pows_le n (by simpa using hc); omega
theorem pw_mid {n : Nat} {lo : Int} (h1 : 1 ≤ n) (h2 : n ≤ 256) (hl : lo ≤ n) : pw n lo = ((n &&& (n - 1)) == 0) := by
  unfold pw
  rw [and_pows ⟨n, by omega⟩ h1]
  simp [hl]
theorem power_any (w : World) (n lo : Int) (hn : i64ok n) (h1 : 1 ≤ lo) : Calls Tryd.prog 50 #[.int .i64 n, .int .i64 lo, .int .i64 256] w fun e w' => e = .returned (.bool (pw n lo)) ∧ w = w' := by
  by_cases hl : lo ≤ n
  · by_cases hh : n ≤ 256
    · obtain ⟨m, rfl⟩ : ∃ m : Nat, n = m := ⟨n.toNat, by omega⟩
      have hp := pw_mid (n := m) (lo := lo) (by omega) (by omega) hl
      have ha := i64_and_nat m (m - 1) (by omega) (by omega)
      rw [show ((m - 1 : Nat) : Int) = (m : Int) - 1 by omega] at ha
      have hw := wrap_small (x := (m : Int) - 1) (by omega) (by omega)
      rw [hp]
      have hq : (((m &&& (m - 1) : Nat) : Int) == 0) = ((m &&& (m - 1)) == 0) := by
        cases hb : ((m &&& (m - 1)) == 0) with
        | true => have : (m &&& (m - 1)) = 0 := by simpa using hb
                  rw [this]; rfl
        | false => have : (m &&& (m - 1)) ≠ 0 := by simpa using hb
                   simp only [beq_eq_false_iff_ne]; omega
      rw [← hq]
      clear hp hq h1
      generalize ((m &&& (m - 1) : Nat) : Int) = z at *
      go_enter Tryd.func50, Tryd.ntmps50
      go_wp2
      go_ret
      exact ⟨rfl, rfl⟩
    · rw [pw_hi hh]
      go_enter Tryd.func50, Tryd.ntmps50
      go_wp2
      go_ret
      exact ⟨rfl, rfl⟩
  · rw [pw_lo hl]
    go_enter Tryd.func50, Tryd.ntmps50
    go_wp2
    go_ret
    exact ⟨rfl, rfl⟩
def mayB (S W L : Int) : Bool := pw S 1 && decide (1 ≤ W) && decide (W ≤ 8) && pw L 16
theorem pw_pow {n lo : Int} (h : pw n lo = true) : ∃ i : Nat, i ≤ 8 ∧ n = ((2 ^ i : Nat) : Int) ∧ lo ≤ n := by
  unfold pw at h
  simp only [Bool.and_eq_true, decide_eq_true_eq] at h
  obtain ⟨h1, h2⟩ := h
  have h2 : n ∈ pows := by simpa using h2
  simp only [pows, List.mem_cons, List.not_mem_nil, or_false] at h2
  rcases h2 with rfl | rfl | rfl | rfl | rfl | rfl | rfl | rfl | rfl
  · exact ⟨0, by omega, rfl, h1⟩
  · exact ⟨1, by omega, rfl, h1⟩
  · exact ⟨2, by omega, rfl, h1⟩
  · exact ⟨3, by omega, rfl, h1⟩
  · exact ⟨4, by omega, rfl, h1⟩
  · exact ⟨5, by omega, rfl, h1⟩
  · exact ⟨6, by omega, rfl, h1⟩
  · exact ⟨7, by omega, rfl, h1⟩
  · exact ⟨8, by omega, rfl, h1⟩
theorem may_shp {S W L : Int} (h : mayB S W L = true) : ∃ s : Shp, S = s.S ∧ W = s.W ∧ L = s.L := by
  unfold mayB at h
  simp only [Bool.and_eq_true, decide_eq_true_eq] at h
  obtain ⟨⟨⟨h1, h2⟩, h3⟩, h4⟩ := h
  obtain ⟨i, hi, eS, hlS⟩ := pw_pow h1
  obtain ⟨j, hj, eL, hlL⟩ := pw_pow h4
  have hj4 : 4 ≤ j := by
    by_cases hc : 4 ≤ j
    · exact hc
    · have : 2 ^ j ≤ 2 ^ 3 := Nat.pow_le_pow_right (by decide) (by omega)
      omega
  exact ⟨⟨2 ^ i, W.toNat, 2 ^ j, i, j, rfl, rfl, hi, hj, hj4, by omega⟩, eS, by show W = (W.toNat : Int); omega, eL⟩
theorem may_any (w : World) (S W L : Int) (hS : i64ok S) (hL : i64ok L) : Calls Tryd.prog 32 #[.agg #[.int .i64 S, .int .i64 W, .int .i64 L]] w fun e w' => e = .returned (.bool (mayB S W L)) ∧ Chg w w' none := by
  have P1 := Lib.hid (fun X => power_any X S 1 hS (by omega))
  have P2 := Lib.hid (fun X => power_any X L 16 hL (by omega))
  have HM := Lib.hid (show mayB S W L = (pw S 1 && decide (1 ≤ W) && decide (W ≤ 8) && pw L 16) from rfl)
  generalize mayB S W L = mb at *
  generalize pw S 1 = q1 at *
  generalize pw L 16 = q2 at *
  go_enter Tryd.func32, Tryd.ntmps32
  go_wp2_with fail
  refine (P1.out _).mono ?_
  rintro e w' ⟨rfl, rfl⟩
  cases q1 with
  | false =>
    go_wp2
    go_ret
    exact ⟨by rw [HM.out]; rfl, (Chg.refl w none).alloc _⟩
  | true =>
    by_cases h1 : 1 ≤ W
    · by_cases h2 : W ≤ 8
      · go_wp2_with fail
        refine (P2.out _).mono ?_
        rintro e w' ⟨rfl, rfl⟩
        go_wp2
        go_ret
        exact ⟨by rw [HM.out, decide_eq_true h1, decide_eq_true h2]; rfl, (Chg.refl w none).alloc _⟩
      · go_wp2
        go_ret
        exact ⟨by rw [HM.out, decide_eq_true h1, decide_eq_false (show ¬ W ≤ 8 by omega)]; rfl, (Chg.refl w none).alloc _⟩
    · go_wp2
      go_ret
      exact ⟨by rw [HM.out, decide_eq_false (show ¬ 1 ≤ W by omega)]; rfl, (Chg.refl w none).alloc _⟩

/-! ### the document's -/
set_option maxHeartbeats 1000000 in
theorem rpower_any (w : World) (n lo : Int) (hn : i64ok n) : Calls Tryd.prog 63 #[.int .i64 n, .int .i64 lo, .int .i64 256] w fun e w' => e = .returned (.bool (pw n lo)) ∧ w = w' := by
  have HP := Lib.hid (show (∀ i : Nat, i ≤ 8 → ((2 ^ i : Nat) : Int) ≠ n) → pw n lo = false from fun h => by
    cases hq : pw n lo with
    | false => rfl
    | true => obtain ⟨i, hi, e, _⟩ := pw_pow hq; exact absurd e.symm (h i hi))
  have HQ := Lib.hid (fun (i : Nat) (hi : i ≤ 8) (e : ((2 ^ i : Nat) : Int) = n) => show pw n lo = decide (n ≥ lo) by
    unfold pw
    have : pows.contains n = true := by
      rcases (show i = 0 ∨ i = 1 ∨ i = 2 ∨ i = 3 ∨ i = 4 ∨ i = 5 ∨ i = 6 ∨ i = 7 ∨ i = 8 by omega) with rfl | rfl | rfl | rfl | rfl | rfl | rfl | rfl | rfl <;> (rw [← e]; rfl)
    rw [this]; simp)
  generalize pw n lo = q at *
  go_enter Tryd.func63, Tryd.ntmps63
  go_wp2_with fail
  go_loopw [7] (fun p wr => ∃ i : Nat, i ≤ 9 ∧ p = .int .i64 ((2 ^ i : Nat) : Int) ∧ Hid ((∀ j, j < i → ((2 ^ j : Nat) : Int) ≠ n) ∧ w = wr)) (fun p _ => 1024 - (intOf p).toNat)
  case atStart => exact ⟨0, by omega, rfl, Lib.hid ⟨fun j hj => by omega, rfl⟩⟩
  case round =>
    obtain ⟨i, hi, rfl, HN⟩ := hrel
    by_cases h8 : i ≤ 8
    · have hp : 2 ^ i ≤ 256 := (Nat.pow_le_pow_right (by decide) h8 : 2 ^ i ≤ 2 ^ 8)
      have hs : 2 ^ (i + 1) = 2 ^ i * 2 := Nat.pow_succ 2 i
      have h0 : 0 < 2 ^ i := Nat.two_pow_pos i
      have hd := Lib.hid (HQ.out i h8)
      have HX := Lib.hid (show ((2 ^ (i + 1) : Nat) : Int) = 2 * ((2 ^ i : Nat) : Int) by rw [hs]; push_cast; omega)
      have HN2 := Lib.hid (fun (he : ¬ ((2 ^ i : Nat) : Int) = n) => show ∀ j, j < i + 1 → ((2 ^ j : Nat) : Int) ≠ n from fun j hj => by
        by_cases e : j = i
        · subst e; exact he
        · exact HN.out.1 j (by omega))
      have hz1 : ((2 ^ i : Nat) : Int) ≤ 256 := by omega
      have hz2 : 0 < ((2 ^ i : Nat) : Int) := by omega
      clear hs hp h0
      generalize ((2 ^ i : Nat) : Int) = z at *
      by_cases he : z = n
      · have hd2 := Lib.hid (hd.out he)
        subst he
        go_wp2
        go_ret
        exact ⟨by rw [hd2.out]; rfl, HN.out.2⟩
      · have HN3 := Lib.hid (And.intro (HN2.out he) HN.out.2)
        go_wp2
        go_roundw
        case rel => exact ⟨i + 1, by omega, by rw [HX.out], HN3⟩
        case measure => simp [intOf]; omega
    · have hd := Lib.hid (HP.out (fun j hj => HN.out.1 j (by omega)))
      have HW := Lib.hid HN.out.2
      have hz : ¬ ((2 ^ i : Nat) : Int) ≤ 256 := by
        have : i = 9 := by omega
        rw [this]; decide
      clear HN HP HQ h8 hi
      generalize ((2 ^ i : Nat) : Int) = z at *
      go_wp2
      go_ret
      exact ⟨by rw [hd.out]; rfl, HW.out⟩
theorem rmay_any (w : World) (S W L : Int) (hS : i64ok S) (hL : i64ok L) : Calls Tryd.prog 49 #[.agg #[.int .i64 S, .int .i64 W, .int .i64 L]] w fun e w' => e = .returned (.bool (mayB S W L)) ∧ Chg w w' none := by
  have P1 := Lib.hid (fun X => rpower_any X S 1 hS)
  have P2 := Lib.hid (fun X => rpower_any X L 16 hL)
  have HM := Lib.hid (show mayB S W L = (pw S 1 && decide (1 ≤ W) && decide (W ≤ 8) && pw L 16) from rfl)
  generalize mayB S W L = mb at *
  generalize pw S 1 = q1 at *
  generalize pw L 16 = q2 at *
  go_enter Tryd.func49, Tryd.ntmps49
  go_wp2_with fail
  refine (P1.out _).mono ?_
  rintro e w' ⟨rfl, rfl⟩
  go_wp2_with fail
  refine (P2.out _).mono ?_
  rintro e w' ⟨rfl, rfl⟩
  cases q1 with
  | false =>
    go_wp2
    go_ret
    exact ⟨by rw [HM.out]; rfl, (Chg.refl w none).alloc _⟩
  | true =>
    cases q2 with
    | false =>
      go_wp2
      go_ret
      exact ⟨by rw [HM.out]; simp, (Chg.refl w none).alloc _⟩
    | true =>
      by_cases h1 : 1 ≤ W
      · by_cases h2 : W ≤ 8
        · go_wp2
          go_ret
          exact ⟨by rw [HM.out, decide_eq_true h1, decide_eq_true h2]; rfl, (Chg.refl w none).alloc _⟩
        · go_wp2
          go_ret
          exact ⟨by rw [HM.out, decide_eq_true h1, decide_eq_false (show ¬ W ≤ 8 by omega)]; rfl, (Chg.refl w none).alloc _⟩
      · go_wp2
        go_ret
        exact ⟨by rw [HM.out, decide_eq_false (show ¬ 1 ≤ W by omega)]; rfl, (Chg.refl w none).alloc _⟩
/-- The document's cache in block b: its shape. -/
def RcF (w : World) (b : Nat) (s : Shp) : Prop := w.cell? ⟨b, 0, none⟩ = some (.int .i64 s.S) ∧ w.cell? ⟨b, 1, none⟩ = some (.int .i64 s.W) ∧ w.cell? ⟨b, 2, none⟩ = some (.int .i64 s.L)
theorem RcF.kept {w w' : World} {b : Nat} {s : Shp} (h : RcF w b s) {r : Option Nat} (hC : Chg w w' r) (hn : r ≠ some b) : RcF w' b s :=
  ⟨cell_kept h.1 hC hn, cell_kept h.2.1 hC hn, cell_kept h.2.2 hC hn⟩
theorem rline_any (w : World) (b : Nat) (s : Shp) (h : RcF w b s) (a : Nat) (ha : a < 4294967296) : Calls Tryd.prog 55 #[.pointer (some ⟨b, 0, none⟩), .int .u32 a] w fun e w' => e = .returned (.int .u32 ((a / s.L : Nat) : Int)) ∧ w = w' := by
  obtain ⟨d0, d1, d2⟩ := h
  have hL := s.Lle
  have hw : IntKind.u32.wrap (s.L : Int) = s.L := by rw [IntKind.wrap_u32]; omega
  have hne : ((s.L : Int) == 0) = false := by simp; omega
  have hdl := Nat.div_le_self a s.L
  have hdv : (a : Int) / (s.L : Int) % 4294967296 = (a : Int) / (s.L : Int) := by
    have e : (a : Int) / (s.L : Int) = ((a / s.L : Nat) : Int) := (Int.natCast_ediv a s.L).symm
    rw [e]
    generalize a / s.L = q at *
    omega
  have HDV := Lib.hid hdv
  clear hdv hdl
  go_enter Tryd.func55, Tryd.ntmps55
  go_wp2
  go_ret
  exact ⟨by simp [HDV.out], rfl⟩
theorem rset_any (w : World) (b : Nat) (s : Shp) (h : RcF w b s) (a : Nat) (ha : a < 4294967296) : Calls Tryd.prog 57 #[.pointer (some ⟨b, 0, none⟩), .int .u32 a] w fun e w' => e = .returned (.int .u32 ((a % s.S : Nat) : Int)) ∧ w = w' := by
  obtain ⟨d0, d1, d2⟩ := h
  have hS := s.Sle
  have hw : IntKind.u32.wrap (s.S : Int) = s.S := by rw [IntKind.wrap_u32]; omega
  go_enter Tryd.func57, Tryd.ntmps57
  go_wp2
  go_ret
  exact ⟨by simp, rfl⟩
end Go.Proofs.YtlmgiejemdifkaaDoor.Ca
