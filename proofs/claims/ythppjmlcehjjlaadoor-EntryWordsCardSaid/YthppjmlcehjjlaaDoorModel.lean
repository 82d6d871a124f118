/- What an entry's word and text are, as lists: plain laws. No statement of the seat is proved here; no program in sight. -/
namespace Go.Proofs.YthppjmlcehjjlaaDoor.En

/-- A hexadecimal digit. -/
def hexd (c : Nat) : UInt8 := if c < 10 then UInt8.ofNat (48 + c) else UInt8.ofNat (87 + c)
/-- A number's digits, as the library writes them (fuel: how many more than one there may be). -/
def hexS : Nat → Nat → List UInt8
  | 0, u => [hexd u]
  | f + 1, u => if u < 16 then [hexd u] else hexS f (u / 16) ++ [hexd (u % 16)]
/-- Three digits. -/
def hex3 (n : Nat) : List UInt8 := [hexd (n / 256), hexd (n / 16 % 16), hexd (n % 16)]
theorem hexS_len (n : Nat) : 1 ≤ (hexS 2 n).length ∧ (hexS 2 n).length ≤ 3 := by
  unfold hexS
  split
  · simp
  · unfold hexS
    split
    · simp
    · simp [hexS]
/-- With zeros ahead these are three. -/
theorem hexS_pad (n : Nat) (h : n < 4096) : List.replicate (3 - (hexS 2 n).length) 48 ++ hexS 2 n = hex3 n := by
  unfold hexS
  split
  · rename_i h1
    have e1 : n / 256 = 0 := by omega
    have e2 : n / 16 % 16 = 0 := by omega
    have e3 : n % 16 = n := by omega
    unfold hex3
    rw [e1, e2, e3]
    rfl
  · unfold hexS
    split
    · rename_i h1 h2
      have e1 : n / 256 = 0 := by omega
      have e2 : n / 16 % 16 = n / 16 := by omega
      unfold hex3
      rw [e1, e2]
      rfl
    · rename_i h1 h2
      have e1 : n / 16 / 16 = n / 256 := by omega
      unfold hex3 hexS
      rw [e1]
      rfl
theorem hexd_inj {a b : Nat} (ha : a < 16) (hb : b < 16) (h : hexd a = hexd b) : a = b := by
  have key : ∀ a : Fin 16, ∀ b : Fin 16, hexd a.val = hexd b.val → a.val = b.val := by decide
  exact key ⟨a, ha⟩ ⟨b, hb⟩ h
theorem hex3_inj {a b : Nat} (ha : a < 4096) (hb : b < 4096) (h : hex3 a = hex3 b) : a = b := by
  unfold hex3 at h
  simp only [List.cons.injEq, and_true] at h
  have h1 := hexd_inj (by omega) (by omega) h.1
  have h2 := hexd_inj (by omega) (by omega) h.2.1
  have h3 := hexd_inj (by omega) (by omega) h.2.2
  omega

/-! ### entries -/
/-- May a page have it? -/
def pagep (p : Nat) : Bool := p == 1 || p == 3 || p == 4 || p == 5 || p == 7
/-- An entry: its kind, its permissions, its frame. -/
structure Ent where
  k : Int
  p : Nat
  f : Nat
deriving DecidableEq
def zeroE : Ent := ⟨0, 0, 0⟩
/-- A word, and an error's number (0: none). -/
def encW (e : Ent) : Nat × Int :=
  if e.k = 0 then (if e.p ≠ 0 then (0, 41) else if e.f ≠ 0 then (0, 42) else (0, 0))
  else if e.k = 1 then (if pagep e.p = false then (0, 41) else if 4095 < e.f then (0, 42) else (4096 * e.f + 2 * e.p + 1, 0))
  else if e.k = 2 then (if e.p ≠ 0 then (0, 41) else if 4095 < e.f then (0, 42) else (4096 * e.f + 17, 0))
  else (0, 40)
def okE (e : Ent) : Prop := (encW e).2 = 0
instance (e : Ent) : Decidable (okE e) := by unfold okE; infer_instance
def decW (w : Nat) : Ent × Int :=
  if w = 0 then (zeroE, 0)
  else if w % 2 = 0 ∨ 32 ≤ w % 4096 then (zeroE, 43)
  else if 16 ≤ w % 4096 then
    (if w / 2 % 8 ≠ 0 then (zeroE, 41) else if 4095 < w / 4096 then (zeroE, 42) else (⟨2, 0, w / 4096⟩, 0))
  else (if pagep (w / 2 % 8) = false then (zeroE, 41) else if 4095 < w / 4096 then (zeroE, 42) else (⟨1, w / 2 % 8, w / 4096⟩, 0))
def permB (p : Nat) : List UInt8 := [if p % 2 = 1 then 114 else 45, if p / 2 % 2 = 1 then 119 else 45, if p / 4 % 2 = 1 then 120 else 45]
/-- An entry's text. -/
def showE (e : Ent) : List UInt8 :=
  if okE e then (if e.k = 0 then [45] else if e.k = 2 then [116, 97, 98, 32] ++ hex3 e.f else permB e.p ++ [32] ++ hex3 e.f) else []
theorem okE_cases {e : Ent} (h : okE e) : e = zeroE ∨ (e.k = 1 ∧ pagep e.p = true ∧ e.f ≤ 4095) ∨ (e.k = 2 ∧ e.p = 0 ∧ e.f ≤ 4095) := by
  obtain ⟨k, p, f⟩ := e
  unfold okE encW at h
  simp only at h ⊢
  by_cases h0 : k = 0
  · subst h0
    simp only [if_true] at h
    by_cases hp : p = 0
    · by_cases hf : f = 0
      · subst hp hf; exact .inl rfl
      · rw [if_neg (by simpa using hp), if_pos hf] at h; simp at h
    · rw [if_pos hp] at h; simp at h
  · rw [if_neg h0] at h
    by_cases h1 : k = 1
    · rw [if_pos h1] at h
      cases hp : pagep p with
      | false => rw [hp] at h; simp at h
      | true =>
        rw [hp] at h
        by_cases hf : 4095 < f
        · simp [hf] at h
        · exact .inr (.inl ⟨h1, rfl, by omega⟩)
    · rw [if_neg h1] at h
      by_cases h2 : k = 2
      · rw [if_pos h2] at h
        by_cases hp : p = 0
        · by_cases hf : 4095 < f
          · simp [hp, hf] at h
          · exact .inr (.inr ⟨h2, hp, by omega⟩)
        · simp [hp] at h
      · rw [if_neg h2] at h; simp at h
theorem pagep_cases {p : Nat} (h : pagep p = true) : p = 1 ∨ p = 3 ∨ p = 4 ∨ p = 5 ∨ p = 7 := by
  unfold pagep at h
  simp only [Bool.or_eq_true, beq_iff_eq] at h
  omega
theorem okE_zero : okE zeroE := by decide
theorem okE_page {p f : Nat} (hp : pagep p = true) (hf : f ≤ 4095) : okE ⟨1, p, f⟩ := by
  unfold okE encW
  simp [hp, show ¬ 4095 < f by omega]
theorem okE_table {f : Nat} (hf : f ≤ 4095) : okE ⟨2, 0, f⟩ := by
  unfold okE encW
  simp [show ¬ 4095 < f by omega]
theorem show_zero : showE zeroE = [45] := by decide
theorem show_page {p f : Nat} (hp : pagep p = true) (hf : f ≤ 4095) : showE ⟨1, p, f⟩ = permB p ++ [32] ++ hex3 f := by
  unfold showE; rw [if_pos (okE_page hp hf)]; simp
theorem show_table {f : Nat} (hf : f ≤ 4095) : showE ⟨2, 0, f⟩ = [116, 97, 98, 32] ++ hex3 f := by
  unfold showE; rw [if_pos (okE_table hf)]; simp
theorem show_not {e : Ent} (h : ¬ okE e) : showE e = [] := by unfold showE; rw [if_neg h]
theorem show_ne {e : Ent} (h : okE e) : showE e ≠ [] := by
  unfold showE
  rw [if_pos h]
  split
  · simp
  · split <;> simp [permB]
/-- A text is one entry's at most. -/
theorem show_inj {a b : Ent} (ha : okE a) (hb : okE b) (h : showE a = showE b) : a = b := by
  obtain ⟨ka, pa, fa⟩ := a
  obtain ⟨kb, pb, fb⟩ := b
  rcases okE_cases ha with e | ⟨e1, e2, e3⟩ | ⟨e1, e2, e3⟩ <;> rcases okE_cases hb with e' | ⟨e1', e2', e3'⟩ | ⟨e1', e2', e3'⟩ <;> (try simp only at *)
  · rw [e, e']
  · subst e1'; rw [e, show_zero, show_page e2' e3'] at h; simp [permB] at h
  · subst e1' e2'; rw [e, show_zero, show_table e3'] at h; simp at h
  · subst e1; rw [e', show_zero, show_page e2 e3] at h; simp [permB] at h
  · subst e1 e1'
    rw [show_page e2 e3, show_page e2' e3'] at h
    simp only [permB, hex3, List.cons_append, List.nil_append, List.cons.injEq, and_true, true_and] at h
    have hf : fa = fb := hex3_inj (by omega) (by omega) (by simp only [hex3, List.cons.injEq, and_true]; exact h.2.2.2)
    have hp : pa = pb := by
      rcases pagep_cases e2 with rfl | rfl | rfl | rfl | rfl <;> rcases pagep_cases e2' with rfl | rfl | rfl | rfl | rfl <;> first | rfl | (exfalso; revert h; simp)
    rw [hf, hp]
  · subst e1 e1' e2'
    rw [show_page e2 e3, show_table e3'] at h
    simp only [permB, hex3, List.cons_append, List.nil_append, List.cons.injEq] at h
    rcases pagep_cases e2 with rfl | rfl | rfl | rfl | rfl <;> simp at h
  · subst e1 e2; rw [e', show_zero, show_table e3] at h; simp at h
  · subst e1 e1' e2
    rw [show_page e2' e3', show_table e3] at h
    simp only [permB, hex3, List.cons_append, List.nil_append, List.cons.injEq] at h
    rcases pagep_cases e2' with rfl | rfl | rfl | rfl | rfl <;> simp at h
  · subst e1 e1' e2 e2'
    rw [show_table e3, show_table e3'] at h
    rw [hex3_inj (by omega) (by omega) (List.append_cancel_left h)]

/-! ### words there and back -/
theorem dec_ok {w : Nat} (hw : w < 4294967296) (h : (decW w).2 = 0) : okE (decW w).1 ∧ encW (decW w).1 = (w, 0) := by
  unfold decW at h ⊢
  by_cases h0 : w = 0
  · rw [if_pos h0]; subst h0; exact ⟨by decide, by decide⟩
  · rw [if_neg h0] at h ⊢
    by_cases h1 : w % 2 = 0 ∨ 32 ≤ w % 4096
    · rw [if_pos h1] at h; simp at h
    · rw [if_neg h1] at h ⊢
      by_cases h2 : 16 ≤ w % 4096
      · rw [if_pos h2] at h ⊢
        by_cases h3 : w / 2 % 8 ≠ 0
        · rw [if_pos h3] at h; simp at h
        · rw [if_neg h3] at h ⊢
          by_cases h4 : 4095 < w / 4096
          · rw [if_pos h4] at h; simp at h
          · rw [if_neg h4]
            refine ⟨okE_table (by omega), ?_⟩
            unfold encW
            simp only [if_neg (show ¬ (2 : Int) = 0 by decide), if_neg (show ¬ (2 : Int) = 1 by decide), if_true, if_neg (show ¬ ((0 : Nat) ≠ 0) by decide), if_neg h4]
            rw [show 4096 * (w / 4096) + 17 = w by omega]
      · rw [if_neg h2] at h ⊢
        cases hp : pagep (w / 2 % 8) with
        | false => rw [hp] at h; simp at h
        | true =>
          rw [hp] at h
          simp only [Bool.true_eq_false, if_false] at h ⊢
          by_cases h4 : 4095 < w / 4096
          · rw [if_pos h4] at h; simp at h
          · rw [if_neg h4]
            refine ⟨okE_page hp (by omega), ?_⟩
            unfold encW
            simp only [if_neg (show ¬ (1 : Int) = 0 by decide), if_true, hp, Bool.true_eq_false, if_false, if_neg h4]
            rw [show 4096 * (w / 4096) + 2 * (w / 2 % 8) + 1 = w by omega]
theorem dec_not {w : Nat} (h : (decW w).2 ≠ 0) : (decW w).1 = zeroE := by
  unfold decW at h ⊢
  split
  · rfl
  · rename_i h0; rw [if_neg h0] at h
    split
    · rfl
    · rename_i h1; rw [if_neg h1] at h
      split
      · rename_i h2; rw [if_pos h2] at h
        split
        · rfl
        · rename_i h3; rw [if_neg h3] at h
          split
          · rfl
          · rename_i h4; rw [if_neg h4] at h; exact absurd rfl h
      · rename_i h2; rw [if_neg h2] at h
        split
        · rfl
        · rename_i h3; rw [if_neg h3] at h
          split
          · rfl
          · rename_i h4; rw [if_neg h4] at h; exact absurd rfl h
theorem enc_not {e : Ent} (h : ¬ okE e) : (encW e).1 = 0 := by
  unfold okE at h
  unfold encW at h ⊢
  split
  · rename_i h0; rw [if_pos h0] at h
    by_cases h1 : e.p ≠ 0
    · rw [if_pos h1]
    · rw [if_neg h1]; split <;> rfl
  · rename_i h0; rw [if_neg h0] at h
    split
    · rename_i h1; rw [if_pos h1] at h; split; · rfl
      rename_i h2; rw [if_neg h2] at h; split; · rfl
      rename_i h3; rw [if_neg h3] at h; exact absurd rfl h
    · rename_i h1; rw [if_neg h1] at h
      split
      · rename_i h1; rw [if_pos h1] at h; split; · rfl
        rename_i h2; rw [if_neg h2] at h; split; · rfl
        rename_i h3; rw [if_neg h3] at h; exact absurd rfl h
      · rfl
theorem enc_dec {e : Ent} (h : okE e) : decW (encW e).1 = (e, 0) ∧ (encW e).1 < 4294967296 := by
  obtain ⟨k, p, f⟩ := e
  rcases okE_cases h with e | ⟨e1, e2, e3⟩ | ⟨e1, e2, e3⟩ <;> (try simp only at *)
  · rw [e]; exact ⟨by decide, by decide⟩
  · subst e1
    have e : encW ⟨1, p, f⟩ = (4096 * f + 2 * p + 1, 0) := by
      unfold encW
      simp only [if_neg (show ¬ (1 : Int) = 0 by decide), if_true, e2, Bool.true_eq_false, if_false, if_neg (show ¬ 4095 < f by omega)]
    rw [e]
    have hp : p < 8 := by rcases pagep_cases e2 with rfl | rfl | rfl | rfl | rfl <;> decide
    have a1 : (4096 * f + 2 * p + 1) / 2 % 8 = p := by omega
    have a2 : (4096 * f + 2 * p + 1) / 4096 = f := by omega
    refine ⟨?_, by simp only; omega⟩
    unfold decW
    simp only
    rw [if_neg (by omega), if_neg (by omega), if_neg (by omega), a1, a2, e2, if_neg (by decide), if_neg (by omega)]
  · subst e1 e2
    have e : encW ⟨2, 0, f⟩ = (4096 * f + 17, 0) := by
      unfold encW
      simp only [if_neg (show ¬ (2 : Int) = 0 by decide), if_neg (show ¬ (2 : Int) = 1 by decide), if_true, if_neg (show ¬ ((0 : Nat) ≠ 0) by decide), if_neg (show ¬ 4095 < f by omega)]
    rw [e]
    have a1 : (4096 * f + 17) / 2 % 8 = 0 := by omega
    have a2 : (4096 * f + 17) / 4096 = f := by omega
    refine ⟨?_, by simp only; omega⟩
    unfold decW
    simp only
    rw [if_neg (by omega), if_neg (by omega), if_pos (by omega), a1, a2, if_neg (by decide), if_neg (by omega)]

/-! ### texts -/
open Classical in
/-- Whose text it is: that entry; none, and the error's number. -/
noncomputable def readE (s : List UInt8) : Ent × Int := if h : ∃ e, okE e ∧ showE e = s then (Classical.choose h, 0) else (zeroE, 44)
theorem read_of {e : Ent} {s : List UInt8} (h : okE e) (hs : showE e = s) : readE s = (e, 0) := by
  have hx : ∃ e, okE e ∧ showE e = s := ⟨e, h, hs⟩
  unfold readE
  rw [dif_pos hx]
  have hc := Classical.choose_spec hx
  rw [show_inj hc.1 h (hc.2.trans hs.symm)]
theorem read_none {s : List UInt8} (h : ∀ e, okE e → showE e ≠ s) : readE s = (zeroE, 44) := by
  unfold readE
  rw [dif_neg (fun ⟨e, h1, h2⟩ => h e h1 h2)]
theorem read_show {e : Ent} (h : okE e) : readE (showE e) = (e, 0) := read_of h rfl
end Go.Proofs.YthppjmlcehjjlaaDoor.En
