/- Lists that the call itself owns, whatever their elements: reading, writing. No statement of the seat is proved here. -/
import Derived.Test.YtpeonoimdmdmlaaDoorGrow
import Derived.Deep.Onto
import Derived.Deep.MidRow
namespace Go.Proofs.YtpeonoimdmdmlaaDoor.Kit
set_option linter.unusedSimpArgs false
set_option linter.unusedVariables false
section
variable {α : Type} {enc : α → List Value} {k : Nat}
def rows (enc : α → List Value) : List α → List Value
  | [] => []
  | a :: L => enc a ++ rows enc L
theorem rows_append : ∀ a b : List α, rows enc (a ++ b) = rows enc a ++ rows enc b
  | [], b => rfl
  | t :: a, b => by simp [rows, rows_append a b]
theorem rows_length (hk : ∀ a, (enc a).length = k) : ∀ L : List α, (rows enc L).length = L.length * k
  | [] => by simp [rows]
  | a :: L => by rw [rows, List.length_append, rows_length hk L, hk, List.length_cons, Nat.add_mul]; omega
theorem rows_at (hk : ∀ a, (enc a).length = k) : ∀ (L : List α) (j : Nat) (h : j < L.length) (i : Nat), i < k → (rows enc L)[j * k + i]? = (enc L[j])[i]?
  | a :: L, 0, h, i, hi => by
    rw [Nat.zero_mul, Nat.zero_add, rows, List.getElem?_append_left (by rw [hk]; exact hi)]; rfl
  | a :: L, j + 1, h, i, hi => by
    have := rows_at hk L j (by simpa using h) i hi
    rw [rows, List.getElem?_append_right (by rw [hk, Nat.add_mul]; omega), hk, show (j + 1) * k + i - k = j * k + i by rw [Nat.add_mul]; omega]
    exact this
theorem rows_set (hk : ∀ a, (enc a).length = k) : ∀ (L : List α) (j : Nat) (h : j < L.length) (i : Nat) (u : Value) (a' : α), i < k → enc a' = (enc L[j]).set i u → rows enc (L.set j a') = (rows enc L).set (j * k + i) u
  | a :: L, 0, h, i, u, a', hi, he => by
    rw [Nat.zero_mul, Nat.zero_add, List.set_cons_zero, rows, rows, List.set_append_left _ _ (by rw [hk]; exact hi)]
    rw [he]; rfl
  | a :: L, j + 1, h, i, u, a', hi, he => by
    have := rows_set hk L j (by simpa using h) i u a' hi he
    rw [List.set_cons_succ, rows, rows, List.set_append_right _ _ (by rw [hk, Nat.add_mul]; omega), hk, show (j + 1) * k + i - k = j * k + i by rw [Nat.add_mul]; omega, this]
/-- v owns the list L. -/
abbrev Ol (w : World) (base e k : Nat) (enc : α → List Value) (v : Value) (L : List α) : Prop := w.ownsRow base e k v L.length (rows enc L)
theorem Ol.slice {w : World} {base e : Nat} {v : Value} {L : List α} (h : Ol w base e k enc v L) : ∃ A c, v = .slice A L.length c := by
  rcases h.2 with ⟨h, h0⟩ | ⟨g, c, cur, h, _⟩
  · exact ⟨none, 0, by rw [h, h0]⟩
  · exact ⟨_, c, h⟩
theorem Ol.le {w : World} {base e : Nat} {A : Option Addr} {n c : Nat} {L : List α} (h : Ol w base e k enc (.slice A n c) L) : n ≤ c := by
  rcases h.2 with ⟨h, h0⟩ | ⟨g, c2, cur, h, _, _, h1, _⟩
  · injection h with _ h1 h2; omega
  · injection h with _ e1 e2; omega
theorem Ol.at_ {w : World} {base e : Nat} {v : Value} {L : List α} (h : Ol w base e k enc v L) (hk : ∀ a, (enc a).length = k) {j : Nat} (hj : j < L.length) :
    ∃ g cap, v = .slice (some ⟨g, 0, none⟩) L.length cap ∧ base ≤ g ∧ g < w.heap.size ∧ (∀ i u, i < k → (enc L[j])[i]? = some u → w.cell? ⟨g, j * k + i, none⟩ = some u) ∧ (∀ i, w.frozen? ⟨g, j * k + i, none⟩ = false) ∧
      ∀ i a' u, i < k → enc a' = (enc L[j]).set i u → Ol (w.setCell ⟨g, j * k + i, none⟩ u) base e k enc v (L.set j a') := by
  rcases h.2 with ⟨_, h0⟩ | ⟨g, cap, cur, hv, hb, hrow, hn, hm, hs, htk⟩
  · omega
  · refine ⟨g, cap, hv, hb, (Array.getElem?_eq_some_iff.1 hrow).1, fun i u hi hu => ?_, fun i => frozen_of_row w g _ _ _ hrow, fun i a' u hi he => ?_⟩
    · rw [cell_of_row _ _ _ _ _ _ hrow, ← Array.getElem?_toList]
      have hlt : j * k + i < L.length * k := by
        have : (j + 1) * k ≤ L.length * k := Nat.mul_le_mul_right _ hj
        rw [Nat.add_mul] at this; omega
      rw [← rows_at hk L j hj i hi, ← htk, List.getElem?_take, if_pos hlt] at hu
      exact hu
    · have hr := heap_setCell_same w g (j * k + i) _ _ u hrow
      have hl : (L.set j a').length = L.length := List.length_set
      refine ⟨by rw [rows_length hk], .inr ⟨g, cap, _, by rw [hl]; exact hv, hb, hr, by rw [hl]; exact hn, hm, by simpa using hs, ?_⟩⟩
      rw [hl, rows_set hk L j hj i u a' hi he, ← htk]
      simp only [Array.toList_setIfInBounds, List.take_set]
/-- The cells of a list's beginning, or end, as they are read for an append. -/
theorem Ol.news {w : World} {base e : Nat} {g n cap : Nat} {L : List α} (h : Ol w base e k enc (.slice (some ⟨g, 0, none⟩) n cap) L) (hk : ∀ a, (enc a).length = k) (a m : Nat) (hm : a + m ≤ L.length) :
    ∀ j u, (rows enc ((L.drop a).take m))[j]? = some u → w.cell? ((⟨g, a * k, none⟩ : Addr).add j) = some u := by
  intro j u hu
  rcases h.2 with ⟨h0, _⟩ | ⟨g2, cap2, cur, hv, hb, hrow, hn, hm2, hs, htk⟩
  · cases h0
  · injection hv with e1 _ _
    injection e1 with e1
    injection e1 with e1 _ _
    subst e1
    have e3 : rows enc L = rows enc (L.take a) ++ (rows enc ((L.drop a).take m) ++ rows enc ((L.drop a).drop m)) := by
      rw [← rows_append, List.take_append_drop, ← rows_append, List.take_append_drop]
    have hj := (List.getElem?_eq_some_iff.1 hu).1
    have hla : (rows enc (L.take a)).length = a * k := by rw [rows_length hk, List.length_take, Nat.min_eq_left (by omega)]
    have e4 : (rows enc L)[a * k + j]? = some u := by
      rw [e3, List.getElem?_append_right (by rw [hla]; omega), hla, Nat.add_sub_cancel_left, List.getElem?_append_left hj]; exact hu
    rw [Addr.add_mid, cell_of_row _ _ _ _ _ _ hrow, ← Array.getElem?_toList]
    rw [← htk, List.getElem?_take] at e4
    split at e4
    · exact e4
    · cases e4
end
end Go.Proofs.YtpeonoimdmdmlaaDoor.Kit
