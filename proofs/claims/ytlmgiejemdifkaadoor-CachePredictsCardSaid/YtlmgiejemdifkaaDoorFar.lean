/- What Predict keeps of each set, as lists. No statement of the seat is proved here. -/
import Derived.Test.YtlmgiejemdifkaaDoorUsed
import Derived.Test.YtlmgiejemdifkaaDoorInsert
namespace Go.Proofs.YtlmgiejemdifkaaDoor.Ca
open Go.RowKit Go.Proofs.YtlmgiejemdifkaaDoor.Kit
set_option linter.unusedSimpArgs false
set_option linter.unusedVariables false

/-- The line behind the cache's ways is clean. -/
def clean (W : Nat) (L : List Ln) : List Ln := if W < L.length then L.set W ((lnth L W).1, false) else L
def rest (U : List Ln) (t : Nat) : List Ln := if seek U t < U.length then U.eraseIdx (seek U t) else U
def isHit (W : Nat) (U : List Ln) (t : Nat) : Prop := seek U t < U.length ∧ seek U t < W
instance (W : Nat) (U : List Ln) (t : Nat) : Decidable (isHit W U t) := by unfold isHit; exact inferInstance
/-- What Predict keeps of a set behind an access. -/
def seenN (W : Nat) (U : List Ln) (t : Nat) (wr : Bool) : List Ln :=
  if isHit W U t then (t, wr || dirtyAt U (seek U t)) :: rest U t else clean W ((t, wr) :: rest U t)
theorem seek_spec {U : List Ln} {t : Nat} (h : seek U t < U.length) : (U[seek U t]'h).1 = t := by
  have := List.findIdx_getElem (xs := U) (p := fun l : Ln => l.1 == t) (w := h)
  exact eq_of_beq this
theorem seek_take {U : List Ln} {W t : Nat} (h : isHit W U t) : seek (U.take W) t = seek U t := by
  obtain ⟨h1, h2⟩ := h
  refine seek_eq (by rw [List.length_take]; omega) ?_ ?_
  · rw [lnth_eq (by rw [List.length_take]; omega), List.getElem_take]
    exact seek_spec h1
  · intro j hj he
    have hj2 : j < U.length := by omega
    have h3 := List.not_of_lt_findIdx (p := fun l : Ln => l.1 == t) (xs := U) (i := j) hj
    unfold lnth at he
    simp only [List.getD_eq_getElem?_getD, List.getElem?_take, if_pos (show j < W by omega), List.getElem?_eq_getElem hj2, Option.getD_some] at he
    simp [he] at h3
theorem seek_no {U : List Ln} {W t : Nat} (h : ¬ isHit W U t) : ¬ seek (U.take W) t < (U.take W).length := by
  intro h1
  rw [seek_lt] at h1
  obtain ⟨l, hl, e⟩ := List.mem_map.1 h1
  obtain ⟨j, hj, rfl⟩ := List.mem_iff_getElem.1 hl
  rw [List.length_take] at hj
  have hle : seek U t ≤ j := by
    unfold seek
    refine Nat.le_of_not_lt (fun hlt => ?_)
    have := List.not_of_lt_findIdx (p := fun l : Ln => l.1 == t) (xs := U) hlt
    rw [List.getElem_take] at e
    simp [e] at this
  exact h ⟨by omega, by omega⟩
theorem rest_len (U : List Ln) (t : Nat) : (rest U t).length ≤ U.length := by
  unfold rest; split
  · rw [List.length_eraseIdx]; split <;> omega
  · exact Nat.le_refl _
theorem clean_len (W : Nat) (L : List Ln) : (clean W L).length = L.length := by unfold clean; split <;> simp
theorem seenN_len (W : Nat) (U : List Ln) (t : Nat) (wr : Bool) : (seenN W U t wr).length ≤ U.length + 1 := by
  have := rest_len U t
  unfold seenN; split
  · simp; omega
  · rw [clean_len]; simp; omega
theorem clean_take (W : Nat) (L : List Ln) : (clean W L).take W = L.take W := by
  unfold clean; split
  · apply List.ext_getElem?
    intro j
    rw [List.getElem?_take, List.getElem?_take]
    split
    · rw [List.getElem?_set_ne (by omega)]
    · rfl
  · rfl
theorem erase_take2 (U : List Ln) (i n : Nat) (h : i ≤ n) : (U.eraseIdx i).take n = (U.take (n + 1)).eraseIdx i := by
  apply List.ext_getElem?
  intro j
  rw [List.getElem?_take, List.getElem?_eraseIdx, List.getElem?_eraseIdx, List.getElem?_take, List.getElem?_take]
  split <;> split <;> simp_all <;> (try (rw [if_pos (by omega)])) <;> (try omega)
theorem erase_take3 (U : List Ln) (i n : Nat) (h : n ≤ i) : (U.eraseIdx i).take n = U.take n := by
  apply List.ext_getElem?
  intro j
  rw [List.getElem?_take, List.getElem?_eraseIdx, List.getElem?_take]
  split
  · rw [if_pos (by omega)]
  · rfl
/-- The cache's set is the beginning of it. -/
theorem seenN_take {W : Nat} (hW : 0 < W) (U : List Ln) (t : Nat) (wr : Bool) : (seenN W U t wr).take W = accV W (U.take W) t wr := by
  obtain ⟨m, rfl⟩ : ∃ m, W = m + 1 := ⟨W - 1, by omega⟩
  unfold seenN
  by_cases h : isHit (m + 1) U t
  · have hs := seek_take h
    rw [if_pos h]
    unfold accV
    rw [hs, if_pos (by rw [List.length_take]; unfold isHit at h; omega)]
    have hd : dirtyAt (U.take (m + 1)) (seek U t) = dirtyAt U (seek U t) := by
      unfold dirtyAt
      simp only [List.getD_eq_getElem?_getD, List.getElem?_take, if_pos h.2]
    rw [hd, Bool.or_comm, List.take_succ_cons]
    unfold rest
    rw [if_pos h.1, erase_take2 U _ m (by unfold isHit at h; omega)]
  · have hs := seek_no h
    rw [if_neg h, clean_take]
    unfold accV
    rw [if_neg hs, List.take_succ_cons]
    have hr : (rest U t).take m = U.take m := by
      unfold rest
      split
      · rename_i h1
        exact erase_take3 U _ m (by unfold isHit at h; omega)
      · rfl
    rw [hr, Nat.add_sub_cancel]
    split
    · rw [List.take_take, Nat.min_eq_left (by omega)]
    · rename_i h2
      rw [List.length_take] at h2
      rw [List.take_of_length_le (by omega : U.length ≤ m), List.take_of_length_le (by omega : U.length ≤ m + 1)]
/-- What Predict tells of an access. -/
def farT (W : Nat) (U : List Ln) (t : Nat) : Tch :=
  if isHit W U t then ⟨true, false, 1⟩ else if W ≤ U.length ∧ dirtyAt U (W - 1) = true then ⟨false, true, 20⟩ else ⟨false, false, 12⟩
theorem farT_take {W : Nat} (hW : 0 < W) (U : List Ln) (t : Nat) : farT W U t = accT W (U.take W) t := by
  unfold farT accT
  by_cases h : isHit W U t
  · rw [if_pos h, seek_take h, if_pos (by rw [List.length_take]; unfold isHit at h; omega)]
  · rw [if_neg h, if_neg (seek_no h)]
    have hd : dirtyAt (U.take W) (W - 1) = dirtyAt U (W - 1) := by
      unfold dirtyAt
      simp only [List.getD_eq_getElem?_getD, List.getElem?_take, if_pos (show W - 1 < W by omega)]
    rw [hd]
    have e : ((U.take W).length = W) ↔ (W ≤ U.length) := by rw [List.length_take]; omega
    simp only [e]
/-- Behind n uses: what Predict keeps. -/
def far (s : Shp) (us : List Us) : Nat → Nat → List Ln
  | 0 => fun _ => []
  | n + 1 => put (far s us n) (setOf s.S s.L (unth us n).1) (seenN s.W (far s us n (setOf s.S s.L (unth us n).1)) (tagOf s.S s.L (unth us n).1) (unth us n).2)
theorem far_take (s : Shp) (us : List Us) : ∀ n k, (far s us n k).take s.W = aft s (fun _ => []) us n k
  | 0, k => by show List.take _ [] = []; simp
  | n + 1, k => by
    show (put _ _ _ k).take s.W = put _ _ _ k
    unfold put
    split
    · rw [seenN_take (by have := s.hW; omega), far_take s us n]
    · exact far_take s us n k
theorem far_len (s : Shp) (us : List Us) : ∀ n k, (far s us n k).length ≤ n
  | 0, k => Nat.le_refl _
  | n + 1, k => by
    show (put _ _ _ k).length ≤ _
    unfold put
    split
    · exact Nat.le_trans (seenN_len _ _ _ _) (by have := far_len s us n (setOf s.S s.L (unth us n).1); omega)
    · exact Nat.le_trans (far_len s us n k) (Nat.le_succ n)
theorem far_cost (s : Shp) (us : List Us) (n : Nat) : cost s (fun _ => []) us n = farT s.W (far s us n (setOf s.S s.L (unth us n).1)) (tagOf s.S s.L (unth us n).1) := by
  rw [farT_take (by have := s.hW; omega), far_take]
  rfl
theorem zero101 : Tryd.zeroCells101 = (List.replicate 256 (Value.slice none 0 0)).toArray := by kernel_rfl
end Go.Proofs.YtlmgiejemdifkaaDoor.Ca
