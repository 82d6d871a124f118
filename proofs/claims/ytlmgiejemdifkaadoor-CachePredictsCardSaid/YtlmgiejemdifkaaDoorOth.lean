/- The document's Predict, as lists; that it is what Predict keeps. No statement of the seat is proved here; no program in sight. -/
import Derived.Test.YtlmgiejemdifkaaDoorFar
namespace Go.Proofs.YtlmgiejemdifkaaDoor.Ca
open Go.RowKit Go.Proofs.YtlmgiejemdifkaaDoor.Kit
set_option linter.unusedSimpArgs false
set_option linter.unusedVariables false

def lineOf (s : Shp) (us : List Us) (k : Nat) : Nat := (unth us k).1 / s.L
/-- The lines of a set that were used ahead of it, each once, the last first, up to its own; was that one used? -/
def oth (s : Shp) (us : List Us) (own : Nat) : Nat → List Nat → List Nat × Bool
  | 0, o => (o, false)
  | m + 1, o => if lineOf s us m = own then (o, true)
    else if lineOf s us m % s.S ≠ own % s.S ∨ lineOf s us m ∈ o then oth s us own m o else oth s us own m (o ++ [lineOf s us m])
def nearB (s : Shp) (us : List Us) (i : Nat) : Bool := (oth s us (lineOf s us i) i []).2 && decide ((oth s us (lineOf s us i) i []).1.length < s.W)
def los (s : Shp) (us : List Us) (gone : Nat) : Nat → Bool
  | 0 => false
  | m + 1 => if lineOf s us m ≠ gone then los s us gone m else if (unth us m).2 then true else if nearB s us m then los s us gone m else false
def loseB (s : Shp) (us : List Us) (i : Nat) : Bool :=
  decide (s.W ≤ (oth s us (lineOf s us i) i []).1.length) && los s us ((oth s us (lineOf s us i) i []).1.getD (s.W - 1) 0) i
def lastT (s : Shp) (us : List Us) (i : Nat) : Tch :=
  if nearB s us i then ⟨true, false, 1⟩ else if loseB s us i then ⟨false, true, 20⟩ else ⟨false, false, 12⟩

/-! ### tags -/
def tg (s : Shp) (us : List Us) (m k : Nat) : List Nat := tags (far s us m k)
theorem tags_rest (U : List Ln) (t : Nat) : tags (rest U t) = (tags U).erase t := by
  unfold rest
  split
  · exact tags_erase U
  · rename_i h
    rw [List.erase_of_not_mem (show t ∉ tags U from fun hm => h (seek_lt.2 hm))]
theorem tags_clean (W : Nat) (L : List Ln) : tags (clean W L) = tags L := by
  unfold clean tags
  split
  · rename_i h
    rw [List.map_set]
    apply List.ext_getElem?
    intro j
    rw [List.getElem?_set]
    split
    · rename_i e; subst e
      rw [if_pos (by simpa using h), List.getElem?_map, List.getElem?_eq_getElem h]
      simp [lnth, h]
    · rfl
  · rfl
theorem tags_seenN (W : Nat) (U : List Ln) (t : Nat) (wr : Bool) : tags (seenN W U t wr) = t :: (tags U).erase t := by
  unfold seenN
  split
  · show t :: tags (rest U t) = _
    rw [tags_rest]
  · rw [tags_clean]
    show t :: tags (rest U t) = _
    rw [tags_rest]
theorem set_line (s : Shp) (us : List Us) (m : Nat) : setOf s.S s.L (unth us m).1 = lineOf s us m % s.S := rfl
theorem tag_line (s : Shp) (us : List Us) (m : Nat) : tagOf s.S s.L (unth us m).1 = lineOf s us m / s.S := rfl
theorem tg_next (s : Shp) (us : List Us) (m k : Nat) : tg s us (m + 1) k = if lineOf s us m % s.S = k then (lineOf s us m / s.S) :: (tg s us m k).erase (lineOf s us m / s.S) else tg s us m k := by
  unfold tg
  show tags (put _ _ _ k) = _
  rw [set_line, tag_line]
  by_cases h : lineOf s us m % s.S = k
  · subst h
    rw [put_same, if_pos rfl, tags_seenN]
  · rw [put_other _ _ (fun e => h e.symm), if_neg h]
theorem tg_nodup (s : Shp) (us : List Us) (k : Nat) : ∀ m, (tg s us m k).Nodup
  | 0 => List.nodup_nil
  | m + 1 => by
    have ih := tg_nodup s us k m
    rw [tg_next]
    split
    · refine List.nodup_cons.2 ⟨?_, ih.erase _⟩
      rw [ih.mem_erase_iff]
      simp
    · exact ih
theorem split_line {S a b : Nat} (hs : a % S = b % S) : a = b ↔ a / S = b / S := by
  constructor
  · intro e; rw [e]
  · intro e
    have h1 := Nat.div_add_mod a S
    have h2 := Nat.div_add_mod b S
    rw [hs, e] at h1
    omega
/-- As lines. -/
def up (s : Shp) (k : Nat) (L : List Nat) : List Nat := L.map (fun t => s.S * t + k)
theorem up_line (s : Shp) (n k : Nat) (h : n % s.S = k) : s.S * (n / s.S) + k = n := by
  rw [← h]; exact Nat.div_add_mod n s.S
theorem up_inj (s : Shp) (k : Nat) {a b : Nat} (h : s.S * a + k = s.S * b + k) : a = b := by
  have := s.Sle
  exact Nat.eq_of_mul_eq_mul_left (by omega) (Nat.add_right_cancel h)
theorem filter_erase (p : Nat → Bool) (a : Nat) (h : p a = false) : ∀ L : List Nat, (L.erase a).filter p = L.filter p
  | [] => rfl
  | b :: L => by
    rw [List.erase_cons]
    split
    · rename_i e
      have e : b = a := by simpa using e
      subst e
      simp [h]
    · rw [List.filter_cons, List.filter_cons, filter_erase p a h L]
theorem oth_is (s : Shp) (us : List Us) (own : Nat) : ∀ (m : Nat) (o : List Nat), own / s.S ∉ o →
    oth s us own m (up s (own % s.S) o) = (up s (own % s.S) (o ++ ((tg s us m (own % s.S)).filter (fun x => decide (x ∉ o))).takeWhile (fun x => x != own / s.S)), decide (own / s.S ∈ tg s us m (own % s.S)))
  | 0, o, _ => by
    show (up s _ o, false) = _
    simp [tg, tags, far]
  | m + 1, o, ho => by
    obtain ⟨n, hn⟩ : ∃ n, n = lineOf s us m := ⟨_, rfl⟩
    unfold oth
    rw [tg_next, ← hn]
    by_cases hs : n % s.S = own % s.S
    · rw [if_pos hs]
      by_cases he : n = own
      · rw [if_pos he, he]
        simp [ho]
      · have hne : n / s.S ≠ own / s.S := fun e => he ((split_line hs).2 e)
        rw [if_neg he]
        have hmem : n ∈ up s (own % s.S) o ↔ n / s.S ∈ o := by
          unfold up
          rw [List.mem_map]
          constructor
          · rintro ⟨a, ha, e⟩
            rw [← up_line s n (own % s.S) hs] at e
            rw [← up_inj s _ e]; exact ha
          · intro h
            exact ⟨_, h, up_line s n _ hs⟩
        have hmm : decide (own / s.S ∈ n / s.S :: (tg s us m (own % s.S)).erase (n / s.S)) = decide (own / s.S ∈ tg s us m (own % s.S)) := by
          congr 1
          rw [List.mem_cons, (tg_nodup s us (own % s.S) m).mem_erase_iff]
          simp only [eq_iff_iff]
          constructor
          · rintro (h | h)
            · exact absurd h.symm hne
            · exact h.2
          · intro h; exact .inr ⟨fun e => hne e.symm, h⟩
        rw [hmm]
        by_cases ho2 : n / s.S ∈ o
        · rw [if_pos (.inr (hmem.2 ho2)), oth_is s us own m o ho]
          rw [List.filter_cons, if_neg (by simpa using ho2), filter_erase _ _ (by simpa using ho2)]
        · rw [if_neg (by intro h; rcases h with h | h; exact h hs; exact ho2 (hmem.1 h))]
          have hup : up s (own % s.S) o ++ [n] = up s (own % s.S) (o ++ [n / s.S]) := by
            unfold up
            rw [List.map_append, List.map_singleton, up_line s n _ hs]
          rw [hup, oth_is s us own m (o ++ [n / s.S]) (by simp; exact ⟨ho, fun e => hne e.symm⟩)]
          rw [List.filter_cons, if_pos (by simpa using ho2), List.takeWhile_cons, if_pos (by simpa using hne)]
          have hf : (tg s us m (own % s.S)).filter (fun x => decide (x ∉ o ++ [n / s.S])) = ((tg s us m (own % s.S)).erase (n / s.S)).filter (fun x => decide (x ∉ o)) := by
            rw [(tg_nodup s us (own % s.S) m).erase_eq_filter, List.filter_filter]
            apply List.filter_congr
            intro x _
            by_cases h1 : x ∈ o <;> by_cases h2 : x = n / s.S <;> simp [h1, h2]
          rw [hf, List.append_assoc, List.singleton_append]
    · rw [if_neg hs, if_neg (fun e => hs (by rw [e])), if_pos (.inl hs)]
      exact oth_is s us own m o ho
theorem seek_take_tags (t : Nat) : ∀ U : List Ln, (tags U).takeWhile (fun x => x != t) = (tags U).take (seek U t)
  | [] => rfl
  | a :: U => by
    have ih := seek_take_tags t U
    unfold seek tags at *
    by_cases h : a.1 = t
    · have hb : (a.1 == t) = true := by simpa using h
      simp [List.findIdx_cons, hb, h]
    · have hb : (a.1 == t) = false := by simpa using h
      simp only [List.map_cons, List.takeWhile_cons, List.findIdx_cons, hb, cond_false]
      rw [if_pos (by simpa using h), List.take_succ_cons, ih]
theorem seek_le (U : List Ln) (t : Nat) : seek U t ≤ U.length := List.findIdx_le_length
/-- What the document gathers. -/
theorem oth_first (s : Shp) (us : List Us) (i : Nat) :
    oth s us (lineOf s us i) i [] = (up s (lineOf s us i % s.S) ((tags (far s us i (lineOf s us i % s.S))).take (seek (far s us i (lineOf s us i % s.S)) (lineOf s us i / s.S))), decide (seek (far s us i (lineOf s us i % s.S)) (lineOf s us i / s.S) < (far s us i (lineOf s us i % s.S)).length)) := by
  have h := oth_is s us (lineOf s us i) i [] (by simp)
  rw [show up s (lineOf s us i % s.S) [] = [] from rfl] at h
  rw [h]
  congr 1
  · rw [List.nil_append, ← seek_take_tags]
    congr 2
    simp [tg]
  · congr 1
    rw [eq_iff_iff]
    exact seek_lt.symm
theorem near_is (s : Shp) (us : List Us) (i : Nat) : nearB s us i = decide (isHit s.W (far s us i (lineOf s us i % s.S)) (lineOf s us i / s.S)) := by
  unfold nearB
  rw [oth_first]
  have h1 := seek_le (far s us i (lineOf s us i % s.S)) (lineOf s us i / s.S)
  simp only [up, List.length_map, List.length_take, tags]
  rw [Nat.min_eq_left h1]
  unfold isHit
  by_cases a : seek (far s us i (lineOf s us i % s.S)) (lineOf s us i / s.S) < (far s us i (lineOf s us i % s.S)).length <;> by_cases b : seek (far s us i (lineOf s us i % s.S)) (lineOf s us i / s.S) < s.W <;> simp [a, b]
/-- The line's dirt, as the document goes back for it. -/
theorem dirt_is (s : Shp) (us : List Us) (k : Nat) (hk : k < s.S) : ∀ m j, j < s.W → j < (far s us m k).length → (lnth (far s us m k) j).2 = los s us (s.S * (lnth (far s us m k) j).1 + k) m
  | 0, j, _, h => by simp [far] at h
  | m + 1, j, hj, hl => by
    have ih := dirt_is s us k hk m
    have hnd := tg_nodup s us k m
    have hSs := s.Sle
    obtain ⟨n, hn⟩ : ∃ n, n = lineOf s us m := ⟨_, rfl⟩
    obtain ⟨wr, hwr⟩ : ∃ x, x = (unth us m).2 := ⟨_, rfl⟩
    have hnext : far s us (m + 1) k = if n % s.S = k then seenN s.W (far s us m k) (n / s.S) wr else far s us m k := by
      show put _ _ _ k = _
      rw [set_line, tag_line, ← hn, ← hwr]
      by_cases h : n % s.S = k
      · subst h; rw [put_same, if_pos rfl]
      · rw [put_other _ _ (fun e => h e.symm), if_neg h]
    have hstep : ∀ g, los s us g (m + 1) = if n ≠ g then los s us g m else if wr then true else if nearB s us m then los s us g m else false := fun g => by rw [hn, hwr]; rfl
    have hnear : n % s.S = k → nearB s us m = decide (isHit s.W (far s us m k) (n / s.S)) := fun h => by rw [near_is, ← hn, h]
    rw [hnext] at hl ⊢
    rw [hstep]
    have hmod : ∀ a, (s.S * a + k) % s.S = k := fun a => by rw [Nat.mul_add_mod, Nat.mod_eq_of_lt hk]
    have hdiv : ∀ a, (s.S * a + k) / s.S = a := fun a => by rw [Nat.mul_add_div (by omega), Nat.div_eq_of_lt hk, Nat.add_zero]
    clear hnext hstep
    unfold tg at hnd
    generalize far s us m k = U at *
    by_cases hs : n % s.S = k
    · rw [if_pos hs] at hl ⊢
      rw [hnear hs]
      generalize ht : n / s.S = t at *
      cases j with
      | zero =>
        have hd : ∃ d, lnth (seenN s.W U t wr) 0 = (t, d) ∧ d = if isHit s.W U t then (wr || dirtyAt U (seek U t)) else wr := by
          unfold seenN
          split
          · exact ⟨_, rfl, rfl⟩
          · refine ⟨wr, ?_, rfl⟩
            unfold clean
            split
            · obtain ⟨W', hW'⟩ : ∃ x, s.W = x + 1 := ⟨s.W - 1, by omega⟩
              rw [hW']; rfl
            · rfl
        obtain ⟨d, e1, e2⟩ := hd
        rw [e1]
        have hg : s.S * t + k = n := by rw [← ht]; exact up_line s n k hs
        rw [hg, if_neg (by simp)]
        show d = _
        rw [e2]
        by_cases hit : isHit s.W U t
        · rw [if_pos hit]
          have := ih (seek U t) hit.2 hit.1
          have e3 : (lnth U (seek U t)).1 = t := by rw [lnth_eq hit.1]; exact seek_spec hit.1
          rw [e3, hg] at this
          have e4 : dirtyAt U (seek U t) = (lnth U (seek U t)).2 := rfl
          rw [e4, this]
          simp only [hit, decide_true, if_true]
          cases wr <;> rfl
        · rw [if_neg hit]
          simp only [hit, decide_false, Bool.false_eq_true, if_false]
          cases wr <;> rfl
      | succ j =>
        have hr : lnth (seenN s.W U t wr) (j + 1) = lnth (rest U t) j := by
          unfold seenN
          split
          · rfl
          · unfold clean
            split
            · unfold lnth
              simp only [List.getD_eq_getElem?_getD]
              rw [List.getElem?_set_ne (by omega)]
              rfl
            · rfl
        have hjr : j < (rest U t).length := by
          unfold seenN at hl
          split at hl
          · simpa using hl
          · rw [clean_len] at hl; simpa using hl
        obtain ⟨q, hq1, hq2, hq3⟩ : ∃ q, q < s.W ∧ q < U.length ∧ lnth (rest U t) j = lnth U q := by
          unfold rest at hjr ⊢
          split
          · rename_i h1
            rw [if_pos h1, List.length_eraseIdx, if_pos h1] at hjr
            by_cases hlt : j < seek U t
            · refine ⟨j, by omega, by omega, ?_⟩
              unfold lnth
              simp only [List.getD_eq_getElem?_getD]
              rw [List.getElem?_eraseIdx, if_pos hlt]
            · refine ⟨j + 1, hj, by omega, ?_⟩
              unfold lnth
              simp only [List.getD_eq_getElem?_getD]
              rw [List.getElem?_eraseIdx, if_neg hlt]
          · rename_i h1
            rw [if_neg h1] at hjr
            exact ⟨j, by omega, hjr, rfl⟩
        have hne : (lnth U q).1 ≠ t := by
          rw [← hq3]
          have hm : (lnth (rest U t) j).1 ∈ tags (rest U t) := by
            rw [lnth_eq hjr]
            exact List.mem_map.2 ⟨_, List.getElem_mem hjr, rfl⟩
          rw [tags_rest, hnd.mem_erase_iff] at hm
          exact hm.1
        rw [hr, hq3, if_pos (fun e => hne (by rw [← ht, e, hdiv]))]
        exact ih q hq1 hq2
    · rw [if_neg hs] at hl ⊢
      rw [if_pos (fun e => hs (by rw [e, hmod]))]
      exact ih j hj hl
theorem last_is (s : Shp) (us : List Us) (i : Nat) : lastT s us i = farT s.W (far s us i (lineOf s us i % s.S)) (lineOf s us i / s.S) := by
  have hSs := s.Sle
  have hk : lineOf s us i % s.S < s.S := Nat.mod_lt _ (by omega)
  unfold lastT farT
  rw [near_is]
  have hd := dirt_is s us _ hk i (s.W - 1) (by have := s.hW; omega)
  unfold loseB
  rw [oth_first]
  generalize far s us i (lineOf s us i % s.S) = U at *
  generalize lineOf s us i / s.S = t at *
  generalize lineOf s us i % s.S = k at *
  by_cases h : isHit s.W U t
  · simp [h]
  · simp only [h, decide_false, Bool.false_eq_true, if_false]
    have h1 := seek_le U t
    have hW := s.hW
    have hlen : (s.W ≤ (up s k ((tags U).take (seek U t))).length) ↔ s.W ≤ U.length := by
      simp only [up, List.length_map, List.length_take, tags]
      rw [Nat.min_eq_left h1]
      unfold isHit at h
      omega
    by_cases hw : s.W ≤ U.length
    · have hsk : s.W ≤ seek U t := by unfold isHit at h; omega
      have hg : (up s k ((tags U).take (seek U t))).getD (s.W - 1) 0 = s.S * (lnth U (s.W - 1)).1 + k := by
        unfold up tags
        rw [List.getD_eq_getElem?_getD, List.getElem?_map, List.getElem?_take, if_pos (by omega), List.getElem?_map, List.getElem?_eq_getElem (show s.W - 1 < U.length by omega), lnth_eq (show s.W - 1 < U.length by omega)]
        rfl
      rw [hg, ← hd (by omega), decide_eq_true (hlen.2 hw), Bool.true_and]
      have e : dirtyAt U (s.W - 1) = (lnth U (s.W - 1)).2 := rfl
      rw [e]
      cases hb : (lnth U (s.W - 1)).2 <;> simp [hw]
    · rw [decide_eq_false (fun x => hw (hlen.1 x)), Bool.false_and]
      simp [hw]
/-- Predict tells what the document's does. -/
theorem cost_last (s : Shp) (us : List Us) (i : Nat) : cost s (fun _ => []) us i = lastT s us i := by
  rw [far_cost, last_is]; rfl
end Go.Proofs.YtlmgiejemdifkaaDoor.Ca
