/- What a cache does, as lists: an access, and its laws. No statement of the seat is proved here; no program in sight. -/
namespace Go.Proofs.YtlmgiejemdifkaaDoor.Ca

abbrev Ln := Nat × Bool
/-- Where a tag is in a set; the set's length, if it is not there. -/
def seek (V : List Ln) (t : Nat) : Nat := V.findIdx (fun l => l.1 == t)
def dirtyAt (V : List Ln) (i : Nat) : Bool := (V.getD i (0, false)).2
/-- A set behind an access, of so many ways. -/
def accV (W : Nat) (V : List Ln) (t : Nat) (wr : Bool) : List Ln :=
  if seek V t < V.length then (t, dirtyAt V (seek V t) || wr) :: V.eraseIdx (seek V t)
  else if V.length = W then (t, wr) :: V.take (W - 1) else (t, wr) :: V
/-- What it costs: is it a hit, does a dirty line go, the cycles. -/
structure Tch where
  hit : Bool
  back : Bool
  cyc : Int
def accT (W : Nat) (V : List Ln) (t : Nat) : Tch :=
  if seek V t < V.length then ⟨true, false, 1⟩
  else if V.length = W ∧ dirtyAt V (W - 1) = true then ⟨false, true, 20⟩ else ⟨false, false, 12⟩
theorem accV_len {W : Nat} {V : List Ln} (t : Nat) (wr : Bool) (h : V.length ≤ W) (hW : 0 < W) : (accV W V t wr).length ≤ W := by
  unfold accV
  split
  · rename_i h1
    simp only [List.length_cons, List.length_eraseIdx]
    split <;> omega
  · split
    · simp only [List.length_cons, List.length_take]; omega
    · simp only [List.length_cons]; omega
theorem seek_lt {V : List Ln} {t : Nat} : seek V t < V.length ↔ t ∈ V.map (·.1) := by
  unfold seek
  rw [List.findIdx_lt_length]
  simp only [List.mem_map, beq_iff_eq]

/-! ### more ways -/
def tags (V : List Ln) : List Nat := V.map (·.1)
theorem erase_take (t : Nat) : ∀ (L : List Nat) (n : Nat), ((L.take (n + 1)).erase t).take n = (L.erase t).take n
  | [], n => by simp
  | a :: L, n => by
    by_cases h : a = t
    · subst h
      cases n with
      | zero => simp
      | succ n => simp [List.take_take]
    · have hb : (a == t) = false := by simpa using h
      cases n with
      | zero => simp
      | succ n =>
        rw [List.take_succ_cons, List.erase_cons, List.erase_cons]
        simp only [hb, Bool.false_eq_true, if_false, List.take_succ_cons]
        rw [erase_take t L n]
theorem tags_erase {t : Nat} : ∀ V : List Ln, tags (V.eraseIdx (seek V t)) = (tags V).erase t
  | [] => rfl
  | a :: V => by
    unfold seek tags
    by_cases h : a.1 = t
    · have hb : (a.1 == t) = true := by simpa using h
      subst h
      simp [List.findIdx_cons]
    · have hb : (a.1 == t) = false := by simpa using h
      have ih := tags_erase V (t := t)
      unfold seek tags at ih
      simp [List.findIdx_cons, hb, ih]
theorem tags_acc {W : Nat} {V : List Ln} (t : Nat) (wr : Bool) (h : V.length ≤ W) (hW : 0 < W) : tags (accV W V t wr) = (t :: (tags V).erase t).take W := by
  obtain ⟨m, rfl⟩ : ∃ m, W = m + 1 := ⟨W - 1, by omega⟩
  rw [List.take_succ_cons]
  unfold accV
  split
  · rename_i h1
    show t :: tags (V.eraseIdx (seek V t)) = _
    rw [tags_erase, List.take_of_length_le]
    have hm : t ∈ tags V := seek_lt.1 h1
    rw [List.length_erase_of_mem hm]
    simp [tags]; omega
  · rename_i h1
    have h2 : t ∉ tags V := fun hm => h1 (seek_lt.2 hm)
    rw [List.erase_of_not_mem h2]
    split
    · show t :: tags (V.take (m + 1 - 1)) = _
      simp [tags, List.map_take]
    · show t :: tags V = _
      rw [List.take_of_length_le]
      simp [tags]; omega
/-- The narrower cache's set is the beginning of the wider one's. -/
theorem wider_acc {W X : Nat} {V U : List Ln} (t : Nat) (a b : Bool) (hV : V.length ≤ W) (hU : U.length ≤ X) (hW : 0 < W) (hX : W ≤ X) (h : tags V = (tags U).take W) : tags (accV W V t a) = (tags (accV X U t b)).take W := by
  rw [tags_acc t a hV hW, tags_acc t b hU (by omega), List.take_take, Nat.min_eq_left hX, h]
  obtain ⟨m, rfl⟩ : ∃ m, W = m + 1 := ⟨W - 1, by omega⟩
  rw [List.take_succ_cons, List.take_succ_cons, erase_take]
theorem wider_hit {W X : Nat} {V U : List Ln} (t : Nat) (h : tags V = (tags U).take W) (hit : (accT W V t).hit = true) : (accT X U t).hit = true := by
  unfold accT at hit ⊢
  have h1 : seek V t < V.length := by
    split at hit
    · assumption
    · split at hit <;> cases hit
  have h2 : t ∈ tags U := by
    have := seek_lt.1 h1
    rw [show V.map (·.1) = tags V from rfl, h] at this
    exact List.mem_of_mem_take this
  rw [if_pos (seek_lt.2 h2)]

/-! ### a whole cache: its sets -/
/-- Which set an address is of, and its tag. -/
def setOf (sets line addr : Nat) : Nat := addr / line % sets
def tagOf (sets line addr : Nat) : Nat := addr / line / sets
def put (f : Nat → List Ln) (k : Nat) (V : List Ln) : Nat → List Ln := fun j => if j = k then V else f j
theorem put_same (f : Nat → List Ln) (k : Nat) (V : List Ln) : put f k V k = V := by simp [put]
theorem put_other (f : Nat → List Ln) {k j : Nat} (V : List Ln) (h : j ≠ k) : put f k V j = f j := by simp [put, h]
end Go.Proofs.YtlmgiejemdifkaaDoor.Ca
