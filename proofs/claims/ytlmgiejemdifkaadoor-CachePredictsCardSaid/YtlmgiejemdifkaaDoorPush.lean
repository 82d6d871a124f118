/- A line put behind a set's; lists of rows as sets: for Load. No statement of the seat is proved here. -/
import Derived.Test.YtlmgiejemdifkaaDoorDirty
import Derived.Test.YtlmgiejemdifkaaDoorGood
namespace Go.Proofs.YtlmgiejemdifkaaDoor.Ca
open Go.RowKit
set_option linter.unusedSimpArgs false
set_option linter.unusedVariables false

/-! ### rows as sets -/
def part (R : List Rw) (k : Nat) : List Ln := (R.filter (fun r => r.1 == k)).map (·.2)
theorem part_append (R Q : List Rw) (k : Nat) : part (R ++ Q) k = part R k ++ part Q k := by simp [part]
theorem part_set (n k : Nat) (V : List Ln) : part (V.map (fun l => (n, l))) k = if n = k then V else [] := by
  unfold part
  by_cases h : n = k
  · subst h; simp [List.filter_map, Function.comp_def]
  · simp [List.filter_map, Function.comp_def, h]
theorem part_rows (f : Nat → List Ln) (k : Nat) : ∀ n, part (lrows f n) k = if k < n then f k else []
  | 0 => by simp [lrows, part]
  | n + 1 => by
    rw [lrows, part_append, part_rows f k n, part_set]
    by_cases h : n = k
    · subst h; simp
    · by_cases h2 : k < n
      · rw [if_pos h2, if_neg h, if_pos (by omega), List.append_nil]
      · rw [if_neg h2, if_neg h, if_neg (by omega)]; rfl
theorem part_next (R : List Rw) (j : Nat) (h : j < R.length) (k : Nat) : part (R.take (j + 1)) k = part (R.take j) k ++ (if (rnth R j).1 = k then [(rnth R j).2] else []) := by
  have e : rnth R j = R[j] := by simp [rnth, h]
  rw [List.take_succ_eq_append_getElem h, part_append, e]
  congr 1
  unfold part
  by_cases h2 : (R[j]).1 = k
  · simp [h2]
  · simp [h2]
/-- What stands ahead of a row, and the row, are a beginning of its set. -/
theorem part_prefix (f : Nat → List Ln) (n j : Nat) (h : j < (lrows f n).length) : ∃ U, f (rnth (lrows f n) j).1 = part ((lrows f n).take j) (rnth (lrows f n) j).1 ++ [(rnth (lrows f n) j).2] ++ U := by
  have h1 := part_next (lrows f n) j h (rnth (lrows f n) j).1
  rw [if_pos rfl] at h1
  have h2 : part (lrows f n) (rnth (lrows f n) j).1 = part ((lrows f n).take (j + 1)) (rnth (lrows f n) j).1 ++ part ((lrows f n).drop (j + 1)) (rnth (lrows f n) j).1 := by rw [← part_append, List.take_append_drop]
  rw [part_rows] at h2
  by_cases hk : (rnth (lrows f n) j).1 < n
  · rw [if_pos hk, h1] at h2; exact ⟨_, h2⟩
  · rw [if_neg hk, h1] at h2
    have := congrArg List.length h2
    simp at this
/-- So a row's set has room for it, and its tag isn't there yet. -/
theorem part_room {s : Shp} {f : Nat → List Ln} (hg : Good s f) (n j : Nat) (h : j < (lrows f n).length) :
    (part ((lrows f n).take j) (rnth (lrows f n) j).1).length < s.W ∧ (rnth (lrows f n) j).2.1 ∉ tags (part ((lrows f n).take j) (rnth (lrows f n) j).1) ∧ (rnth (lrows f n) j).2.1 * s.S + (rnth (lrows f n) j).1 < 4294967296 / s.L := by
  obtain ⟨U, e⟩ := part_prefix f n j h
  have hl := hg.len (rnth (lrows f n) j).1
  have hn := hg.nodup (rnth (lrows f n) j).1
  have hr := hg.room (rnth (lrows f n) j).1 (rnth (lrows f n) j).2
  rw [e] at hl hn hr
  refine ⟨by simp at hl; omega, fun hm => ?_, hr (by simp)⟩
  simp only [tags, List.map_append, List.map_cons, List.map_nil] at hn hm
  have h2 := (List.nodup_append.1 (List.nodup_append.1 hn).1).2.2
  exact h2 _ hm _ (List.mem_singleton.2 rfl) rfl
theorem rows_lt (f : Nat → List Ln) (n j : Nat) (h : j < (lrows f n).length) : (rnth (lrows f n) j).1 < n := by
  obtain ⟨U, e⟩ := part_prefix f n j h
  have h1 := part_next (lrows f n) j h (rnth (lrows f n) j).1
  have h2 : part (lrows f n) (rnth (lrows f n) j).1 = part ((lrows f n).take (j + 1)) (rnth (lrows f n) j).1 ++ part ((lrows f n).drop (j + 1)) (rnth (lrows f n) j).1 := by rw [← part_append, List.take_append_drop]
  rw [part_rows, h1, if_pos rfl] at h2
  by_cases hk : (rnth (lrows f n) j).1 < n
  · exact hk
  · rw [if_neg hk] at h2
    have := congrArg List.length h2
    simp at this

/-! ### a line put behind a set's -/
theorem flat_set : ∀ (L : List Ln) (m : Nat) (l : Ln), flat (L.set m l) = ((flat L).set (2 * m) (.int .u32 l.1)).set (2 * m + 1) (.bool l.2)
  | [], m, l => by simp [flat]
  | x :: L, 0, l => by simp [flat]
  | x :: L, m + 1, l => by
    rw [show 2 * (m + 1) = 2 * m + 1 + 1 by omega]
    simp [flat, flat_set L m l]
theorem set_end (A : List Ln) (x l : Ln) : (A ++ [x]).set A.length l = A ++ [l] := by simp
theorem SetAt.push {w : World} {b o : Nat} {V : List Ln} (h : SetAt w b o V) (hl : V.length < 8) (l : Ln) :
    SetAt (((w.setCell ⟨b, o + V.length * 2, none⟩ (.int .u32 l.1)).setCell ⟨b, o + V.length * 2 + 1, none⟩ (.bool l.2)).setCell ⟨b, o + 16, none⟩ (.int .i64 ((V.length : Int) + 1))) b o (V ++ [l]) := by
  obtain ⟨L, h8, hr, hc, hV⟩ := h
  obtain ⟨c0, c1⟩ := range_at hr V.length (by omega)
  refine ⟨L.set V.length l, by simp [h8], fun j v hv => ?_, ?_, ?_⟩
  · have hj : j < 16 := by have := (List.getElem?_eq_some_iff.1 hv).1; rw [flat_length, List.length_set, h8] at this; omega
    rw [World.cell?_setCell_other _ _ _ _ (fun e => by injection e; omega)]
    rw [flat_set] at hv
    by_cases e1 : j = 2 * V.length + 1
    · subst e1
      rw [List.getElem?_set_self (by simp [flat_length]; omega)] at hv
      cases hv
      rw [show o + (2 * V.length + 1) = o + V.length * 2 + 1 by omega]
      exact World.cell?_setCell_same _ _ _ ((World.cell?_setCell_other _ _ _ _ (fun e => by injection e; omega)).trans c1)
    · rw [List.getElem?_set_ne (fun e => e1 e.symm)] at hv
      rw [World.cell?_setCell_other _ _ _ _ (fun e => by injection e; omega)]
      by_cases e2 : j = 2 * V.length
      · subst e2
        rw [List.getElem?_set_self (by simp [flat_length]; omega)] at hv
        cases hv
        rw [show o + 2 * V.length = o + V.length * 2 by omega]
        exact World.cell?_setCell_same _ _ _ c0
      · rw [List.getElem?_set_ne (fun e => e2 e.symm)] at hv
        rw [World.cell?_setCell_other _ _ _ _ (fun e => by injection e; omega)]
        exact hr j v hv
  · have hc' : ((w.setCell ⟨b, o + V.length * 2, none⟩ (.int .u32 l.1)).setCell ⟨b, o + V.length * 2 + 1, none⟩ (.bool l.2)).cell? ⟨b, o + 16, none⟩ = some (.int .i64 V.length) := by
      rw [World.cell?_setCell_other _ _ _ _ (fun e => by injection e; omega), World.cell?_setCell_other _ _ _ _ (fun e => by injection e; omega)]; exact hc
    rw [World.cell?_setCell_same _ _ _ hc']
    simp
  · rw [List.length_append, List.length_singleton, List.take_set, List.take_succ_eq_append_getElem (by omega)]
    have e := hV.symm
    rw [e]
    exact (set_end V _ l).symm
end Go.Proofs.YtlmgiejemdifkaaDoor.Ca
