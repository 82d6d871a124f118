/- Lists of touches and of uses that the call itself owns: reading, writing. No statement of the seat is proved here. -/
import Derived.Test.YtlmgiejemdifkaaDoorGrow
import Derived.Test.YtlmgiejemdifkaaDoorMore
import Derived.Test.YtlmgiejemdifkaaDoorCopied
namespace Go.Proofs.YtlmgiejemdifkaaDoor.Ca
open Go.RowKit Go.Proofs.YtlmgiejemdifkaaDoor.Kit
set_option linter.unusedSimpArgs false
set_option linter.unusedVariables false

/-- v owns a list of touches. -/
abbrev Ot (w : World) (base : Nat) (v : Value) (ts : List Tch) : Prop := w.ownsRow base 38 3 v ts.length (trows ts)
theorem trows_set : ∀ (ts : List Tch) (j : Nat) (t : Tch), (((trows ts).set (j * 3) (.bool t.hit)).set (j * 3 + 1) (.bool t.back)).set (j * 3 + 2) (.int .i64 t.cyc) = if j < ts.length then trows (ts.set j t) else trows ts
  | [], j, t => by simp [trows]
  | a :: ts, 0, t => by simp [trows, tcells]
  | a :: ts, j + 1, t => by
    have ih := trows_set ts j t
    rw [show (j + 1) * 3 = j * 3 + 3 by omega]
    simp only [trows, tcells, List.cons_append, List.nil_append, List.set_cons_succ, List.length_cons, Nat.add_lt_add_iff_right]
    rw [ih]
    split <;> rfl
theorem Ot.at_ {w : World} {base : Nat} {v : Value} {ts : List Tch} (h : Ot w base v ts) {j : Nat} (hj : j < ts.length) :
    ∃ g cap, v = .slice (some ⟨g, 0, none⟩) ts.length cap ∧ base ≤ g ∧ (w.cell? ⟨g, j * 3, none⟩ = some (.bool (tnth ts j).hit) ∧ w.cell? ⟨g, j * 3 + 1, none⟩ = some (.bool (tnth ts j).back) ∧ w.cell? ⟨g, j * 3 + 2, none⟩ = some (.int .i64 (tnth ts j).cyc)) ∧
      (w.frozen? ⟨g, j * 3, none⟩ = false ∧ w.frozen? ⟨g, j * 3 + 1, none⟩ = false ∧ w.frozen? ⟨g, j * 3 + 2, none⟩ = false) ∧
      ∀ t : Tch, Ot (((w.setCell ⟨g, j * 3, none⟩ (.bool t.hit)).setCell ⟨g, j * 3 + 1, none⟩ (.bool t.back)).setCell ⟨g, j * 3 + 2, none⟩ (.int .i64 t.cyc)) base v (ts.set j t) := by
  obtain ⟨g0, cap0, hv0, c0, c1, c2⟩ := own_cells h hj
  rcases h.2 with ⟨_, h0⟩ | ⟨g, cap, cur, hv, hb, hrow, hn, hm, hs, htk⟩
  · omega
  · rw [hv] at hv0
    injection hv0 with e1 _ e2
    injection e1 with e1
    injection e1 with e1 _ _
    subst e1 e2
    refine ⟨g, cap, hv, hb, ⟨c0, c1, c2⟩, ⟨frozen_of_row w g _ _ _ hrow, frozen_of_row w g _ _ _ hrow, frozen_of_row w g _ _ _ hrow⟩, fun t => ?_⟩
    have hr := heap_setCell_same _ g (j * 3 + 2) _ _ (.int .i64 t.cyc) (heap_setCell_same _ g (j * 3 + 1) _ _ (.bool t.back) (heap_setCell_same w g (j * 3) _ _ (.bool t.hit) hrow))
    have hl : (ts.set j t).length = ts.length := List.length_set
    refine ⟨by rw [hl, ← h.1]; have e := trows_set ts j t; rw [if_pos hj] at e; rw [← e]; simp, .inr ⟨g, cap, _, by rw [hl]; exact hv, hb, hr, by rw [hl]; exact hn, hm, by simpa using hs, ?_⟩⟩
    have e := trows_set ts j t
    rw [if_pos hj] at e
    rw [hl, ← e, ← htk]
    simp only [Array.toList_setIfInBounds, List.take_set]
/-- The first k are turned to t. -/
def mk (t : Tch) (k : Nat) (ts : List Tch) : List Tch := List.replicate k t ++ ts.drop k
theorem mk_zero (t : Tch) (ts : List Tch) : mk t 0 ts = ts := rfl
theorem mk_len {t : Tch} {k : Nat} {ts : List Tch} (h : k ≤ ts.length) : (mk t k ts).length = ts.length := by simp [mk]; omega
theorem mk_set {t : Tch} {k : Nat} {ts : List Tch} (h : k < ts.length) : (mk t k ts).set k t = mk t (k + 1) ts := by
  unfold mk
  rw [List.set_append_right _ _ (by simp), List.length_replicate, Nat.sub_self, List.replicate_succ', List.append_assoc]
  congr 1
  rw [List.drop_eq_getElem_cons h]
  rfl
theorem mk_at {t : Tch} {k : Nat} {ts : List Tch} (h : k < ts.length) : tnth (mk t k ts) k = tnth ts k := by
  unfold mk tnth
  rw [List.getD_eq_getElem?_getD, List.getD_eq_getElem?_getD, List.getElem?_append_right (by simp), List.length_replicate, Nat.sub_self, List.getElem?_drop, Nat.add_zero]
theorem mk_full {t : Tch} {ts : List Tch} : mk t ts.length ts = List.replicate ts.length t := by simp [mk]
theorem tnth_rep {t : Tch} {n j : Nat} (h : j < n) : tnth (List.replicate n t) j = t := by
  unfold tnth
  rw [List.getD_eq_getElem?_getD, List.getElem?_replicate, if_pos h]; rfl

/-! ### uses that the call itself has laid -/
def InB (w : World) (p : Nat) (xs : List Us) : Prop := w.heap[p]? = some (.cells (flat xs).toArray 36 (0, 0))
theorem InB.kept {w w' : World} {p : Nat} {xs : List Us} (h : InB w p xs) {r : Option Nat} (hC : Chg w w' r) (hn : r ≠ some p) : InB w' p xs :=
  (hC.block p (Array.getElem?_eq_some_iff.1 h).1 (fun e => hn e.symm)).trans h
theorem flat_set3 : ∀ (L : List Us) (j a : Nat) (b : Bool), ((flat L).set (j * 2) (.int .u32 a)).set (j * 2 + 1) (.bool b) = flat (L.set j (a, b))
  | [], j, a, b => by simp [flat]
  | l :: L, 0, a, b => rfl
  | l :: L, j + 1, a, b => by
    have ih := flat_set3 L j a b
    rw [show (j + 1) * 2 = j * 2 + 2 by omega]
    simp only [flat, List.set_cons_succ]
    rw [ih]
theorem InB.at_ {w : World} {p : Nat} {xs : List Us} (h : InB w p xs) {j : Nat} (hj : j < xs.length) :
    (w.cell? ⟨p, j * 2, none⟩ = some (.int .u32 (unth xs j).1) ∧ w.cell? ⟨p, j * 2 + 1, none⟩ = some (.bool (unth xs j).2)) ∧ (w.frozen? ⟨p, j * 2, none⟩ = false ∧ w.frozen? ⟨p, j * 2 + 1, none⟩ = false) := by
  obtain ⟨e1, e2⟩ := flat_even xs j hj
  have el : lnth xs j = unth xs j := rfl
  rw [Nat.mul_comm, el] at e1 e2
  refine ⟨⟨?_, ?_⟩, frozen_of_row w p _ _ _ h, frozen_of_row w p _ _ _ h⟩
  · rw [cell_of_row _ _ _ _ _ _ h, List.getElem?_toArray]; exact e1
  · rw [cell_of_row _ _ _ _ _ _ h, List.getElem?_toArray]; exact e2
theorem InB.set {w : World} {p : Nat} {xs : List Us} (h : InB w p xs) (j a : Nat) (b : Bool) : InB ((w.setCell ⟨p, j * 2, none⟩ (.int .u32 a)).setCell ⟨p, j * 2 + 1, none⟩ (.bool b)) p (xs.set j (a, b)) := by
  unfold InB
  rw [heap_setCell_same _ p (j * 2 + 1) _ _ (.bool b) (heap_setCell_same w p (j * 2) _ _ (.int .u32 a) h), ← flat_set3]
  simp only [List.setIfInBounds_toArray]
theorem InB.ru {w : World} {p : Nat} {xs : List Us} (h : InB w p xs) (n c : Nat) (hn : n ≤ xs.length) (hs : n * 8 ≤ 140737488351232) (hk : ∀ k, (unth xs k).1 < 4294967296) : Ru w (.slice (some ⟨p, 0, none⟩) n c) (xs.take n) := by
  have hl : (xs.take n).length = n := by rw [List.length_take]; omega
  refine ⟨⟨_, c, by rw [hl], fun _ => ⟨p, 0, rfl, fun k hk => ?_⟩⟩, by omega, fun k => ?_⟩
  · have := (h.at_ (j := k) (by omega)).1
    have e : unth (xs.take n) k = unth xs k := by
      unfold unth
      rw [List.getD_eq_getElem?_getD, List.getD_eq_getElem?_getD, List.getElem?_take, if_pos (by omega)]
    rw [e, Nat.zero_add]
    exact this
  · by_cases hkn : k < n
    · have e : unth (xs.take n) k = unth xs k := by
        unfold unth
        rw [List.getD_eq_getElem?_getD, List.getD_eq_getElem?_getD, List.getElem?_take, if_pos (by omega)]
      rw [e]; exact hk k
    · unfold unth
      rw [List.getD_eq_getElem?_getD, List.getElem?_eq_none (by omega)]
      decide
theorem unth_app_l {a b : List Us} {k : Nat} (h : k < a.length) : unth (a ++ b) k = unth a k := by
  unfold unth
  rw [List.getD_eq_getElem?_getD, List.getD_eq_getElem?_getD, List.getElem?_append_left h]
theorem unth_app_r {a b : List Us} {k : Nat} : unth (a ++ b) (a.length + k) = unth b k := by
  unfold unth
  rw [List.getD_eq_getElem?_getD, List.getD_eq_getElem?_getD, List.getElem?_append_right (by omega), Nat.add_sub_cancel_left]
theorem unth_lt {a : List Us} (h : ∀ u ∈ a, u.1 < 4294967296) (k : Nat) : (unth a k).1 < 4294967296 := by
  unfold unth
  rw [List.getD_eq_getElem?_getD]
  by_cases hk : k < a.length
  · rw [List.getElem?_eq_getElem hk]; exact h _ (List.getElem_mem hk)
  · rw [List.getElem?_eq_none (by omega)]; decide
/-- The marks behind: the first k are laid. -/
def mks (k : Nat) : List Us := (List.range 8).map fun j => if j < k then (71 + j, false) else (0, false)
theorem mks_set {k : Nat} (h : k < 8) : (mks k).set k (71 + k, false) = mks (k + 1) := by
  rcases (show k = 0 ∨ k = 1 ∨ k = 2 ∨ k = 3 ∨ k = 4 ∨ k = 5 ∨ k = 6 ∨ k = 7 by omega) with rfl | rfl | rfl | rfl | rfl | rfl | rfl | rfl <;> rfl
theorem mks_at {k : Nat} (h : k < 8) : unth (mks 8) k = (71 + k, false) := by
  rcases (show k = 0 ∨ k = 1 ∨ k = 2 ∨ k = 3 ∨ k = 4 ∨ k = 5 ∨ k = 6 ∨ k = 7 by omega) with rfl | rfl | rfl | rfl | rfl | rfl | rfl | rfl <;> rfl
theorem mks_len (k : Nat) : (mks k).length = 8 := by simp [mks]
theorem mks_lt (k : Nat) : ∀ u ∈ mks k, u.1 < 4294967296 := by
  intro u hu
  simp only [mks, List.mem_map, List.mem_range] at hu
  obtain ⟨j, hj, rfl⟩ := hu
  split <;> simp <;> omega
theorem made_flat (m : Nat) : (madeCells #[.int .u32 0, .bool false] (m * 2)).toList = flat (List.replicate m ((0 : Nat), false)) := by
  apply List.ext_getElem?
  intro j
  by_cases hj : j < m * 2
  · have e : (madeCells #[.int .u32 0, .bool false] (m * 2)).toList[j]? = some ((#[Value.int .u32 0, Value.bool false] : Array Value)[j % 2]!) := by
      unfold madeCells
      simp [hj]
    rw [e]
    have hq : j / 2 < (List.replicate m ((0 : Nat), false)).length := by simp; omega
    obtain ⟨f1, f2⟩ := flat_even (List.replicate m ((0 : Nat), false)) (j / 2) hq
    have hl : lnth (List.replicate m ((0 : Nat), false)) (j / 2) = (0, false) := by
      unfold lnth
      rw [List.getD_eq_getElem?_getD, List.getElem?_replicate, if_pos (by simpa using hq)]; rfl
    rw [hl] at f1 f2
    by_cases h2 : j % 2 = 0
    · rw [show 2 * (j / 2) = j by omega] at f1
      rw [f1, h2]; rfl
    · rw [show 2 * (j / 2) + 1 = j by omega] at f2
      rw [f2, show j % 2 = 1 by omega]; rfl
  · rw [List.getElem?_eq_none (by simp [madeCells]; omega), List.getElem?_eq_none (by rw [flat_length, List.length_replicate]; omega)]
/-- A list that was made is known whole. -/
theorem InB.made {w : World} {base p n : Nat} {xs : List Us} (h : w.ownsRow base 36 2 (.slice (some ⟨p, 0, none⟩) n n) n (flat xs)) : InB w p xs := by
  rcases h.2 with ⟨h, _⟩ | ⟨g, cap, cur, hv, _, hg, _, _, hs, htk⟩
  · cases h
  · injection hv with e1 _ e2
    injection e1 with e1
    injection e1 with e1 _ _
    subst e1 e2
    rw [List.take_of_length_le (by rw [Array.length_toList, hs]; exact Nat.le_refl _)] at htk
    unfold InB
    rw [hg, ← htk]
theorem Tl.tt {mb : Bool} {S W L : Int} {us : List Us} {n : Nat} {ts : List Value} (h : Tl mb S W L us n ts) : ∃ tt : List Tch, n = tt.length ∧ ts = trows tt ∧ tt.length ≤ us.length := by
  cases mb with
  | false => exact ⟨[], h.len, h.no rfl, Nat.zero_le _⟩
  | true =>
    obtain ⟨s, _, _, _, e⟩ := h.is rfl
    exact ⟨touches s (fun _ => []) us us.length, by rw [touches_length]; exact h.len, by rw [e, costs_trows], by rw [touches_length]; exact Nat.le_refl _⟩
end Go.Proofs.YtlmgiejemdifkaaDoor.Ca
