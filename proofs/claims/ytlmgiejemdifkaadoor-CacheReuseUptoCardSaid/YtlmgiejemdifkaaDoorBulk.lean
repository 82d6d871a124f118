/- What the bound of the second form gives for a list of uses. No statement of the seat is proved here. -/
import Derived.Test.YtlmgiejemdifkaaDoorFrame
import Derived.Deep.DeepHandedRow
namespace Go.Proofs.YtlmgiejemdifkaaDoor.Ca
open Go.ChangeShapes Go.WideShapes Go.ChangeAt Go.RowKit
set_option linter.unusedVariables false
set_option linter.unusedSimpArgs false

theorem bulk_one {H : Type} (d : DataW H) : 1 ≤ Rows.uptoBulk d := by
  cases d with
  | lit l => cases l <;> simp [Rows.uptoBulk]
  | nil => simp [Rows.uptoBulk]
  | ptr d => simp [Rows.uptoBulk]
  | slice elems spare => simp [Rows.uptoBulk]
  | agg parts => simp [Rows.uptoBulk]
  | iface t d => simp [Rows.uptoBulk]
  | map entries => simp [Rows.uptoBulk]
  | held h => simp [Rows.uptoBulk]
theorem bulk_length {H : Type} : ∀ l : List (DataW H), l.length ≤ Rows.uptoBulkAll l
  | [] => by simp [Rows.uptoBulkAll]
  | x :: r => by have := bulk_one x; have := bulk_length r; simp only [Rows.uptoBulkAll, List.length_cons]; omega
theorem bulk_part {H : Type} {d : DataW H} : ∀ {l : List (DataW H)}, d ∈ l → Rows.uptoBulk d ≤ Rows.uptoBulkAll l
  | x :: r, h => by
    simp only [Rows.uptoBulkAll]
    rcases List.mem_cons.1 h with rfl | h
    · omega
    · have := bulk_part h; omega
theorem bulk_bound {H : Type} {l : List (DataW H)} (hk : Rows.uptoSmall H l = true) : Rows.uptoBulkAll l ≤ 1048576 := of_decide_eq_true hk
theorem uses_bulk {H : Type} {enc : TypeId × Value → H} {W : World} {base : Nat} {spare : Nat → Bool} {held : Bool} {v : Value} {us : List Us} {d : DataW H} {ps : List MemPlace} (hr : Ru W v us)
    (h : DataW.Trod enc Tryd.prog W base spare held 24 v d ps) : us.length ≤ Rows.uptoBulk d := by
  obtain ⟨⟨A, cap, rfl, _⟩, _, _⟩ := hr
  obtain ⟨fuel, hf⟩ := h
  rcases Go.Deep.open_slice Tryd.underlying24 hf with ⟨hcs, _⟩ | ⟨x, l, c, m, n, D, Pl, hcs, hb, hl, hm, hmm, hx, hel⟩
  · simp [Value.cells] at hcs
    obtain ⟨_, h0, _⟩ := hcs
    simp [h0]
  · simp [Value.cells] at hcs
    obtain ⟨_, h2, _⟩ := hcs
    obtain ⟨hx, _⟩ := Prod.mk.inj hx
    subst hx
    have := bulk_length ((List.range l).map D)
    simp only [List.length_map, List.length_range] at this
    simp only [Rows.uptoBulk]
    omega
theorem uses_small {H : Type} {l : List (DataW H)} {d : DataW H} {us : List Us} (hk : Rows.uptoSmall H l = true) (hd : d ∈ l) (hu : us.length ≤ Rows.uptoBulk d) : us.length * 16 ≤ 140737488355328 := by
  have h1 := bulk_bound hk
  have h2 := bulk_part hd
  omega
end Go.Proofs.YtlmgiejemdifkaaDoor.Ca
