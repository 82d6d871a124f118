/- same, of two lists of touches that read alike: its contract. No statement of the seat is proved here. -/
import Derived.Test.YtlmgiejemdifkaaDoorUsed
namespace Go.Proofs.YtlmgiejemdifkaaDoor.Ca
open Go.RowKit Go.Proofs.YtlmgiejemdifkaaDoor.Kit
set_option linter.unusedSimpArgs false
set_option linter.unusedVariables false

def trows : List Tch → List Value
  | [] => []
  | t :: ts => tcells t ++ trows ts
theorem trows_append : ∀ a b : List Tch, trows (a ++ b) = trows a ++ trows b
  | [], b => rfl
  | t :: a, b => by simp [trows, trows_append a b]
def tnth (ts : List Tch) (j : Nat) : Tch := ts.getD j ⟨false, false, 0⟩
theorem trows_at : ∀ (ts : List Tch) (j : Nat), j < ts.length → (trows ts)[j * 3]? = some (.bool (tnth ts j).hit) ∧ (trows ts)[j * 3 + 1]? = some (.bool (tnth ts j).back) ∧ (trows ts)[j * 3 + 2]? = some (.int .i64 (tnth ts j).cyc)
  | t :: ts, 0, _ => ⟨rfl, rfl, rfl⟩
  | t :: ts, j + 1, h => by
    have := trows_at ts j (by simpa using h)
    rw [show (j + 1) * 3 = j * 3 + 1 + 1 + 1 by omega]
    exact this
def touches (s : Shp) (f : Nat → List Ln) (us : List Us) : Nat → List Tch
  | 0 => []
  | k + 1 => touches s f us k ++ [cost s f us k]
theorem touches_length (s : Shp) (f : Nat → List Ln) (us : List Us) : ∀ n, (touches s f us n).length = n
  | 0 => rfl
  | n + 1 => by rw [touches, List.length_append, touches_length s f us n]; rfl
theorem costs_trows (s : Shp) (f : Nat → List Ln) (us : List Us) : ∀ n, costs s f us n = trows (touches s f us n)
  | 0 => rfl
  | n + 1 => by rw [costs, touches, trows_append, costs_trows s f us n]; simp [trows]
/-- Three cells of such a list. -/
theorem own_cells {w : World} {base : Nat} {v : Value} {ts : List Tch} (h : w.ownsRow base 38 3 v ts.length (trows ts)) {j : Nat} (hj : j < ts.length) :
    ∃ g cap, v = .slice (some ⟨g, 0, none⟩) ts.length cap ∧ w.cell? ⟨g, j * 3, none⟩ = some (.bool (tnth ts j).hit) ∧ w.cell? ⟨g, j * 3 + 1, none⟩ = some (.bool (tnth ts j).back) ∧ w.cell? ⟨g, j * 3 + 2, none⟩ = some (.int .i64 (tnth ts j).cyc) := by
  rcases h.2 with ⟨_, h0⟩ | ⟨g, cap, cur, hv, _, hrow, _, _, _, htk⟩
  · omega
  · have at_ : ∀ i u, (trows ts)[j * 3 + i]? = some u → i < 3 → w.cell? ⟨g, j * 3 + i, none⟩ = some u := fun i u hu hi => by
      rw [cell_of_row _ _ _ _ _ _ hrow, ← Array.getElem?_toList]
      rw [← htk, List.getElem?_take, if_pos (by omega)] at hu
      exact hu
    obtain ⟨a0, a1, a2⟩ := trows_at ts j hj
    exact ⟨g, cap, hv, by have := at_ 0 _ a0 (by decide); rw [Nat.add_zero] at this; exact this, at_ 1 _ a1 (by decide), at_ 2 _ a2 (by decide)⟩
set_option maxRecDepth 4000 in
set_option maxHeartbeats 2000000 in
theorem same_yes (w : World) (b1 b2 : Nat) (v u : Value) (ts : List Tch) (hv : w.ownsRow b1 38 3 v ts.length (trows ts)) (hu : w.ownsRow b2 38 3 u ts.length (trows ts)) :
    Calls Tryd.prog 21 #[v, u] w fun e w' => e = .returned (.bool true) ∧ Chg w w' none := by
  have HV := Lib.hid hv
  have HU := Lib.hid hu
  have e1 : ∃ A c, v = .slice A ts.length c := by
    rcases hv.2 with ⟨h, h0⟩ | ⟨g, cap, cur, h, _⟩
    · exact ⟨_, _, by rw [h, h0]⟩
    · exact ⟨_, _, h⟩
  have e2 : ∃ A c, u = .slice A ts.length c := by
    rcases hu.2 with ⟨h, h0⟩ | ⟨g, cap, cur, h, _⟩
    · exact ⟨_, _, by rw [h, h0]⟩
    · exact ⟨_, _, h⟩
  have hml : ts.length ≤ maxLen := by
    rcases hv.2 with ⟨_, h0⟩ | ⟨g, cap, cur, _, _, _, h1, h2, _⟩
    · rw [h0]; exact Nat.zero_le _
    · exact Nat.le_trans h1 h2
  simp only [maxLen] at hml
  obtain ⟨A, c, rfl⟩ := e1
  obtain ⟨B, d, rfl⟩ := e2
  clear hv hu
  have hne : ((ts.length : Int) != (ts.length : Int)) = false := by simp
  go_enter Tryd.func21, Tryd.ntmps21
  go_wp2_with fail
  go_loopw [5] (fun i wr => ∃ j n : Nat, j ≤ ts.length ∧ i = .int .i64 j ∧ wr = w.drewN n) (fun i _ => ts.length - (intOf i).toNat)
  case atStart => exact ⟨0, 0, by omega, rfl, rfl⟩
  case round =>
    obtain ⟨j, n, hj, rfl, rfl⟩ := hrel
    by_cases hlt : j < ts.length
    · obtain ⟨g, cap, hA, c0, c1, c2⟩ := own_cells HV.out hlt
      obtain ⟨g', cap', hB, d0, d1, d2⟩ := own_cells HU.out hlt
      injection hA with hA _ hc
      injection hB with hB _ hd
      subst hA hB hc hd
      generalize tnth ts j = t at *
      go_wp2
      go_quiet (fail)
      go_wp2
      go_roundw
      case rel => exact ⟨j + 1, _, by omega, by go_num, rfl⟩
      case measure => simp [intOf]; omega
    · have hd : decide (j < ts.length) = false := by simp only [decide_eq_false_iff_not]; omega
      clear hlt
      go_wp2
      go_ret
      exact ⟨rfl, (Chg.refl w none).drewN n⟩
end Go.Proofs.YtlmgiejemdifkaaDoor.Ca
