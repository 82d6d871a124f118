/- Uses that came in; the frame that the rows lean on. No statement of the seat is proved here. -/
import Derived.Test.YtlmgiejemdifkaaDoorNew
namespace Go.Proofs.YtlmgiejemdifkaaDoor.Ca
open Go.RowKit Go.Proofs.YtlmgiejemdifkaaDoor.Kit
set_option linter.unusedSimpArgs false
set_option linter.unusedVariables false

/-- A use: its address, does it write. -/
abbrev Us := Nat × Bool
def unth (us : List Us) (k : Nat) : Us := us.getD k (0, false)
structure Ru (w : World) (v : Value) (us : List Us) : Prop where
  shape : ∃ A cap, v = .slice A us.length cap ∧ (0 < us.length → ∃ b off, A = some ⟨b, off, none⟩ ∧ ∀ k, k < us.length → w.cell? ⟨b, off + k * 2, none⟩ = some (.int .u32 (unth us k).1) ∧ w.cell? ⟨b, off + k * 2 + 1, none⟩ = some (.bool (unth us k).2))
  few : us.length * 8 ≤ 140737488351232
  okay : ∀ k, (unth us k).1 < 4294967296
theorem Ru.kept {w w' : World} {v : Value} {us : List Us} (h : Ru w v us) (hC : Chg w w' none) : Ru w' v us := by
  obtain ⟨⟨A, cap, rfl, hc⟩, h2, h3⟩ := h
  refine ⟨⟨A, cap, rfl, fun h0 => ?_⟩, h2, h3⟩
  obtain ⟨b, off, rfl, hj⟩ := hc h0
  refine ⟨b, off, rfl, fun k hk => ?_⟩
  obtain ⟨a1, a2⟩ := hj k hk
  have hb := World.block_lt_of_cell? w _ a1
  exact ⟨by rw [World.cell?_of_block (hC.block b hb (by simp))]; exact a1, by rw [World.cell?_of_block (hC.block b hb (by simp))]; exact a2⟩
theorem Ru.at_ {w : World} {A : Option Addr} {n cap : Nat} {us : List Us} (h : Ru w (.slice A n cap) us) (k : Nat) (hk : k < us.length) :
    ∃ b off, A = some ⟨b, off, none⟩ ∧ w.cell? ⟨b, off + k * 2, none⟩ = some (.int .u32 (unth us k).1) ∧ w.cell? ⟨b, off + k * 2 + 1, none⟩ = some (.bool (unth us k).2) := by
  obtain ⟨⟨A', cap', he, hcc⟩, _, _⟩ := h
  obtain ⟨b, off, hA, hc⟩ := hcc (by omega)
  injection he with eA _ _
  exact ⟨b, off, eA.trans hA, (hc k hk).1, (hc k hk).2⟩
end Go.Proofs.YtlmgiejemdifkaaDoor.Ca
