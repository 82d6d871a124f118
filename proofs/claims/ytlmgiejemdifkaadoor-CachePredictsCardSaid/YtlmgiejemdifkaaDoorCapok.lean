/- CachePredicts' walk as its row takes it. -/
import Derived.Test.YtlmgiejemdifkaaDoorPredicts
import Derived.Test.YtlmgiejemdifkaaDoorFrame
namespace Go.Proofs.YtlmgiejemdifkaaDoor.Ca
open Go.ChangeShapes Go.WideShapes Go.ChangeAt Go.RowKit Go.Proofs.YtlmgiejemdifkaaDoor.Kit
set_option linter.unusedSimpArgs false
set_option linter.unusedVariables false

theorem cap_ok {H : Type} {enc : TypeId × Value → H} {W : World} {base : Nat} {spare : Nat → Bool} {held : Bool} {v : Value} {d : DataW H} {ps : List MemPlace} (h : DataW.Trod enc Tryd.prog W base spare held 24 v d ps) :
    ∀ A n c, v = .slice A n c → n ≤ c := by
  intro A n c e
  subst e
  obtain ⟨fuel, hf⟩ := h
  rcases Go.Deep.open_slice Tryd.underlying24 hf with ⟨hcs, _⟩ | ⟨x, l, c2, m, n2, D, Pl, hcs, hb, hl, hm, hmm, hx, hel⟩
  · simp [Value.cells] at hcs
    omega
  · simp [Value.cells] at hcs
    obtain ⟨_, rfl, rfl⟩ := hcs
    exact hl
theorem predicts_any (w : World) (hT : TabAt w) (S W L : Int) (hS : i64ok S) (hW : i64ok W) (hL : i64ok L) (v1 : Value) (us1 : List Us) (h1 : Ru w v1 us1) (hc : ∀ A n c, v1 = .slice A n c → n ≤ c) :
    Calls Tryd.prog 8 #[.agg #[.int .i64 S, .int .i64 W, .int .i64 L], v1] w fun e w' => e = .returned (.bool true) ∧ Chg w w' none := by
  have h2 := h1
  obtain ⟨⟨A, cap, rfl, _⟩, _, _⟩ := h1
  exact predicts_walk w hT S W L hS hL A us1.length cap us1 rfl h2 (hc _ _ _ rfl)
end Go.Proofs.YtlmgiejemdifkaaDoor.Ca
