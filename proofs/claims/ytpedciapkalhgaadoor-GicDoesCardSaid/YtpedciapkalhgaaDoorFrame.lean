/- What the rows of this seat share: slices of ints read out of the arguments; the library's table out of the row's condition; the witness' start. No statement of the seat is proved here. -/
import Derived.Test.YtpedciapkalhgaaDoorRows
import Derived.Test.YtpedciapkalhgaaDoorTie
import Derived.Test.YtpedciapkalhgaaDoorCards
import Derived.Test.YtpedciapkalhgaaDoorBase5
import Derived.ProofKit
import Derived.LaidMore
import Derived.OpenShut
import Derived.Stop.Joined
import Derived.SizedLaws
import Derived.SevenTiedAt
import Derived.Lib.LaidTab
namespace Go.Proofs.YtpedciapkalhgaaDoor.Gk
open Go.ChangeShapes Go.WideShapes Go.ChangeAt Go.RowKit
set_option linter.unusedVariables false

theorem ownKnobNone : ownKnob Tryd.prog.godebug = none := by kernel_rfl
def laid1 : List (String × DataW Unit) := [("math/bits.deBruijn32tab", Rows.laid_math_bits_deBruijn32tab)]
theorem gTab : Tryd.prog.globalNamed "math/bits.deBruijn32tab" = some 0 := by kernel_rfl
theorem tTab : (Tryd.prog.globals[0]?).map (·.type) = some 84 := by kernel_rfl
theorem door_met (os : Os) (args : Array Value) : laidMetH Tryd.prog laid1 ((World.doorLaid Tryd.prog 400 os).forCall (fun _ _ => 0) ⟨#[], args, []⟩).memory :=
  laidMetH_of_parts3 (fuel := 8) (laidMet_of_run' 8 (by kernel_rfl) (by kernel_rfl)) (by kernel_rfl) (by kernel_rfl)
theorem tab_of_laid {W : World} (h : laidMetH Tryd.prog laid1 W) : TabAt W := by
  rw [MakeChecks.laidMetH_plain _ _ _ (by kernel_rfl)] at h
  have hT := Lib.tabIs_of_head (k := .u8) (zs := Lib.deBruijn32tab.map fun (n : Nat) => (n : Int)) gTab tTab Tryd.underlying84 Tryd.underlying5 (by kernel_rfl) (by kernel_rfl) h
  intro i hi
  have := hT.cell gTab i (by simpa [Lib.deBruijn32tab] using hi)
  rw [this]
  simp [List.getD_eq_getElem?_getD, List.getElem?_map]
  cases h : Lib.deBruijn32tab[i]? <;> rfl

theorem laidOut : laidOutB Tryd.prog = true := by kernel_rfl
theorem wf_i64 {n : Int} (h : (Lit.int .i64 n).wf = true) : i64ok n := by
  simpa [Lit.wf, IntKind.min, IntKind.max, IntKind.signed, IntKind.bits, i64ok] using h
/-- An argument that is a slice of ints, as the walks take it. -/
theorem rd_open {H : Type} {enc : TypeId × Value → H} {W : World} {base base' : Nat} {spare : Nat → Bool} {held : Bool} {v : Value} {d : DataW H} {ps : List MemPlace} {ts : List TypeId} {ds : List (DataW H)} {j : Nat}
    (hval : Value.okWide Tryd.prog W .any base 22 v) (hsz : (DataW.weightsEach Tryd.prog ts ds).all (· ≤ reachBytes) = true) (ht : ts[j]? = some 22) (hd : ds[j]? = some d)
    (h : DataW.Trod enc Tryd.prog W base' spare held 22 v d ps) : ∃ xs, Rd W v xs := by
  obtain ⟨a, len, cap, rfl⟩ := okWide_slice Tryd.underlying22 hval
  obtain ⟨fuel, hf⟩ := h
  rcases open_ints Tryd.underlying22 Tryd.underlying3 (by kernel_rfl) hf with ⟨hcs, _⟩ | ⟨x, l, c, zs, hcs, _, hl, hm, hz, hx, hcell, hwz⟩
  · simp [Value.cells] at hcs
    obtain ⟨rfl, rfl, rfl⟩ := hcs
    exact ⟨[], ⟨_, _, rfl, fun h => absurd h (by simp)⟩, by simp, fun j => by simp [nth, i64ok]⟩
  · simp [Value.cells] at hcs
    obtain ⟨rfl, rfl, rfl⟩ := hcs
    obtain ⟨hx, _⟩ := Prod.mk.inj hx
    subst hx
    have z := sized_slice hsz ht hd Tryd.underlying22
    rw [show Tryd.prog.bytesOf 3 = 8 by kernel_rfl] at z
    have hl2 : len ≤ zs.length := by
      rw [hz]; split
      · exact hl
      · exact Nat.le_refl _
    have e : (zs.take len).length = len := by simp; omega
    refine ⟨zs.take len, ⟨some x, cap, by rw [e], fun _ => ⟨x, rfl, fun j hj => ?_⟩⟩, ?_, fun j => ?_⟩
    · rw [e] at hj
      rw [hcell j (by omega)]
      simp [nth, hj]
    · rw [e]
      simp only [lits, List.length_map, List.length_take, List.length_drop, reachBytes] at z
      omega
    · unfold nth
      simp only [List.getD_eq_getElem?_getD]
      cases hq : (zs.take len)[j]? with
      | none => exact ⟨by decide, by decide⟩
      | some n => exact wf_i64 (hwz n (List.mem_of_mem_take (List.mem_of_getElem? hq)))
end Go.Proofs.YtpedciapkalhgaaDoor.Gk
