/-
  DERIVED. GIVEN WITH THE SEED: THE CARDS: each row of YthppjmlcehjjlaaDoorRows.lean that lists a variable, with what it lists TIED to the program's text (the seventh form; the later family's looks); each row that meets fmt, with fmt's text TOLD by the authors' own Lean function (tested against real Go, not proved from fmt's source: count such statements apart). THE CARD IS WHAT COUNTS. Prove the row's statement (the work); the ties are given (YthppjmlcehjjlaaDoorTie.lean); close each card by the builder's one call (the guide's Derived/Test/ToyasCard.lean, 'card_holds'). Laid BY PROGRAM, IN A SANDBOX (cutbox-door.mjs). By AI agents, Wed Nov 11 2026. No macro, syntax, notation, axiom, sorry.
-/
import Derived.Test.YthppjmlcehjjlaaDoorRows
import GoSem.ClaimSeven
namespace Go.Proofs.YthppjmlcehjjlaaDoor
namespace Rows

/-- THE TIED CARD OF 'cloisterlaw4.EntryWords'. -/
def entryWordsCard : Claim7 := { stood := { row := entryWordsRow, standIns := [], harness := (true, "c84292ad861f9cebc082b4d434082d833abaef6fce25e278cf080e978699bc3f"), looks := true }, kinds := [], alts := [], laidByText := true, laidKinds := [.data, .data, .data, .sentinel, .sentinel], laidTests := true, laidLooks := .later }
def EntryWordsCardSaid : Prop := Claim7.holds Tryd.pinned (.plain (OpenSpec.ofChange entryWordsSpec)) entryWordsCard

/-- THE SECOND FORM's CARD OF 'cloisterlaw4.EntryWords'. -/
def entryWordsUptoCard : Claim7 := { stood := { row := entryWordsUptoRow, standIns := [], harness := (true, "c84292ad861f9cebc082b4d434082d833abaef6fce25e278cf080e978699bc3f"), looks := true }, kinds := [], alts := [], laidByText := true, laidKinds := [.data, .data, .data, .sentinel, .sentinel], laidTests := true, laidLooks := .later }
def EntryWordsUptoCardSaid : Prop := Claim7.holds Tryd.pinned (.plain (OpenSpec.upto entryWordsSpec)) entryWordsUptoCard
end Rows
end Go.Proofs.YthppjmlcehjjlaaDoor
