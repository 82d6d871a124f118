/-
  DERIVED. GIVEN WITH THE SEED: THE CARDS: each row of YtjijejeeejjplaaDoorRows.lean that lists a variable, with what it lists TIED to the program's text (the seventh form; the later family's looks); each row that meets fmt, with fmt's text TOLD by the authors' own Lean function (tested against real Go, not proved from fmt's source: count such statements apart). THE CARD IS WHAT COUNTS. Prove the row's statement (the work); the ties are given (YtjijejeeejjplaaDoorTie.lean); close each card by the builder's one call (the guide's Derived/Test/ToyasCard.lean, 'card_holds'). Laid BY PROGRAM, IN A SANDBOX (cutbox-door.mjs). By AI agents, Wed Nov 11 2026. No macro, syntax, notation, axiom, sorry.
-/
import Derived.Test.YtjijejeeejjplaaDoorRows
import GoSem.ClaimSeven
namespace Go.Proofs.YtjijejeeejjplaaDoor
namespace Rows

/-- THE TIED CARD OF 'cloisterlaw4.EntryMakes'. -/
def entryMakesCard : Claim7 := { stood := { row := entryMakesRow, standIns := [], harness := (true, "9f0229431128defb9e78b2e12749fc88c6976d172fc33a7a758db6d271f459d0"), looks := true }, kinds := [], alts := [], laidByText := true, laidKinds := [.data, .data, .data, .sentinel, .sentinel], laidTests := true, laidLooks := .later }
def EntryMakesCardSaid : Prop := Claim7.holds Tryd.pinned (.plain (OpenSpec.ofChange entryMakesSpec)) entryMakesCard

/-- THE TIED CARD OF 'cloisterlaw4.EntryTexts'. -/
def entryTextsCard : Claim7 := { stood := { row := entryTextsRow, standIns := [], harness := (true, "9f0229431128defb9e78b2e12749fc88c6976d172fc33a7a758db6d271f459d0"), looks := true }, kinds := [], alts := [], laidByText := true, laidKinds := [.data, .data, .data, .sentinel, .sentinel], laidTests := true, laidLooks := .later }
def EntryTextsCardSaid : Prop := Claim7.holds Tryd.pinned (.plain (OpenSpec.ofChange entryTextsSpec)) entryTextsCard

/-- THE TIED CARD OF 'cloisterlaw4.EntryBack'. -/
def entryBackCard : Claim7 := { stood := { row := entryBackRow, standIns := [], harness := (true, "9f0229431128defb9e78b2e12749fc88c6976d172fc33a7a758db6d271f459d0"), looks := true }, kinds := [], alts := [], laidByText := true, laidKinds := [.data, .data, .data, .sentinel, .sentinel], laidTests := true, laidLooks := .later }
def EntryBackCardSaid : Prop := Claim7.holds Tryd.pinned (.plain (OpenSpec.ofChange entryBackSpec)) entryBackCard

/-- THE TIED CARD OF 'cloisterlaw4.EntryMade'. -/
def entryMadeCard : Claim7 := { stood := { row := entryMadeRow, standIns := [], harness := (true, "9f0229431128defb9e78b2e12749fc88c6976d172fc33a7a758db6d271f459d0"), looks := true }, kinds := [], alts := [], laidByText := true, laidKinds := [.data, .data, .data, .sentinel, .sentinel], laidTests := true, laidLooks := .later }
def EntryMadeCardSaid : Prop := Claim7.holds Tryd.pinned (.plain (OpenSpec.ofChange entryMadeSpec)) entryMadeCard

/-- THE TIED CARD OF 'cloisterlaw4.EntryTurned'. -/
def entryTurnedCard : Claim7 := { stood := { row := entryTurnedRow, standIns := [], harness := (true, "9f0229431128defb9e78b2e12749fc88c6976d172fc33a7a758db6d271f459d0"), looks := true }, kinds := [], alts := [], laidByText := true, laidKinds := [.data, .data, .data, .sentinel, .sentinel], laidTests := true, laidLooks := .later }
def EntryTurnedCardSaid : Prop := Claim7.holds Tryd.pinned (.plain (OpenSpec.ofChange entryTurnedSpec)) entryTurnedCard

/-- THE SECOND FORM's CARD OF 'cloisterlaw4.EntryMakes'. -/
def entryMakesUptoCard : Claim7 := { stood := { row := entryMakesUptoRow, standIns := [], harness := (true, "9f0229431128defb9e78b2e12749fc88c6976d172fc33a7a758db6d271f459d0"), looks := true }, kinds := [], alts := [], laidByText := true, laidKinds := [.data, .data, .data, .sentinel, .sentinel], laidTests := true, laidLooks := .later }
def EntryMakesUptoCardSaid : Prop := Claim7.holds Tryd.pinned (.plain (OpenSpec.upto entryMakesSpec)) entryMakesUptoCard

/-- THE SECOND FORM's CARD OF 'cloisterlaw4.EntryTexts'. -/
def entryTextsUptoCard : Claim7 := { stood := { row := entryTextsUptoRow, standIns := [], harness := (true, "9f0229431128defb9e78b2e12749fc88c6976d172fc33a7a758db6d271f459d0"), looks := true }, kinds := [], alts := [], laidByText := true, laidKinds := [.data, .data, .data, .sentinel, .sentinel], laidTests := true, laidLooks := .later }
def EntryTextsUptoCardSaid : Prop := Claim7.holds Tryd.pinned (.plain (OpenSpec.upto entryTextsSpec)) entryTextsUptoCard

/-- THE SECOND FORM's CARD OF 'cloisterlaw4.EntryBack'. -/
def entryBackUptoCard : Claim7 := { stood := { row := entryBackUptoRow, standIns := [], harness := (true, "9f0229431128defb9e78b2e12749fc88c6976d172fc33a7a758db6d271f459d0"), looks := true }, kinds := [], alts := [], laidByText := true, laidKinds := [.data, .data, .data, .sentinel, .sentinel], laidTests := true, laidLooks := .later }
def EntryBackUptoCardSaid : Prop := Claim7.holds Tryd.pinned (.plain (OpenSpec.upto entryBackSpec)) entryBackUptoCard

/-- THE SECOND FORM's CARD OF 'cloisterlaw4.EntryMade'. -/
def entryMadeUptoCard : Claim7 := { stood := { row := entryMadeUptoRow, standIns := [], harness := (true, "9f0229431128defb9e78b2e12749fc88c6976d172fc33a7a758db6d271f459d0"), looks := true }, kinds := [], alts := [], laidByText := true, laidKinds := [.data, .data, .data, .sentinel, .sentinel], laidTests := true, laidLooks := .later }
def EntryMadeUptoCardSaid : Prop := Claim7.holds Tryd.pinned (.plain (OpenSpec.upto entryMadeSpec)) entryMadeUptoCard

/-- THE SECOND FORM's CARD OF 'cloisterlaw4.EntryTurned'. -/
def entryTurnedUptoCard : Claim7 := { stood := { row := entryTurnedUptoRow, standIns := [], harness := (true, "9f0229431128defb9e78b2e12749fc88c6976d172fc33a7a758db6d271f459d0"), looks := true }, kinds := [], alts := [], laidByText := true, laidKinds := [.data, .data, .data, .sentinel, .sentinel], laidTests := true, laidLooks := .later }
def EntryTurnedUptoCardSaid : Prop := Claim7.holds Tryd.pinned (.plain (OpenSpec.upto entryTurnedSpec)) entryTurnedUptoCard
end Rows
end Go.Proofs.YtjijejeeejjplaaDoor
