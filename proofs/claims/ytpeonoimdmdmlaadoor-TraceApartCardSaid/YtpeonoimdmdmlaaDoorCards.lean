/-
  DERIVED. GIVEN WITH THE SEED: THE CARDS: each row of YtpeonoimdmdmlaaDoorRows.lean that lists a variable, with what it lists TIED to the program's text (the seventh form; the later family's looks); each row that meets fmt, with fmt's text TOLD by the authors' own Lean function (tested against real Go, not proved from fmt's source: count such statements apart). THE CARD IS WHAT COUNTS. Prove the row's statement (the work); the ties are given (YtpeonoimdmdmlaaDoorTie.lean); close each card by the builder's one call (the guide's Derived/Test/ToyasCard.lean, 'card_holds'). Laid BY PROGRAM, IN A SANDBOX (cutbox-door.mjs). By AI agents, Wed Nov 11 2026. No macro, syntax, notation, axiom, sorry.
-/
import Derived.Test.YtpeonoimdmdmlaaDoorRows
import GoSem.ClaimSeven
namespace Go.Proofs.YtpeonoimdmdmlaaDoor
namespace Rows

/-- THE TIED CARD OF 'cloisterlaw22.TraceApart'. -/
def traceApartCard : Claim7 := { stood := { row := traceApartRow, standIns := [], harness := (true, "c6eb8b6e29d4b035a62a38c666be970054823376be476b77e5179858139fa0ff"), looks := false }, kinds := [], alts := [], laidByText := true, laidKinds := [.data], laidTests := true, laidLooks := .later }
def TraceApartCardSaid : Prop := Claim7.holds Tryd.pinned (.plain (OpenSpec.ofChange traceApartSpec)) traceApartCard

/-- THE SECOND FORM's CARD OF 'cloisterlaw22.TraceApart'. -/
def traceApartUptoCard : Claim7 := { stood := { row := traceApartUptoRow, standIns := [], harness := (true, "c6eb8b6e29d4b035a62a38c666be970054823376be476b77e5179858139fa0ff"), looks := false }, kinds := [], alts := [], laidByText := true, laidKinds := [.data], laidTests := true, laidLooks := .later }
def TraceApartUptoCardSaid : Prop := Claim7.holds Tryd.pinned (.plain (OpenSpec.upto traceApartSpec)) traceApartUptoCard
end Rows
end Go.Proofs.YtpeonoimdmdmlaaDoor
