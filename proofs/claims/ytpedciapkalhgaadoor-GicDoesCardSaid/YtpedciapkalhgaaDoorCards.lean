/-
  DERIVED. GIVEN WITH THE SEED: THE CARDS: each row of YtpedciapkalhgaaDoorRows.lean that lists a variable, with what it lists TIED to the program's text (the seventh form; the later family's looks); each row that meets fmt, with fmt's text TOLD by the authors' own Lean function (tested against real Go, not proved from fmt's source: count such statements apart). THE CARD IS WHAT COUNTS. Prove the row's statement (the work); the ties are given (YtpedciapkalhgaaDoorTie.lean); close each card by the builder's one call (the guide's Derived/Test/ToyasCard.lean, 'card_holds'). Laid BY PROGRAM, IN A SANDBOX (cutbox-door.mjs). By AI agents, Wed Nov 11 2026. No macro, syntax, notation, axiom, sorry.
-/
import Derived.Test.YtpedciapkalhgaaDoorRows
import GoSem.ClaimSeven
namespace Go.Proofs.YtpedciapkalhgaaDoor
namespace Rows

/-- THE TIED CARD OF 'cloisterlaw9.GicLowest'. -/
def gicLowestCard : Claim7 := { stood := { row := gicLowestRow, standIns := [], harness := (true, "7dfa40d215489ff17a01072b844995389f5d00b6cc9df60300f91e7f4795eb9a"), looks := false }, kinds := [], alts := [], laidByText := true, laidKinds := [.data], laidTests := true, laidLooks := .later }
def GicLowestCardSaid : Prop := Claim7.holds Tryd.pinned (.plain (OpenSpec.ofChange gicLowestSpec)) gicLowestCard

/-- THE TIED CARD OF 'cloisterlaw9.GicApart'. -/
def gicApartCard : Claim7 := { stood := { row := gicApartRow, standIns := [], harness := (true, "7dfa40d215489ff17a01072b844995389f5d00b6cc9df60300f91e7f4795eb9a"), looks := false }, kinds := [], alts := [], laidByText := true, laidKinds := [.data], laidTests := true, laidLooks := .later }
def GicApartCardSaid : Prop := Claim7.holds Tryd.pinned (.plain (OpenSpec.ofChange gicApartSpec)) gicApartCard

/-- THE TIED CARD OF 'cloisterlaw9.GicOnce'. -/
def gicOnceCard : Claim7 := { stood := { row := gicOnceRow, standIns := [], harness := (true, "7dfa40d215489ff17a01072b844995389f5d00b6cc9df60300f91e7f4795eb9a"), looks := false }, kinds := [], alts := [], laidByText := true, laidKinds := [.data], laidTests := true, laidLooks := .later }
def GicOnceCardSaid : Prop := Claim7.holds Tryd.pinned (.plain (OpenSpec.ofChange gicOnceSpec)) gicOnceCard

/-- THE TIED CARD OF 'cloisterlaw9.GicRanges'. -/
def gicRangesCard : Claim7 := { stood := { row := gicRangesRow, standIns := [], harness := (true, "7dfa40d215489ff17a01072b844995389f5d00b6cc9df60300f91e7f4795eb9a"), looks := false }, kinds := [], alts := [], laidByText := true, laidKinds := [.data], laidTests := true, laidLooks := .later }
def GicRangesCardSaid : Prop := Claim7.holds Tryd.pinned (.plain (OpenSpec.ofChange gicRangesSpec)) gicRangesCard

/-- THE TIED CARD OF 'cloisterlaw9.GicCopied'. -/
def gicCopiedCard : Claim7 := { stood := { row := gicCopiedRow, standIns := [], harness := (true, "7dfa40d215489ff17a01072b844995389f5d00b6cc9df60300f91e7f4795eb9a"), looks := false }, kinds := [], alts := [], laidByText := true, laidKinds := [.data], laidTests := true, laidLooks := .later }
def GicCopiedCardSaid : Prop := Claim7.holds Tryd.pinned (.plain (OpenSpec.ofChange gicCopiedSpec)) gicCopiedCard

/-- THE TIED CARD OF 'cloisterlaw9.GicDoes'. -/
def gicDoesCard : Claim7 := { stood := { row := gicDoesRow, standIns := [], harness := (true, "7dfa40d215489ff17a01072b844995389f5d00b6cc9df60300f91e7f4795eb9a"), looks := false }, kinds := [], alts := [], laidByText := true, laidKinds := [.data], laidTests := true, laidLooks := .later }
def GicDoesCardSaid : Prop := Claim7.holds Tryd.pinned (.plain (OpenSpec.ofChange gicDoesSpec)) gicDoesCard

/-- THE SECOND FORM's CARD OF 'cloisterlaw9.GicLowest'. -/
def gicLowestUptoCard : Claim7 := { stood := { row := gicLowestUptoRow, standIns := [], harness := (true, "7dfa40d215489ff17a01072b844995389f5d00b6cc9df60300f91e7f4795eb9a"), looks := false }, kinds := [], alts := [], laidByText := true, laidKinds := [.data], laidTests := true, laidLooks := .later }
def GicLowestUptoCardSaid : Prop := Claim7.holds Tryd.pinned (.plain (OpenSpec.upto gicLowestSpec)) gicLowestUptoCard

/-- THE SECOND FORM's CARD OF 'cloisterlaw9.GicApart'. -/
def gicApartUptoCard : Claim7 := { stood := { row := gicApartUptoRow, standIns := [], harness := (true, "7dfa40d215489ff17a01072b844995389f5d00b6cc9df60300f91e7f4795eb9a"), looks := false }, kinds := [], alts := [], laidByText := true, laidKinds := [.data], laidTests := true, laidLooks := .later }
def GicApartUptoCardSaid : Prop := Claim7.holds Tryd.pinned (.plain (OpenSpec.upto gicApartSpec)) gicApartUptoCard

/-- THE SECOND FORM's CARD OF 'cloisterlaw9.GicOnce'. -/
def gicOnceUptoCard : Claim7 := { stood := { row := gicOnceUptoRow, standIns := [], harness := (true, "7dfa40d215489ff17a01072b844995389f5d00b6cc9df60300f91e7f4795eb9a"), looks := false }, kinds := [], alts := [], laidByText := true, laidKinds := [.data], laidTests := true, laidLooks := .later }
def GicOnceUptoCardSaid : Prop := Claim7.holds Tryd.pinned (.plain (OpenSpec.upto gicOnceSpec)) gicOnceUptoCard

/-- THE SECOND FORM's CARD OF 'cloisterlaw9.GicRanges'. -/
def gicRangesUptoCard : Claim7 := { stood := { row := gicRangesUptoRow, standIns := [], harness := (true, "7dfa40d215489ff17a01072b844995389f5d00b6cc9df60300f91e7f4795eb9a"), looks := false }, kinds := [], alts := [], laidByText := true, laidKinds := [.data], laidTests := true, laidLooks := .later }
def GicRangesUptoCardSaid : Prop := Claim7.holds Tryd.pinned (.plain (OpenSpec.upto gicRangesSpec)) gicRangesUptoCard

/-- THE SECOND FORM's CARD OF 'cloisterlaw9.GicCopied'. -/
def gicCopiedUptoCard : Claim7 := { stood := { row := gicCopiedUptoRow, standIns := [], harness := (true, "7dfa40d215489ff17a01072b844995389f5d00b6cc9df60300f91e7f4795eb9a"), looks := false }, kinds := [], alts := [], laidByText := true, laidKinds := [.data], laidTests := true, laidLooks := .later }
def GicCopiedUptoCardSaid : Prop := Claim7.holds Tryd.pinned (.plain (OpenSpec.upto gicCopiedSpec)) gicCopiedUptoCard

/-- THE SECOND FORM's CARD OF 'cloisterlaw9.GicDoes'. -/
def gicDoesUptoCard : Claim7 := { stood := { row := gicDoesUptoRow, standIns := [], harness := (true, "7dfa40d215489ff17a01072b844995389f5d00b6cc9df60300f91e7f4795eb9a"), looks := false }, kinds := [], alts := [], laidByText := true, laidKinds := [.data], laidTests := true, laidLooks := .later }
def GicDoesUptoCardSaid : Prop := Claim7.holds Tryd.pinned (.plain (OpenSpec.upto gicDoesSpec)) gicDoesUptoCard
end Rows
end Go.Proofs.YtpedciapkalhgaaDoor
