/-
  DERIVED. GIVEN WITH THE SEED: THE CARDS: each row of YtlmgiejemdifkaaDoorRows.lean that lists a variable, with what it lists TIED to the program's text (the seventh form; the later family's looks); each row that meets fmt, with fmt's text TOLD by the authors' own Lean function (tested against real Go, not proved from fmt's source: count such statements apart). THE CARD IS WHAT COUNTS. Prove the row's statement (the work); the ties are given (YtlmgiejemdifkaaDoorTie.lean); close each card by the builder's one call (the guide's Derived/Test/ToyasCard.lean, 'card_holds'). Laid BY PROGRAM, IN A SANDBOX (cutbox-door.mjs). By AI agents, Wed Nov 11 2026. No macro, syntax, notation, axiom, sorry.
-/
import Derived.Test.YtlmgiejemdifkaaDoorRows
import GoSem.ClaimSeven
namespace Go.Proofs.YtlmgiejemdifkaaDoor
namespace Rows

/-- THE TIED CARD OF 'cloisterlaw3.CacheApart'. -/
def cacheApartCard : Claim7 := { stood := { row := cacheApartRow, standIns := [], harness := (true, "f8cf69b42499366c1360654c9f343cf1f1ea45a637362ce4fbc38577d02d34b2"), looks := false }, kinds := [], alts := [], laidByText := true, laidKinds := [.data, .data], laidTests := true, laidLooks := .later }
def CacheApartCardSaid : Prop := Claim7.holds Tryd.pinned (.plain (OpenSpec.ofChange cacheApartSpec)) cacheApartCard

/-- THE TIED CARD OF 'cloisterlaw3.CacheWider'. -/
def cacheWiderCard : Claim7 := { stood := { row := cacheWiderRow, standIns := [], harness := (true, "f8cf69b42499366c1360654c9f343cf1f1ea45a637362ce4fbc38577d02d34b2"), looks := false }, kinds := [], alts := [], laidByText := true, laidKinds := [.data, .data], laidTests := true, laidLooks := .later }
def CacheWiderCardSaid : Prop := Claim7.holds Tryd.pinned (.plain (OpenSpec.ofChange cacheWiderSpec)) cacheWiderCard

/-- THE TIED CARD OF 'cloisterlaw3.CacheWorst'. -/
def cacheWorstCard : Claim7 := { stood := { row := cacheWorstRow, standIns := [], harness := (true, "f8cf69b42499366c1360654c9f343cf1f1ea45a637362ce4fbc38577d02d34b2"), looks := false }, kinds := [], alts := [], laidByText := true, laidKinds := [.data, .data], laidTests := true, laidLooks := .later }
def CacheWorstCardSaid : Prop := Claim7.holds Tryd.pinned (.plain (OpenSpec.ofChange cacheWorstSpec)) cacheWorstCard

/-- THE TIED CARD OF 'cloisterlaw3.CacheCopied'. -/
def cacheCopiedCard : Claim7 := { stood := { row := cacheCopiedRow, standIns := [], harness := (true, "f8cf69b42499366c1360654c9f343cf1f1ea45a637362ce4fbc38577d02d34b2"), looks := false }, kinds := [], alts := [], laidByText := true, laidKinds := [.data, .data], laidTests := true, laidLooks := .later }
def CacheCopiedCardSaid : Prop := Claim7.holds Tryd.pinned (.plain (OpenSpec.ofChange cacheCopiedSpec)) cacheCopiedCard

/-- THE TIED CARD OF 'cloisterlaw3.CacheDoes'. -/
def cacheDoesCard : Claim7 := { stood := { row := cacheDoesRow, standIns := [], harness := (true, "f8cf69b42499366c1360654c9f343cf1f1ea45a637362ce4fbc38577d02d34b2"), looks := false }, kinds := [], alts := [], laidByText := true, laidKinds := [.data, .data], laidTests := true, laidLooks := .later }
def CacheDoesCardSaid : Prop := Claim7.holds Tryd.pinned (.plain (OpenSpec.ofChange cacheDoesSpec)) cacheDoesCard

/-- THE TIED CARD OF 'cloisterlaw3.CachePredicts'. -/
def cachePredictsCard : Claim7 := { stood := { row := cachePredictsRow, standIns := [], harness := (true, "f8cf69b42499366c1360654c9f343cf1f1ea45a637362ce4fbc38577d02d34b2"), looks := false }, kinds := [], alts := [], laidByText := true, laidKinds := [.data, .data], laidTests := true, laidLooks := .later }
def CachePredictsCardSaid : Prop := Claim7.holds Tryd.pinned (.plain (OpenSpec.ofChange cachePredictsSpec)) cachePredictsCard

/-- THE TIED CARD OF 'cloisterlaw3.CacheReuse'. -/
def cacheReuseCard : Claim7 := { stood := { row := cacheReuseRow, standIns := [], harness := (true, "f8cf69b42499366c1360654c9f343cf1f1ea45a637362ce4fbc38577d02d34b2"), looks := false }, kinds := [], alts := [], laidByText := true, laidKinds := [.data, .data], laidTests := true, laidLooks := .later }
def CacheReuseCardSaid : Prop := Claim7.holds Tryd.pinned (.plain (OpenSpec.ofChange cacheReuseSpec)) cacheReuseCard

/-- THE SECOND FORM's CARD OF 'cloisterlaw3.CacheApart'. -/
def cacheApartUptoCard : Claim7 := { stood := { row := cacheApartUptoRow, standIns := [], harness := (true, "f8cf69b42499366c1360654c9f343cf1f1ea45a637362ce4fbc38577d02d34b2"), looks := false }, kinds := [], alts := [], laidByText := true, laidKinds := [.data, .data], laidTests := true, laidLooks := .later }
def CacheApartUptoCardSaid : Prop := Claim7.holds Tryd.pinned (.plain (OpenSpec.upto cacheApartSpec)) cacheApartUptoCard

/-- THE SECOND FORM's CARD OF 'cloisterlaw3.CacheWider'. -/
def cacheWiderUptoCard : Claim7 := { stood := { row := cacheWiderUptoRow, standIns := [], harness := (true, "f8cf69b42499366c1360654c9f343cf1f1ea45a637362ce4fbc38577d02d34b2"), looks := false }, kinds := [], alts := [], laidByText := true, laidKinds := [.data, .data], laidTests := true, laidLooks := .later }
def CacheWiderUptoCardSaid : Prop := Claim7.holds Tryd.pinned (.plain (OpenSpec.upto cacheWiderSpec)) cacheWiderUptoCard

/-- THE SECOND FORM's CARD OF 'cloisterlaw3.CacheWorst'. -/
def cacheWorstUptoCard : Claim7 := { stood := { row := cacheWorstUptoRow, standIns := [], harness := (true, "f8cf69b42499366c1360654c9f343cf1f1ea45a637362ce4fbc38577d02d34b2"), looks := false }, kinds := [], alts := [], laidByText := true, laidKinds := [.data, .data], laidTests := true, laidLooks := .later }
def CacheWorstUptoCardSaid : Prop := Claim7.holds Tryd.pinned (.plain (OpenSpec.upto cacheWorstSpec)) cacheWorstUptoCard

/-- THE SECOND FORM's CARD OF 'cloisterlaw3.CacheCopied'. -/
def cacheCopiedUptoCard : Claim7 := { stood := { row := cacheCopiedUptoRow, standIns := [], harness := (true, "f8cf69b42499366c1360654c9f343cf1f1ea45a637362ce4fbc38577d02d34b2"), looks := false }, kinds := [], alts := [], laidByText := true, laidKinds := [.data, .data], laidTests := true, laidLooks := .later }
def CacheCopiedUptoCardSaid : Prop := Claim7.holds Tryd.pinned (.plain (OpenSpec.upto cacheCopiedSpec)) cacheCopiedUptoCard

/-- THE SECOND FORM's CARD OF 'cloisterlaw3.CacheDoes'. -/
def cacheDoesUptoCard : Claim7 := { stood := { row := cacheDoesUptoRow, standIns := [], harness := (true, "f8cf69b42499366c1360654c9f343cf1f1ea45a637362ce4fbc38577d02d34b2"), looks := false }, kinds := [], alts := [], laidByText := true, laidKinds := [.data, .data], laidTests := true, laidLooks := .later }
def CacheDoesUptoCardSaid : Prop := Claim7.holds Tryd.pinned (.plain (OpenSpec.upto cacheDoesSpec)) cacheDoesUptoCard

/-- THE SECOND FORM's CARD OF 'cloisterlaw3.CachePredicts'. -/
def cachePredictsUptoCard : Claim7 := { stood := { row := cachePredictsUptoRow, standIns := [], harness := (true, "f8cf69b42499366c1360654c9f343cf1f1ea45a637362ce4fbc38577d02d34b2"), looks := false }, kinds := [], alts := [], laidByText := true, laidKinds := [.data, .data], laidTests := true, laidLooks := .later }
def CachePredictsUptoCardSaid : Prop := Claim7.holds Tryd.pinned (.plain (OpenSpec.upto cachePredictsSpec)) cachePredictsUptoCard

/-- THE SECOND FORM's CARD OF 'cloisterlaw3.CacheReuse'. -/
def cacheReuseUptoCard : Claim7 := { stood := { row := cacheReuseUptoRow, standIns := [], harness := (true, "f8cf69b42499366c1360654c9f343cf1f1ea45a637362ce4fbc38577d02d34b2"), looks := false }, kinds := [], alts := [], laidByText := true, laidKinds := [.data, .data], laidTests := true, laidLooks := .later }
def CacheReuseUptoCardSaid : Prop := Claim7.holds Tryd.pinned (.plain (OpenSpec.upto cacheReuseSpec)) cacheReuseUptoCard
end Rows
end Go.Proofs.YtlmgiejemdifkaaDoor
