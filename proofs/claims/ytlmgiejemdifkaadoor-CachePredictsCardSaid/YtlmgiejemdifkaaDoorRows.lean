/-
  NARROWER THAN 'FOR EVERY INPUT', by the rows' own cells (each row's printed sentence says how): CacheApart: laid · CacheWider: laid · CacheWorst: laid · CacheCopied: laid · CacheDoes: laid · CachePredicts: laid · CacheReuse: laid.
  DERIVED. THE GIVEN ROWS OF THIS SEAT. 7 by the template 'for every input the law returns true; each argument reads behind the call as it read before'; 0 by the template 'total and deterministic' (their statements: YtlmgiejemdifkaaDoorTotals.lean).
  GIVEN WITH THE SEED: the statements are not yours to turn. If you find one false, say at which input.
  Laid BY PROGRAM, IN A SANDBOX (cutbox-rows.mjs): the forced cells as the released guide's own fill.sh prints them over the translation 0fe85d01dda3f325… (all of the seat's roots in one cut). By AI agents, Wed Nov 11 2026. No macro, syntax, notation, axiom, sorry.
-/
import Derived.Test.YtlmgiejemdifkaaDoorChecked
import GoSem.Claim
import GoSem.ClaimJoined
import GoSem.ClaimMapViews
import Derived.JoinedTies
import Derived.KernelRfl
namespace Go.Proofs.YtlmgiejemdifkaaDoor
/- THE CELL 'sum', in the pinned program and in every row, IS THE sha256 OF THE DUMP (.gsa) THAT YtlmgiejemdifkaaDoorProg.lean LOADS. Nothing in Lean hashes anything: it is a label: what it is worth is what the hold of that sum in a sandbox is worth. -/
noncomputable def Tryd.pinned : Pinned := { name := "ytlmgiejemdifkaadoor", sum := "0fe85d01dda3f325edf963b29608c5747fa36f4995b88a42ee178af31977d845", checked := Tryd.checked }
namespace Rows
def none {H : Type} : Left H := { results := [], args := [] }

/- WHAT THE LISTED PACKAGE-LEVEL VARIABLES READ AS WHEN THE CALL BEGINS. Each datum BY PROGRAM (the guide's laid-datum.mjs) off the statement by which the dump's own 'gosem.cut.vars' lays the variable. In a bare row this is a premise. The card (YtlmgiejemdifkaaDoorCards.lean) ties it to the program's text. -/
def laid_math_bits_deBruijn32tab {H : Type} : DataW H := .agg [.lit (.int .u8 0), .lit (.int .u8 1), .lit (.int .u8 28), .lit (.int .u8 2), .lit (.int .u8 29), .lit (.int .u8 14), .lit (.int .u8 24), .lit (.int .u8 3), .lit (.int .u8 30), .lit (.int .u8 22), .lit (.int .u8 20), .lit (.int .u8 15), .lit (.int .u8 25), .lit (.int .u8 17), .lit (.int .u8 4), .lit (.int .u8 8), .lit (.int .u8 31), .lit (.int .u8 27), .lit (.int .u8 13), .lit (.int .u8 23), .lit (.int .u8 21), .lit (.int .u8 19), .lit (.int .u8 16), .lit (.int .u8 7), .lit (.int .u8 26), .lit (.int .u8 12), .lit (.int .u8 18), .lit (.int .u8 6), .lit (.int .u8 11), .lit (.int .u8 5), .lit (.int .u8 10), .lit (.int .u8 9)]
def laid_math_bits_deBruijn64tab {H : Type} : DataW H := .agg [.lit (.int .u8 0), .lit (.int .u8 1), .lit (.int .u8 56), .lit (.int .u8 2), .lit (.int .u8 57), .lit (.int .u8 49), .lit (.int .u8 28), .lit (.int .u8 3), .lit (.int .u8 61), .lit (.int .u8 58), .lit (.int .u8 42), .lit (.int .u8 50), .lit (.int .u8 38), .lit (.int .u8 29), .lit (.int .u8 17), .lit (.int .u8 4), .lit (.int .u8 62), .lit (.int .u8 47), .lit (.int .u8 59), .lit (.int .u8 36), .lit (.int .u8 45), .lit (.int .u8 43), .lit (.int .u8 51), .lit (.int .u8 22), .lit (.int .u8 53), .lit (.int .u8 39), .lit (.int .u8 33), .lit (.int .u8 30), .lit (.int .u8 24), .lit (.int .u8 18), .lit (.int .u8 12), .lit (.int .u8 5), .lit (.int .u8 63), .lit (.int .u8 55), .lit (.int .u8 48), .lit (.int .u8 27), .lit (.int .u8 60), .lit (.int .u8 41), .lit (.int .u8 37), .lit (.int .u8 16), .lit (.int .u8 46), .lit (.int .u8 35), .lit (.int .u8 44), .lit (.int .u8 21), .lit (.int .u8 52), .lit (.int .u8 32), .lit (.int .u8 23), .lit (.int .u8 11), .lit (.int .u8 54), .lit (.int .u8 26), .lit (.int .u8 40), .lit (.int .u8 15), .lit (.int .u8 34), .lit (.int .u8 20), .lit (.int .u8 31), .lit (.int .u8 10), .lit (.int .u8 25), .lit (.int .u8 14), .lit (.int .u8 19), .lit (.int .u8 9), .lit (.int .u8 13), .lit (.int .u8 8), .lit (.int .u8 7), .lit (.int .u8 6)]

/-- 'cloisterlaw3.CacheApart': WHATEVER THE INPUT: true; the input reads as it did. -/
def cacheApartSpec : ChangeSpec := { name := "cacheApart", fn := fun _ => fun
  | [d1, d2, d3] => { results := [.lit (.bool true)], args := [d1, d2, d3] }
  | _ => none }
def cacheApartRow : OpenClaim := { program := "ytlmgiejemdifkaadoor", sum := "0fe85d01dda3f325edf963b29608c5747fa36f4995b88a42ee178af31977d845", func := "cloister/cloisterlaw3.CacheApart", spec := "cacheApart", unfollowed := true, recurses := true, named := ["math/bits.deBruijn32tab", "math/bits.deBruijn64tab"], apart := false, laid := [("math/bits.deBruijn32tab", laid_math_bits_deBruijn32tab), ("math/bits.deBruijn64tab", laid_math_bits_deBruijn64tab)] }
def CacheApartSaid : Prop := cacheApartRow.holds Tryd.pinned (OpenSpec.ofChange cacheApartSpec)

/-- ITS FALSE NEIGHBOUR: 'it returns false'. Refute it at one input. -/
def cacheApartWrong : ChangeSpec := { name := "cacheApart", fn := fun _ => fun
  | [d1, d2, d3] => { results := [.lit (.bool false)], args := [d1, d2, d3] }
  | _ => none }
def CacheApartWrongFalsely : Prop := cacheApartRow.holds Tryd.pinned (OpenSpec.ofChange cacheApartWrong)

/-- 'cloisterlaw3.CacheWider': WHATEVER THE INPUT: true; the input reads as it did. -/
def cacheWiderSpec : ChangeSpec := { name := "cacheWider", fn := fun _ => fun
  | [d1, d2, d3] => { results := [.lit (.bool true)], args := [d1, d2, d3] }
  | _ => none }
def cacheWiderRow : OpenClaim := { program := "ytlmgiejemdifkaadoor", sum := "0fe85d01dda3f325edf963b29608c5747fa36f4995b88a42ee178af31977d845", func := "cloister/cloisterlaw3.CacheWider", spec := "cacheWider", unfollowed := true, recurses := true, named := ["math/bits.deBruijn32tab", "math/bits.deBruijn64tab"], apart := false, laid := [("math/bits.deBruijn32tab", laid_math_bits_deBruijn32tab), ("math/bits.deBruijn64tab", laid_math_bits_deBruijn64tab)] }
def CacheWiderSaid : Prop := cacheWiderRow.holds Tryd.pinned (OpenSpec.ofChange cacheWiderSpec)

/-- ITS FALSE NEIGHBOUR: 'it returns false'. Refute it at one input. -/
def cacheWiderWrong : ChangeSpec := { name := "cacheWider", fn := fun _ => fun
  | [d1, d2, d3] => { results := [.lit (.bool false)], args := [d1, d2, d3] }
  | _ => none }
def CacheWiderWrongFalsely : Prop := cacheWiderRow.holds Tryd.pinned (OpenSpec.ofChange cacheWiderWrong)

/-- 'cloisterlaw3.CacheWorst': WHATEVER THE INPUT: true; the input reads as it did. -/
def cacheWorstSpec : ChangeSpec := { name := "cacheWorst", fn := fun _ => fun
  | [d1, d2] => { results := [.lit (.bool true)], args := [d1, d2] }
  | _ => none }
def cacheWorstRow : OpenClaim := { program := "ytlmgiejemdifkaadoor", sum := "0fe85d01dda3f325edf963b29608c5747fa36f4995b88a42ee178af31977d845", func := "cloister/cloisterlaw3.CacheWorst", spec := "cacheWorst", unfollowed := true, recurses := true, named := ["math/bits.deBruijn32tab", "math/bits.deBruijn64tab"], apart := false, laid := [("math/bits.deBruijn32tab", laid_math_bits_deBruijn32tab), ("math/bits.deBruijn64tab", laid_math_bits_deBruijn64tab)] }
def CacheWorstSaid : Prop := cacheWorstRow.holds Tryd.pinned (OpenSpec.ofChange cacheWorstSpec)

/-- ITS FALSE NEIGHBOUR: 'it returns false'. Refute it at one input. -/
def cacheWorstWrong : ChangeSpec := { name := "cacheWorst", fn := fun _ => fun
  | [d1, d2] => { results := [.lit (.bool false)], args := [d1, d2] }
  | _ => none }
def CacheWorstWrongFalsely : Prop := cacheWorstRow.holds Tryd.pinned (OpenSpec.ofChange cacheWorstWrong)

/-- 'cloisterlaw3.CacheCopied': WHATEVER THE INPUT: true; the input reads as it did. -/
def cacheCopiedSpec : ChangeSpec := { name := "cacheCopied", fn := fun _ => fun
  | [d1, d2, d3, d4] => { results := [.lit (.bool true)], args := [d1, d2, d3, d4] }
  | _ => none }
def cacheCopiedRow : OpenClaim := { program := "ytlmgiejemdifkaadoor", sum := "0fe85d01dda3f325edf963b29608c5747fa36f4995b88a42ee178af31977d845", func := "cloister/cloisterlaw3.CacheCopied", spec := "cacheCopied", unfollowed := true, recurses := true, named := ["math/bits.deBruijn32tab", "math/bits.deBruijn64tab"], apart := false, laid := [("math/bits.deBruijn32tab", laid_math_bits_deBruijn32tab), ("math/bits.deBruijn64tab", laid_math_bits_deBruijn64tab)] }
def CacheCopiedSaid : Prop := cacheCopiedRow.holds Tryd.pinned (OpenSpec.ofChange cacheCopiedSpec)

/-- ITS FALSE NEIGHBOUR: 'it returns false'. Refute it at one input. -/
def cacheCopiedWrong : ChangeSpec := { name := "cacheCopied", fn := fun _ => fun
  | [d1, d2, d3, d4] => { results := [.lit (.bool false)], args := [d1, d2, d3, d4] }
  | _ => none }
def CacheCopiedWrongFalsely : Prop := cacheCopiedRow.holds Tryd.pinned (OpenSpec.ofChange cacheCopiedWrong)

/-- 'cloisterlaw3.CacheDoes': WHATEVER THE INPUT: true; the input reads as it did. -/
def cacheDoesSpec : ChangeSpec := { name := "cacheDoes", fn := fun _ => fun
  | [d1, d2] => { results := [.lit (.bool true)], args := [d1, d2] }
  | _ => none }
def cacheDoesRow : OpenClaim := { program := "ytlmgiejemdifkaadoor", sum := "0fe85d01dda3f325edf963b29608c5747fa36f4995b88a42ee178af31977d845", func := "cloister/cloisterlaw3.CacheDoes", spec := "cacheDoes", unfollowed := true, recurses := true, named := ["math/bits.deBruijn32tab", "math/bits.deBruijn64tab"], apart := false, laid := [("math/bits.deBruijn32tab", laid_math_bits_deBruijn32tab), ("math/bits.deBruijn64tab", laid_math_bits_deBruijn64tab)] }
def CacheDoesSaid : Prop := cacheDoesRow.holds Tryd.pinned (OpenSpec.ofChange cacheDoesSpec)

/-- ITS FALSE NEIGHBOUR: 'it returns false'. Refute it at one input. -/
def cacheDoesWrong : ChangeSpec := { name := "cacheDoes", fn := fun _ => fun
  | [d1, d2] => { results := [.lit (.bool false)], args := [d1, d2] }
  | _ => none }
def CacheDoesWrongFalsely : Prop := cacheDoesRow.holds Tryd.pinned (OpenSpec.ofChange cacheDoesWrong)

/-- 'cloisterlaw3.CachePredicts': WHATEVER THE INPUT: true; the input reads as it did. -/
def cachePredictsSpec : ChangeSpec := { name := "cachePredicts", fn := fun _ => fun
  | [d1, d2] => { results := [.lit (.bool true)], args := [d1, d2] }
  | _ => none }
def cachePredictsRow : OpenClaim := { program := "ytlmgiejemdifkaadoor", sum := "0fe85d01dda3f325edf963b29608c5747fa36f4995b88a42ee178af31977d845", func := "cloister/cloisterlaw3.CachePredicts", spec := "cachePredicts", inPlace := ["slices.overlaps[cloister/cache.line]"], unfollowed := true, recurses := true, named := ["math/bits.deBruijn32tab", "math/bits.deBruijn64tab"], apart := false, laid := [("math/bits.deBruijn32tab", laid_math_bits_deBruijn32tab), ("math/bits.deBruijn64tab", laid_math_bits_deBruijn64tab)] }
def CachePredictsSaid : Prop := cachePredictsRow.holds Tryd.pinned (OpenSpec.ofChange cachePredictsSpec)

/-- ITS FALSE NEIGHBOUR: 'it returns false'. Refute it at one input. -/
def cachePredictsWrong : ChangeSpec := { name := "cachePredicts", fn := fun _ => fun
  | [d1, d2] => { results := [.lit (.bool false)], args := [d1, d2] }
  | _ => none }
def CachePredictsWrongFalsely : Prop := cachePredictsRow.holds Tryd.pinned (OpenSpec.ofChange cachePredictsWrong)

/-- 'cloisterlaw3.CacheReuse': WHATEVER THE INPUT: true; the input reads as it did. -/
def cacheReuseSpec : ChangeSpec := { name := "cacheReuse", fn := fun _ => fun
  | [d1, d2, d3] => { results := [.lit (.bool true)], args := [d1, d2, d3] }
  | _ => none }
def cacheReuseRow : OpenClaim := { program := "ytlmgiejemdifkaadoor", sum := "0fe85d01dda3f325edf963b29608c5747fa36f4995b88a42ee178af31977d845", func := "cloister/cloisterlaw3.CacheReuse", spec := "cacheReuse", inPlace := ["slices.overlaps[cloister/cache.line]"], unfollowed := true, recurses := true, named := ["math/bits.deBruijn32tab", "math/bits.deBruijn64tab"], apart := false, laid := [("math/bits.deBruijn32tab", laid_math_bits_deBruijn32tab), ("math/bits.deBruijn64tab", laid_math_bits_deBruijn64tab)] }
def CacheReuseSaid : Prop := cacheReuseRow.holds Tryd.pinned (OpenSpec.ofChange cacheReuseSpec)

/-- ITS FALSE NEIGHBOUR: 'it returns false'. Refute it at one input. -/
def cacheReuseWrong : ChangeSpec := { name := "cacheReuse", fn := fun _ => fun
  | [d1, d2, d3] => { results := [.lit (.bool false)], args := [d1, d2, d3] }
  | _ => none }
def CacheReuseWrongFalsely : Prop := cacheReuseRow.holds Tryd.pinned (OpenSpec.ofChange cacheReuseWrong)

/- THE SECOND FORM. 'bulk': how many values and letters a reading holds, each counted each time it is reached (what is shared counts as often as it is met; a slice's spare places count too). A statement '..UptoSaid' is the law's where the arguments, and the package variables that the reading takes, are together of bulk at most 1048576: NARROWER than '..Said'. Prove '..Said' where nothing that the law and all that it calls make is longer than what came in: it says more and counts as full. Else prove '..UptoSaid'. A law counts once. -/
mutual
def uptoBulk {H : Type} : DataW H → Nat
  | .lit (.string bytes) => bytes.length + 1
  | .lit _ => 1
  | .nil => 1
  | .ptr d => uptoBulk d + 1
  | .slice elems spare => uptoBulkAll elems + uptoBulkAll spare + 1
  | .agg parts => uptoBulkAll parts + 1
  | .iface _ d => uptoBulk d + 1
  | .map entries => uptoBulkEntries entries + 1
  | .held _ => 1
def uptoBulkAll {H : Type} : List (DataW H) → Nat
  | [] => 0
  | d :: r => uptoBulk d + uptoBulkAll r
def uptoBulkEntries {H : Type} : List (Lit × DataW H) → Nat
  | [] => 0
  | x :: r => uptoBulkEntry x + uptoBulkEntries r
def uptoBulkEntry {H : Type} : Lit × DataW H → Nat
  | (.string bytes, d) => bytes.length + uptoBulk d + 1
  | (_, d) => uptoBulk d + 1
 end
def uptoSmall : (H : Type) → List (DataW H) → Bool := fun _ ds => decide (uptoBulkAll ds ≤ 1048576)
def OpenSpec.upto (s : _root_.Go.ChangeSpec) : _root_.Go.OpenSpec := { _root_.Go.OpenSpec.ofChange s with cond := some uptoSmall }

/-- 'cloisterlaw3.CacheApart', WHERE WHAT IT READS IS OF BULK AT MOST 1048576: true; the input reads as it did. -/
def cacheApartUptoRow : OpenClaim := { program := "ytlmgiejemdifkaadoor", sum := "0fe85d01dda3f325edf963b29608c5747fa36f4995b88a42ee178af31977d845", func := "cloister/cloisterlaw3.CacheApart", spec := "cacheApart", unfollowed := true, recurses := true, named := ["math/bits.deBruijn32tab", "math/bits.deBruijn64tab"], apart := false, laid := [("math/bits.deBruijn32tab", laid_math_bits_deBruijn32tab), ("math/bits.deBruijn64tab", laid_math_bits_deBruijn64tab)], narrowed := true }
def CacheApartUptoSaid : Prop := cacheApartUptoRow.holds Tryd.pinned (OpenSpec.upto cacheApartSpec)

/-- 'cloisterlaw3.CacheWider', WHERE WHAT IT READS IS OF BULK AT MOST 1048576: true; the input reads as it did. -/
def cacheWiderUptoRow : OpenClaim := { program := "ytlmgiejemdifkaadoor", sum := "0fe85d01dda3f325edf963b29608c5747fa36f4995b88a42ee178af31977d845", func := "cloister/cloisterlaw3.CacheWider", spec := "cacheWider", unfollowed := true, recurses := true, named := ["math/bits.deBruijn32tab", "math/bits.deBruijn64tab"], apart := false, laid := [("math/bits.deBruijn32tab", laid_math_bits_deBruijn32tab), ("math/bits.deBruijn64tab", laid_math_bits_deBruijn64tab)], narrowed := true }
def CacheWiderUptoSaid : Prop := cacheWiderUptoRow.holds Tryd.pinned (OpenSpec.upto cacheWiderSpec)

/-- 'cloisterlaw3.CacheWorst', WHERE WHAT IT READS IS OF BULK AT MOST 1048576: true; the input reads as it did. -/
def cacheWorstUptoRow : OpenClaim := { program := "ytlmgiejemdifkaadoor", sum := "0fe85d01dda3f325edf963b29608c5747fa36f4995b88a42ee178af31977d845", func := "cloister/cloisterlaw3.CacheWorst", spec := "cacheWorst", unfollowed := true, recurses := true, named := ["math/bits.deBruijn32tab", "math/bits.deBruijn64tab"], apart := false, laid := [("math/bits.deBruijn32tab", laid_math_bits_deBruijn32tab), ("math/bits.deBruijn64tab", laid_math_bits_deBruijn64tab)], narrowed := true }
def CacheWorstUptoSaid : Prop := cacheWorstUptoRow.holds Tryd.pinned (OpenSpec.upto cacheWorstSpec)

/-- 'cloisterlaw3.CacheCopied', WHERE WHAT IT READS IS OF BULK AT MOST 1048576: true; the input reads as it did. -/
def cacheCopiedUptoRow : OpenClaim := { program := "ytlmgiejemdifkaadoor", sum := "0fe85d01dda3f325edf963b29608c5747fa36f4995b88a42ee178af31977d845", func := "cloister/cloisterlaw3.CacheCopied", spec := "cacheCopied", unfollowed := true, recurses := true, named := ["math/bits.deBruijn32tab", "math/bits.deBruijn64tab"], apart := false, laid := [("math/bits.deBruijn32tab", laid_math_bits_deBruijn32tab), ("math/bits.deBruijn64tab", laid_math_bits_deBruijn64tab)], narrowed := true }
def CacheCopiedUptoSaid : Prop := cacheCopiedUptoRow.holds Tryd.pinned (OpenSpec.upto cacheCopiedSpec)

/-- 'cloisterlaw3.CacheDoes', WHERE WHAT IT READS IS OF BULK AT MOST 1048576: true; the input reads as it did. -/
def cacheDoesUptoRow : OpenClaim := { program := "ytlmgiejemdifkaadoor", sum := "0fe85d01dda3f325edf963b29608c5747fa36f4995b88a42ee178af31977d845", func := "cloister/cloisterlaw3.CacheDoes", spec := "cacheDoes", unfollowed := true, recurses := true, named := ["math/bits.deBruijn32tab", "math/bits.deBruijn64tab"], apart := false, laid := [("math/bits.deBruijn32tab", laid_math_bits_deBruijn32tab), ("math/bits.deBruijn64tab", laid_math_bits_deBruijn64tab)], narrowed := true }
def CacheDoesUptoSaid : Prop := cacheDoesUptoRow.holds Tryd.pinned (OpenSpec.upto cacheDoesSpec)

/-- 'cloisterlaw3.CachePredicts', WHERE WHAT IT READS IS OF BULK AT MOST 1048576: true; the input reads as it did. -/
def cachePredictsUptoRow : OpenClaim := { program := "ytlmgiejemdifkaadoor", sum := "0fe85d01dda3f325edf963b29608c5747fa36f4995b88a42ee178af31977d845", func := "cloister/cloisterlaw3.CachePredicts", spec := "cachePredicts", inPlace := ["slices.overlaps[cloister/cache.line]"], unfollowed := true, recurses := true, named := ["math/bits.deBruijn32tab", "math/bits.deBruijn64tab"], apart := false, laid := [("math/bits.deBruijn32tab", laid_math_bits_deBruijn32tab), ("math/bits.deBruijn64tab", laid_math_bits_deBruijn64tab)], narrowed := true }
def CachePredictsUptoSaid : Prop := cachePredictsUptoRow.holds Tryd.pinned (OpenSpec.upto cachePredictsSpec)

/-- 'cloisterlaw3.CacheReuse', WHERE WHAT IT READS IS OF BULK AT MOST 1048576: true; the input reads as it did. -/
def cacheReuseUptoRow : OpenClaim := { program := "ytlmgiejemdifkaadoor", sum := "0fe85d01dda3f325edf963b29608c5747fa36f4995b88a42ee178af31977d845", func := "cloister/cloisterlaw3.CacheReuse", spec := "cacheReuse", inPlace := ["slices.overlaps[cloister/cache.line]"], unfollowed := true, recurses := true, named := ["math/bits.deBruijn32tab", "math/bits.deBruijn64tab"], apart := false, laid := [("math/bits.deBruijn32tab", laid_math_bits_deBruijn32tab), ("math/bits.deBruijn64tab", laid_math_bits_deBruijn64tab)], narrowed := true }
def CacheReuseUptoSaid : Prop := cacheReuseUptoRow.holds Tryd.pinned (OpenSpec.upto cacheReuseSpec)

end Rows
end Go.Proofs.YtlmgiejemdifkaaDoor
