/-
  NARROWER THAN 'FOR EVERY INPUT', by the rows' own cells (each row's printed sentence says how): GicLowest: laid · GicApart: laid · GicOnce: laid · GicRanges: laid · GicCopied: laid · GicDoes: laid.
  DERIVED. THE GIVEN ROWS OF THIS SEAT. 6 by the template 'for every input the law returns true; each argument reads behind the call as it read before'; 0 by the template 'total and deterministic' (their statements: YtpedciapkalhgaaDoorTotals.lean).
  GIVEN WITH THE SEED: the statements are not yours to turn. If you find one false, say at which input.
  Laid BY PROGRAM, IN A SANDBOX (cutbox-rows.mjs): the forced cells as the released guide's own fill.sh prints them over the translation 5fbe1ddbcdf8ecce… (all of the seat's roots in one cut). By AI agents, Wed Nov 11 2026. No macro, syntax, notation, axiom, sorry.
-/
import Derived.Test.YtpedciapkalhgaaDoorChecked
import GoSem.Claim
import GoSem.ClaimJoined
import GoSem.ClaimMapViews
import Derived.JoinedTies
import Derived.KernelRfl
namespace Go.Proofs.YtpedciapkalhgaaDoor
/- THE CELL 'sum', in the pinned program and in every row, IS THE sha256 OF THE DUMP (.gsa) THAT YtpedciapkalhgaaDoorProg.lean LOADS. Nothing in Lean hashes anything: it is a label: what it is worth is what the hold of that sum in a sandbox is worth. -/
noncomputable def Tryd.pinned : Pinned := { name := "ytpedciapkalhgaadoor", sum := "5fbe1ddbcdf8ecce46d2f5f00894364387b905c0dc492d0d4495948aa8e39f36", checked := Tryd.checked }
namespace Rows
def none {H : Type} : Left H := { results := [], args := [] }

/- WHAT THE LISTED PACKAGE-LEVEL VARIABLES READ AS WHEN THE CALL BEGINS. Each datum BY PROGRAM (the guide's laid-datum.mjs) off the statement by which the dump's own 'gosem.cut.vars' lays the variable. In a bare row this is a premise. The card (YtpedciapkalhgaaDoorCards.lean) ties it to the program's text. -/
def laid_math_bits_deBruijn32tab {H : Type} : DataW H := .agg [.lit (.int .u8 0), .lit (.int .u8 1), .lit (.int .u8 28), .lit (.int .u8 2), .lit (.int .u8 29), .lit (.int .u8 14), .lit (.int .u8 24), .lit (.int .u8 3), .lit (.int .u8 30), .lit (.int .u8 22), .lit (.int .u8 20), .lit (.int .u8 15), .lit (.int .u8 25), .lit (.int .u8 17), .lit (.int .u8 4), .lit (.int .u8 8), .lit (.int .u8 31), .lit (.int .u8 27), .lit (.int .u8 13), .lit (.int .u8 23), .lit (.int .u8 21), .lit (.int .u8 19), .lit (.int .u8 16), .lit (.int .u8 7), .lit (.int .u8 26), .lit (.int .u8 12), .lit (.int .u8 18), .lit (.int .u8 6), .lit (.int .u8 11), .lit (.int .u8 5), .lit (.int .u8 10), .lit (.int .u8 9)]

/-- 'cloisterlaw9.GicLowest': WHATEVER THE INPUT: true; the input reads as it did. -/
def gicLowestSpec : ChangeSpec := { name := "gicLowest", fn := fun _ => fun
  | [d1, d2, d3] => { results := [.lit (.bool true)], args := [d1, d2, d3] }
  | _ => none }
def gicLowestRow : OpenClaim := { program := "ytpedciapkalhgaadoor", sum := "5fbe1ddbcdf8ecce46d2f5f00894364387b905c0dc492d0d4495948aa8e39f36", func := "cloister/cloisterlaw9.GicLowest", spec := "gicLowest", named := ["math/bits.deBruijn32tab"], apart := false, laid := [("math/bits.deBruijn32tab", laid_math_bits_deBruijn32tab)] }
def GicLowestSaid : Prop := gicLowestRow.holds Tryd.pinned (OpenSpec.ofChange gicLowestSpec)

/-- ITS FALSE NEIGHBOUR: 'it returns false'. Refute it at one input. -/
def gicLowestWrong : ChangeSpec := { name := "gicLowest", fn := fun _ => fun
  | [d1, d2, d3] => { results := [.lit (.bool false)], args := [d1, d2, d3] }
  | _ => none }
def GicLowestWrongFalsely : Prop := gicLowestRow.holds Tryd.pinned (OpenSpec.ofChange gicLowestWrong)

/-- 'cloisterlaw9.GicApart': WHATEVER THE INPUT: true; the input reads as it did. -/
def gicApartSpec : ChangeSpec := { name := "gicApart", fn := fun _ => fun
  | [d1, d2, d3] => { results := [.lit (.bool true)], args := [d1, d2, d3] }
  | _ => none }
def gicApartRow : OpenClaim := { program := "ytpedciapkalhgaadoor", sum := "5fbe1ddbcdf8ecce46d2f5f00894364387b905c0dc492d0d4495948aa8e39f36", func := "cloister/cloisterlaw9.GicApart", spec := "gicApart", named := ["math/bits.deBruijn32tab"], apart := false, laid := [("math/bits.deBruijn32tab", laid_math_bits_deBruijn32tab)] }
def GicApartSaid : Prop := gicApartRow.holds Tryd.pinned (OpenSpec.ofChange gicApartSpec)

/-- ITS FALSE NEIGHBOUR: 'it returns false'. Refute it at one input. -/
def gicApartWrong : ChangeSpec := { name := "gicApart", fn := fun _ => fun
  | [d1, d2, d3] => { results := [.lit (.bool false)], args := [d1, d2, d3] }
  | _ => none }
def GicApartWrongFalsely : Prop := gicApartRow.holds Tryd.pinned (OpenSpec.ofChange gicApartWrong)

/-- 'cloisterlaw9.GicOnce': WHATEVER THE INPUT: true; the input reads as it did. -/
def gicOnceSpec : ChangeSpec := { name := "gicOnce", fn := fun _ => fun
  | [d1, d2] => { results := [.lit (.bool true)], args := [d1, d2] }
  | _ => none }
def gicOnceRow : OpenClaim := { program := "ytpedciapkalhgaadoor", sum := "5fbe1ddbcdf8ecce46d2f5f00894364387b905c0dc492d0d4495948aa8e39f36", func := "cloister/cloisterlaw9.GicOnce", spec := "gicOnce", named := ["math/bits.deBruijn32tab"], apart := false, laid := [("math/bits.deBruijn32tab", laid_math_bits_deBruijn32tab)] }
def GicOnceSaid : Prop := gicOnceRow.holds Tryd.pinned (OpenSpec.ofChange gicOnceSpec)

/-- ITS FALSE NEIGHBOUR: 'it returns false'. Refute it at one input. -/
def gicOnceWrong : ChangeSpec := { name := "gicOnce", fn := fun _ => fun
  | [d1, d2] => { results := [.lit (.bool false)], args := [d1, d2] }
  | _ => none }
def GicOnceWrongFalsely : Prop := gicOnceRow.holds Tryd.pinned (OpenSpec.ofChange gicOnceWrong)

/-- 'cloisterlaw9.GicRanges': WHATEVER THE INPUT: true; the input reads as it did. -/
def gicRangesSpec : ChangeSpec := { name := "gicRanges", fn := fun _ => fun
  | [d1, d2, d3, d4] => { results := [.lit (.bool true)], args := [d1, d2, d3, d4] }
  | _ => none }
def gicRangesRow : OpenClaim := { program := "ytpedciapkalhgaadoor", sum := "5fbe1ddbcdf8ecce46d2f5f00894364387b905c0dc492d0d4495948aa8e39f36", func := "cloister/cloisterlaw9.GicRanges", spec := "gicRanges", unfollowed := true, recurses := true, named := ["math/bits.deBruijn32tab"], apart := false, laid := [("math/bits.deBruijn32tab", laid_math_bits_deBruijn32tab)] }
def GicRangesSaid : Prop := gicRangesRow.holds Tryd.pinned (OpenSpec.ofChange gicRangesSpec)

/-- ITS FALSE NEIGHBOUR: 'it returns false'. Refute it at one input. -/
def gicRangesWrong : ChangeSpec := { name := "gicRanges", fn := fun _ => fun
  | [d1, d2, d3, d4] => { results := [.lit (.bool false)], args := [d1, d2, d3, d4] }
  | _ => none }
def GicRangesWrongFalsely : Prop := gicRangesRow.holds Tryd.pinned (OpenSpec.ofChange gicRangesWrong)

/-- 'cloisterlaw9.GicCopied': WHATEVER THE INPUT: true; the input reads as it did. -/
def gicCopiedSpec : ChangeSpec := { name := "gicCopied", fn := fun _ => fun
  | [d1, d2, d3, d4] => { results := [.lit (.bool true)], args := [d1, d2, d3, d4] }
  | _ => none }
def gicCopiedRow : OpenClaim := { program := "ytpedciapkalhgaadoor", sum := "5fbe1ddbcdf8ecce46d2f5f00894364387b905c0dc492d0d4495948aa8e39f36", func := "cloister/cloisterlaw9.GicCopied", spec := "gicCopied", named := ["math/bits.deBruijn32tab"], apart := false, laid := [("math/bits.deBruijn32tab", laid_math_bits_deBruijn32tab)] }
def GicCopiedSaid : Prop := gicCopiedRow.holds Tryd.pinned (OpenSpec.ofChange gicCopiedSpec)

/-- ITS FALSE NEIGHBOUR: 'it returns false'. Refute it at one input. -/
def gicCopiedWrong : ChangeSpec := { name := "gicCopied", fn := fun _ => fun
  | [d1, d2, d3, d4] => { results := [.lit (.bool false)], args := [d1, d2, d3, d4] }
  | _ => none }
def GicCopiedWrongFalsely : Prop := gicCopiedRow.holds Tryd.pinned (OpenSpec.ofChange gicCopiedWrong)

/-- 'cloisterlaw9.GicDoes': WHATEVER THE INPUT: true; the input reads as it did. -/
def gicDoesSpec : ChangeSpec := { name := "gicDoes", fn := fun _ => fun
  | [d] => { results := [.lit (.bool true)], args := [d] }
  | _ => none }
def gicDoesRow : OpenClaim := { program := "ytpedciapkalhgaadoor", sum := "5fbe1ddbcdf8ecce46d2f5f00894364387b905c0dc492d0d4495948aa8e39f36", func := "cloister/cloisterlaw9.GicDoes", spec := "gicDoes", unfollowed := true, recurses := true, named := ["math/bits.deBruijn32tab"], apart := false, laid := [("math/bits.deBruijn32tab", laid_math_bits_deBruijn32tab)] }
def GicDoesSaid : Prop := gicDoesRow.holds Tryd.pinned (OpenSpec.ofChange gicDoesSpec)

/-- ITS FALSE NEIGHBOUR: 'it returns false'. Refute it at one input. -/
def gicDoesWrong : ChangeSpec := { name := "gicDoes", fn := fun _ => fun
  | [d] => { results := [.lit (.bool false)], args := [d] }
  | _ => none }
def GicDoesWrongFalsely : Prop := gicDoesRow.holds Tryd.pinned (OpenSpec.ofChange gicDoesWrong)

/- THE SECOND FORM. 'bulk': how many values and letters a reading holds, each counted each time it is reached (what is shared counts as often as it is met; a slice's spare places count too). A statement '..UptoSaid' is the law's where the arguments, and the package variables that the reading takes, are together of bulk at most 1048576: NARROWER than '..Said'. Prove '..Said' where nothing that the law and all that it calls make is longer than what came in: it says more and counts as full. Else prove '..UptoSaid'. A law counts once. -/
mutual
def uptoBulk {H : Type} : DataW H → Nat
  | .lit (.string bytes) => bytes.length + 1
  | .lit _ => 1
  | .nil => 1
  | .ptr d => uptoBulk d + 1
  | .slice elems spare => uptoBulkAll elems + uptoBulkAll spare + 1
  | .agg parts => uptoBulkAll parts + 1
  | .iface _ d => uptoBulk d + 1
  | .map entries => uptoBulkEntries entries + 1
  | .held _ => 1
def uptoBulkAll {H : Type} : List (DataW H) → Nat
  | [] => 0
  | d :: r => uptoBulk d + uptoBulkAll r
def uptoBulkEntries {H : Type} : List (Lit × DataW H) → Nat
  | [] => 0
  | x :: r => uptoBulkEntry x + uptoBulkEntries r
def uptoBulkEntry {H : Type} : Lit × DataW H → Nat
  | (.string bytes, d) => bytes.length + uptoBulk d + 1
  | (_, d) => uptoBulk d + 1
 end
def uptoSmall : (H : Type) → List (DataW H) → Bool := fun _ ds => decide (uptoBulkAll ds ≤ 1048576)
def OpenSpec.upto (s : _root_.Go.ChangeSpec) : _root_.Go.OpenSpec := { _root_.Go.OpenSpec.ofChange s with cond := some uptoSmall }

/-- 'cloisterlaw9.GicLowest', WHERE WHAT IT READS IS OF BULK AT MOST 1048576: true; the input reads as it did. -/
def gicLowestUptoRow : OpenClaim := { program := "ytpedciapkalhgaadoor", sum := "5fbe1ddbcdf8ecce46d2f5f00894364387b905c0dc492d0d4495948aa8e39f36", func := "cloister/cloisterlaw9.GicLowest", spec := "gicLowest", named := ["math/bits.deBruijn32tab"], apart := false, laid := [("math/bits.deBruijn32tab", laid_math_bits_deBruijn32tab)], narrowed := true }
def GicLowestUptoSaid : Prop := gicLowestUptoRow.holds Tryd.pinned (OpenSpec.upto gicLowestSpec)

/-- 'cloisterlaw9.GicApart', WHERE WHAT IT READS IS OF BULK AT MOST 1048576: true; the input reads as it did. -/
def gicApartUptoRow : OpenClaim := { program := "ytpedciapkalhgaadoor", sum := "5fbe1ddbcdf8ecce46d2f5f00894364387b905c0dc492d0d4495948aa8e39f36", func := "cloister/cloisterlaw9.GicApart", spec := "gicApart", named := ["math/bits.deBruijn32tab"], apart := false, laid := [("math/bits.deBruijn32tab", laid_math_bits_deBruijn32tab)], narrowed := true }
def GicApartUptoSaid : Prop := gicApartUptoRow.holds Tryd.pinned (OpenSpec.upto gicApartSpec)

/-- 'cloisterlaw9.GicOnce', WHERE WHAT IT READS IS OF BULK AT MOST 1048576: true; the input reads as it did. -/
def gicOnceUptoRow : OpenClaim := { program := "ytpedciapkalhgaadoor", sum := "5fbe1ddbcdf8ecce46d2f5f00894364387b905c0dc492d0d4495948aa8e39f36", func := "cloister/cloisterlaw9.GicOnce", spec := "gicOnce", named := ["math/bits.deBruijn32tab"], apart := false, laid := [("math/bits.deBruijn32tab", laid_math_bits_deBruijn32tab)], narrowed := true }
def GicOnceUptoSaid : Prop := gicOnceUptoRow.holds Tryd.pinned (OpenSpec.upto gicOnceSpec)

/-- 'cloisterlaw9.GicRanges', WHERE WHAT IT READS IS OF BULK AT MOST 1048576: true; the input reads as it did. -/
def gicRangesUptoRow : OpenClaim := { program := "ytpedciapkalhgaadoor", sum := "5fbe1ddbcdf8ecce46d2f5f00894364387b905c0dc492d0d4495948aa8e39f36", func := "cloister/cloisterlaw9.GicRanges", spec := "gicRanges", unfollowed := true, recurses := true, named := ["math/bits.deBruijn32tab"], apart := false, laid := [("math/bits.deBruijn32tab", laid_math_bits_deBruijn32tab)], narrowed := true }
def GicRangesUptoSaid : Prop := gicRangesUptoRow.holds Tryd.pinned (OpenSpec.upto gicRangesSpec)

/-- 'cloisterlaw9.GicCopied', WHERE WHAT IT READS IS OF BULK AT MOST 1048576: true; the input reads as it did. -/
def gicCopiedUptoRow : OpenClaim := { program := "ytpedciapkalhgaadoor", sum := "5fbe1ddbcdf8ecce46d2f5f00894364387b905c0dc492d0d4495948aa8e39f36", func := "cloister/cloisterlaw9.GicCopied", spec := "gicCopied", named := ["math/bits.deBruijn32tab"], apart := false, laid := [("math/bits.deBruijn32tab", laid_math_bits_deBruijn32tab)], narrowed := true }
def GicCopiedUptoSaid : Prop := gicCopiedUptoRow.holds Tryd.pinned (OpenSpec.upto gicCopiedSpec)

/-- 'cloisterlaw9.GicDoes', WHERE WHAT IT READS IS OF BULK AT MOST 1048576: true; the input reads as it did. -/
def gicDoesUptoRow : OpenClaim := { program := "ytpedciapkalhgaadoor", sum := "5fbe1ddbcdf8ecce46d2f5f00894364387b905c0dc492d0d4495948aa8e39f36", func := "cloister/cloisterlaw9.GicDoes", spec := "gicDoes", unfollowed := true, recurses := true, named := ["math/bits.deBruijn32tab"], apart := false, laid := [("math/bits.deBruijn32tab", laid_math_bits_deBruijn32tab)], narrowed := true }
def GicDoesUptoSaid : Prop := gicDoesUptoRow.holds Tryd.pinned (OpenSpec.upto gicDoesSpec)

end Rows
end Go.Proofs.YtpedciapkalhgaaDoor
