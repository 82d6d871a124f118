/-
  No cell of these rows narrows 'for every input' (looked for: loops, veiled, ifaces, maps, wideKeys, modest, calm, conditions, laid).
  DERIVED. THE GIVEN ROWS OF THIS SEAT. 5 by the template 'for every input the law returns true; each argument reads behind the call as it read before'; 0 by the template 'total and deterministic' (their statements: YtfoofipkbijajaaTotals.lean).
  GIVEN WITH THE SEED: the statements are not yours to turn. If you find one false, say at which input.
  Laid BY PROGRAM, IN A SANDBOX (cutbox-rows.mjs): the forced cells as the released guide's own fill.sh prints them over the translation f99d7ebbdca0ee0f… (all of the seat's roots in one cut). By AI agents, Wed Nov 11 2026. No macro, syntax, notation, axiom, sorry.
-/
import Derived.Test.YtfoofipkbijajaaChecked
import GoSem.Claim
import GoSem.ClaimJoined
import GoSem.ClaimMapViews
import Derived.JoinedTies
import Derived.KernelRfl
namespace Go.Proofs.Ytfoofipkbijajaa
/- THE CELL 'sum', in the pinned program and in every row, IS THE sha256 OF THE DUMP (.gsa) THAT YtfoofipkbijajaaProg.lean LOADS. Nothing in Lean hashes anything: it is a label: what it is worth is what the hold of that sum in a sandbox is worth. -/
noncomputable def Try.pinned : Pinned := { name := "ytfoofipkbijajaa", sum := "f99d7ebbdca0ee0f62c5468daa5f52d8c84eb2639cf14b155a1b44b9de8f7714", checked := Try.checked }
namespace Rows
def none {H : Type} : Left H := { results := [], args := [] }

/-- 'cloisterlaw16.SamplingMakes': WHATEVER THE INPUT: true; the input reads as it did. -/
def samplingMakesSpec : ChangeSpec := { name := "samplingMakes", fn := fun _ => fun
  | [d] => { results := [.lit (.bool true)], args := [d] }
  | _ => none }
def samplingMakesRow : OpenClaim := { program := "ytfoofipkbijajaa", sum := "f99d7ebbdca0ee0f62c5468daa5f52d8c84eb2639cf14b155a1b44b9de8f7714", func := "cloister/cloisterlaw16.SamplingMakes", spec := "samplingMakes", apart := false }
def SamplingMakesSaid : Prop := samplingMakesRow.holds Try.pinned (OpenSpec.ofChange samplingMakesSpec)

/-- ITS FALSE NEIGHBOUR: 'it returns false'. Refute it at one input. -/
def samplingMakesWrong : ChangeSpec := { name := "samplingMakes", fn := fun _ => fun
  | [d] => { results := [.lit (.bool false)], args := [d] }
  | _ => none }
def SamplingMakesWrongFalsely : Prop := samplingMakesRow.holds Try.pinned (OpenSpec.ofChange samplingMakesWrong)

/-- 'cloisterlaw16.SamplingLast': WHATEVER THE INPUT: true; the input reads as it did. -/
def samplingLastSpec : ChangeSpec := { name := "samplingLast", fn := fun _ => fun
  | [d1, d2] => { results := [.lit (.bool true)], args := [d1, d2] }
  | _ => none }
def samplingLastRow : OpenClaim := { program := "ytfoofipkbijajaa", sum := "f99d7ebbdca0ee0f62c5468daa5f52d8c84eb2639cf14b155a1b44b9de8f7714", func := "cloister/cloisterlaw16.SamplingLast", spec := "samplingLast", apart := false }
def SamplingLastSaid : Prop := samplingLastRow.holds Try.pinned (OpenSpec.ofChange samplingLastSpec)

/-- ITS FALSE NEIGHBOUR: 'it returns false'. Refute it at one input. -/
def samplingLastWrong : ChangeSpec := { name := "samplingLast", fn := fun _ => fun
  | [d1, d2] => { results := [.lit (.bool false)], args := [d1, d2] }
  | _ => none }
def SamplingLastWrongFalsely : Prop := samplingLastRow.holds Try.pinned (OpenSpec.ofChange samplingLastWrong)

/-- 'cloisterlaw16.SamplingDeaf': WHATEVER THE INPUT: true; the input reads as it did. -/
def samplingDeafSpec : ChangeSpec := { name := "samplingDeaf", fn := fun _ => fun
  | [d1, d2] => { results := [.lit (.bool true)], args := [d1, d2] }
  | _ => none }
def samplingDeafRow : OpenClaim := { program := "ytfoofipkbijajaa", sum := "f99d7ebbdca0ee0f62c5468daa5f52d8c84eb2639cf14b155a1b44b9de8f7714", func := "cloister/cloisterlaw16.SamplingDeaf", spec := "samplingDeaf", apart := false }
def SamplingDeafSaid : Prop := samplingDeafRow.holds Try.pinned (OpenSpec.ofChange samplingDeafSpec)

/-- ITS FALSE NEIGHBOUR: 'it returns false'. Refute it at one input. -/
def samplingDeafWrong : ChangeSpec := { name := "samplingDeaf", fn := fun _ => fun
  | [d1, d2] => { results := [.lit (.bool false)], args := [d1, d2] }
  | _ => none }
def SamplingDeafWrongFalsely : Prop := samplingDeafRow.holds Try.pinned (OpenSpec.ofChange samplingDeafWrong)

/-- 'cloisterlaw16.SamplingPlays': WHATEVER THE INPUT: true; the input reads as it did. -/
def samplingPlaysSpec : ChangeSpec := { name := "samplingPlays", fn := fun _ => fun
  | [d1, d2] => { results := [.lit (.bool true)], args := [d1, d2] }
  | _ => none }
def samplingPlaysRow : OpenClaim := { program := "ytfoofipkbijajaa", sum := "f99d7ebbdca0ee0f62c5468daa5f52d8c84eb2639cf14b155a1b44b9de8f7714", func := "cloister/cloisterlaw16.SamplingPlays", spec := "samplingPlays", apart := false }
def SamplingPlaysSaid : Prop := samplingPlaysRow.holds Try.pinned (OpenSpec.ofChange samplingPlaysSpec)

/-- ITS FALSE NEIGHBOUR: 'it returns false'. Refute it at one input. -/
def samplingPlaysWrong : ChangeSpec := { name := "samplingPlays", fn := fun _ => fun
  | [d1, d2] => { results := [.lit (.bool false)], args := [d1, d2] }
  | _ => none }
def SamplingPlaysWrongFalsely : Prop := samplingPlaysRow.holds Try.pinned (OpenSpec.ofChange samplingPlaysWrong)

/-- 'cloisterlaw16.SamplingLoads': WHATEVER THE INPUT: true; the input reads as it did. -/
def samplingLoadsSpec : ChangeSpec := { name := "samplingLoads", fn := fun _ => fun
  | [d1, d2, d3] => { results := [.lit (.bool true)], args := [d1, d2, d3] }
  | _ => none }
def samplingLoadsRow : OpenClaim := { program := "ytfoofipkbijajaa", sum := "f99d7ebbdca0ee0f62c5468daa5f52d8c84eb2639cf14b155a1b44b9de8f7714", func := "cloister/cloisterlaw16.SamplingLoads", spec := "samplingLoads", apart := false }
def SamplingLoadsSaid : Prop := samplingLoadsRow.holds Try.pinned (OpenSpec.ofChange samplingLoadsSpec)

/-- ITS FALSE NEIGHBOUR: 'it returns false'. Refute it at one input. -/
def samplingLoadsWrong : ChangeSpec := { name := "samplingLoads", fn := fun _ => fun
  | [d1, d2, d3] => { results := [.lit (.bool false)], args := [d1, d2, d3] }
  | _ => none }
def SamplingLoadsWrongFalsely : Prop := samplingLoadsRow.holds Try.pinned (OpenSpec.ofChange samplingLoadsWrong)

/- THE SECOND FORM. 'bulk': how many values and letters a reading holds, each counted each time it is reached (what is shared counts as often as it is met; a slice's spare places count too). A statement '..UptoSaid' is the law's where the arguments, and the package variables that the reading takes, are together of bulk at most 1048576: NARROWER than '..Said'. Prove '..Said' where nothing that the law and all that it calls make is longer than what came in: it says more and counts as full. Else prove '..UptoSaid'. A law counts once. -/
mutual
def uptoBulk {H : Type} : DataW H → Nat
  | .lit (.string bytes) => bytes.length + 1
  | .lit _ => 1
  | .nil => 1
  | .ptr d => uptoBulk d + 1
  | .slice elems spare => uptoBulkAll elems + uptoBulkAll spare + 1
  | .agg parts => uptoBulkAll parts + 1
  | .iface _ d => uptoBulk d + 1
  | .map entries => uptoBulkEntries entries + 1
  | .held _ => 1
def uptoBulkAll {H : Type} : List (DataW H) → Nat
  | [] => 0
  | d :: r => uptoBulk d + uptoBulkAll r
def uptoBulkEntries {H : Type} : List (Lit × DataW H) → Nat
  | [] => 0
  | x :: r => uptoBulkEntry x + uptoBulkEntries r
def uptoBulkEntry {H : Type} : Lit × DataW H → Nat
  | (.string bytes, d) => bytes.length + uptoBulk d + 1
  | (_, d) => uptoBulk d + 1
 end
def uptoSmall : (H : Type) → List (DataW H) → Bool := fun _ ds => decide (uptoBulkAll ds ≤ 1048576)
def OpenSpec.upto (s : _root_.Go.ChangeSpec) : _root_.Go.OpenSpec := { _root_.Go.OpenSpec.ofChange s with cond := some uptoSmall }

/-- 'cloisterlaw16.SamplingMakes', WHERE WHAT IT READS IS OF BULK AT MOST 1048576: true; the input reads as it did. -/
def samplingMakesUptoRow : OpenClaim := { program := "ytfoofipkbijajaa", sum := "f99d7ebbdca0ee0f62c5468daa5f52d8c84eb2639cf14b155a1b44b9de8f7714", func := "cloister/cloisterlaw16.SamplingMakes", spec := "samplingMakes", apart := false, narrowed := true }
def SamplingMakesUptoSaid : Prop := samplingMakesUptoRow.holds Try.pinned (OpenSpec.upto samplingMakesSpec)

/-- 'cloisterlaw16.SamplingLast', WHERE WHAT IT READS IS OF BULK AT MOST 1048576: true; the input reads as it did. -/
def samplingLastUptoRow : OpenClaim := { program := "ytfoofipkbijajaa", sum := "f99d7ebbdca0ee0f62c5468daa5f52d8c84eb2639cf14b155a1b44b9de8f7714", func := "cloister/cloisterlaw16.SamplingLast", spec := "samplingLast", apart := false, narrowed := true }
def SamplingLastUptoSaid : Prop := samplingLastUptoRow.holds Try.pinned (OpenSpec.upto samplingLastSpec)

/-- 'cloisterlaw16.SamplingDeaf', WHERE WHAT IT READS IS OF BULK AT MOST 1048576: true; the input reads as it did. -/
def samplingDeafUptoRow : OpenClaim := { program := "ytfoofipkbijajaa", sum := "f99d7ebbdca0ee0f62c5468daa5f52d8c84eb2639cf14b155a1b44b9de8f7714", func := "cloister/cloisterlaw16.SamplingDeaf", spec := "samplingDeaf", apart := false, narrowed := true }
def SamplingDeafUptoSaid : Prop := samplingDeafUptoRow.holds Try.pinned (OpenSpec.upto samplingDeafSpec)

/-- 'cloisterlaw16.SamplingPlays', WHERE WHAT IT READS IS OF BULK AT MOST 1048576: true; the input reads as it did. -/
def samplingPlaysUptoRow : OpenClaim := { program := "ytfoofipkbijajaa", sum := "f99d7ebbdca0ee0f62c5468daa5f52d8c84eb2639cf14b155a1b44b9de8f7714", func := "cloister/cloisterlaw16.SamplingPlays", spec := "samplingPlays", apart := false, narrowed := true }
def SamplingPlaysUptoSaid : Prop := samplingPlaysUptoRow.holds Try.pinned (OpenSpec.upto samplingPlaysSpec)

/-- 'cloisterlaw16.SamplingLoads', WHERE WHAT IT READS IS OF BULK AT MOST 1048576: true; the input reads as it did. -/
def samplingLoadsUptoRow : OpenClaim := { program := "ytfoofipkbijajaa", sum := "f99d7ebbdca0ee0f62c5468daa5f52d8c84eb2639cf14b155a1b44b9de8f7714", func := "cloister/cloisterlaw16.SamplingLoads", spec := "samplingLoads", apart := false, narrowed := true }
def SamplingLoadsUptoSaid : Prop := samplingLoadsUptoRow.holds Try.pinned (OpenSpec.upto samplingLoadsSpec)

end Rows
end Go.Proofs.Ytfoofipkbijajaa
