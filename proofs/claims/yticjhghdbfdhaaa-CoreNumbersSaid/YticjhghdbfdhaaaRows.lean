/-
  No cell of these rows narrows 'for every input' (looked for: loops, veiled, ifaces, maps, wideKeys, modest, calm, conditions, laid).
  DERIVED. THE GIVEN ROWS OF THIS SEAT. 11 by the template 'for every input the law returns true; each argument reads behind the call as it read before'; 0 by the template 'total and deterministic' (their statements: YticjhghdbfdhaaaTotals.lean).
  GIVEN WITH THE SEED: the statements are not yours to turn. If you find one false, say at which input.
  Laid BY PROGRAM, IN A SANDBOX (cutbox-rows.mjs): the forced cells as the released guide's own fill.sh prints them over the translation 4cc5bf7d616fe381… (all of the seat's roots in one cut). By AI agents, Wed Nov 11 2026. No macro, syntax, notation, axiom, sorry.
-/
import Derived.Test.YticjhghdbfdhaaaChecked
import GoSem.Claim
import GoSem.ClaimJoined
import GoSem.ClaimMapViews
import Derived.JoinedTies
import Derived.KernelRfl
namespace Go.Proofs.Yticjhghdbfdhaaa
/- THE CELL 'sum', in the pinned program and in every row, IS THE sha256 OF THE DUMP (.gsa) THAT YticjhghdbfdhaaaProg.lean LOADS. Nothing in Lean hashes anything: it is a label: what it is worth is what the hold of that sum in a sandbox is worth. -/
noncomputable def Try.pinned : Pinned := { name := "yticjhghdbfdhaaa", sum := "4cc5bf7d616fe3817ff0fe90bf48d6168c2bb61b717612f12ca394b3664ab9ee", checked := Try.checked }
namespace Rows
def none {H : Type} : Left H := { results := [], args := [] }

/-- 'cloisterlaw3.CacheNumbers': WHATEVER THE INPUT: true; the input reads as it did. -/
def cacheNumbersSpec : ChangeSpec := { name := "cacheNumbers", fn := fun _ => fun
  | [] => { results := [.lit (.bool true)], args := [] }
  | _ => none }
def cacheNumbersRow : OpenClaim := { program := "yticjhghdbfdhaaa", sum := "4cc5bf7d616fe3817ff0fe90bf48d6168c2bb61b717612f12ca394b3664ab9ee", func := "cloister/cloisterlaw3.CacheNumbers", spec := "cacheNumbers", apart := false }
def CacheNumbersSaid : Prop := cacheNumbersRow.holds Try.pinned (OpenSpec.ofChange cacheNumbersSpec)

/-- ITS FALSE NEIGHBOUR: 'it returns false'. Refute it at one input. -/
def cacheNumbersWrong : ChangeSpec := { name := "cacheNumbers", fn := fun _ => fun
  | [] => { results := [.lit (.bool false)], args := [] }
  | _ => none }
def CacheNumbersWrongFalsely : Prop := cacheNumbersRow.holds Try.pinned (OpenSpec.ofChange cacheNumbersWrong)

/-- 'cloisterlaw9.GicNumbers': WHATEVER THE INPUT: true; the input reads as it did. -/
def gicNumbersSpec : ChangeSpec := { name := "gicNumbers", fn := fun _ => fun
  | [] => { results := [.lit (.bool true)], args := [] }
  | _ => none }
def gicNumbersRow : OpenClaim := { program := "yticjhghdbfdhaaa", sum := "4cc5bf7d616fe3817ff0fe90bf48d6168c2bb61b717612f12ca394b3664ab9ee", func := "cloister/cloisterlaw9.GicNumbers", spec := "gicNumbers", apart := false }
def GicNumbersSaid : Prop := gicNumbersRow.holds Try.pinned (OpenSpec.ofChange gicNumbersSpec)

/-- ITS FALSE NEIGHBOUR: 'it returns false'. Refute it at one input. -/
def gicNumbersWrong : ChangeSpec := { name := "gicNumbers", fn := fun _ => fun
  | [] => { results := [.lit (.bool false)], args := [] }
  | _ => none }
def GicNumbersWrongFalsely : Prop := gicNumbersRow.holds Try.pinned (OpenSpec.ofChange gicNumbersWrong)

/-- 'cloisterlaw28.MeanNumbers': WHATEVER THE INPUT: true; the input reads as it did. -/
def meanNumbersSpec : ChangeSpec := { name := "meanNumbers", fn := fun _ => fun
  | [] => { results := [.lit (.bool true)], args := [] }
  | _ => none }
def meanNumbersRow : OpenClaim := { program := "yticjhghdbfdhaaa", sum := "4cc5bf7d616fe3817ff0fe90bf48d6168c2bb61b717612f12ca394b3664ab9ee", func := "cloister/cloisterlaw28.MeanNumbers", spec := "meanNumbers", apart := false }
def MeanNumbersSaid : Prop := meanNumbersRow.holds Try.pinned (OpenSpec.ofChange meanNumbersSpec)

/-- ITS FALSE NEIGHBOUR: 'it returns false'. Refute it at one input. -/
def meanNumbersWrong : ChangeSpec := { name := "meanNumbers", fn := fun _ => fun
  | [] => { results := [.lit (.bool false)], args := [] }
  | _ => none }
def MeanNumbersWrongFalsely : Prop := meanNumbersRow.holds Try.pinned (OpenSpec.ofChange meanNumbersWrong)

/-- 'cloisterlaw29.FlowNumbers': WHATEVER THE INPUT: true; the input reads as it did. -/
def flowNumbersSpec : ChangeSpec := { name := "flowNumbers", fn := fun _ => fun
  | [] => { results := [.lit (.bool true)], args := [] }
  | _ => none }
def flowNumbersRow : OpenClaim := { program := "yticjhghdbfdhaaa", sum := "4cc5bf7d616fe3817ff0fe90bf48d6168c2bb61b717612f12ca394b3664ab9ee", func := "cloister/cloisterlaw29.FlowNumbers", spec := "flowNumbers", apart := false }
def FlowNumbersSaid : Prop := flowNumbersRow.holds Try.pinned (OpenSpec.ofChange flowNumbersSpec)

/-- ITS FALSE NEIGHBOUR: 'it returns false'. Refute it at one input. -/
def flowNumbersWrong : ChangeSpec := { name := "flowNumbers", fn := fun _ => fun
  | [] => { results := [.lit (.bool false)], args := [] }
  | _ => none }
def FlowNumbersWrongFalsely : Prop := flowNumbersRow.holds Try.pinned (OpenSpec.ofChange flowNumbersWrong)

/-- 'cloisterlaw8.MMUNumbers': WHATEVER THE INPUT: true; the input reads as it did. -/
def mMUNumbersSpec : ChangeSpec := { name := "mMUNumbers", fn := fun _ => fun
  | [] => { results := [.lit (.bool true)], args := [] }
  | _ => none }
def mMUNumbersRow : OpenClaim := { program := "yticjhghdbfdhaaa", sum := "4cc5bf7d616fe3817ff0fe90bf48d6168c2bb61b717612f12ca394b3664ab9ee", func := "cloister/cloisterlaw8.MMUNumbers", spec := "mMUNumbers", apart := false }
def MMUNumbersSaid : Prop := mMUNumbersRow.holds Try.pinned (OpenSpec.ofChange mMUNumbersSpec)

/-- ITS FALSE NEIGHBOUR: 'it returns false'. Refute it at one input. -/
def mMUNumbersWrong : ChangeSpec := { name := "mMUNumbers", fn := fun _ => fun
  | [] => { results := [.lit (.bool false)], args := [] }
  | _ => none }
def MMUNumbersWrongFalsely : Prop := mMUNumbersRow.holds Try.pinned (OpenSpec.ofChange mMUNumbersWrong)

/-- 'cloisterlaw35.TaleNumbers': WHATEVER THE INPUT: true; the input reads as it did. -/
def taleNumbersSpec : ChangeSpec := { name := "taleNumbers", fn := fun _ => fun
  | [] => { results := [.lit (.bool true)], args := [] }
  | _ => none }
def taleNumbersRow : OpenClaim := { program := "yticjhghdbfdhaaa", sum := "4cc5bf7d616fe3817ff0fe90bf48d6168c2bb61b717612f12ca394b3664ab9ee", func := "cloister/cloisterlaw35.TaleNumbers", spec := "taleNumbers", apart := false }
def TaleNumbersSaid : Prop := taleNumbersRow.holds Try.pinned (OpenSpec.ofChange taleNumbersSpec)

/-- ITS FALSE NEIGHBOUR: 'it returns false'. Refute it at one input. -/
def taleNumbersWrong : ChangeSpec := { name := "taleNumbers", fn := fun _ => fun
  | [] => { results := [.lit (.bool false)], args := [] }
  | _ => none }
def TaleNumbersWrongFalsely : Prop := taleNumbersRow.holds Try.pinned (OpenSpec.ofChange taleNumbersWrong)

/-- 'cloisterlaw20.HyperNumbers': WHATEVER THE INPUT: true; the input reads as it did. -/
def hyperNumbersSpec : ChangeSpec := { name := "hyperNumbers", fn := fun _ => fun
  | [] => { results := [.lit (.bool true)], args := [] }
  | _ => none }
def hyperNumbersRow : OpenClaim := { program := "yticjhghdbfdhaaa", sum := "4cc5bf7d616fe3817ff0fe90bf48d6168c2bb61b717612f12ca394b3664ab9ee", func := "cloister/cloisterlaw20.HyperNumbers", spec := "hyperNumbers", apart := false }
def HyperNumbersSaid : Prop := hyperNumbersRow.holds Try.pinned (OpenSpec.ofChange hyperNumbersSpec)

/-- ITS FALSE NEIGHBOUR: 'it returns false'. Refute it at one input. -/
def hyperNumbersWrong : ChangeSpec := { name := "hyperNumbers", fn := fun _ => fun
  | [] => { results := [.lit (.bool false)], args := [] }
  | _ => none }
def HyperNumbersWrongFalsely : Prop := hyperNumbersRow.holds Try.pinned (OpenSpec.ofChange hyperNumbersWrong)

/-- 'cloisterlaw21.MonitorNumbers': WHATEVER THE INPUT: true; the input reads as it did. -/
def monitorNumbersSpec : ChangeSpec := { name := "monitorNumbers", fn := fun _ => fun
  | [] => { results := [.lit (.bool true)], args := [] }
  | _ => none }
def monitorNumbersRow : OpenClaim := { program := "yticjhghdbfdhaaa", sum := "4cc5bf7d616fe3817ff0fe90bf48d6168c2bb61b717612f12ca394b3664ab9ee", func := "cloister/cloisterlaw21.MonitorNumbers", spec := "monitorNumbers", apart := false }
def MonitorNumbersSaid : Prop := monitorNumbersRow.holds Try.pinned (OpenSpec.ofChange monitorNumbersSpec)

/-- ITS FALSE NEIGHBOUR: 'it returns false'. Refute it at one input. -/
def monitorNumbersWrong : ChangeSpec := { name := "monitorNumbers", fn := fun _ => fun
  | [] => { results := [.lit (.bool false)], args := [] }
  | _ => none }
def MonitorNumbersWrongFalsely : Prop := monitorNumbersRow.holds Try.pinned (OpenSpec.ofChange monitorNumbersWrong)

/-- 'cloisterlaw32.ObjectNumbers': WHATEVER THE INPUT: true; the input reads as it did. -/
def objectNumbersSpec : ChangeSpec := { name := "objectNumbers", fn := fun _ => fun
  | [] => { results := [.lit (.bool true)], args := [] }
  | _ => none }
def objectNumbersRow : OpenClaim := { program := "yticjhghdbfdhaaa", sum := "4cc5bf7d616fe3817ff0fe90bf48d6168c2bb61b717612f12ca394b3664ab9ee", func := "cloister/cloisterlaw32.ObjectNumbers", spec := "objectNumbers", apart := false }
def ObjectNumbersSaid : Prop := objectNumbersRow.holds Try.pinned (OpenSpec.ofChange objectNumbersSpec)

/-- ITS FALSE NEIGHBOUR: 'it returns false'. Refute it at one input. -/
def objectNumbersWrong : ChangeSpec := { name := "objectNumbers", fn := fun _ => fun
  | [] => { results := [.lit (.bool false)], args := [] }
  | _ => none }
def ObjectNumbersWrongFalsely : Prop := objectNumbersRow.holds Try.pinned (OpenSpec.ofChange objectNumbersWrong)

/-- 'cloisterlaw33.WorstNumbers': WHATEVER THE INPUT: true; the input reads as it did. -/
def worstNumbersSpec : ChangeSpec := { name := "worstNumbers", fn := fun _ => fun
  | [] => { results := [.lit (.bool true)], args := [] }
  | _ => none }
def worstNumbersRow : OpenClaim := { program := "yticjhghdbfdhaaa", sum := "4cc5bf7d616fe3817ff0fe90bf48d6168c2bb61b717612f12ca394b3664ab9ee", func := "cloister/cloisterlaw33.WorstNumbers", spec := "worstNumbers", apart := false }
def WorstNumbersSaid : Prop := worstNumbersRow.holds Try.pinned (OpenSpec.ofChange worstNumbersSpec)

/-- ITS FALSE NEIGHBOUR: 'it returns false'. Refute it at one input. -/
def worstNumbersWrong : ChangeSpec := { name := "worstNumbers", fn := fun _ => fun
  | [] => { results := [.lit (.bool false)], args := [] }
  | _ => none }
def WorstNumbersWrongFalsely : Prop := worstNumbersRow.holds Try.pinned (OpenSpec.ofChange worstNumbersWrong)

/-- 'cloisterlaw12.CoreNumbers': WHATEVER THE INPUT: true; the input reads as it did. -/
def coreNumbersSpec : ChangeSpec := { name := "coreNumbers", fn := fun _ => fun
  | [] => { results := [.lit (.bool true)], args := [] }
  | _ => none }
def coreNumbersRow : OpenClaim := { program := "yticjhghdbfdhaaa", sum := "4cc5bf7d616fe3817ff0fe90bf48d6168c2bb61b717612f12ca394b3664ab9ee", func := "cloister/cloisterlaw12.CoreNumbers", spec := "coreNumbers", apart := false }
def CoreNumbersSaid : Prop := coreNumbersRow.holds Try.pinned (OpenSpec.ofChange coreNumbersSpec)

/-- ITS FALSE NEIGHBOUR: 'it returns false'. Refute it at one input. -/
def coreNumbersWrong : ChangeSpec := { name := "coreNumbers", fn := fun _ => fun
  | [] => { results := [.lit (.bool false)], args := [] }
  | _ => none }
def CoreNumbersWrongFalsely : Prop := coreNumbersRow.holds Try.pinned (OpenSpec.ofChange coreNumbersWrong)

/- THE SECOND FORM. 'bulk': how many values and letters a reading holds, each counted each time it is reached (what is shared counts as often as it is met; a slice's spare places count too). A statement '..UptoSaid' is the law's where the arguments, and the package variables that the reading takes, are together of bulk at most 1048576: NARROWER than '..Said'. Prove '..Said' where nothing that the law and all that it calls make is longer than what came in: it says more and counts as full. Else prove '..UptoSaid'. A law counts once. -/
mutual
def uptoBulk {H : Type} : DataW H → Nat
  | .lit (.string bytes) => bytes.length + 1
  | .lit _ => 1
  | .nil => 1
  | .ptr d => uptoBulk d + 1
  | .slice elems spare => uptoBulkAll elems + uptoBulkAll spare + 1
  | .agg parts => uptoBulkAll parts + 1
  | .iface _ d => uptoBulk d + 1
  | .map entries => uptoBulkEntries entries + 1
  | .held _ => 1
def uptoBulkAll {H : Type} : List (DataW H) → Nat
  | [] => 0
  | d :: r => uptoBulk d + uptoBulkAll r
def uptoBulkEntries {H : Type} : List (Lit × DataW H) → Nat
  | [] => 0
  | x :: r => uptoBulkEntry x + uptoBulkEntries r
def uptoBulkEntry {H : Type} : Lit × DataW H → Nat
  | (.string bytes, d) => bytes.length + uptoBulk d + 1
  | (_, d) => uptoBulk d + 1
 end
def uptoSmall : (H : Type) → List (DataW H) → Bool := fun _ ds => decide (uptoBulkAll ds ≤ 1048576)
def OpenSpec.upto (s : _root_.Go.ChangeSpec) : _root_.Go.OpenSpec := { _root_.Go.OpenSpec.ofChange s with cond := some uptoSmall }

/-- 'cloisterlaw3.CacheNumbers', WHERE WHAT IT READS IS OF BULK AT MOST 1048576: true; the input reads as it did. -/
def cacheNumbersUptoRow : OpenClaim := { program := "yticjhghdbfdhaaa", sum := "4cc5bf7d616fe3817ff0fe90bf48d6168c2bb61b717612f12ca394b3664ab9ee", func := "cloister/cloisterlaw3.CacheNumbers", spec := "cacheNumbers", apart := false, narrowed := true }
def CacheNumbersUptoSaid : Prop := cacheNumbersUptoRow.holds Try.pinned (OpenSpec.upto cacheNumbersSpec)

/-- 'cloisterlaw9.GicNumbers', WHERE WHAT IT READS IS OF BULK AT MOST 1048576: true; the input reads as it did. -/
def gicNumbersUptoRow : OpenClaim := { program := "yticjhghdbfdhaaa", sum := "4cc5bf7d616fe3817ff0fe90bf48d6168c2bb61b717612f12ca394b3664ab9ee", func := "cloister/cloisterlaw9.GicNumbers", spec := "gicNumbers", apart := false, narrowed := true }
def GicNumbersUptoSaid : Prop := gicNumbersUptoRow.holds Try.pinned (OpenSpec.upto gicNumbersSpec)

/-- 'cloisterlaw28.MeanNumbers', WHERE WHAT IT READS IS OF BULK AT MOST 1048576: true; the input reads as it did. -/
def meanNumbersUptoRow : OpenClaim := { program := "yticjhghdbfdhaaa", sum := "4cc5bf7d616fe3817ff0fe90bf48d6168c2bb61b717612f12ca394b3664ab9ee", func := "cloister/cloisterlaw28.MeanNumbers", spec := "meanNumbers", apart := false, narrowed := true }
def MeanNumbersUptoSaid : Prop := meanNumbersUptoRow.holds Try.pinned (OpenSpec.upto meanNumbersSpec)

/-- 'cloisterlaw29.FlowNumbers', WHERE WHAT IT READS IS OF BULK AT MOST 1048576: true; the input reads as it did. -/
def flowNumbersUptoRow : OpenClaim := { program := "yticjhghdbfdhaaa", sum := "4cc5bf7d616fe3817ff0fe90bf48d6168c2bb61b717612f12ca394b3664ab9ee", func := "cloister/cloisterlaw29.FlowNumbers", spec := "flowNumbers", apart := false, narrowed := true }
def FlowNumbersUptoSaid : Prop := flowNumbersUptoRow.holds Try.pinned (OpenSpec.upto flowNumbersSpec)

/-- 'cloisterlaw8.MMUNumbers', WHERE WHAT IT READS IS OF BULK AT MOST 1048576: true; the input reads as it did. -/
def mMUNumbersUptoRow : OpenClaim := { program := "yticjhghdbfdhaaa", sum := "4cc5bf7d616fe3817ff0fe90bf48d6168c2bb61b717612f12ca394b3664ab9ee", func := "cloister/cloisterlaw8.MMUNumbers", spec := "mMUNumbers", apart := false, narrowed := true }
def MMUNumbersUptoSaid : Prop := mMUNumbersUptoRow.holds Try.pinned (OpenSpec.upto mMUNumbersSpec)

/-- 'cloisterlaw35.TaleNumbers', WHERE WHAT IT READS IS OF BULK AT MOST 1048576: true; the input reads as it did. -/
def taleNumbersUptoRow : OpenClaim := { program := "yticjhghdbfdhaaa", sum := "4cc5bf7d616fe3817ff0fe90bf48d6168c2bb61b717612f12ca394b3664ab9ee", func := "cloister/cloisterlaw35.TaleNumbers", spec := "taleNumbers", apart := false, narrowed := true }
def TaleNumbersUptoSaid : Prop := taleNumbersUptoRow.holds Try.pinned (OpenSpec.upto taleNumbersSpec)

/-- 'cloisterlaw20.HyperNumbers', WHERE WHAT IT READS IS OF BULK AT MOST 1048576: true; the input reads as it did. -/
def hyperNumbersUptoRow : OpenClaim := { program := "yticjhghdbfdhaaa", sum := "4cc5bf7d616fe3817ff0fe90bf48d6168c2bb61b717612f12ca394b3664ab9ee", func := "cloister/cloisterlaw20.HyperNumbers", spec := "hyperNumbers", apart := false, narrowed := true }
def HyperNumbersUptoSaid : Prop := hyperNumbersUptoRow.holds Try.pinned (OpenSpec.upto hyperNumbersSpec)

/-- 'cloisterlaw21.MonitorNumbers', WHERE WHAT IT READS IS OF BULK AT MOST 1048576: true; the input reads as it did. -/
def monitorNumbersUptoRow : OpenClaim := { program := "yticjhghdbfdhaaa", sum := "4cc5bf7d616fe3817ff0fe90bf48d6168c2bb61b717612f12ca394b3664ab9ee", func := "cloister/cloisterlaw21.MonitorNumbers", spec := "monitorNumbers", apart := false, narrowed := true }
def MonitorNumbersUptoSaid : Prop := monitorNumbersUptoRow.holds Try.pinned (OpenSpec.upto monitorNumbersSpec)

/-- 'cloisterlaw32.ObjectNumbers', WHERE WHAT IT READS IS OF BULK AT MOST 1048576: true; the input reads as it did. -/
def objectNumbersUptoRow : OpenClaim := { program := "yticjhghdbfdhaaa", sum := "4cc5bf7d616fe3817ff0fe90bf48d6168c2bb61b717612f12ca394b3664ab9ee", func := "cloister/cloisterlaw32.ObjectNumbers", spec := "objectNumbers", apart := false, narrowed := true }
def ObjectNumbersUptoSaid : Prop := objectNumbersUptoRow.holds Try.pinned (OpenSpec.upto objectNumbersSpec)

/-- 'cloisterlaw33.WorstNumbers', WHERE WHAT IT READS IS OF BULK AT MOST 1048576: true; the input reads as it did. -/
def worstNumbersUptoRow : OpenClaim := { program := "yticjhghdbfdhaaa", sum := "4cc5bf7d616fe3817ff0fe90bf48d6168c2bb61b717612f12ca394b3664ab9ee", func := "cloister/cloisterlaw33.WorstNumbers", spec := "worstNumbers", apart := false, narrowed := true }
def WorstNumbersUptoSaid : Prop := worstNumbersUptoRow.holds Try.pinned (OpenSpec.upto worstNumbersSpec)

/-- 'cloisterlaw12.CoreNumbers', WHERE WHAT IT READS IS OF BULK AT MOST 1048576: true; the input reads as it did. -/
def coreNumbersUptoRow : OpenClaim := { program := "yticjhghdbfdhaaa", sum := "4cc5bf7d616fe3817ff0fe90bf48d6168c2bb61b717612f12ca394b3664ab9ee", func := "cloister/cloisterlaw12.CoreNumbers", spec := "coreNumbers", apart := false, narrowed := true }
def CoreNumbersUptoSaid : Prop := coreNumbersUptoRow.holds Try.pinned (OpenSpec.upto coreNumbersSpec)

end Rows
end Go.Proofs.Yticjhghdbfdhaaa
