/- What the rows of this seat share: an entry read out of the arguments; the library's variables out of the row's condition; the witness' start. No statement of the seat is proved here. -/
import Derived.Test.YthppjmlcehjjlaaDoorRows
import Derived.Test.YthppjmlcehjjlaaDoorTie
import Derived.Test.YthppjmlcehjjlaaDoorCards
import Derived.Test.YthppjmlcehjjlaaDoorBase
import Derived.ProofKit
import Derived.LaidMore
import Derived.LaidLaws
import Derived.OpenShut
import Derived.Stop.Joined
import Derived.Stop.LaidErr
import Derived.SizedLaws
import Derived.SevenTiedAt
import Derived.Lib.LaidTab
import Derived.Deep.Slices
namespace Go.Proofs.YthppjmlcehjjlaaDoor.En
open Go.ChangeShapes Go.WideShapes Go.ChangeAt Go.RowKit
set_option linter.unusedVariables false
set_option linter.unusedSimpArgs false

theorem ownKnobNone : ownKnob Tryd.prog.godebug = none := by kernel_rfl
def laid5 : List (String × DataW Unit) := [("math/bits.deBruijn32tab", Rows.laid_math_bits_deBruijn32tab), ("math/bits.deBruijn64tab", Rows.laid_math_bits_deBruijn64tab), ("internal/strconv.uint64pow10", Rows.laid_internal_strconv_uint64pow10), ("strconv.ErrRange", Rows.laid_strconv_ErrRange), ("strconv.ErrSyntax", Rows.laid_strconv_ErrSyntax)]
theorem gTab : Tryd.prog.globalNamed "math/bits.deBruijn64tab" = some 5 := by kernel_rfl
theorem tTab : (Tryd.prog.globals[5]?).map (·.type) = some 102 := by kernel_rfl
theorem gES : Tryd.prog.globalNamed "strconv.ErrSyntax" = some 1 := by kernel_rfl
theorem tES : (Tryd.prog.globals[1]?).map (·.type) = some 46 := by kernel_rfl
theorem gER : Tryd.prog.globalNamed "strconv.ErrRange" = some 2 := by kernel_rfl
theorem tER : (Tryd.prog.globals[2]?).map (·.type) = some 46 := by kernel_rfl
theorem cells102 : Tryd.prog.cellsOf 98 = 1 := by kernel_rfl
theorem cells9 : Tryd.prog.cellsOf 9 = 1 := by kernel_rfl
theorem star : "*" ++ "errors.errorString" = "*errors.errorString" := by decide
theorem row100 (u : TypeId) (h : Tryd.prog.typeName? 3 u = some "*errors.errorString") : u = 96 :=
  typeName_ptr_named (nm := "errors.errorString") (by rw [star]; kernel_rfl) (by kernel_rfl) (by decide) u (by rw [star]; exact h)
theorem door_met (os : Os) (args : Array Value) : laidMetH Tryd.prog laid5 ((World.doorLaid Tryd.prog 400 os).forCall (fun _ _ => 0) ⟨#[], args, []⟩).memory :=
  laidMetH_of_parts3 (fuel := 8) (laidMet_of_run' 8 (by kernel_rfl) (by kernel_rfl)) (by kernel_rfl) (by kernel_rfl)
theorem laidMet_tail {P : Program} {x : String × DataW Unit} {rest : List (String × DataW Unit)} {W : World} (h : laidMet P (x :: rest) W) : laidMet P rest W := by
  obtain ⟨ps, ⟨g, t, cs, fuel, p, q, h1, h2, h3, h4, h5, h6⟩, hn, hc⟩ := h
  subst h6
  exact ⟨q, h5, (List.nodup_append.1 hn).2.1, fun b off hm => hc b off (List.mem_append_right _ hm)⟩
theorem lb_of_laid {W : World} (h : laidMetH Tryd.prog laid5 W) : Lb W := by
  rw [MakeChecks.laidMetH_plain _ _ _ (by kernel_rfl)] at h
  have h1 := laidMet_tail h
  have h3 := laidMet_tail (laidMet_tail h1)
  have hT := Lib.tabIs_of_head (k := .u8) (zs := Lib.deBruijn64tab.map fun (n : Nat) => (n : Int)) gTab tTab Tryd.underlying102 Tryd.underlying5 (by kernel_rfl) (by kernel_rfl) h1
  obtain ⟨a0, s0, hv0, -, -, -⟩ := laid_sentinel h3 gER tER Tryd.underlying46 row100 Tryd.underlying96 Tryd.underlying98 rfl rfl Tryd.underlying9 cells102 cells9
  obtain ⟨a1, s1, hv1, -, -, -⟩ := laid_sentinel (laidMet_tail h3) gES tES Tryd.underlying46 row100 Tryd.underlying96 Tryd.underlying98 rfl rfl Tryd.underlying9 cells102 cells9
  refine ⟨fun i hi => ?_, ⟨_, _, by have h0 := World.var?_cell gES hv1 0; simpa using h0⟩, ⟨_, _, by have h0 := World.var?_cell gER hv0 0; simpa using h0⟩⟩
  have := hT.cell gTab i (by simpa [Lib.deBruijn64tab] using hi)
  rw [this]
  simp [List.getD_eq_getElem?_getD, List.getElem?_map]
  cases h : Lib.deBruijn64tab[i]? <;> rfl

theorem laidOut : laidOutB Tryd.prog = true := by kernel_rfl
theorem wf_i64 {n : Int} (h : (Lit.int .i64 n).wf = true) : -9223372036854775808 ≤ n ∧ n ≤ 9223372036854775807 := by
  simpa [Lit.wf, IntKind.min, IntKind.max, IntKind.signed, IntKind.bits] using h
theorem wf_u32 {n : Int} (h : (Lit.int .u32 n).wf = true) : ∃ m : Nat, n = m ∧ m < 4294967296 := by
  have h2 : 0 ≤ n ∧ n ≤ 4294967295 := by simpa [Lit.wf, IntKind.min, IntKind.max, IntKind.signed, IntKind.bits] using h
  obtain ⟨m, rfl⟩ := Int.eq_ofNat_of_zero_le h2.1
  exact ⟨m, rfl, by omega⟩
theorem wf_u8 {n : Int} (h : (Lit.int .u8 n).wf = true) : ∃ m : Nat, n = m ∧ m < 256 := by
  have h2 : 0 ≤ n ∧ n ≤ 255 := by simpa [Lit.wf, IntKind.min, IntKind.max, IntKind.signed, IntKind.bits] using h
  obtain ⟨m, rfl⟩ := Int.eq_ofNat_of_zero_le h2.1
  exact ⟨m, rfl, by omega⟩
theorem c22 : Tryd.prog.cellsOf 24 = 1 := by kernel_rfl
theorem c23 : Tryd.prog.cellsOf 25 = 1 := by kernel_rfl
theorem c24 : Tryd.prog.cellsOf 22 = 1 := by kernel_rfl
theorem c26 : Tryd.prog.cellsOf 27 = 3 := by kernel_rfl
section
variable {H : Type} {enc : TypeId × Value → H} {W : World} {base : Nat} {spare : Nat → Bool} {held : Bool}
theorem ent_at {v : Value} {d : DataW H} {ps : List MemPlace} (h : DataW.Trod enc Tryd.prog W base spare held 27 v d ps) :
    ∃ (k : Int) (p f : Nat), v = .agg #[.int .i64 k, .int .u8 p, .int .u32 f] ∧ p < 256 ∧ f < 4294967296 ∧ -9223372036854775808 ≤ k ∧ k ≤ 9223372036854775807 := by
  obtain ⟨fuel, hf⟩ := h
  obtain ⟨xs, n, _, hx, hl, hn, hf2⟩ := DataW.trod_struct Tryd.underlying27 hf
  rw [c26] at hl
  have hn3 : xs.length = 3 := hn
  have h0 : DataW.trod enc Tryd.prog W base spare held n 24 ((v.cells.toList.drop 0).take (Tryd.prog.cellsOf 24)) = xs[0]? := hf2 0 _ rfl
  have h1 : DataW.trod enc Tryd.prog W base spare held n 25 ((v.cells.toList.drop 1).take (Tryd.prog.cellsOf 25)) = xs[1]? := hf2 1 _ rfl
  have h2 : DataW.trod enc Tryd.prog W base spare held n 22 ((v.cells.toList.drop 2).take (Tryd.prog.cellsOf 22)) = xs[2]? := hf2 2 _ rfl
  rw [c22] at h0
  rw [c23] at h1
  rw [c24] at h2
  match xs, hn3 with
  | [x0, x1, x2], _ =>
    obtain ⟨k, e0, _, k0⟩ := DataW.trod_int Tryd.underlying24 (show DataW.trod enc Tryd.prog W base spare held n 24 _ = some x0 from h0)
    obtain ⟨p, e1, _, k1⟩ := DataW.trod_int Tryd.underlying25 (show DataW.trod enc Tryd.prog W base spare held n 25 _ = some x1 from h1)
    obtain ⟨f, e2, _, k2⟩ := DataW.trod_int Tryd.underlying22 (show DataW.trod enc Tryd.prog W base spare held n 22 _ = some x2 from h2)
    obtain ⟨p', rfl, hp⟩ := wf_u8 k1
    obtain ⟨f', rfl, hf'⟩ := wf_u32 k2
    refine ⟨k, p', f', ?_, hp, hf', wf_i64 k0⟩
    cases v with
    | agg cs =>
      have hcs : cs.toList.length = 3 := hl
      match hq : cs.toList, hcs with
      | [a, b, c], _ =>
        have hv : (Value.agg cs).cells.toList = [a, b, c] := hq
        rw [hv] at e0 e1 e2
        simp at e0 e1 e2
        subst e0 e1 e2
        rw [← hq]
    | _ => simp [Value.cells] at hl
end
end Go.Proofs.YthppjmlcehjjlaaDoor.En
