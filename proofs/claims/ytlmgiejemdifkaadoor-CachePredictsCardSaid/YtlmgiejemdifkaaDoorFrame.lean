/- What the rows of this seat share: shapes and uses read out of the arguments; the library's table out of the row's condition; the witness' start. No statement of the seat is proved here. -/
import Derived.Test.YtlmgiejemdifkaaDoorRows
import Derived.Test.YtlmgiejemdifkaaDoorTie
import Derived.Test.YtlmgiejemdifkaaDoorCards
import Derived.Test.YtlmgiejemdifkaaDoorUses
import Derived.Test.YtlmgiejemdifkaaDoorShape
import Derived.ProofKit
import Derived.LaidMore
import Derived.OpenShut
import Derived.Stop.Joined
import Derived.SizedLaws
import Derived.SevenTiedAt
import Derived.Lib.LaidTab
import Derived.Deep.Slices
namespace Go.Proofs.YtlmgiejemdifkaaDoor.Ca
open Go.ChangeShapes Go.WideShapes Go.ChangeAt Go.RowKit
set_option linter.unusedVariables false
set_option linter.unusedSimpArgs false

theorem ownKnobNone : ownKnob Tryd.prog.godebug = none := by kernel_rfl
def laid1 : List (String × DataW Unit) := [("math/bits.deBruijn32tab", Rows.laid_math_bits_deBruijn32tab), ("math/bits.deBruijn64tab", Rows.laid_math_bits_deBruijn64tab)]
theorem gTab : Tryd.prog.globalNamed "math/bits.deBruijn64tab" = some 1 := by kernel_rfl
theorem tTab : (Tryd.prog.globals[1]?).map (·.type) = some 122 := by kernel_rfl
theorem door_met (os : Os) (args : Array Value) : laidMetH Tryd.prog laid1 ((World.doorLaid Tryd.prog 400 os).forCall (fun _ _ => 0) ⟨#[], args, []⟩).memory :=
  laidMetH_of_parts3 (fuel := 8) (laidMet_of_run' 8 (by kernel_rfl) (by kernel_rfl)) (by kernel_rfl) (by kernel_rfl)
theorem laidMet_tail {P : Program} {x : String × DataW Unit} {rest : List (String × DataW Unit)} {W : World} (h : laidMet P (x :: rest) W) : laidMet P rest W := by
  obtain ⟨ps, ⟨g, t, cs, fuel, p, q, h1, h2, h3, h4, h5, h6⟩, hn, hc⟩ := h
  subst h6
  exact ⟨q, h5, (List.nodup_append.1 hn).2.1, fun b off hm => hc b off (List.mem_append_right _ hm)⟩
theorem tab_of_laid {W : World} (h : laidMetH Tryd.prog laid1 W) : TabAt W := by
  rw [MakeChecks.laidMetH_plain _ _ _ (by kernel_rfl)] at h
  have hT := Lib.tabIs_of_head (k := .u8) (zs := Lib.deBruijn64tab.map fun (n : Nat) => (n : Int)) gTab tTab Tryd.underlying122 Tryd.underlying5 (by kernel_rfl) (by kernel_rfl) (laidMet_tail h)
  intro i hi
  have := hT.cell gTab i (by simpa [Lib.deBruijn64tab] using hi)
  rw [this]
  simp [List.getD_eq_getElem?_getD, List.getElem?_map]
  cases h : Lib.deBruijn64tab[i]? <;> rfl

/-- Fits in 32 bits. -/
def u32ok (n : Nat) : Prop := n < 4294967296
theorem laidOut : laidOutB Tryd.prog = true := by kernel_rfl
theorem wf_i64 {n : Int} (h : (Lit.int .i64 n).wf = true) : -9223372036854775808 ≤ n ∧ n ≤ 9223372036854775807 := by
  simpa [Lit.wf, IntKind.min, IntKind.max, IntKind.signed, IntKind.bits] using h
theorem c3 : Tryd.prog.cellsOf 3 = 1 := by kernel_rfl
theorem c4 : Tryd.prog.cellsOf 4 = 1 := by kernel_rfl
theorem c34 : Tryd.prog.cellsOf 34 = 1 := by kernel_rfl
theorem c23 : Tryd.prog.cellsOf 23 = 3 := by kernel_rfl
theorem c36 : Tryd.prog.cellsOf 36 = 2 := by kernel_rfl
section
variable {H : Type} {enc : TypeId × Value → H} {W : World} {base : Nat} {spare : Nat → Bool} {held : Bool}
theorem int_at {fuel : Nat} {cs : List Value} {x : DataW H × List MemPlace} (h : DataW.trod enc Tryd.prog W base spare held fuel 3 cs = some x) : ∃ n, cs = [.int .i64 n] ∧ -9223372036854775808 ≤ n ∧ n ≤ 9223372036854775807 := by
  obtain ⟨n, rfl, _, hw⟩ := DataW.trod_int Tryd.underlying3 h
  exact ⟨n, rfl, wf_i64 hw⟩
theorem bool_at {fuel : Nat} {cs : List Value} {x : DataW H × List MemPlace} (h : DataW.trod enc Tryd.prog W base spare held fuel 4 cs = some x) : ∃ b, cs = [.bool b] := by
  obtain ⟨b, rfl, _⟩ := DataW.trod_bool Tryd.underlying4 h
  exact ⟨b, rfl⟩
theorem u32_at {fuel : Nat} {cs : List Value} {x : DataW H × List MemPlace} (h : DataW.trod enc Tryd.prog W base spare held fuel 34 cs = some x) : ∃ n : Nat, cs = [.int .u32 n] ∧ u32ok n := by
  obtain ⟨n, rfl, _, hw⟩ := DataW.trod_int Tryd.underlying34 h
  have : 0 ≤ n ∧ n ≤ 4294967295 := by simpa [Lit.wf, IntKind.min, IntKind.max, IntKind.signed, IntKind.bits] using hw
  obtain ⟨m, rfl⟩ := Int.eq_ofNat_of_zero_le this.1
  exact ⟨m, rfl, show m < 4294967296 by omega⟩
theorem shape_at {v : Value} {d : DataW H} {ps : List MemPlace} (h : DataW.Trod enc Tryd.prog W base spare held 23 v d ps) :
    ∃ S W' L, v = .agg #[.int .i64 S, .int .i64 W', .int .i64 L] ∧ i64ok S ∧ i64ok W' ∧ i64ok L := by
  obtain ⟨fuel, hf⟩ := h
  obtain ⟨xs, n, _, hx, hl, hn, hf2⟩ := DataW.trod_struct Tryd.underlying23 hf
  rw [c23] at hl
  have hn3 : xs.length = 3 := hn
  have h0 : DataW.trod enc Tryd.prog W base spare held n 3 ((v.cells.toList.drop 0).take (Tryd.prog.cellsOf 3)) = xs[0]? := hf2 0 _ rfl
  have h1 : DataW.trod enc Tryd.prog W base spare held n 3 ((v.cells.toList.drop 1).take (Tryd.prog.cellsOf 3)) = xs[1]? := hf2 1 _ rfl
  have h2 : DataW.trod enc Tryd.prog W base spare held n 3 ((v.cells.toList.drop 2).take (Tryd.prog.cellsOf 3)) = xs[2]? := hf2 2 _ rfl
  rw [c3] at h0 h1 h2
  match xs, hn3 with
  | [x0, x1, x2], _ =>
    obtain ⟨S, e0, k0⟩ := int_at h0
    obtain ⟨W', e1, k1⟩ := int_at h1
    obtain ⟨L, e2, k2⟩ := int_at h2
    refine ⟨S, W', L, ?_, k0, k1, k2⟩
    cases v with
    | agg cs =>
      have hcs : cs.toList.length = 3 := hl
      match hq : cs.toList, hcs with
      | [a, b, c], _ =>
        have hv : (Value.agg cs).cells.toList = [a, b, c] := hq
        rw [hv] at e0 e1 e2
        simp at e0 e1 e2
        subst e0 e1 e2
        rw [← hq]
    | _ => simp [Value.cells] at hl
set_option maxRecDepth 20000 in
theorem use_at {fuel : Nat} {cs : List Value} {x : DataW H × List MemPlace} (h : DataW.trod enc Tryd.prog W base spare held fuel 36 cs = some x) : ∃ u : Us, cs = [.int .u32 u.1, .bool u.2] ∧ u32ok u.1 := by
  obtain ⟨ys, n, _, hx, hl, hn, hf⟩ := DataW.trod_struct Tryd.underlying36 h
  rw [c36] at hl
  have hn2 : ys.length = 2 := hn
  have h0 : DataW.trod enc Tryd.prog W base spare held n 34 ((cs.drop 0).take (Tryd.prog.cellsOf 34)) = ys[0]? := hf 0 _ rfl
  have h1 : DataW.trod enc Tryd.prog W base spare held n 4 ((cs.drop 1).take (Tryd.prog.cellsOf 4)) = ys[1]? := hf 1 _ rfl
  rw [c34] at h0
  rw [c4] at h1
  match ys, hn2 with
  | [y0, y1], _ =>
    obtain ⟨a, e0, ha⟩ := u32_at h0
    obtain ⟨b, e1⟩ := bool_at h1
    refine ⟨(a, b), ?_, ha⟩
    match cs, hl with
    | [c0, c1], _ =>
      simp at e0 e1
      subst e0 e1
      rfl
set_option maxRecDepth 20000 in
theorem uses_open {base' : Nat} {v : Value} {d : DataW H} {ps : List MemPlace} {ts : List TypeId} {ds : List (DataW H)} {j : Nat}
    (hval : Value.okWide Tryd.prog W .any base 24 v) (hsz : (DataW.weightsEach Tryd.prog ts ds).all (· ≤ reachBytes) = true) (ht : ts[j]? = some 24) (hd : ds[j]? = some d)
    (h : DataW.Trod enc Tryd.prog W base' spare held 24 v d ps) : ∃ us, Ru W v us := by
  obtain ⟨a, len, cap, rfl⟩ := okWide_slice Tryd.underlying24 hval
  obtain ⟨fuel, hf⟩ := h
  rcases Go.Deep.open_slice Tryd.underlying24 hf with ⟨hcs, _⟩ | ⟨x, l, c, m, n, D, Pl, hcs, hb, hl, hm, hmm, hx, hel⟩
  · simp [Value.cells] at hcs
    obtain ⟨rfl, rfl, rfl⟩ := hcs
    exact ⟨[], ⟨_, _, rfl, fun h => absurd h (by simp)⟩, by simp, fun j => by simp [unth]⟩
  · simp [Value.cells] at hcs
    obtain ⟨rfl, rfl, rfl⟩ := hcs
    obtain ⟨hx, _⟩ := Prod.mk.inj hx
    subst hx
    have z := sized_slice hsz ht hd Tryd.underlying24
    have hby : 8 ≤ Tryd.prog.bytesOf 36 := of_decide_eq_true (by kernel_rfl)
    have hle : len ≤ m := by rw [hmm]; split <;> omega
    have each : ∀ i, i < len → ∃ u : Us, W.cells? base' (x.add (i * 2)) 2 = some [.int .u32 u.1, .bool u.2] ∧ u32ok u.1 := by
      intro i hi
      obtain ⟨cs', h1, h2⟩ := hel i (by omega)
      rw [c36] at h1
      obtain ⟨u, rfl, hu⟩ := use_at h2
      exact ⟨u, h1, hu⟩
    obtain ⟨f, hf2⟩ := Go.Deep.choose_lt each
    have hdth : ∀ k, k < len → unth ((List.range len).map f) k = f k := by
      intro k hk
      simp [unth, hk]
    refine ⟨(List.range len).map f, ⟨some x, cap, by simp, fun h0 => ?_⟩, ?_, fun k => ?_⟩
    · have hlen : 0 < len := by simpa using h0
      have hspot : x = ⟨x.block, x.off, none⟩ := by
        obtain ⟨hb0, hl0, hc0⟩ := World.cells?_some (hf2 0 hlen).1
        have := hc0 0 (by omega)
        rw [show x.add (0 * 2) = x by simp [Addr.add], show x.add 0 = x by simp [Addr.add]] at this
        unfold World.cell? at this
        split at this
        · split at this
          · simp at this
          · rename_i hq
            cases x with | mk b o s => cases s <;> simp_all
        · simp at this
      refine ⟨x.block, x.off, by rw [← hspot], fun k hk => ?_⟩
      have hk' : k < len := by simpa using hk
      rw [hdth k hk']
      obtain ⟨_, hl0, hc0⟩ := World.cells?_some (hf2 k hk').1
      have a0 := hc0 0 (by omega)
      have a1 := hc0 1 (by omega)
      rw [hspot, Addr.add_mid, Addr.add_mid] at a0 a1
      exact ⟨a0, a1⟩
    · have : ((List.range len).map D).length = len := by simp
      have z2 : len * Tryd.prog.bytesOf 36 ≤ reachBytes := by
        refine Nat.le_trans (Nat.mul_le_mul_right _ ?_) z
        omega
      have z3 : len * 8 ≤ len * Tryd.prog.bytesOf 36 := Nat.mul_le_mul_left _ hby
      simp only [List.length_map, List.length_range, reachBytes] at *
      omega
    · by_cases hk : k < len
      · rw [hdth k hk]; exact (hf2 k hk).2
      · have : unth ((List.range len).map f) k = (0, false) := by simp [unth, hk]
        rw [this]; decide
end
end Go.Proofs.YtlmgiejemdifkaaDoor.Ca
