/- What the rows of this seat share: arguments read out of the row's condition. No statement of the seat is proved here. -/
import Derived.Test.YtfoofipkbijajaaRows
import Derived.Test.YtfoofipkbijajaaBase
import Derived.ProofKit
import Derived.OpenShut
import Derived.Stop.Joined
import Derived.SizedLaws
import Derived.Deep.Slices
namespace Go.Proofs.Ytfoofipkbijajaa.Sa
open Go.ChangeShapes Go.WideShapes Go.ChangeAt Go.RowKit
set_option linter.unusedVariables false
set_option linter.unusedSimpArgs false

theorem ownKnobNone : ownKnob Try.prog.godebug = none := by kernel_rfl
theorem laidOut : laidOutB Try.prog = true := by kernel_rfl
theorem c3 : Try.prog.cellsOf 3 = 1 := by kernel_rfl
theorem c22 : Try.prog.cellsOf 22 = 1 := by kernel_rfl
theorem c24 : Try.prog.cellsOf 24 = 3 := by kernel_rfl
theorem wf_i64 {n : Int} (h : (Lit.int .i64 n).wf = true) : -9223372036854775808 ≤ n ∧ n ≤ 9223372036854775807 := by
  simpa [Lit.wf, IntKind.min, IntKind.max, IntKind.signed, IntKind.bits] using h
section
variable {H : Type} {enc : TypeId × Value → H} {W : World} {base : Nat} {spare : Nat → Bool} {held : Bool}
theorem int_at {fuel : Nat} {cs : List Value} {x : DataW H × List MemPlace} (h : DataW.trod enc Try.prog W base spare held fuel 3 cs = some x) : ∃ n, cs = [.int .i64 n] ∧ -9223372036854775808 ≤ n ∧ n ≤ 9223372036854775807 := by
  obtain ⟨n, rfl, _, hw⟩ := DataW.trod_int Try.underlying3 h
  exact ⟨n, rfl, wf_i64 hw⟩
theorem ints_at {fuel : Nat} {cs : List Value} {x : DataW H × List MemPlace} (h : DataW.trod enc Try.prog W base spare held fuel 22 cs = some x)
    {ts : List TypeId} {ds : List (DataW H)} {j : Nat} (hsz : (DataW.weightsEach Try.prog ts ds).all (· ≤ reachBytes) = true) (ht : ts[j]? = some 22) (hd : ds[j]? = some x.1) :
    ∃ v xs, cs = [v] ∧ Ri W v xs := by
  rcases open_ints Try.underlying22 Try.underlying3 (by kernel_rfl) h with ⟨hcs, _⟩ | ⟨a, len, cap, zs, hcs, _, hl, hm, hz, hx, hcell, hwz⟩
  · exact ⟨_, [], hcs, Sl.nil W⟩
  · rw [hx] at hd
    have z := sized_slice hsz ht hd Try.underlying22
    rw [show Try.prog.bytesOf 3 = 8 by kernel_rfl] at z
    have hl2 : len ≤ zs.length := by
      rw [hz]; split
      · exact hl
      · exact Nat.le_refl _
    have e : (zs.take len).length = len := by simp; omega
    refine ⟨_, zs.take len, hcs, ⟨some a, cap, by rw [e], by omega, fun h0 => ?_⟩, ?_⟩
    · rw [e] at h0
      have hspot : a = ⟨a.block, a.off, none⟩ := by
        have := hcell 0 (by omega)
        rw [show a.add 0 = a by simp [Addr.add]] at this
        unfold World.cell? at this
        split at this
        · split at this
          · cases this
          · rename_i hq
            cases a with | mk b o s => cases s <;> simp_all
        · cases this
      refine ⟨a.block, a.off, by rw [← hspot], fun j hj => ?_⟩
      rw [e] at hj
      have := hcell j (by omega)
      rw [hspot, Addr.add_mid] at this
      rw [this]
      simp [nth, hj]
    · rw [e]
      simp only [lits, List.length_map, List.length_take, List.length_drop, reachBytes] at z
      omega
theorem sample_at {v : Value} {d : DataW H} {ps : List MemPlace} (h : DataW.Trod enc Try.prog W base spare held 24 v d ps)
    {ts : List TypeId} {ds : List (DataW H)} {j : Nat} (hsz : (DataW.weightsEach Try.prog ts ds).all (· ≤ reachBytes) = true) (ht : ts[j]? = some 24) (hd : ds[j]? = some d) :
    ∃ Wr S rv rs, v = .agg #[.int .i64 Wr, .int .i64 S, rv] ∧ Ri W rv rs ∧ -9223372036854775808 ≤ Wr ∧ Wr ≤ 9223372036854775807 := by
  obtain ⟨fuel, hf⟩ := h
  obtain ⟨xs, n, _, hx, hl, hn, hf2⟩ := DataW.trod_struct Try.underlying24 hf
  rw [c24] at hl
  have hn3 : xs.length = 3 := hn
  have h0 : DataW.trod enc Try.prog W base spare held n 3 ((v.cells.toList.drop 0).take (Try.prog.cellsOf 3)) = xs[0]? := hf2 0 _ rfl
  have h1 : DataW.trod enc Try.prog W base spare held n 3 ((v.cells.toList.drop 1).take (Try.prog.cellsOf 3)) = xs[1]? := hf2 1 _ rfl
  have h2 : DataW.trod enc Try.prog W base spare held n 22 ((v.cells.toList.drop 2).take (Try.prog.cellsOf 22)) = xs[2]? := hf2 2 _ rfl
  rw [c3] at h0 h1
  rw [c22] at h2
  match xs, hn3 with
  | [x0, x1, x2], _ =>
    obtain ⟨Wr, e0, k0⟩ := int_at h0
    obtain ⟨S, e1, k1⟩ := int_at h1
    obtain ⟨hd1, _⟩ := Prod.mk.inj hx
    subst hd1
    have hsz2 : (DataW.weightsEach Try.prog [3, 3, 22] [x0.1, x1.1, x2.1]).all (· ≤ reachBytes) = true := by
      rw [List.all_eq_true]
      intro m hm
      refine List.all_eq_true.1 hsz m (DataW.weights_mem_each ht hd m ?_)
      rw [DataW.weights, Try.underlying24]
      exact hm
    obtain ⟨rv, rs, e2, hr⟩ := ints_at h2 hsz2 (j := 2) rfl rfl
    refine ⟨Wr, S, rv, rs, ?_, hr, k0⟩
    cases v with
    | agg cs =>
      have hcs : cs.toList.length = 3 := hl
      match hq : cs.toList, hcs with
      | [a, b, c], _ =>
        have hv : (Value.agg cs).cells.toList = [a, b, c] := hq
        rw [hv] at e0 e1 e2
        simp at e0 e1 e2
        subst e0 e1 e2
        rw [← hq]
    | _ => simp [Value.cells] at hl
end
end Go.Proofs.Ytfoofipkbijajaa.Sa
