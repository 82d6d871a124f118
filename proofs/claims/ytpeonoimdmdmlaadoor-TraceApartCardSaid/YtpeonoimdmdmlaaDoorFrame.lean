/- What the rows of this seat share: raw observations and integers read out of the arguments; the table out of the row's condition; the witness' start. No statement of the seat is proved here. -/
import Derived.Test.YtpeonoimdmdmlaaDoorRows
import Derived.Test.YtpeonoimdmdmlaaDoorTie
import Derived.Test.YtpeonoimdmdmlaaDoorCards
import Derived.Test.YtpeonoimdmdmlaaDoorBk
import Derived.ProofKit
import Derived.LaidMore
import Derived.OpenShut
import Derived.Stop.Joined
import Derived.SizedLaws
import Derived.SevenTiedAt
import Derived.Lib.LaidTab
import Derived.Deep.Slices
namespace Go.Proofs.YtpeonoimdmdmlaaDoor.Tr
open Go.ChangeShapes Go.WideShapes Go.ChangeAt Go.RowKit
set_option linter.unusedVariables false
set_option linter.unusedSimpArgs false

theorem ownKnobNone : ownKnob Tryd.prog.godebug = none := by kernel_rfl
def laid1 : List (String × DataW Unit) := [("cloister/wire.table", Rows.laid_cloister_wire_table)]
theorem gTab : Tryd.prog.globalNamed "cloister/wire.table" = some 0 := by kernel_rfl
theorem tTab : (Tryd.prog.globals[0]?).map (·.type) = some 61 := by kernel_rfl
theorem door_met (os : Go.Os) (args : Array Value) : laidMetH Tryd.prog laid1 ((World.doorLaid Tryd.prog 400 os).forCall (fun _ _ => 0) ⟨#[], args, []⟩).memory :=
  laidMetH_of_parts3 (fuel := 8) (laidMet_of_run' 8 (by kernel_rfl) (by kernel_rfl)) (by kernel_rfl) (by kernel_rfl)
theorem tab_of_laid {W : World} (h : laidMetH Tryd.prog laid1 W) : TabS W := by
  rw [MakeChecks.laidMetH_plain _ _ _ (by kernel_rfl)] at h
  have hT := Lib.tabIs_of_head (k := .u32) (zs := tabL.map fun (n : Nat) => (n : Int)) gTab tTab Tryd.underlying61 Tryd.underlying29 (by kernel_rfl) (by kernel_rfl) h
  intro i hi
  have := hT.cell gTab i (by simpa [tabL] using hi)
  rw [this]
  simp [List.getD_eq_getElem?_getD, List.getElem?_map]
  cases h : tabL[i]? <;> rfl
theorem laidOut : laidOutB Tryd.prog = true := by kernel_rfl
theorem wf_i64 {n : Int} (h : (Lit.int .i64 n).wf = true) : i64ok n := by
  simpa [Lit.wf, IntKind.min, IntKind.max, IntKind.signed, IntKind.bits, i64ok] using h
theorem c3 : Tryd.prog.cellsOf 3 = 1 := by kernel_rfl
theorem c37 : Tryd.prog.cellsOf 37 = 6 := by kernel_rfl
theorem spot_none {W : World} {b : Nat} {x : Addr} {v : Value} (h : W.cell? x = some v) : x = ⟨x.block, x.off, none⟩ := by
  unfold World.cell? at h
  split at h
  · split at h
    · simp at h
    · rename_i hq
      cases x with | mk b o s => cases s <;> simp_all
  · simp at h
instance : Inhabited Rw := ⟨⟨0, 0, 0, 0, 0, 0⟩⟩
section
variable {H : Type} {enc : TypeId × Value → H} {W : World} {base : Nat} {spare : Nat → Bool} {held : Bool}
theorem int_at {fuel : Nat} {cs : List Value} {x : DataW H × List MemPlace} (h : DataW.trod enc Tryd.prog W base spare held fuel 3 cs = some x) : ∃ n, cs = [.int .i64 n] ∧ i64ok n := by
  obtain ⟨n, rfl, _, hw⟩ := DataW.trod_int Tryd.underlying3 h
  exact ⟨n, rfl, wf_i64 hw⟩
set_option maxRecDepth 20000 in
theorem raw_at {fuel : Nat} {cs : List Value} {x : DataW H × List MemPlace} (h : DataW.trod enc Tryd.prog W base spare held fuel 37 cs = some x) : ∃ r : Rw, cs = rc r ∧ r.okay := by
  obtain ⟨ys, n, _, hx, hl, hn, hf⟩ := DataW.trod_struct Tryd.underlying37 h
  rw [c37] at hl
  have hn2 : ys.length = 6 := hn
  have h0 : DataW.trod enc Tryd.prog W base spare held n 3 ((cs.drop 0).take (Tryd.prog.cellsOf 3)) = ys[0]? := hf 0 _ rfl
  have h1 : DataW.trod enc Tryd.prog W base spare held n 3 ((cs.drop 1).take (Tryd.prog.cellsOf 3)) = ys[1]? := hf 1 _ rfl
  have h2 : DataW.trod enc Tryd.prog W base spare held n 3 ((cs.drop 2).take (Tryd.prog.cellsOf 3)) = ys[2]? := hf 2 _ rfl
  have h3 : DataW.trod enc Tryd.prog W base spare held n 3 ((cs.drop 3).take (Tryd.prog.cellsOf 3)) = ys[3]? := hf 3 _ rfl
  have h4 : DataW.trod enc Tryd.prog W base spare held n 3 ((cs.drop 4).take (Tryd.prog.cellsOf 3)) = ys[4]? := hf 4 _ rfl
  have h5 : DataW.trod enc Tryd.prog W base spare held n 3 ((cs.drop 5).take (Tryd.prog.cellsOf 3)) = ys[5]? := hf 5 _ rfl
  rw [c3] at h0 h1 h2 h3 h4 h5
  match ys, hn2 with
  | [y0, y1, y2, y3, y4, y5], _ =>
    obtain ⟨a0, e0, k0⟩ := int_at h0
    obtain ⟨a1, e1, k1⟩ := int_at h1
    obtain ⟨a2, e2, k2⟩ := int_at h2
    obtain ⟨a3, e3, k3⟩ := int_at h3
    obtain ⟨a4, e4, k4⟩ := int_at h4
    obtain ⟨a5, e5, k5⟩ := int_at h5
    refine ⟨⟨a0, a1, a2, a3, a4, a5⟩, ?_, ⟨k0, k1, k2, k3, k4, k5⟩⟩
    match cs, hl with
    | [c0, c1, c2, c3, c4, c5], _ =>
      simp at e0 e1 e2 e3 e4 e5
      subst e0 e1 e2 e3 e4 e5
      rfl
set_option maxRecDepth 20000 in
theorem rs_open {base' : Nat} {v : Value} {d : DataW H} {ps : List MemPlace} (hval : Value.okWide Tryd.prog W .any base 22 v)
    (h : DataW.Trod enc Tryd.prog W base' spare held 22 v d ps) : ∃ rs, Rs W v rs := by
  obtain ⟨a, len, cap, rfl⟩ := okWide_slice Tryd.underlying22 hval
  obtain ⟨fuel, hf⟩ := h
  rcases Go.Deep.open_slice Tryd.underlying22 hf with ⟨hcs, _⟩ | ⟨x, l, c, m, n, D, Pl, hcs, hb, hl, hm, hmm, hx, hel⟩
  · simp [Value.cells] at hcs
    obtain ⟨rfl, rfl, rfl⟩ := hcs
    exact ⟨[], ⟨_, _, rfl, fun h => absurd h (by simp)⟩, fun r hr => by cases hr⟩
  · simp [Value.cells] at hcs
    obtain ⟨rfl, rfl, rfl⟩ := hcs
    have hle : len ≤ m := by rw [hmm]; split <;> omega
    have each : ∀ i, i < len → ∃ r : Rw, W.cells? base' (x.add (i * 6)) 6 = some (rc r) ∧ r.okay := by
      intro i hi
      obtain ⟨cs', h1, h2⟩ := hel i (by omega)
      rw [c37] at h1
      obtain ⟨r, rfl, hr⟩ := raw_at h2
      exact ⟨r, h1, hr⟩
    obtain ⟨f, hf2⟩ := Go.Deep.choose_lt each
    have hlen : ((List.range len).map f).length = len := by simp
    refine ⟨(List.range len).map f, ⟨some x, cap, by rw [hlen], fun h0 => ?_⟩, fun r hr => ?_⟩
    · have hlen0 : 0 < len := by rw [hlen] at h0; exact h0
      have hspot : x = ⟨x.block, x.off, none⟩ := by
        obtain ⟨hb0, hl0, hc0⟩ := World.cells?_some (hf2 0 hlen0).1
        have := hc0 0 (by omega)
        rw [show x.add (0 * 6) = x by simp [Addr.add], show x.add 0 = x by simp [Addr.add]] at this
        exact spot_none (b := 0) (this.trans (List.getElem?_eq_getElem (show 0 < (rc (f 0)).length from by simp [rc])))
      refine ⟨x.block, x.off, by rw [← hspot], fun k hk i u hu => ?_⟩
      have hk' : k < len := by rw [hlen] at hk; exact hk
      have hfk : ((List.range len).map f)[k] = f k := by simp
      rw [hfk] at hu
      obtain ⟨_, hl0, hc0⟩ := World.cells?_some (hf2 k hk').1
      have hi : i < 6 := (List.getElem?_eq_some_iff.1 hu).1
      have a0 := hc0 i hi
      rw [hspot, Addr.add_mid, Addr.add_mid] at a0
      exact a0.trans hu
    · obtain ⟨k, hk, rfl⟩ := List.mem_map.1 hr
      exact (hf2 k (List.mem_range.1 hk)).2
theorem is_open {base' : Nat} {v : Value} {d : DataW H} {ps : List MemPlace} (hval : Value.okWide Tryd.prog W .any base 23 v)
    (h : DataW.Trod enc Tryd.prog W base' spare held 23 v d ps) : ∃ ws, Is W v ws := by
  obtain ⟨a, len, cap, rfl⟩ := okWide_slice Tryd.underlying23 hval
  obtain ⟨fuel, hf⟩ := h
  rcases open_ints Tryd.underlying23 Tryd.underlying3 (by kernel_rfl) hf with ⟨hcs, _⟩ | ⟨x, l, c, zs, hcs, _, hl, hm, hz, hx, hcell, hwz⟩
  · simp [Value.cells] at hcs
    obtain ⟨rfl, rfl, rfl⟩ := hcs
    exact ⟨[], ⟨_, _, rfl, fun h => absurd h (by simp)⟩, fun r hr => by cases hr⟩
  · simp [Value.cells] at hcs
    obtain ⟨rfl, rfl, rfl⟩ := hcs
    have hl2 : len ≤ zs.length := by
      rw [hz]; split
      · exact hl
      · exact Nat.le_refl _
    have e : (zs.take len).length = len := by simp; omega
    refine ⟨zs.take len, ⟨some x, cap, by rw [e], fun h0 => ?_⟩, fun n hn => wf_i64 (hwz n (List.mem_of_mem_take hn))⟩
    rw [e] at h0
    have hspot : x = ⟨x.block, x.off, none⟩ := by
      have := hcell 0 (by omega)
      rw [show x.add 0 = x by simp [Addr.add]] at this
      exact spot_none (b := 0) this
    refine ⟨x.block, x.off, by rw [← hspot], fun k hk => ?_⟩
    rw [e] at hk
    have := hcell k (by omega)
    rw [hspot, Addr.add_mid] at this
    rw [this]
    simp [List.getElem?_eq_getElem (show k < zs.length from by omega)]
end
end Go.Proofs.YtpeonoimdmdmlaaDoor.Tr
