/- A slice of steps that came in: as the walks take it, and out of the row's condition. No statement of the seat is proved here. -/
import Derived.Test.YtpedciapkalhgaaDoorFrame
import Derived.Test.YtpedciapkalhgaaDoorApart
import Derived.Deep.Slices
namespace Go.Proofs.YtpedciapkalhgaaDoor.Gk
open Go.ChangeShapes Go.WideShapes Go.ChangeAt Go.RowKit Go.Proofs.YtpedciapkalhgaaDoor.Kit
set_option linter.unusedSimpArgs false
set_option linter.unusedVariables false

def d0 : OpD := ⟨0, 0, 0, 0, (List.range 32).map fun _ => 0, 0, 0⟩
instance : Inhabited OpD := ⟨d0⟩
theorem d0_okay : d0.okay := ⟨⟨by decide, by decide⟩, ⟨by decide, by decide⟩, ⟨by decide, by decide⟩, by decide, by decide, by decide, by decide⟩
def dth (ds : List OpD) (k : Nat) : OpD := ds.getD k d0
structure Ro (w : World) (v : Value) (ds : List OpD) : Prop where
  shape : ∃ A cap, v = .slice A ds.length cap ∧ (0 < ds.length → ∃ b off, A = some ⟨b, off, none⟩ ∧ ∀ k, k < ds.length → w.rangeAt b (off + k * 38) (opCells (dth ds k)))
  few : ds.length * 8 ≤ 140737488351232
  okay : ∀ k, (dth ds k).okay
theorem Ro.below {w w' : World} {v : Value} {ds : List OpD} (h : Ro w v ds) (hb : Below w.heap.size w w') : Ro w' v ds := by
  obtain ⟨⟨A, cap, rfl, hc⟩, h2, h3⟩ := h
  refine ⟨⟨A, cap, rfl, fun h0 => ?_⟩, h2, h3⟩
  obtain ⟨b, off, rfl, hj⟩ := hc h0
  exact ⟨b, off, rfl, fun k hk j x hx => (hb.cell (World.block_lt_of_cell? w _ (hj k hk j x hx))).trans (hj k hk j x hx)⟩
theorem Ro.at_ {w : World} {A : Option Addr} {n cap : Nat} {ds : List OpD} (h : Ro w (.slice A n cap) ds) (k : Nat) (hk : k < ds.length) : ∃ b off, A = some ⟨b, off, none⟩ ∧ w.rangeAt b (off + k * 38) (opCells (dth ds k)) := by
  obtain ⟨⟨A', cap', he, hcc⟩, _, _⟩ := h
  obtain ⟨b, off, hA, hj⟩ := hcc (by omega)
  injection he with eA _ _
  exact ⟨b, off, eA.trans hA, hj k hk⟩

theorem take1 {cs : List Value} {k : Nat} {v : Value} (h : (cs.drop k).take 1 = [v]) : cs[k]? = some v := by
  have := congrArg (fun l => l[0]?) h
  simpa using this
theorem wf_u32 {n : Int} (h : (Lit.int .u32 n).wf = true) : 0 ≤ n ∧ n < 4294967296 := by
  have : 0 ≤ n ∧ n ≤ 4294967295 := by simpa [Lit.wf, IntKind.min, IntKind.max, IntKind.signed, IntKind.bits] using h
  omega
theorem c3 : Tryd.prog.cellsOf 3 = 1 := by kernel_rfl
theorem c30 : Tryd.prog.cellsOf 30 = 1 := by kernel_rfl
theorem c37 : Tryd.prog.cellsOf 37 = 32 := by kernel_rfl
theorem c39 : Tryd.prog.cellsOf 39 = 34 := by kernel_rfl
theorem c41 : Tryd.prog.cellsOf 41 = 38 := by kernel_rfl
section
variable {H : Type} {enc : TypeId × Value → H} {W : World} {base : Nat} {spare : Nat → Bool} {held : Bool}
theorem int_at {fuel : Nat} {cs : List Value} {x : DataW H × List MemPlace} (h : DataW.trod enc Tryd.prog W base spare held fuel 3 cs = some x) : ∃ n, cs = [.int .i64 n] ∧ i64ok n := by
  obtain ⟨n, rfl, _, hw⟩ := DataW.trod_int Tryd.underlying3 h
  exact ⟨n, rfl, wf_i64 hw⟩
theorem u32_at {fuel : Nat} {cs : List Value} {x : DataW H × List MemPlace} (h : DataW.trod enc Tryd.prog W base spare held fuel 30 cs = some x) : ∃ n : Nat, cs = [.int .u32 n] ∧ n < 4294967296 := by
  obtain ⟨n, rfl, _, hw⟩ := DataW.trod_int Tryd.underlying30 h
  obtain ⟨h0, h1⟩ := wf_u32 hw
  obtain ⟨m, rfl⟩ := Int.eq_ofNat_of_zero_le h0
  exact ⟨m, rfl, by omega⟩
theorem route_at {fuel : Nat} {cs : List Value} {x : DataW H × List MemPlace} (h : DataW.trod enc Tryd.prog W base spare held fuel 37 cs = some x) : ∃ r : List Int, r.length = 32 ∧ cs = r.map (Value.int .i64) ∧ ∀ i, i64ok (nth r i) := by
  obtain ⟨xs, m, _, _, hl, hn, hx⟩ := DataW.trod_array Tryd.underlying37 h
  rw [c37] at hl
  have each : ∀ i, i < 32 → ∃ n : Int, cs[i]? = some (.int .i64 n) ∧ i64ok n := by
    intro i hi
    have := hx i hi
    rw [c3, Nat.mul_one, List.getElem?_eq_getElem (by omega)] at this
    obtain ⟨n, hn, hk⟩ := int_at this
    exact ⟨n, take1 hn, hk⟩
  obtain ⟨f, hf⟩ := Go.Deep.choose_lt each
  refine ⟨(List.range 32).map f, by simp, ?_, fun i => ?_⟩
  · apply List.ext_getElem?
    intro i
    by_cases hi : i < 32
    · rw [(hf i hi).1]; simp [hi]
    · rw [List.getElem?_eq_none (by omega), List.getElem?_eq_none (by simp; omega)]
  · by_cases hi : i < 32
    · have := (hf i hi).2
      simpa [nth, hi] using this
    · simp [nth, hi, i64ok]
theorem take_drop_get {cs : List Value} {a n i : Nat} (hi : i < n) : ((cs.drop a).take n)[i]? = cs[a + i]? := by
  simp [List.getElem?_take, List.getElem?_drop, hi]
theorem state_at {fuel : Nat} {cs : List Value} {x : DataW H × List MemPlace} (h : DataW.trod enc Tryd.prog W base spare held fuel 39 cs = some x) :
    ∃ (r : List Int) (p m : Nat), r.length = 32 ∧ cs = (gcells r p m).toList ∧ p < 4294967296 ∧ m < 4294967296 := by
  obtain ⟨xs, n, _, _, hl, hn, hx⟩ := DataW.trod_struct Tryd.underlying39 h
  rw [c39] at hl
  have h0 : DataW.trod enc Tryd.prog W base spare held n 37 ((cs.drop 0).take (Tryd.prog.cellsOf 37)) = xs[0]? := hx 0 _ rfl
  have h1 : DataW.trod enc Tryd.prog W base spare held n 30 ((cs.drop 32).take (Tryd.prog.cellsOf 30)) = xs[1]? := hx 1 _ rfl
  have h2 : DataW.trod enc Tryd.prog W base spare held n 30 ((cs.drop 33).take (Tryd.prog.cellsOf 30)) = xs[2]? := hx 2 _ rfl
  rw [c37] at h0
  rw [c30] at h1 h2
  have hn3 : xs.length = 3 := hn
  rw [List.getElem?_eq_getElem (by omega)] at h0 h1 h2
  obtain ⟨r, hr, e0, _⟩ := route_at h0
  obtain ⟨p, e1, hp⟩ := u32_at h1
  obtain ⟨m, e2, hm⟩ := u32_at h2
  have e1' := take1 (k := 32) e1
  have e2' := take1 (k := 33) e2
  refine ⟨r, p, m, hr, ?_, hp, hm⟩
  apply List.ext_getElem?
  intro i
  by_cases hi : i < 32
  · have := congrArg (fun l => l[i]?) e0
    simp only [take_drop_get hi] at this
    rw [show (0 : Nat) + i = i by omega] at this
    have t2 : cs[i]? = (List.map (Value.int IntKind.i64) r)[i]? := by simpa using this
    rw [t2]
    simp [gcells, List.getElem?_append, hr, hi]
  · by_cases h32 : i = 32
    · subst h32; rw [e1']; simp [gcells, List.getElem?_append, hr]
    · by_cases h33 : i = 33
      · subst h33; rw [e2']; simp [gcells, List.getElem?_append, hr]
      · rw [List.getElem?_eq_none (by omega), List.getElem?_eq_none (by simp [gcells, hr]; omega)]
theorem op_at {fuel : Nat} {cs : List Value} {x : DataW H × List MemPlace} (h : DataW.trod enc Tryd.prog W base spare held fuel 41 cs = some x) : ∃ d : OpD, cs = opCells d ∧ d.okay := by
  obtain ⟨xs, n, _, _, hl, hn, hx⟩ := DataW.trod_struct Tryd.underlying41 h
  rw [c41] at hl
  have h0 : DataW.trod enc Tryd.prog W base spare held n 3 ((cs.drop 0).take (Tryd.prog.cellsOf 3)) = xs[0]? := hx 0 _ rfl
  have h1 : DataW.trod enc Tryd.prog W base spare held n 3 ((cs.drop 1).take (Tryd.prog.cellsOf 3)) = xs[1]? := hx 1 _ rfl
  have h2 : DataW.trod enc Tryd.prog W base spare held n 3 ((cs.drop 2).take (Tryd.prog.cellsOf 3)) = xs[2]? := hx 2 _ rfl
  have h3 : DataW.trod enc Tryd.prog W base spare held n 30 ((cs.drop 3).take (Tryd.prog.cellsOf 30)) = xs[3]? := hx 3 _ rfl
  have h4 : DataW.trod enc Tryd.prog W base spare held n 39 ((cs.drop 4).take (Tryd.prog.cellsOf 39)) = xs[4]? := hx 4 _ rfl
  rw [c3] at h0 h1 h2
  rw [c30] at h3
  rw [c39] at h4
  have hn3 : xs.length = 5 := hn
  rw [List.getElem?_eq_getElem (by omega)] at h0 h1 h2 h3 h4
  obtain ⟨a0, e0, k0⟩ := int_at h0
  obtain ⟨a1, e1, k1⟩ := int_at h1
  obtain ⟨a2, e2, k2⟩ := int_at h2
  obtain ⟨a3, e3, k3⟩ := u32_at h3
  obtain ⟨r, p, m, hr, e4, hp, hm⟩ := state_at h4
  have e0' := take1 (k := 0) e0
  have e1' := take1 (k := 1) e1
  have e2' := take1 (k := 2) e2
  have e3' := take1 (k := 3) e3
  refine ⟨⟨a0, a1, a2, a3, r, p, m⟩, ?_, ⟨k0, k1, k2, k3, hr, hp, hm⟩⟩
  have e5 : (cs.drop 4).take 34 = (gcells r p m).toList := e4
  have e6 : cs.drop 4 = (gcells r p m).toList := by rw [← e5, List.take_of_length_le (by simp; omega)]
  match cs, e0', e1', e2', e3', e6 with
  | x0 :: x1 :: x2 :: x3 :: t, e0', e1', e2', e3', e6 =>
    simp at e0' e1' e2' e3' e6
    subst e0' e1' e2' e3' e6
    simp [opCells]
theorem ro_open {base' : Nat} {v : Value} {d : DataW H} {ps : List MemPlace} {ts : List TypeId} {ds : List (DataW H)} {j : Nat}
    (hval : Value.okWide Tryd.prog W .any base 35 v) (hsz : (DataW.weightsEach Tryd.prog ts ds).all (· ≤ reachBytes) = true) (ht : ts[j]? = some 35) (hd : ds[j]? = some d)
    (h : DataW.Trod enc Tryd.prog W base' spare held 35 v d ps) : ∃ os, Ro W v os := by
  obtain ⟨a, len, cap, rfl⟩ := okWide_slice Tryd.underlying35 hval
  obtain ⟨fuel, hf⟩ := h
  rcases Go.Deep.open_slice Tryd.underlying35 hf with ⟨hcs, _⟩ | ⟨x, l, c, m, n, D, Pl, hcs, hb, hl, hm, hmm, hx, hel⟩
  · simp [Value.cells] at hcs
    obtain ⟨rfl, rfl, rfl⟩ := hcs
    exact ⟨[], ⟨_, _, rfl, fun h => absurd h (by simp)⟩, by simp, fun j => by simp [dth]; exact d0_okay⟩
  · simp [Value.cells] at hcs
    obtain ⟨rfl, rfl, rfl⟩ := hcs
    obtain ⟨hx, _⟩ := Prod.mk.inj hx
    subst hx
    have z := sized_slice hsz ht hd Tryd.underlying35
    have hby : 8 ≤ Tryd.prog.bytesOf 41 := of_decide_eq_true (by kernel_rfl)
    have hle : len ≤ m := by rw [hmm]; split <;> omega
    have each : ∀ i, i < len → ∃ o : OpD, W.cells? base' (x.add (i * 38)) 38 = some (opCells o) ∧ o.okay := by
      intro i hi
      obtain ⟨cs', h1, h2⟩ := hel i (by omega)
      rw [c41] at h1
      obtain ⟨o, rfl, ho⟩ := op_at h2
      exact ⟨o, h1, ho⟩
    obtain ⟨f, hf2⟩ := Go.Deep.choose_lt each
    have hdth : ∀ k, k < len → dth ((List.range len).map f) k = f k := by
      intro k hk
      simp [dth, hk]
    refine ⟨(List.range len).map f, ⟨some x, cap, by simp, fun h0 => ?_⟩, ?_, fun k => ?_⟩
    · have hlen : 0 < len := by simpa using h0
      have hspot : x = ⟨x.block, x.off, none⟩ := by
        obtain ⟨hb0, hl0, hc0⟩ := World.cells?_some (hf2 0 hlen).1
        have := hc0 0 (by omega)
        rw [show x.add (0 * 38) = x by simp [Addr.add], show x.add 0 = x by simp [Addr.add]] at this
        unfold World.cell? at this
        split at this
        · split at this
          · simp [opCells] at this
          · rename_i hq
            cases x with | mk b o s => cases s <;> simp_all
        · simp [opCells] at this
      refine ⟨x.block, x.off, by rw [← hspot], fun k hk => ?_⟩
      have hk' : k < len := by simpa using hk
      rw [hdth k hk']
      obtain ⟨_, hl0, hc0⟩ := World.cells?_some (hf2 k hk').1
      intro i v hv
      have hi : i < 38 := by rw [← hl0]; exact (List.getElem?_eq_some_iff.1 hv).1
      have := hc0 i hi
      rw [hv] at this
      rw [← this, hspot, Addr.add_mid, Addr.add_mid]
    · have : ((List.range len).map D).length = len := by simp
      have z2 : len * Tryd.prog.bytesOf 41 ≤ reachBytes := by
        refine Nat.le_trans (Nat.mul_le_mul_right _ ?_) z
        omega
      have z3 : len * 8 ≤ len * Tryd.prog.bytesOf 41 := Nat.mul_le_mul_left _ hby
      simp only [List.length_map, List.length_range, reachBytes] at *
      omega
    · by_cases hk : k < len
      · rw [hdth k hk]; exact (hf2 k hk).2
      · have : dth ((List.range len).map f) k = d0 := by simp [dth, hk]
        rw [this]; exact d0_okay
end
end Go.Proofs.YtpedciapkalhgaaDoor.Gk
