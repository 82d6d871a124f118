/- Scripts of steps: as the walks take them, and out of the row's condition. No statement of the seat is proved here. -/
import Derived.Test.YtfoofipkbijajaaFrame
namespace Go.Proofs.Ytfoofipkbijajaa.Sa
open Go.ChangeShapes Go.WideShapes Go.ChangeAt Go.RowKit
set_option linter.unusedVariables false
set_option linter.unusedSimpArgs false

/-- A step as data: its own cells, and what its lists read as. -/
structure OpD where
  kind : Int
  cell : Int
  tick : Nat
  dv : Value
  data : List Int
  there : Bool
  waits : Bool
  lv : Value
  ldata : List Int
  ltick : Nat
  nv : Value
  ndata : List Int
  ntick : Nat
def opCells (d : OpD) : List Value :=
  [.int .i64 d.kind, .int .i64 d.cell, .int .u64 d.tick, d.dv, .bool d.there, .bool d.waits, d.lv, .int .u64 d.ltick, d.nv, .int .u64 d.ntick]
structure OpD.okay (w : World) (d : OpD) : Prop where
  kind : -9223372036854775808 ≤ d.kind ∧ d.kind ≤ 9223372036854775807
  cell : -9223372036854775808 ≤ d.cell ∧ d.cell ≤ 9223372036854775807
  tick : d.tick < 18446744073709551616
  data : Rb w d.dv d.data
  ldata : Rb w d.lv d.ldata
  ltick : d.ltick < 18446744073709551616
  ndata : Rb w d.nv d.ndata
  ntick : d.ntick < 18446744073709551616
def d0 : OpD := ⟨0, 0, 0, .slice none 0 0, [], false, false, .slice none 0 0, [], 0, .slice none 0 0, [], 0⟩
instance : Inhabited OpD := ⟨d0⟩
theorem d0_okay (w : World) : d0.okay w := ⟨by decide, by decide, by decide, Sl.nil w, Sl.nil w, by decide, Sl.nil w, by decide⟩
def dth (ds : List OpD) (k : Nat) : OpD := ds.getD k d0
structure Ro (w : World) (v : Value) (ds : List OpD) : Prop where
  shape : ∃ A cap, v = .slice A ds.length cap ∧ (0 < ds.length → ∃ b off, A = some ⟨b, off, none⟩ ∧ ∀ k, k < ds.length → w.rangeAt b (off + k * 10) (opCells (dth ds k)))
  few : ds.length * 8 ≤ 140737488351232
  okay : ∀ k, (dth ds k).okay w
theorem OpD.okay.below {w w' : World} {d : OpD} (h : d.okay w) (hb : Below w.heap.size w w') : d.okay w' :=
  ⟨h.kind, h.cell, h.tick, h.data.below hb, h.ldata.below hb, h.ltick, h.ndata.below hb, h.ntick⟩
theorem Ro.below {w w' : World} {v : Value} {ds : List OpD} (h : Ro w v ds) (hb : Below w.heap.size w w') : Ro w' v ds := by
  obtain ⟨⟨A, cap, rfl, hc⟩, h2, h3⟩ := h
  refine ⟨⟨A, cap, rfl, fun h0 => ?_⟩, h2, fun k => (h3 k).below hb⟩
  obtain ⟨b, off, rfl, hj⟩ := hc h0
  exact ⟨b, off, rfl, fun k hk j x hx => (hb.cell (World.block_lt_of_cell? w _ (hj k hk j x hx))).trans (hj k hk j x hx)⟩
theorem Ro.at_ {w : World} {A : Option Addr} {n cap : Nat} {ds : List OpD} (h : Ro w (.slice A n cap) ds) (k : Nat) (hk : k < ds.length) : ∃ b off, A = some ⟨b, off, none⟩ ∧ w.rangeAt b (off + k * 10) (opCells (dth ds k)) := by
  obtain ⟨⟨A', cap', he, hcc⟩, _, _⟩ := h
  obtain ⟨b, off, hA, hj⟩ := hcc (by omega)
  injection he with eA _ _
  exact ⟨b, off, eA.trans hA, hj k hk⟩

theorem take1 {cs : List Value} {k : Nat} {v : Value} (h : (cs.drop k).take 1 = [v]) : cs[k]? = some v := by
  have := congrArg (fun l => l[0]?) h
  simpa using this
theorem c4 : Try.prog.cellsOf 4 = 1 := by kernel_rfl
theorem c5 : Try.prog.cellsOf 5 = 1 := by kernel_rfl
theorem c33 : Try.prog.cellsOf 33 = 1 := by kernel_rfl
theorem c34 : Try.prog.cellsOf 34 = 1 := by kernel_rfl
theorem c42 : Try.prog.cellsOf 42 = 2 := by kernel_rfl
theorem c44 : Try.prog.cellsOf 44 = 6 := by kernel_rfl
theorem c46 : Try.prog.cellsOf 46 = 10 := by kernel_rfl
theorem weightsAll_mem {H : Type} {P : Program} {e : TypeId} : ∀ {ds : List (DataW H)} {d : DataW H}, d ∈ ds → ∀ n ∈ d.weights P e, n ∈ DataW.weightsAll P e ds
  | x :: r, d, h, n, hn => by
    simp only [DataW.weightsAll, List.mem_append]
    rcases List.mem_cons.1 h with rfl | h
    · exact .inl hn
    · exact .inr (weightsAll_mem h n hn)
  | [], _, h, _, _ => by simp at h
section
variable {H : Type} {enc : TypeId × Value → H} {W : World} {base : Nat} {spare : Nat → Bool} {held : Bool}
theorem bool_at {fuel : Nat} {cs : List Value} {x : DataW H × List MemPlace} (h : DataW.trod enc Try.prog W base spare held fuel 4 cs = some x) : ∃ b, cs = [.bool b] := by
  obtain ⟨b, rfl, _⟩ := DataW.trod_bool Try.underlying4 h
  exact ⟨b, rfl⟩
theorem u64_at {fuel : Nat} {cs : List Value} {x : DataW H × List MemPlace} (h : DataW.trod enc Try.prog W base spare held fuel 34 cs = some x) : ∃ n : Nat, cs = [.int .u64 n] ∧ n < 18446744073709551616 := by
  obtain ⟨n, rfl, _, hw⟩ := DataW.trod_int Try.underlying34 h
  have : 0 ≤ n ∧ n ≤ 18446744073709551615 := by simpa [Lit.wf, IntKind.min, IntKind.max, IntKind.signed, IntKind.bits] using hw
  obtain ⟨m, rfl⟩ := Int.eq_ofNat_of_zero_le this.1
  exact ⟨m, rfl, by omega⟩
theorem bytes_at {fuel : Nat} {cs : List Value} {x : DataW H × List MemPlace} (h : DataW.trod enc Try.prog W base spare held fuel 33 cs = some x)
    {ts : List TypeId} {ds : List (DataW H)} {j : Nat} (hsz : (DataW.weightsEach Try.prog ts ds).all (· ≤ reachBytes) = true) (ht : ts[j]? = some 33) (hd : ds[j]? = some x.1) :
    ∃ v xs, cs = [v] ∧ Rb W v xs := by
  rcases open_ints Try.underlying33 Try.underlying5 (by kernel_rfl) h with ⟨hcs, _⟩ | ⟨a, len, cap, zs, hcs, _, hl, hm, hz, hx, hcell, hwz⟩
  · exact ⟨_, [], hcs, Sl.nil W⟩
  · rw [hx] at hd
    have z := sized_slice hsz ht hd Try.underlying33
    rw [show Try.prog.bytesOf 5 = 1 by kernel_rfl] at z
    have hl2 : len ≤ zs.length := by
      rw [hz]; split
      · exact hl
      · exact Nat.le_refl _
    have e : (zs.take len).length = len := by simp; omega
    refine ⟨_, zs.take len, hcs, ⟨some a, cap, by rw [e], by omega, fun h0 => ?_⟩, ?_⟩
    · rw [e] at h0
      have hspot : a = ⟨a.block, a.off, none⟩ := by
        have := hcell 0 (by omega)
        rw [show a.add 0 = a by simp [Addr.add]] at this
        unfold World.cell? at this
        split at this
        · split at this
          · cases this
          · rename_i hq
            cases a with | mk b o s => cases s <;> simp_all
        · cases this
      refine ⟨a.block, a.off, by rw [← hspot], fun j hj => ?_⟩
      rw [e] at hj
      have := hcell j (by omega)
      rw [hspot, Addr.add_mid] at this
      rw [this]
      simp [nth, hj]
    · rw [e]
      simp only [lits, List.length_map, List.length_take, List.length_drop, reachBytes] at z
      omega
/-- The weights of a struct's parts. -/
theorem parts_sized {t : TypeId} {fs : Array Field} {parts : List (DataW H)} (hu : Try.prog.underlying t = some (.struct fs)) {ts : List TypeId} {ds : List (DataW H)} {j : Nat} (hsz : (DataW.weightsEach Try.prog ts ds).all (· ≤ reachBytes) = true)
    (ht : ts[j]? = some t) (hd : ds[j]? = some (.agg parts)) : (DataW.weightsEach Try.prog (fs.toList.map (·.type)) parts).all (· ≤ reachBytes) = true := by
  rw [List.all_eq_true]
  intro m hm
  refine List.all_eq_true.1 hsz m (DataW.weights_mem_each ht hd m ?_)
  rw [DataW.weights, hu]
  exact hm
theorem msg_at {fuel : Nat} {cs : List Value} {x : DataW H × List MemPlace} (h : DataW.trod enc Try.prog W base spare held fuel 42 cs = some x)
    {ts : List TypeId} {ds : List (DataW H)} {j : Nat} (hsz : (DataW.weightsEach Try.prog ts ds).all (· ≤ reachBytes) = true) (ht : ts[j]? = some 42) (hd : ds[j]? = some x.1) :
    ∃ v xs, ∃ t : Nat, cs = [v, .int .u64 t] ∧ Rb W v xs ∧ t < 18446744073709551616 := by
  obtain ⟨ys, n, _, hx, hl, hn, hf⟩ := DataW.trod_struct Try.underlying42 h
  rw [c42] at hl
  have h0 : DataW.trod enc Try.prog W base spare held n 33 ((cs.drop 0).take (Try.prog.cellsOf 33)) = ys[0]? := hf 0 _ rfl
  have h1 : DataW.trod enc Try.prog W base spare held n 34 ((cs.drop 1).take (Try.prog.cellsOf 34)) = ys[1]? := hf 1 _ rfl
  rw [c33] at h0
  rw [c34] at h1
  match ys, hn with
  | [y0, y1], _ =>
    obtain ⟨t, e1, ht1⟩ := u64_at h1
    rw [hx] at hd
    obtain ⟨v, xs, e0, hr⟩ := bytes_at h0 (parts_sized Try.underlying42 hsz ht hd) (j := 0) rfl rfl
    refine ⟨v, xs, t, ?_, hr, ht1⟩
    match cs, hl with
    | [a, b], _ =>
      simp at e0 e1
      subst e0 e1
      rfl
theorem st_at {fuel : Nat} {cs : List Value} {x : DataW H × List MemPlace} (h : DataW.trod enc Try.prog W base spare held fuel 44 cs = some x)
    {ts : List TypeId} {ds : List (DataW H)} {j : Nat} (hsz : (DataW.weightsEach Try.prog ts ds).all (· ≤ reachBytes) = true) (ht : ts[j]? = some 44) (hd : ds[j]? = some x.1) :
    ∃ (a b : Bool) (v : Value) (xs : List Int) (t : Nat) (u : Value) (zs : List Int) (q : Nat), cs = [.bool a, .bool b, v, .int .u64 t, u, .int .u64 q] ∧ Rb W v xs ∧ t < 18446744073709551616 ∧ Rb W u zs ∧ q < 18446744073709551616 := by
  obtain ⟨ys, n, _, hx, hl, hn, hf⟩ := DataW.trod_struct Try.underlying44 h
  rw [c44] at hl
  have h0 : DataW.trod enc Try.prog W base spare held n 4 ((cs.drop 0).take (Try.prog.cellsOf 4)) = ys[0]? := hf 0 _ rfl
  have h1 : DataW.trod enc Try.prog W base spare held n 4 ((cs.drop 1).take (Try.prog.cellsOf 4)) = ys[1]? := hf 1 _ rfl
  have h2 : DataW.trod enc Try.prog W base spare held n 42 ((cs.drop 2).take (Try.prog.cellsOf 42)) = ys[2]? := hf 2 _ rfl
  have h3 : DataW.trod enc Try.prog W base spare held n 42 ((cs.drop 4).take (Try.prog.cellsOf 42)) = ys[3]? := hf 3 _ rfl
  rw [c4] at h0 h1
  rw [c42] at h2 h3
  match ys, hn with
  | [y0, y1, y2, y3], _ =>
    rw [hx] at hd
    have hz := parts_sized Try.underlying44 hsz ht hd
    obtain ⟨a, e0⟩ := bool_at h0
    obtain ⟨b, e1⟩ := bool_at h1
    obtain ⟨v, xs, t, e2, hv, ht2⟩ := msg_at h2 hz (j := 2) rfl rfl
    obtain ⟨u, zs, q, e3, hu, hq⟩ := msg_at h3 hz (j := 3) rfl rfl
    refine ⟨a, b, v, xs, t, u, zs, q, ?_, hv, ht2, hu, hq⟩
    match cs, hl with
    | [c0, c1, c2, c3, c4, c5], _ =>
      simp at e0 e1 e2 e3
      obtain ⟨rfl, rfl⟩ := e2
      obtain ⟨rfl, rfl⟩ := e3
      subst e0 e1
      rfl
theorem op_at {fuel : Nat} {cs : List Value} {x : DataW H × List MemPlace} (h : DataW.trod enc Try.prog W base spare held fuel 46 cs = some x)
    {ts : List TypeId} {ds : List (DataW H)} {j : Nat} (hsz : (DataW.weightsEach Try.prog ts ds).all (· ≤ reachBytes) = true) (ht : ts[j]? = some 46) (hd : ds[j]? = some x.1) :
    ∃ d : OpD, cs = opCells d ∧ d.okay W := by
  obtain ⟨ys, n, _, hx, hl, hn, hf⟩ := DataW.trod_struct Try.underlying46 h
  rw [c46] at hl
  have h0 : DataW.trod enc Try.prog W base spare held n 3 ((cs.drop 0).take (Try.prog.cellsOf 3)) = ys[0]? := hf 0 _ rfl
  have h1 : DataW.trod enc Try.prog W base spare held n 3 ((cs.drop 1).take (Try.prog.cellsOf 3)) = ys[1]? := hf 1 _ rfl
  have h2 : DataW.trod enc Try.prog W base spare held n 34 ((cs.drop 2).take (Try.prog.cellsOf 34)) = ys[2]? := hf 2 _ rfl
  have h3 : DataW.trod enc Try.prog W base spare held n 33 ((cs.drop 3).take (Try.prog.cellsOf 33)) = ys[3]? := hf 3 _ rfl
  have h4 : DataW.trod enc Try.prog W base spare held n 44 ((cs.drop 4).take (Try.prog.cellsOf 44)) = ys[4]? := hf 4 _ rfl
  rw [c3] at h0 h1
  rw [c34] at h2
  rw [c33] at h3
  rw [c44] at h4
  match ys, hn with
  | [y0, y1, y2, y3, y4], _ =>
    rw [hx] at hd
    have hz := parts_sized Try.underlying46 hsz ht hd
    obtain ⟨k, e0, hk⟩ := int_at h0
    obtain ⟨c, e1, hc⟩ := int_at h1
    obtain ⟨t, e2, ht2⟩ := u64_at h2
    obtain ⟨dv, data, e3, hdv⟩ := bytes_at h3 hz (j := 3) rfl rfl
    obtain ⟨a, b, v, xs, lt, u, zs, q, e4, hv, hlt, hu, hq⟩ := st_at h4 hz (j := 4) rfl rfl
    refine ⟨⟨k, c, t, dv, data, a, b, v, xs, lt, u, zs, q⟩, ?_, ⟨hk, hc, ht2, hdv, hv, hlt, hu, hq⟩⟩
    match cs, hl with
    | [a0, a1, a2, a3, a4, a5, a6, a7, a8, a9], _ =>
      simp at e0 e1 e2 e3 e4
      obtain ⟨rfl, rfl, rfl, rfl, rfl, rfl⟩ := e4
      subst e0 e1 e2 e3
      rfl
theorem ops_at {base' : Nat} {v : Value} {d : DataW H} {ps : List MemPlace} {ts : List TypeId} {ds : List (DataW H)} {j : Nat}
    (hval : Value.okWide Try.prog W .any base 39 v) (hsz : (DataW.weightsEach Try.prog ts ds).all (· ≤ reachBytes) = true) (ht : ts[j]? = some 39) (hd : ds[j]? = some d)
    (h : DataW.Trod enc Try.prog W base' spare held 39 v d ps) : ∃ os, Ro W v os := by
  obtain ⟨a, len, cap, rfl⟩ := okWide_slice Try.underlying39 hval
  obtain ⟨fuel, hf⟩ := h
  rcases Go.Deep.open_slice Try.underlying39 hf with ⟨hcs, _⟩ | ⟨x, l, c, m, n, D, Pl, hcs, hb, hl, hm, hmm, hx, hel⟩
  · simp [Value.cells] at hcs
    obtain ⟨rfl, rfl, rfl⟩ := hcs
    exact ⟨[], ⟨_, _, rfl, fun h => absurd h (by simp)⟩, by simp, fun j => by simp [dth]; exact d0_okay W⟩
  · simp [Value.cells] at hcs
    obtain ⟨rfl, rfl, rfl⟩ := hcs
    obtain ⟨hx, _⟩ := Prod.mk.inj hx
    subst hx
    have z := sized_slice hsz ht hd Try.underlying39
    have hby : 8 ≤ Try.prog.bytesOf 46 := of_decide_eq_true (by kernel_rfl)
    have hle : len ≤ m := by rw [hmm]; split <;> omega
    have each : ∀ i, i < len → ∃ o : OpD, W.cells? base' (x.add (i * 10)) 10 = some (opCells o) ∧ o.okay W := by
      intro i hi
      obtain ⟨cs', h1, h2⟩ := hel i (by omega)
      rw [c46] at h1
      have hsi : (DataW.weightsEach Try.prog [46] [D i]).all (· ≤ reachBytes) = true := by
        rw [List.all_eq_true]
        intro q hq
        refine List.all_eq_true.1 hsz q (DataW.weights_mem_each ht hd q ?_)
        rw [DataW.weights, Try.underlying39]
        simp only [DataW.weightsEach, List.append_nil] at hq
        exact List.mem_cons_of_mem _ (List.mem_append_left _ (weightsAll_mem (List.mem_map.2 ⟨i, List.mem_range.2 hi, rfl⟩) q hq))
      obtain ⟨o, rfl, ho⟩ := op_at h2 hsi (j := 0) rfl rfl
      exact ⟨o, h1, ho⟩
    obtain ⟨f, hf2⟩ := Go.Deep.choose_lt each
    have hdth : ∀ k, k < len → dth ((List.range len).map f) k = f k := by
      intro k hk
      simp [dth, hk]
    refine ⟨(List.range len).map f, ⟨some x, cap, by simp, fun h0 => ?_⟩, ?_, fun k => ?_⟩
    · have hlen : 0 < len := by simpa using h0
      have hspot : x = ⟨x.block, x.off, none⟩ := by
        obtain ⟨hb0, hl0, hc0⟩ := World.cells?_some (hf2 0 hlen).1
        have := hc0 0 (by omega)
        rw [show x.add (0 * 10) = x by simp [Addr.add], show x.add 0 = x by simp [Addr.add]] at this
        unfold World.cell? at this
        split at this
        · split at this
          · simp [opCells] at this
          · rename_i hq
            cases x with | mk b o s => cases s <;> simp_all
        · simp [opCells] at this
      refine ⟨x.block, x.off, by rw [← hspot], fun k hk => ?_⟩
      have hk' : k < len := by simpa using hk
      rw [hdth k hk']
      obtain ⟨_, hl0, hc0⟩ := World.cells?_some (hf2 k hk').1
      intro i v hv
      have hi : i < 10 := by rw [← hl0]; exact (List.getElem?_eq_some_iff.1 hv).1
      have := hc0 i hi
      rw [hv] at this
      rw [← this, hspot, Addr.add_mid, Addr.add_mid]
    · have : ((List.range len).map D).length = len := by simp
      have z2 : len * Try.prog.bytesOf 46 ≤ reachBytes := by
        refine Nat.le_trans (Nat.mul_le_mul_right _ ?_) z
        omega
      have z3 : len * 8 ≤ len * Try.prog.bytesOf 46 := Nat.mul_le_mul_left _ hby
      simp only [List.length_map, List.length_range, reachBytes] at *
      omega
    · by_cases hk : k < len
      · rw [hdth k hk]; exact (hf2 k hk).2
      · have : dth ((List.range len).map f) k = d0 := by simp [dth, hk]
        rw [this]; exact d0_okay W
end
end Go.Proofs.Ytfoofipkbijajaa.Sa
