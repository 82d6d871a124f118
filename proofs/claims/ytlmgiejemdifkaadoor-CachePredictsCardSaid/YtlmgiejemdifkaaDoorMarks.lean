/- CachePredicts: what stands behind each stage of its walk. No statement of the seat is proved here. -/
import Derived.Test.YtlmgiejemdifkaaDoorLists
namespace Go.Proofs.YtlmgiejemdifkaaDoor.Ca
open Go.RowKit Go.Proofs.YtlmgiejemdifkaaDoor.Kit
set_option linter.unusedSimpArgs false
set_option linter.unusedVariables false

theorem info36' : (Tryd.prog.info? 36).map (fun i => (i.zero, i.size, i.bytes)) = some (some (.agg #[.int .u32 0, .bool false]), 2, 8) := by kernel_rfl
/-- What stands throughout: the shape's box, the list that is handed in (block p). -/
structure Kp (w wr : World) (p : Nat) (S W L : Int) (xs : List Us) : Prop where
  chg : Chg w wr none
  box : wr.heap[w.heap.size]? = some (.cells #[.int .i64 S, .int .i64 W, .int .i64 L] 23 (0, 0))
  inb : InB wr p xs
  hp : w.heap.size < p
theorem Kp.lt {w wr : World} {p : Nat} {S W L : Int} {xs : List Us} (h : Kp w wr p S W L xs) : p < wr.heap.size := (Array.getElem?_eq_some_iff.1 h.inb).1
theorem Kp.grow {w wr w2 : World} {p : Nat} {S W L : Int} {xs : List Us} (h : Kp w wr p S W L xs) (hC : Chg wr w2 none) : Kp w w2 p S W L xs :=
  ⟨h.chg.trans hC, (hC.block _ (by have := h.lt; have := h.hp; omega) (by simp)).trans h.box, h.inb.kept hC (by simp), h.hp⟩
theorem Kp.cells {w wr : World} {p : Nat} {S W L : Int} {xs : List Us} (h : Kp w wr p S W L xs) :
    wr.cell? ⟨w.heap.size, 0, none⟩ = some (.int .i64 S) ∧ wr.cell? ⟨w.heap.size, 1, none⟩ = some (.int .i64 W) ∧ wr.cell? ⟨w.heap.size, 2, none⟩ = some (.int .i64 L) :=
  ⟨by rw [cell_of_row _ _ _ _ _ _ h.box]; rfl, by rw [cell_of_row _ _ _ _ _ _ h.box]; rfl, by rw [cell_of_row _ _ _ _ _ _ h.box]; rfl⟩
theorem Kp.set {w wr : World} {p : Nat} {S W L : Int} {xs : List Us} (h : Kp w wr p S W L xs) (j a : Nat) (b : Bool) :
    Kp w ((wr.setCell ⟨p, j * 2, none⟩ (.int .u32 a)).setCell ⟨p, j * 2 + 1, none⟩ (.bool b)) p S W L (xs.set j (a, b)) := by
  have hp := h.hp
  have hC : Chg w ((wr.setCell ⟨p, j * 2, none⟩ (.int .u32 a)).setCell ⟨p, j * 2 + 1, none⟩ (.bool b)) none := (h.chg.set_new _ _ (Nat.le_of_lt hp)).set_new _ _ (Nat.le_of_lt hp)
  have hC2 : Chg wr ((wr.setCell ⟨p, j * 2, none⟩ (.int .u32 a)).setCell ⟨p, j * 2 + 1, none⟩ (.bool b)) (some p) := ((Chg.refl wr (some p)).set _ _).set _ _
  exact ⟨hC, (hC2.block _ (by have := h.lt; omega) (fun e => by injection e with e; omega)).trans h.box, h.inb.set j a b, hp⟩
def M7 : Tch := ⟨false, false, -7⟩
def M8 : Tch := ⟨false, false, -8⟩
/-- Behind a few rounds of the loop that writes into 'a'. -/
structure L3 (w wr : World) (p : Nat) (S W L : Int) (xs : List Us) (ba : Nat) (va : Value) (bt : Nat) (vt : Value) (bb : Nat) (vb : Value) (tt ta : List Tch) : Prop where
  kp : Kp w wr p S W L xs
  oa : Ot wr ba va ta
  ot : Ot wr bt vt tt
  ob : Ot wr bb vb tt
  ne : ∀ g, va.ownBlock = some g → p < g ∧ vt.ownBlock ≠ some g ∧ vb.ownBlock ≠ some g
theorem L3.grow {w wr w2 : World} {p : Nat} {S W L : Int} {xs : List Us} {ba : Nat} {va : Value} {bt : Nat} {vt : Value} {bb : Nat} {vb : Value} {tt ta : List Tch} (h : L3 w wr p S W L xs ba va bt vt bb vb tt ta) (hC : Chg wr w2 none) : L3 w w2 p S W L xs ba va bt vt bb vb tt ta :=
  ⟨h.kp.grow hC, h.oa.kept hC (Classical.em _), h.ot.kept hC (Classical.em _), h.ob.kept hC (Classical.em _), h.ne⟩
theorem L3.set {w wr : World} {p : Nat} {S W L : Int} {xs : List Us} {ba : Nat} {va : Value} {bt : Nat} {vt : Value} {bb : Nat} {vb : Value} {tt ta : List Tch} (h : L3 w wr p S W L xs ba va bt vt bb vb tt ta) {g cap n : Nat} (hv : va = .slice (some ⟨g, 0, none⟩) n cap) (j : Nat) (t : Tch) {tb : List Tch}
    (hs : Ot (((wr.setCell ⟨g, j * 3, none⟩ (.bool t.hit)).setCell ⟨g, j * 3 + 1, none⟩ (.bool t.back)).setCell ⟨g, j * 3 + 2, none⟩ (.int .i64 t.cyc)) ba va tb) :
    L3 w (((wr.setCell ⟨g, j * 3, none⟩ (.bool t.hit)).setCell ⟨g, j * 3 + 1, none⟩ (.bool t.back)).setCell ⟨g, j * 3 + 2, none⟩ (.int .i64 t.cyc)) p S W L xs ba va bt vt bb vb tt tb := by
  have hC2 : Chg wr (((wr.setCell ⟨g, j * 3, none⟩ (.bool t.hit)).setCell ⟨g, j * 3 + 1, none⟩ (.bool t.back)).setCell ⟨g, j * 3 + 2, none⟩ (.int .i64 t.cyc)) (some g) := (((Chg.refl wr (some g)).set _ _).set _ _).set _ _
  obtain ⟨n1, n2, n3⟩ := h.ne g (by rw [hv]; rfl)
  have hp := h.kp.hp
  exact ⟨⟨h.kp.chg.trans_new hC2 (by omega), (hC2.block _ (by have := h.kp.lt; omega) (fun e => by injection e with e; omega)).trans h.kp.box, h.kp.inb.kept hC2 (fun e => by injection e with e; omega), hp⟩,
    hs, h.ot.kept hC2 (.inr n2), h.ob.kept hC2 (.inr n3), h.ne⟩

/-- Behind a few rounds of the loop that makes 'one' and 'far' longer. -/
structure L4 (w wr : World) (p : Nat) (S W L : Int) (xs : List Us) (ba : Nat) (va : Value) (bt : Nat) (vt : Value) (bb : Nat) (vb : Value) (tt : List Tch) (one far : Value) (k1 k2 : Nat) : Prop where
  l3 : L3 w wr p S W L xs ba va bt vt bb vb tt (List.replicate tt.length M7)
  oo : Ot wr 0 one (List.replicate (tt.length + k1) M7)
  of : Ot wr 0 far (tt ++ List.replicate k2 M8)
  n1 : ∀ g, one.ownBlock = some g → p < g ∧ vt.ownBlock ≠ some g ∧ vb.ownBlock ≠ some g ∧ far.ownBlock ≠ some g
  n2 : ∀ g, far.ownBlock = some g → p < g ∧ va.ownBlock ≠ some g ∧ vb.ownBlock ≠ some g
section
variable {w wr w2 : World} {p : Nat} {S W L : Int} {xs : List Us} {ba : Nat} {va : Value} {bt : Nat} {vt : Value} {bb : Nat} {vb : Value} {tt : List Tch} {one far : Value} {k1 k2 : Nat}
theorem L4.grow (h : L4 w wr p S W L xs ba va bt vt bb vb tt one far k1 k2) (hC : Chg wr w2 none) : L4 w w2 p S W L xs ba va bt vt bb vb tt one far k1 k2 :=
  ⟨h.l3.grow hC, h.oo.kept hC (Classical.em _), h.of.kept hC (Classical.em _), h.n1, h.n2⟩
theorem two_kp {u u' : Value} {n m : Nat} (h : Two wr w2 u u' n m) (hu : ∀ g, u.ownBlock = some g → p < g) (k : Kp w wr p S W L xs) : Kp w w2 p S W L xs := by
  rcases h with ⟨g, cap, rfl, rfl, hg⟩ | ⟨_, hg⟩
  · have hp := k.hp
    have hpg := hu g rfl
    exact ⟨k.chg.trans_new hg (by omega), (hg.block _ (by have := k.lt; omega) (fun e => by injection e with e; omega)).trans k.box, k.inb.kept hg (fun e => by injection e with e; omega), hp⟩
  · exact k.grow hg
theorem L4.app1 (h : L4 w wr p S W L xs ba va bt vt bb vb tt one far k1 k2) {one' : Value} (ht : Two wr w2 one one' (tt.length + k1) 1) (ho : w2.ownsRow 0 38 3 one' (tt.length + k1 + 1) (trows (List.replicate (tt.length + k1) M7) ++ trows [M7])) :
    L4 w w2 p S W L xs ba va bt vt bb vb tt one' far (k1 + 1) k2 := by
  have hl : (List.replicate (tt.length + k1) M7).length = tt.length + k1 := by simp
  have oo := h.oo
  unfold Ot at oo
  rw [hl] at oo
  have hk := h.l3.kp.lt
  have far_ne : far.ownBlock = none ∨ far.ownBlock ≠ one.ownBlock := by
    rcases ho2 : far.ownBlock with _ | g
    · exact .inl rfl
    · exact .inr fun e => (h.n1 g e.symm).2.2.2 ho2
  have vt_ne : vt.ownBlock = none ∨ vt.ownBlock ≠ one.ownBlock := by
    rcases ho2 : vt.ownBlock with _ | g
    · exact .inl rfl
    · exact .inr fun e => (h.n1 g e.symm).2.1 ho2
  have vb_ne : vb.ownBlock = none ∨ vb.ownBlock ≠ one.ownBlock := by
    rcases ho2 : vb.ownBlock with _ | g
    · exact .inl rfl
    · exact .inr fun e => (h.n1 g e.symm).2.2.1 ho2
  have hw := ht.where_
  refine ⟨⟨two_kp ht (fun g e => (h.n1 g e).1) h.l3.kp, ?_, ht.far h.l3.ot vt_ne, ht.far h.l3.ob vb_ne, h.l3.ne⟩, ?_, ht.far h.of far_ne, fun g e => ?_, h.n2⟩
  · refine ht.pre (by decide) h.l3.oa oo ho fun _ => ⟨trows (List.replicate k1 M7), by rw [← trows_append, List.replicate_append_replicate], ?_⟩
    rw [List.length_replicate]; omega
  · unfold Ot
    rw [← Nat.add_assoc, List.replicate_succ', trows_append, List.length_append, hl]
    exact ho
  · rcases hw with hw | hw
    · rw [hw] at e; exact h.n1 g e
    · rw [hw] at e
      injection e with e
      subst e
      exact ⟨hk, fun e => by have := (h.l3.ot.lt _ e).2; omega, fun e => by have := (h.l3.ob.lt _ e).2; omega, fun e => by have := (h.of.lt _ e).2; omega⟩
theorem L4.app2 (h : L4 w wr p S W L xs ba va bt vt bb vb tt one far k1 k2) {far' : Value} (ht : Two wr w2 far far' (tt.length + k2) 1) (ho : w2.ownsRow 0 38 3 far' (tt.length + k2 + 1) (trows (tt ++ List.replicate k2 M8) ++ trows [M8])) :
    L4 w w2 p S W L xs ba va bt vt bb vb tt one far' k1 (k2 + 1) := by
  have hl : (tt ++ List.replicate k2 M8).length = tt.length + k2 := by simp
  have of := h.of
  unfold Ot at of
  rw [hl] at of
  have hk := h.l3.kp.lt
  have one_ne : one.ownBlock = none ∨ one.ownBlock ≠ far.ownBlock := by
    rcases ho2 : one.ownBlock with _ | g
    · exact .inl rfl
    · exact .inr fun e => (h.n1 g ho2).2.2.2 e.symm
  have va_ne : va.ownBlock = none ∨ va.ownBlock ≠ far.ownBlock := by
    rcases ho2 : va.ownBlock with _ | g
    · exact .inl rfl
    · exact .inr fun e => (h.n2 g e.symm).2.1 ho2
  have vb_ne : vb.ownBlock = none ∨ vb.ownBlock ≠ far.ownBlock := by
    rcases ho2 : vb.ownBlock with _ | g
    · exact .inl rfl
    · exact .inr fun e => (h.n2 g e.symm).2.2 ho2
  have hw := ht.where_
  refine ⟨⟨two_kp ht (fun g e => (h.n2 g e).1) h.l3.kp, ht.far h.l3.oa va_ne, ?_, ht.far h.l3.ob vb_ne, h.l3.ne⟩, ht.far h.oo one_ne, ?_, fun g e => ?_, fun g e => ?_⟩
  · refine ht.pre (by decide) h.l3.ot of ho fun _ => ⟨trows (List.replicate k2 M8), trows_append _ _, ?_⟩
    omega
  · unfold Ot
    rw [List.replicate_succ', ← List.append_assoc, trows_append, List.length_append, hl]
    exact ho
  · obtain ⟨a1, a2, a3, a4⟩ := h.n1 g e
    refine ⟨a1, a2, a3, fun e2 => ?_⟩
    rcases hw with hw | hw
    · rw [hw] at e2; exact a4 e2
    · rw [hw] at e2
      injection e2 with e2
      have := (h.oo.lt _ e).2
      omega
  · rcases hw with hw | hw
    · rw [hw] at e; exact h.n2 g e
    · rw [hw] at e
      injection e with e
      subst e
      exact ⟨hk, fun e => by have := (h.l3.oa.lt _ e).2; omega, fun e => by have := (h.l3.ob.lt _ e).2; omega⟩
theorem L4.first (h : L3 w wr p S W L xs ba va bt vt bb vb tt (List.replicate tt.length M7)) (hf : ∀ g, vt.ownBlock = some g → p < g ∧ va.ownBlock ≠ some g ∧ vb.ownBlock ≠ some g) : L4 w wr p S W L xs ba va bt vt bb vb tt va vt 0 0 :=
  ⟨h, own_zero h.oa, by rw [List.replicate_zero, List.append_nil]; exact own_zero h.ot, fun g e => ⟨(h.ne g e).1, (h.ne g e).2.1, (h.ne g e).2.2, (h.ne g e).2.1⟩, hf⟩
end
theorem own_len2 {w : World} {base : Nat} {v : Value} {ts : List Tch} (h : Ot w base v ts) : w.ownsRow base 38 3 v ts.length (trows ts) := h
theorem tnth_app_r {a b : List Tch} {k n : Nat} (h : a.length = n) : tnth (a ++ b) (n + k) = tnth b k := by
  subst h
  unfold tnth
  rw [List.getD_eq_getElem?_getD, List.getD_eq_getElem?_getD, List.getElem?_append_right (by omega), Nat.add_sub_cancel_left]
theorem tnth_app_l {a b : List Tch} {k : Nat} (h : k < a.length) : tnth (a ++ b) k = tnth a k := by
  unfold tnth
  rw [List.getD_eq_getElem?_getD, List.getD_eq_getElem?_getD, List.getElem?_append_left h]

/-! ### the same list with other uses in it -/
def trn (us : List Us) (j : Nat) : Us := ((unth us (us.length - 1 - j)).1 ^^^ 64, !(unth us j).2)
def trs (us : List Us) (k : Nat) : List Us := (List.range us.length).map fun j => if j < k then trn us j else unth us j
theorem trs_len (us : List Us) (k : Nat) : (trs us k).length = us.length := by simp [trs]
theorem trs_zero (us : List Us) : trs us 0 = us := by
  apply List.ext_getElem?
  intro j
  unfold trs
  by_cases hj : j < us.length
  · simp [hj, unth]
  · rw [List.getElem?_eq_none (by simp; omega), List.getElem?_eq_none (by omega)]
theorem trs_at {us : List Us} {k j : Nat} (hj : j < us.length) : unth (trs us k) j = if j < k then trn us j else unth us j := by
  unfold trs unth
  rw [List.getD_eq_getElem?_getD, List.getElem?_map, List.getElem?_range hj]
  rfl
theorem trs_set {us : List Us} {k : Nat} (h : k < us.length) : (trs us k).set k (trn us k) = trs us (k + 1) := by
  apply List.ext_getElem?
  intro j
  rw [List.getElem?_set, trs_len]
  unfold trs
  by_cases hj : j < us.length
  · by_cases e : k = j
    · subst e; simp [h]
    · rw [if_neg e, List.getElem?_map, List.getElem?_map, List.getElem?_range hj]
      simp only [Option.map_some]
      by_cases h1 : j < k
      · rw [if_pos h1, if_pos (by omega)]
      · rw [if_neg h1, if_neg (by omega)]
  · have e : k ≠ j := by omega
    rw [if_neg e, List.getElem?_eq_none (by simp; omega), List.getElem?_eq_none (by simp; omega)]
theorem xor_lt {a : Nat} (h : a < 4294967296) : a ^^^ 64 < 4294967296 := Nat.xor_lt_two_pow (n := 32) h (by decide)
theorem trs_lt {us : List Us} (h : ∀ k, (unth us k).1 < 4294967296) (k : Nat) : ∀ u ∈ trs us k, u.1 < 4294967296 := by
  intro u hu
  simp only [trs, List.mem_map, List.mem_range] at hu
  obtain ⟨j, hj, rfl⟩ := hu
  split
  · exact xor_lt (h _)
  · exact h _
theorem bits_xor {a : Nat} (h : a < 4294967296) : bits BinOp.xor IntKind.u32 (a : Int) 64 = ((a ^^^ 64 : Nat) : Int) := by
  have h2 := xor_lt h
  show IntKind.u32.wrap ((BitVec.ofInt 32 (a : Int) ^^^ BitVec.ofInt 32 64).toNat : Int) = _
  have e1 : (BitVec.ofInt 32 (a : Int)).toNat = a := by rw [BitVec.ofInt_natCast, BitVec.toNat_ofNat]; exact Nat.mod_eq_of_lt (by omega)
  rw [BitVec.toNat_xor, e1, show (BitVec.ofInt 32 64).toNat = 64 from rfl, IntKind.wrap_u32]
  omega
end Go.Proofs.YtlmgiejemdifkaaDoor.Ca
