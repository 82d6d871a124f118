/- The document's New: its contract. No statement of the seat is proved here. -/
import Derived.Test.YtfoofipkbijajaaRef
namespace Go.Proofs.Ytfoofipkbijajaa.Sa
open Go.RowKit Go.Proofs.Ytfoofipkbijajaa.Kit
set_option linter.unusedSimpArgs false
set_option linter.unusedVariables false

/-- The document's port in memory. -/
def rcells (P : PA) (rv da db : Value) : Array Value :=
  #[.int .i64 P.W, .int .i64 P.S, rv, .bool P.A.there, .bool P.B.there, da, .int .u64 P.A.tick, db, .int .u64 P.B.tick]
structure RefIs (w : World) (b : Nat) (F : Nat → Prop) (P : PA) : Prop where
  has : ∃ rv da db, w.heap[b]? = some (.cells (rcells P rv da db) 69 (0, 0)) ∧ Ri w rv P.rs ∧ Rb w da P.A.data ∧ Rb w db P.B.data ∧
    (∀ g, rv.ownBlock = some g → F g) ∧ (∀ g, da.ownBlock = some g → F g) ∧ (∀ g, db.ownBlock = some g → F g)
  off : ¬ F b
  lt : ∀ x, F x → x < w.heap.size
theorem RefIs.kept {w w' : World} {b : Nat} {F : Nat → Prop} {P : PA} (h : RefIs w b F P) {row : Option Nat} (hg : w.grownBy w' row) (h1 : row ≠ some b) (h2 : ∀ x, F x → row ≠ some x) : RefIs w' b F P := by
  obtain ⟨⟨rv, da, db, hb, hr, ha, hbb, f1, f2, f3⟩, hoff, hlt⟩ := h
  have hbl : b < w.heap.size := (Array.getElem?_eq_some_iff.1 hb).1
  have hk : ∀ g, F g → g < w.heap.size → w'.heap[g]? = w.heap[g]? := fun g hf hl => hg.block g hl (fun e => h2 g hf e.symm)
  exact ⟨⟨rv, da, db, by rw [hg.block b hbl (fun e => h1 e.symm)]; exact hb, hr.kept fun g e hl => hk g (f1 g e) hl, ha.kept fun g e hl => hk g (f2 g e) hl, hbb.kept fun g e hl => hk g (f3 g e) hl, f1, f2, f3⟩,
    hoff, fun x hx => Nat.lt_of_lt_of_le (hlt x hx) hg.size⟩
theorem RefIs.blt {w : World} {b : Nat} {F : Nat → Prop} {P : PA} (h : RefIs w b F P) : b < w.heap.size := by
  obtain ⟨⟨rv, da, db, hb, _⟩, _, _⟩ := h
  exact (Array.getElem?_eq_some_iff.1 hb).1
def RefPost (w : World) (W S : Int) (rs : List Int) (e : Ending) (w' : World) : Prop :=
  (may W S rs = false ∧ e = .returned (.tuple #[.pointer none, .int .i64 160]) ∧ Chg w w' none) ∨
  (may W S rs = true ∧ ∃ b F, e = .returned (.tuple #[.pointer (some ⟨b, 0, none⟩), .int .i64 0]) ∧ RefIs w' b F ⟨W, S, rs, Msg.none, Msg.none⟩ ∧ w.heap.size ≤ b ∧ (∀ x, F x → w.heap.size ≤ x) ∧ Chg w w' none)
theorem b69 (W S : Int) (A : Option Addr) (n c : Nat) (w : World) : (Instr.build 69 #[(0, .agg #[.int .i64 W, .int .i64 S, .slice A n c])]).run Try.prog w =
    .ok (.agg #[.int .i64 W, .int .i64 S, .slice A n c, .bool false, .bool false, .slice none 0 0, .int .u64 0, .slice none 0 0, .int .u64 0]) w := by kernel_rfl
theorem may_pos {W S : Int} {rs : List Int} (h : may W S rs = true) : 0 < rs.length := by
  simp only [may, Bool.and_eq_true, decide_eq_true_eq] at h; exact h.1.2
theorem map_one (k : IntKind) (xs : List Int) : ∀ u ∈ xs.map (Value.int k), u.oneCell' = true := by
  intro u hu
  simp only [List.mem_map] at hu
  obtain ⟨x, _, rfl⟩ := hu
  rfl
theorem sl_cells {k : IntKind} {m : Nat} {w : World} {ad : Addr} {n cap : Nat} {xs : List Int} (h : Sl k m w (.slice (some ad) n cap) xs) : ∀ j u, (xs.map (Value.int k))[j]? = some u → w.cell? (ad.add j) = some u := by
  intro j u hu
  have hj : j < xs.length := by have := (List.getElem?_eq_some_iff.1 hu).1; simpa using this
  obtain ⟨b, off, hA, hx⟩ := h.at_ j hj
  cases hA
  rw [Addr.add_mid, hx]
  simp [List.getElem?_map, List.getElem?_eq_getElem hj] at hu
  rw [← hu]; simp [nth, List.getD_eq_getElem?_getD, List.getElem?_eq_getElem hj]
set_option maxHeartbeats 2000000 in
theorem rnew_any (w : World) (W S : Int) (rv : Value) (rs : List Int) (h : Ri w rv rs) :
    Calls Try.prog 10 #[.agg #[.int .i64 W, .int .i64 S, rv]] w (RefPost w W S rs) := by
  have H := Lib.hid h
  obtain ⟨⟨A, cap, rfl, hcap, hcc⟩, hf⟩ := h
  clear hcc
  have H1 := Lib.hid (H.out.kept (w' := w.alloc (.cells #[.int .i64 W, .int .i64 S, .slice A rs.length cap] 24)) (fun g _ hg => heap_alloc_old w _ hg))
  have C1 := Lib.hid ((Chg.refl w none).alloc (.cells #[.int .i64 W, .int .i64 S, .slice A rs.length cap] 24))
  have hbk := heap_alloc_last w (.cells #[.int .i64 W, .int .i64 S, .slice A rs.length cap] 24)
  have b0 : (w.alloc (.cells #[.int .i64 W, .int .i64 S, .slice A rs.length cap] 24)).cell? ⟨w.heap.size, 0, none⟩ = some (.int .i64 W) := by rw [cell_of_row _ _ _ _ _ _ hbk]; rfl
  have b1 : (w.alloc (.cells #[.int .i64 W, .int .i64 S, .slice A rs.length cap] 24)).cell? ⟨w.heap.size, 1, none⟩ = some (.int .i64 S) := by rw [cell_of_row _ _ _ _ _ _ hbk]; rfl
  have b2 : (w.alloc (.cells #[.int .i64 W, .int .i64 S, .slice A rs.length cap] 24)).cell? ⟨w.heap.size, 2, none⟩ = some (.slice A rs.length cap) := by rw [cell_of_row _ _ _ _ _ _ hbk]; rfl
  have HB0 := Lib.hid hbk
  have hs1 : w.heap.size < (w.alloc (.cells #[.int .i64 W, .int .i64 S, .slice A rs.length cap] 24)).heap.size := by simp
  clear hbk H
  go_enter Try.func10, Try.ntmps10
  go_wp2_with fail
  generalize w.alloc (.cells #[.int .i64 W, .int .i64 S, .slice A rs.length cap] 24) = w1 at *
  refine (may_any w1 W S _ rs H1.out).mono ?_
  rintro e w2 ⟨rfl, hgr⟩
  have C2 := Lib.hid (C1.out.trans hgr)
  have H2 := Lib.hid (Chg.sl H1.out hgr)
  have hob := (hgr.block _ hs1 (by simp)).trans HB0.out
  have hs2 : w.heap.size < w2.heap.size := by have := hgr.size; omega
  clear hgr b0 b1 b2 H1 HB0 C1
  cases hm : may W S rs with
  | false =>
    have HM := Lib.hid hm
    clear hm
    go_wp2
    go_ret2
    exact .inl ⟨HM.out, rfl, C2.out⟩
  | true =>
    have hpos := may_pos hm
    have HM := Lib.hid hm
    clear hm
    obtain ⟨rb, ro, rfl, hcell⟩ := H2.out.at_ 0 hpos
    have hcs := sl_cells H2.out
    have HC := Lib.hid hcs
    clear hcs hcell
    have d0 : w2.cell? ⟨w.heap.size, 0, none⟩ = some (.int .i64 W) := by rw [cell_of_row _ _ _ _ _ _ hob]; rfl
    have d1 : w2.cell? ⟨w.heap.size, 1, none⟩ = some (.int .i64 S) := by rw [cell_of_row _ _ _ _ _ _ hob]; rfl
    have d2 : w2.cell? ⟨w.heap.size, 2, none⟩ = some (.slice (some ⟨rb, ro, none⟩) rs.length cap) := by rw [cell_of_row _ _ _ _ _ _ hob]; rfl
    obtain ⟨i0, hi, hz0, hz1, hz2⟩ := info_parts info3
    have HOB := Lib.hid hob
    clear hob
    go_wp2_with (at_builtin; refine wpList_append_own _ rfl _ _ 22 rfl w2.heap.size 3 i0 (.int .i64 0) 1 8 Try.underlying22 hi hz0 hz1 hz2 rfl (by decide) _ _ _ rfl (World.ownsRow_nil w2 _ _ _) ⟨rb, ro, none⟩ rs.length cap (rs.map (Value.int .i64)) rfl ?qc1 ?qc2 ?qc3 ?qc4 ?qc5 ?qc6 ?_)
    case qc1 => simp
    case qc2 => exact HC.out
    case qc3 => exact map_one _ _
    case qc4 => simp only [maxLen]; omega
    case qc5 => omega
    case qc6 => simp
    intro v' w3 hown hgr hnil
    have hown2 : w3.ownsRow w2.heap.size 3 1 v' rs.length (rs.map (Value.int .i64)) := by simpa using hown
    have hgr2 : Chg w2 w3 none := hgr
    obtain ⟨A', c', rfl⟩ := own_slice hown2
    have hob := (hgr2.block _ hs2 (by simp)).trans HOB.out
    have e0 : w3.cell? ⟨w.heap.size, 0, none⟩ = some (.int .i64 W) := by rw [cell_of_row _ _ _ _ _ _ hob]; rfl
    have e1 : w3.cell? ⟨w.heap.size, 1, none⟩ = some (.int .i64 S) := by rw [cell_of_row _ _ _ _ _ _ hob]; rfl
    have e2 : w3.cell? ⟨w.heap.size, 2, none⟩ = some (.slice (some ⟨rb, ro, none⟩) rs.length cap) := by rw [cell_of_row _ _ _ _ _ _ hob]; rfl
    have f2 : w3.frozen? ⟨w.heap.size, 2, none⟩ = false := frozen_of_row _ _ _ _ _ hob
    have hx := b69 W S A' rs.length c'
    have R2 := Lib.hid (own_sl hown2 hf)
    have HBL := Lib.hid (own_block hown2)
    have C3 := Lib.hid (C2.out.trans hgr2)
    have hs3 := hgr2.size
    clear hown hown2 hgr hgr2 hob d0 d1 d2 hnil
    go_wp2
    go_ret2
    have K := ((Chg.refl w3 (some w.heap.size)).set 2 (.slice A' rs.length c')).alloc (.cells #[.int .i64 W, .int .i64 S, .slice A' rs.length c', .bool false, .bool false, .slice none 0 0, .int .u64 0, .slice none 0 0, .int .u64 0] 69)
    refine .inr ⟨HM.out, w3.heap.size, fun g => (Value.slice A' rs.length c').ownBlock = some g, ?_, ⟨⟨_, .slice none 0 0, .slice none 0 0, ?_, ?_, Sl.nil _, Sl.nil _, fun g e => e, fun g e => ?_, fun g e => ?_⟩, ?_, ?_⟩, ?_, ?_, ?_⟩
    · go_simp
    · have e := heap_alloc_last (w3.setCell ⟨w.heap.size, 2, none⟩ (.slice A' rs.length c')) (.cells #[.int .i64 W, .int .i64 S, .slice A' rs.length c', .bool false, .bool false, .slice none 0 0, .int .u64 0, .slice none 0 0, .int .u64 0] 69)
      rw [show (w3.setCell ⟨w.heap.size, 2, none⟩ (.slice A' rs.length c')).heap.size = w3.heap.size by simp] at e
      exact e
    · exact R2.out.kept fun g e hl => K.block g hl (fun e2 => by cases e2; have := (HBL.out _ e).1; omega)
    · cases e
    · cases e
    · intro e; have := (HBL.out _ e).2; omega
    · intro x e; have h1 := (HBL.out _ e).2; have h2 := K.size; omega
    · omega
    · intro x e; have := (HBL.out _ e).1; omega
    · exact (C3.out.set_new 2 _ (Nat.le_refl _)).alloc _
end Go.Proofs.Ytfoofipkbijajaa.Sa
