/- copied, State of a port, sameState: contracts. No statement of the seat is proved here. -/
import Derived.Test.YtfoofipkbijajaaTurn
import Derived.Deep.Onto
import Derived.Deep.CutRange
namespace Go.Proofs.Ytfoofipkbijajaa.Sa
open Go.RowKit Go.Proofs.Ytfoofipkbijajaa.Kit
set_option linter.unusedSimpArgs false
set_option linter.unusedVariables false

theorem info42 : (Try.prog.info? 42).map (·.size) = some 2 := by kernel_rfl
theorem zero42 : ∀ w, (zeroValue 42).run Try.prog w = .ok (.agg #[.slice none 0 0, .int .u64 0]) w := fun _ => by kernel_rfl
/-- A list of bytes of one's own. -/
abbrev Own (w : World) (base : Nat) (v : Value) (xs : List Int) : Prop := w.ownsRow base 5 1 v xs.length (xs.map (Value.int .u8))
set_option maxHeartbeats 1000000 in
theorem copied_any (w : World) (v : Value) (xs : List Int) (h : Rb w v xs) (t : Nat) :
    Calls Try.prog 29 #[.agg #[v, .int .u64 t]] w fun e w' => ∃ v', e = .returned (.agg #[v', .int .u64 t]) ∧ Own w' w.heap.size v' xs ∧ Chg w w' none := by
  have hz := zero42
  have C1 := Lib.hid (((Chg.refl w none).alloc (.cells #[v, .int .u64 t] 42)).alloc (.cells #[.slice none 0 0, .int .u64 0] 42))
  have H1 := Lib.hid (Chg.sl h C1.out)
  have hr0 : ((w.alloc (.cells #[v, .int .u64 t] 42)).alloc (.cells #[.slice none 0 0, .int .u64 0] 42)).heap[w.heap.size]? = some (.cells #[v, .int .u64 t] 42 (0, 0)) := by rw [heap_alloc_old (h := by simp)]; exact heap_alloc_last w _
  have hr1 : ((w.alloc (.cells #[v, .int .u64 t] 42)).alloc (.cells #[.slice none 0 0, .int .u64 0] 42)).heap[w.heap.size + 1]? = some (.cells #[.slice none 0 0, .int .u64 0] 42 (0, 0)) := by
    have := heap_alloc_last (w.alloc (.cells #[v, .int .u64 t] 42)) (.cells #[.slice none 0 0, .int .u64 0] 42)
    simpa using this
  have hs : ((w.alloc (.cells #[v, .int .u64 t] 42)).alloc (.cells #[.slice none 0 0, .int .u64 0] 42)).heap.size = w.heap.size + 2 := by simp
  obtain ⟨⟨D, cap, rfl, hcap, hcc⟩, hf⟩ := h
  clear hcc
  go_enter Try.func29, Try.ntmps29
  go_wp2_with fail
  refine (clone27 _ _ xs ⟨H1.out.shape, H1.out.few⟩).mono ?_
  rintro e w2 ⟨v', rfl, hown, hgr⟩
  obtain ⟨A', c', rfl⟩ := own_slice hown
  have G := Lib.hid hgr
  have e0 := (hgr.block w.heap.size (by omega) (by simp)).trans hr0
  have e1 := (hgr.block (w.heap.size + 1) (by omega) (by simp)).trans hr1
  have a0 : w2.cell? ⟨w.heap.size, 0, none⟩ = some (.slice D xs.length cap) := by rw [cell_of_row _ _ _ _ _ _ e0]; rfl
  have a1 : w2.cell? ⟨w.heap.size, 1, none⟩ = some (.int .u64 t) := by rw [cell_of_row _ _ _ _ _ _ e0]; rfl
  have f0 := frozen_of_row w2 w.heap.size 0 _ _ e0
  have b0 : w2.cell? ⟨w.heap.size + 1, 0, none⟩ = some (.slice none 0 0) := by rw [cell_of_row _ _ _ _ _ _ e1]; rfl
  have b1 : w2.cell? ⟨w.heap.size + 1, 1, none⟩ = some (.int .u64 0) := by rw [cell_of_row _ _ _ _ _ _ e1]; rfl
  have g0 := frozen_of_row w2 (w.heap.size + 1) 0 _ _ e1
  have g1 := frozen_of_row w2 (w.heap.size + 1) 1 _ _ e1
  have E1 := Lib.hid e1
  have O := Lib.hid (hown.mono (base' := w.heap.size + 2) (by omega))
  clear hown hgr e0 e1 hr0 hr1 H1
  go_wp2
  have hg := heap_setCell_same _ (w.heap.size + 1) 1 _ _ (.int .u64 t) (heap_setCell_same _ (w.heap.size + 1) 0 _ _ (.slice A' xs.length c') ((heap_setCell_other w2 ⟨w.heap.size, 0, none⟩ (w.heap.size + 1) (.slice A' xs.length c') (show w.heap.size + 1 ≠ w.heap.size by omega)).trans E1.out))
  refine bodyPost_ret (results_cell_row (p := 2) (ty := 42) rfl _ _ (w.heap.size + 1) 42 #[.slice A' xs.length c', .int .u64 t] (0, 0) _ rfl hg Try.underlying42 rfl info42) rfl ?_
  have OB := fun g e => (O.out.lt g e)
  have C2 := ((((C1.out.trans G.out).set_new (b := w.heap.size) 0 (.slice A' xs.length c') (by omega)).set_new (b := w.heap.size + 1) 0 (.slice A' xs.length c') (by omega)).set_new (b := w.heap.size + 1) 1 (.int .u64 t) (by omega))
  have K1 := O.out.kept ((Chg.refl w2 (some w.heap.size)).set 0 (.slice A' xs.length c')) (.inr (fun e => by have := (OB _ e).1; omega))
  have K2 := K1.kept ((Chg.refl _ (some (w.heap.size + 1))).set 0 (.slice A' xs.length c')) (.inr (fun e => by have := (OB _ e).1; omega))
  have K3 := K2.kept ((Chg.refl _ (some (w.heap.size + 1))).set 1 (.int .u64 t)) (.inr (fun e => by have := (OB _ e).1; omega))
  exact ⟨_, rfl, K3.mono (by omega), C2⟩

/-! ### sameState, of two that are -/
set_option maxHeartbeats 2000000 in
theorem sameState_yes (w : World) (a b : Bool) (t q : Nat) (xs ys : List Int) (v1 u1 v2 u2 : Value) (h1 : Rb w v1 xs) (h2 : Rb w v2 xs) (k1 : Rb w u1 ys) (k2 : Rb w u2 ys) :
    Calls Try.prog 18 #[.agg #[.bool a, .bool b, v1, .int .u64 t, u1, .int .u64 q], .agg #[.bool a, .bool b, v2, .int .u64 t, u2, .int .u64 q]] w fun e w' => e = .returned (.bool true) ∧ Chg w w' none := by
  have C1 := Lib.hid (((Chg.refl w none).alloc (.cells #[.bool a, .bool b, v1, .int .u64 t, u1, .int .u64 q] 44)).alloc (.cells #[.bool a, .bool b, v2, .int .u64 t, u2, .int .u64 q] 44))
  have H1 := Lib.hid (Chg.sl h1 C1.out)
  have H2 := Lib.hid (Chg.sl h2 C1.out)
  have K1 := Lib.hid (Chg.sl k1 C1.out)
  have K2 := Lib.hid (Chg.sl k2 C1.out)
  clear h1 h2 k1 k2
  go_enter Try.func18, Try.ntmps18
  go_wp2_with fail
  refine (same_any _ _ _ xs xs H1.out H2.out).mono ?_
  rw [decide_eq_true rfl]
  rintro e w2 ⟨rfl, n2, rfl⟩
  go_wp2_with fail
  refine (same_any _ _ _ ys ys (K1.out.drewN n2) (K2.out.drewN n2)).mono ?_
  rw [decide_eq_true rfl]
  rintro e w3 ⟨rfl, n3, rfl⟩
  go_wp2
  go_ret
  exact ⟨rfl, C1.out.drewN _⟩

theorem zero44 : ∀ w, (zeroValue 44).run Try.prog w = .ok (.agg #[.bool false, .bool false, .slice none 0 0, .int .u64 0, .slice none 0 0, .int .u64 0]) w := fun _ => by kernel_rfl
theorem info44 : (Try.prog.info? 44).map (·.size) = some 6 := by kernel_rfl
theorem state_end {w w2 w3 w4 : World} {a b : Bool} {t q : Nat} {d1 d2 : Value} {xs ys : List Int} {z : Array Value} (hz : z = #[.bool false, .bool false, .slice none 0 0, .int .u64 0, .slice none 0 0, .int .u64 0]) (R4 : w4.heap[w.heap.size]? = some (.cells z 44 (0, 0)))
    (O3 : Own w3 w2.heap.size d1 xs) (O4 : Own w4 w3.heap.size d2 ys) (C : Chg w w3 none) (C4 : Chg w3 w4 none) (hs : w.heap.size < w2.heap.size) (hs3 : w2.heap.size ≤ w3.heap.size) {W : World}
    (hW : W = (((((w4.setCell ⟨w.heap.size, 0, none⟩ (.bool a)).setCell ⟨w.heap.size, 1, none⟩ (.bool b)).setCell ⟨w.heap.size, 2, none⟩ d1).setCell ⟨w.heap.size, 3, none⟩ (.int .u64 t)).setCell ⟨w.heap.size, 4, none⟩ d2).setCell ⟨w.heap.size, 5, none⟩ (.int .u64 q)) :
    W.heap[w.heap.size]? = some (.cells #[.bool a, .bool b, d1, .int .u64 t, d2, .int .u64 q] 44 (0, 0)) ∧ Own W w.heap.size d1 xs ∧ Own W w.heap.size d2 ys ∧ (∀ g, d1.ownBlock = some g → d2.ownBlock ≠ some g) ∧ Chg w W none := by
  subst hz
  have K : Chg w4 W (some w.heap.size) := by
    rw [hW]
    exact ((((((Chg.refl w4 (some w.heap.size)).set 0 _).set 1 _).set 2 _).set 3 _).set 4 _).set 5 _
  have hsz : w4.heap.size ≤ W.heap.size := K.size
  have A3 := (World.ownsRow.kept O3 C4 (by cases d1.ownBlock <;> simp)).kept K (.inr (fun e => by have := (World.ownsRow.lt O3 _ e).1; omega))
  have A4 := World.ownsRow.kept O4 K (.inr (fun e => by have := (World.ownsRow.lt O4 _ e).1; omega))
  refine ⟨?_, A3.mono (by omega), A4.mono (by omega), fun g e e2 => ?_, ?_⟩
  · rw [hW]
    exact heap_setCell_same _ _ 5 _ _ _ (heap_setCell_same _ _ 4 _ _ _ (heap_setCell_same _ _ 3 _ _ _ (heap_setCell_same _ _ 2 _ _ _ (heap_setCell_same _ _ 1 _ _ _ (heap_setCell_same _ _ 0 _ _ _ R4)))))
  · have h1 := (World.ownsRow.lt O3 _ e).2
    have h2 := (World.ownsRow.lt O4 _ e2).1
    omega
  · exact (C.trans C4).trans_new K (Nat.le_refl _)
set_option maxHeartbeats 2000000 in
theorem state_any (w : World) (b : Nat) (F : Nat → Prop) (P : PA) (h : PortIs w b F P) :
    Calls Try.prog 17 #[.pointer (some ⟨b, 0, none⟩)] w fun e w' => ∃ da db, e = .returned (.agg #[.bool P.A.there, .bool P.B.there, da, .int .u64 P.A.tick, db, .int .u64 P.B.tick]) ∧
      Own w' w.heap.size da P.A.data ∧ Own w' w.heap.size db P.B.data ∧ P.A.data.length * 1 ≤ 140737488351232 ∧ P.B.data.length * 1 ≤ 140737488351232 ∧ (∀ g, da.ownBlock = some g → db.ownBlock ≠ some g) ∧ Chg w w' none := by
  have hz := zero44
  have hz' := zero64
  have C0 := Lib.hid ((Chg.refl w none).alloc (.cells #[.bool false, .bool false, .slice none 0 0, .int .u64 0, .slice none 0 0, .int .u64 0] 44))
  have H1 := h.kept C0.out (by simp) (fun _ _ => by simp)
  have R0 := Lib.hid (heap_alloc_last w (.cells #[.bool false, .bool false, .slice none 0 0, .int .u64 0, .slice none 0 0, .int .u64 0] 44))
  have hs1 : (w.alloc (.cells #[.bool false, .bool false, .slice none 0 0, .int .u64 0, .slice none 0 0, .int .u64 0] 44)).heap.size = w.heap.size + 1 := by simp
  clear h
  go_enter Try.func17, Try.ntmps17
  go_wp2_with fail
  generalize w.alloc (.cells #[.bool false, .bool false, .slice none 0 0, .int .u64 0, .slice none 0 0, .int .u64 0] 44) = w1 at *
  have HS1 := Lib.hid hs1
  clear hs1
  obtain ⟨⟨rv, da, db, la, hrow, hr, ha, hb, k1, k2, k3⟩, hoff, hlt⟩ := H1
  have HA := Lib.hid ha
  have HB := Lib.hid hb
  have hbl : b < w1.heap.size := (Array.getElem?_eq_some_iff.1 hrow).1
  obtain ⟨⟨A, cap, rfl, hcap, hcc⟩, hf⟩ := ha
  obtain ⟨⟨B, cap2, rfl, hcap2, hcc2⟩, hf2⟩ := hb
  have HF := Lib.hid hf
  have HF2 := Lib.hid hf2
  clear hcc hcc2 hr k1 k2 k3 hlt hcap hcap2 hoff hf hf2
  cases la with
  | false =>
    have c9 : w1.cell? ⟨b, 9, none⟩ = some (.int .i64 0) := by rw [cell_of_row _ _ _ _ _ _ hrow]; rfl
    have c3 : w1.cell? ⟨b, 3, none⟩ = some (.bool P.A.there) := by rw [cell_of_row _ _ _ _ _ _ hrow]; rfl
    have c4 : w1.cell? ⟨b, 4, none⟩ = some (.slice A P.A.data.length cap) := by rw [cell_of_row _ _ _ _ _ _ hrow]; rfl
    have c5 : w1.cell? ⟨b, 5, none⟩ = some (.int .u64 P.A.tick) := by rw [cell_of_row _ _ _ _ _ _ hrow]; rfl
    have c6 : w1.cell? ⟨b, 6, none⟩ = some (.bool P.B.there) := by rw [cell_of_row _ _ _ _ _ _ hrow]; rfl
    have c7 : w1.cell? ⟨b, 7, none⟩ = some (.slice B P.B.data.length cap2) := by rw [cell_of_row _ _ _ _ _ _ hrow]; rfl
    have c8 : w1.cell? ⟨b, 8, none⟩ = some (.int .u64 P.B.tick) := by rw [cell_of_row _ _ _ _ _ _ hrow]; rfl
    have hsum : IntKind.i64.wrap ((1 : Int) - 0) = 1 := by decide
    have hsum2 : IntKind.i64.wrap (1 : Int) = 1 := by decide
    have n9 := World.new_ne w1 _ c9
    clear hrow
    go_region_held (fun w' => w'.cell? ⟨b, 9, none⟩ = some (.int .i64 0) ∧ w'.cell? ⟨b, 3, none⟩ = some (.bool P.A.there) ∧ w'.cell? ⟨b, 4, none⟩ = some (.slice A P.A.data.length cap) ∧ w'.cell? ⟨b, 5, none⟩ = some (.int .u64 P.A.tick) ∧ w'.cell? ⟨b, 6, none⟩ = some (.bool P.B.there) ∧ w'.cell? ⟨b, 7, none⟩ = some (.slice B P.B.data.length cap2) ∧ w'.cell? ⟨b, 8, none⟩ = some (.int .u64 P.B.tick)) (go_keep) (fail)
    · rename_i _ hHH
      clear hHH n9 c9 c3 c4 c5 c6 c7 c8
      have C1 := Lib.hid ((((Chg.refl w1 none).alloc (.cells #[.bool P.A.there, .slice A P.A.data.length cap, .int .u64 P.A.tick] 64)).alloc (.cells #[.bool P.B.there, .slice B P.B.data.length cap2, .int .u64 P.B.tick] 64)).drewN 1)
      have L1 := Lib.hid (show ((w1.alloc (.cells #[.bool P.A.there, .slice A P.A.data.length cap, .int .u64 P.A.tick] 64)).alloc (.cells #[.bool P.B.there, .slice B P.B.data.length cap2, .int .u64 P.B.tick] 64)).drew.heap[w1.heap.size]? = some (.cells #[.bool P.A.there, .slice A P.A.data.length cap, .int .u64 P.A.tick] 64 (0, 0)) from Eq.trans (heap_alloc_old (w1.alloc _) _ (by simp)) (heap_alloc_last w1 _))
      have N1 := Lib.hid (show ((w1.alloc (.cells #[.bool P.A.there, .slice A P.A.data.length cap, .int .u64 P.A.tick] 64)).alloc (.cells #[.bool P.B.there, .slice B P.B.data.length cap2, .int .u64 P.B.tick] 64)).drew.heap[w1.heap.size + 1]? = some (.cells #[.bool P.B.there, .slice B P.B.data.length cap2, .int .u64 P.B.tick] 64 (0, 0)) from heap_alloc2_new w1 _ _)
      have hs2 : ((w1.alloc (.cells #[.bool P.A.there, .slice A P.A.data.length cap, .int .u64 P.A.tick] 64)).alloc (.cells #[.bool P.B.there, .slice B P.B.data.length cap2, .int .u64 P.B.tick] 64)).drew.heap.size = w1.heap.size + 2 := by simp
      rw [World.drew_is_drewN] at *
      generalize ((w1.alloc (.cells #[.bool P.A.there, .slice A P.A.data.length cap, .int .u64 P.A.tick] 64)).alloc (.cells #[.bool P.B.there, .slice B P.B.data.length cap2, .int .u64 P.B.tick] 64)).drewN 1 = w2 at *
      have HS2 := Lib.hid hs2
      clear hs2
      have HA2 := Lib.hid (Chg.sl HA.out C1.out)
      have HB2 := Lib.hid (Chg.sl HB.out C1.out)
      have d0 : w2.cell? ⟨w1.heap.size, 0, none⟩ = some (.bool P.A.there) := by rw [cell_of_row _ _ _ _ _ _ L1.out]; rfl
      have d1 : w2.cell? ⟨w1.heap.size, 1, none⟩ = some (.slice A P.A.data.length cap) := by rw [cell_of_row _ _ _ _ _ _ L1.out]; rfl
      have d2 : w2.cell? ⟨w1.heap.size, 2, none⟩ = some (.int .u64 P.A.tick) := by rw [cell_of_row _ _ _ _ _ _ L1.out]; rfl
      have d3 : w2.cell? ⟨w1.heap.size + 1, 0, none⟩ = some (.bool P.B.there) := by rw [cell_of_row _ _ _ _ _ _ N1.out]; rfl
      have d4 : w2.cell? ⟨w1.heap.size + 1, 1, none⟩ = some (.slice B P.B.data.length cap2) := by rw [cell_of_row _ _ _ _ _ _ N1.out]; rfl
      have d5 : w2.cell? ⟨w1.heap.size + 1, 2, none⟩ = some (.int .u64 P.B.tick) := by rw [cell_of_row _ _ _ _ _ _ N1.out]; rfl
      go_wp2_with fail
      go_region_held (fun w' => w'.cell? ⟨w1.heap.size, 0, none⟩ = some (.bool P.A.there) ∧ w'.cell? ⟨w1.heap.size, 1, none⟩ = some (.slice A P.A.data.length cap) ∧ w'.cell? ⟨w1.heap.size, 2, none⟩ = some (.int .u64 P.A.tick) ∧ w'.cell? ⟨w1.heap.size + 1, 0, none⟩ = some (.bool P.B.there) ∧ w'.cell? ⟨w1.heap.size + 1, 1, none⟩ = some (.slice B P.B.data.length cap2) ∧ w'.cell? ⟨w1.heap.size + 1, 2, none⟩ = some (.int .u64 P.B.tick)) (go_keep) (first
        | (go_at_call 29; refine (copied_any w2.drew _ P.A.data (Sl.drewN HA2.out 1) P.A.tick).mono ?_; rintro e w3 ⟨v3, rfl, hown3, hC3⟩
           obtain ⟨A3, c3, rfl⟩ := own_slice hown3
           have O3 := Lib.hid hown3; have C3 := Lib.hid (((Chg.refl w2 none).drewN 1).trans hC3)
           have L3 := Lib.hid ((C3.out.block w1.heap.size (by have := HS1.out; have := HS2.out; omega) (by simp)).trans L1.out)
           have N3 := Lib.hid ((C3.out.block (w1.heap.size + 1) (by have := HS1.out; have := HS2.out; omega) (by simp)).trans N1.out)
           have d0 : w3.cell? ⟨w1.heap.size, 0, none⟩ = some (.bool P.A.there) := (by rw [cell_of_row _ _ _ _ _ _ L3.out]; rfl)
           have d1 : w3.cell? ⟨w1.heap.size, 1, none⟩ = some (.slice A P.A.data.length cap) := (by rw [cell_of_row _ _ _ _ _ _ L3.out]; rfl)
           have d2 : w3.cell? ⟨w1.heap.size, 2, none⟩ = some (.int .u64 P.A.tick) := (by rw [cell_of_row _ _ _ _ _ _ L3.out]; rfl)
           have d3 : w3.cell? ⟨w1.heap.size + 1, 0, none⟩ = some (.bool P.B.there) := (by rw [cell_of_row _ _ _ _ _ _ N3.out]; rfl)
           have d4 : w3.cell? ⟨w1.heap.size + 1, 1, none⟩ = some (.slice B P.B.data.length cap2) := (by rw [cell_of_row _ _ _ _ _ _ N3.out]; rfl)
           have d5 : w3.cell? ⟨w1.heap.size + 1, 2, none⟩ = some (.int .u64 P.B.tick) := (by rw [cell_of_row _ _ _ _ _ _ N3.out]; rfl)
           have HB3 := Lib.hid (Chg.sl HB2.out C3.out)
           clear hown3 hC3)
        | (go_at_call 29; refine (copied_any w3 _ P.B.data HB3.out P.B.tick).mono ?_; rintro e w4 ⟨v4, rfl, hown4, hC4⟩
           obtain ⟨A4, c4, rfl⟩ := own_slice hown4
           have O4 := Lib.hid hown4; have C4 := Lib.hid hC4
           have L4 := Lib.hid ((C4.out.block w1.heap.size (by have := C3.out.size; have := HS1.out; have := HS2.out; omega) (by simp)).trans L3.out)
           have N4 := Lib.hid ((C4.out.block (w1.heap.size + 1) (by have := C3.out.size; have := HS1.out; have := HS2.out; omega) (by simp)).trans N3.out)
           have R4 := Lib.hid ((C4.out.block w.heap.size (by have := C3.out.size; have := HS1.out; have := HS2.out; omega) (by simp)).trans ((C3.out.block w.heap.size (by have := HS1.out; have := HS2.out; omega) (by simp)).trans ((C1.out.block w.heap.size (by have := HS1.out; have := HS2.out; omega) (by simp)).trans R0.out)))
           have d0 : w4.cell? ⟨w1.heap.size, 0, none⟩ = some (.bool P.A.there) := (by rw [cell_of_row _ _ _ _ _ _ L4.out]; rfl)
           have d1 : w4.cell? ⟨w1.heap.size, 1, none⟩ = some (.slice A P.A.data.length cap) := (by rw [cell_of_row _ _ _ _ _ _ L4.out]; rfl)
           have d2 : w4.cell? ⟨w1.heap.size, 2, none⟩ = some (.int .u64 P.A.tick) := (by rw [cell_of_row _ _ _ _ _ _ L4.out]; rfl)
           have d3 : w4.cell? ⟨w1.heap.size + 1, 0, none⟩ = some (.bool P.B.there) := (by rw [cell_of_row _ _ _ _ _ _ N4.out]; rfl)
           have d4 : w4.cell? ⟨w1.heap.size + 1, 1, none⟩ = some (.slice B P.B.data.length cap2) := (by rw [cell_of_row _ _ _ _ _ _ N4.out]; rfl)
           have d5 : w4.cell? ⟨w1.heap.size + 1, 2, none⟩ = some (.int .u64 P.B.tick) := (by rw [cell_of_row _ _ _ _ _ _ N4.out]; rfl)
           have e0 : w4.cell? ⟨w.heap.size, 0, none⟩ = some (.bool false) := (by rw [cell_of_row _ _ _ _ _ _ R4.out]; rfl)
           have e1 : w4.cell? ⟨w.heap.size, 1, none⟩ = some (.bool false) := (by rw [cell_of_row _ _ _ _ _ _ R4.out]; rfl)
           have e2 : w4.cell? ⟨w.heap.size, 2, none⟩ = some (.slice none 0 0) := (by rw [cell_of_row _ _ _ _ _ _ R4.out]; rfl)
           have e3 : w4.cell? ⟨w.heap.size, 3, none⟩ = some (.int .u64 0) := (by rw [cell_of_row _ _ _ _ _ _ R4.out]; rfl)
           have e4 : w4.cell? ⟨w.heap.size, 4, none⟩ = some (.slice none 0 0) := (by rw [cell_of_row _ _ _ _ _ _ R4.out]; rfl)
           have e5 : w4.cell? ⟨w.heap.size, 5, none⟩ = some (.int .u64 0) := (by rw [cell_of_row _ _ _ _ _ _ R4.out]; rfl)
           have f0 := frozen_of_row w4 w.heap.size 0 _ _ R4.out
           have f1 := frozen_of_row w4 w.heap.size 1 _ _ R4.out
           have f2 := frozen_of_row w4 w.heap.size 2 _ _ R4.out
           have f3 := frozen_of_row w4 w.heap.size 3 _ _ R4.out
           have f4 := frozen_of_row w4 w.heap.size 4 _ _ R4.out
           have f5 := frozen_of_row w4 w.heap.size 5 _ _ R4.out
           have hne : w.heap.size ≠ w1.heap.size := (by have := HS1.out; have := HS2.out; omega)
           have hne2 : w.heap.size ≠ w1.heap.size + 1 := (by have := HS1.out; have := HS2.out; omega)
           clear hown4 hC4))
      go_wp2
      obtain ⟨hg, o1, o2, hne3, hC⟩ := state_end (w2 := w2) (a := P.A.there) (b := P.B.there) (t := P.A.tick) (q := P.B.tick) rfl R4.out O3.out O4.out ((C0.out.trans C1.out).trans C3.out) C4.out (by have := HS1.out; have := HS2.out; omega) C3.out.size rfl
      refine bodyPost_ret (results_cell_row (p := 2) (ty := 44) rfl _ _ w.heap.size 44 _ (0, 0) _ rfl hg Try.underlying44 rfl info44) rfl ?_
      exact ⟨_, _, rfl, o1, o2, HF.out, HF2.out, hne3, hC⟩
    · rename_i _ hHH
      clear hHH n9 c9 c3 c4 c5 c6 c7 c8
      have C1 := Lib.hid ((((Chg.refl w1 none).alloc (.cells #[.bool P.B.there, .slice B P.B.data.length cap2, .int .u64 P.B.tick] 64)).alloc (.cells #[.bool P.A.there, .slice A P.A.data.length cap, .int .u64 P.A.tick] 64)).drewN 1)
      have L1 := Lib.hid (show ((w1.alloc (.cells #[.bool P.B.there, .slice B P.B.data.length cap2, .int .u64 P.B.tick] 64)).alloc (.cells #[.bool P.A.there, .slice A P.A.data.length cap, .int .u64 P.A.tick] 64)).drew.heap[(w1.heap.size + 1)]? = some (.cells #[.bool P.A.there, .slice A P.A.data.length cap, .int .u64 P.A.tick] 64 (0, 0)) from heap_alloc2_new w1 _ _)
      have N1 := Lib.hid (show ((w1.alloc (.cells #[.bool P.B.there, .slice B P.B.data.length cap2, .int .u64 P.B.tick] 64)).alloc (.cells #[.bool P.A.there, .slice A P.A.data.length cap, .int .u64 P.A.tick] 64)).drew.heap[w1.heap.size]? = some (.cells #[.bool P.B.there, .slice B P.B.data.length cap2, .int .u64 P.B.tick] 64 (0, 0)) from Eq.trans (heap_alloc_old (w1.alloc _) _ (by simp)) (heap_alloc_last w1 _))
      have hs2 : ((w1.alloc (.cells #[.bool P.B.there, .slice B P.B.data.length cap2, .int .u64 P.B.tick] 64)).alloc (.cells #[.bool P.A.there, .slice A P.A.data.length cap, .int .u64 P.A.tick] 64)).drew.heap.size = w1.heap.size + 2 := by simp
      rw [World.drew_is_drewN] at *
      generalize ((w1.alloc (.cells #[.bool P.B.there, .slice B P.B.data.length cap2, .int .u64 P.B.tick] 64)).alloc (.cells #[.bool P.A.there, .slice A P.A.data.length cap, .int .u64 P.A.tick] 64)).drewN 1 = w2 at *
      have HS2 := Lib.hid hs2
      clear hs2
      have HA2 := Lib.hid (Chg.sl HA.out C1.out)
      have HB2 := Lib.hid (Chg.sl HB.out C1.out)
      have d0 : w2.cell? ⟨(w1.heap.size + 1), 0, none⟩ = some (.bool P.A.there) := by rw [cell_of_row _ _ _ _ _ _ L1.out]; rfl
      have d1 : w2.cell? ⟨(w1.heap.size + 1), 1, none⟩ = some (.slice A P.A.data.length cap) := by rw [cell_of_row _ _ _ _ _ _ L1.out]; rfl
      have d2 : w2.cell? ⟨(w1.heap.size + 1), 2, none⟩ = some (.int .u64 P.A.tick) := by rw [cell_of_row _ _ _ _ _ _ L1.out]; rfl
      have d3 : w2.cell? ⟨w1.heap.size, 0, none⟩ = some (.bool P.B.there) := by rw [cell_of_row _ _ _ _ _ _ N1.out]; rfl
      have d4 : w2.cell? ⟨w1.heap.size, 1, none⟩ = some (.slice B P.B.data.length cap2) := by rw [cell_of_row _ _ _ _ _ _ N1.out]; rfl
      have d5 : w2.cell? ⟨w1.heap.size, 2, none⟩ = some (.int .u64 P.B.tick) := by rw [cell_of_row _ _ _ _ _ _ N1.out]; rfl
      go_wp2_with fail
      go_region_held (fun w' => w'.cell? ⟨(w1.heap.size + 1), 0, none⟩ = some (.bool P.A.there) ∧ w'.cell? ⟨(w1.heap.size + 1), 1, none⟩ = some (.slice A P.A.data.length cap) ∧ w'.cell? ⟨(w1.heap.size + 1), 2, none⟩ = some (.int .u64 P.A.tick) ∧ w'.cell? ⟨w1.heap.size, 0, none⟩ = some (.bool P.B.there) ∧ w'.cell? ⟨w1.heap.size, 1, none⟩ = some (.slice B P.B.data.length cap2) ∧ w'.cell? ⟨w1.heap.size, 2, none⟩ = some (.int .u64 P.B.tick)) (go_keep) (first
        | (go_at_call 29; refine (copied_any w2.drew _ P.A.data (Sl.drewN HA2.out 1) P.A.tick).mono ?_; rintro e w3 ⟨v3, rfl, hown3, hC3⟩
           obtain ⟨A3, c3, rfl⟩ := own_slice hown3
           have O3 := Lib.hid hown3; have C3 := Lib.hid (((Chg.refl w2 none).drewN 1).trans hC3)
           have L3 := Lib.hid ((C3.out.block (w1.heap.size + 1) (by have := HS1.out; have := HS2.out; omega) (by simp)).trans L1.out)
           have N3 := Lib.hid ((C3.out.block (w1.heap.size) (by have := HS1.out; have := HS2.out; omega) (by simp)).trans N1.out)
           have d0 : w3.cell? ⟨(w1.heap.size + 1), 0, none⟩ = some (.bool P.A.there) := (by rw [cell_of_row _ _ _ _ _ _ L3.out]; rfl)
           have d1 : w3.cell? ⟨(w1.heap.size + 1), 1, none⟩ = some (.slice A P.A.data.length cap) := (by rw [cell_of_row _ _ _ _ _ _ L3.out]; rfl)
           have d2 : w3.cell? ⟨(w1.heap.size + 1), 2, none⟩ = some (.int .u64 P.A.tick) := (by rw [cell_of_row _ _ _ _ _ _ L3.out]; rfl)
           have d3 : w3.cell? ⟨w1.heap.size, 0, none⟩ = some (.bool P.B.there) := (by rw [cell_of_row _ _ _ _ _ _ N3.out]; rfl)
           have d4 : w3.cell? ⟨w1.heap.size, 1, none⟩ = some (.slice B P.B.data.length cap2) := (by rw [cell_of_row _ _ _ _ _ _ N3.out]; rfl)
           have d5 : w3.cell? ⟨w1.heap.size, 2, none⟩ = some (.int .u64 P.B.tick) := (by rw [cell_of_row _ _ _ _ _ _ N3.out]; rfl)
           have HB3 := Lib.hid (Chg.sl HB2.out C3.out)
           clear hown3 hC3)
        | (go_at_call 29; refine (copied_any w3 _ P.B.data HB3.out P.B.tick).mono ?_; rintro e w4 ⟨v4, rfl, hown4, hC4⟩
           obtain ⟨A4, c4, rfl⟩ := own_slice hown4
           have O4 := Lib.hid hown4; have C4 := Lib.hid hC4
           have L4 := Lib.hid ((C4.out.block (w1.heap.size + 1) (by have := C3.out.size; have := HS1.out; have := HS2.out; omega) (by simp)).trans L3.out)
           have N4 := Lib.hid ((C4.out.block (w1.heap.size) (by have := C3.out.size; have := HS1.out; have := HS2.out; omega) (by simp)).trans N3.out)
           have R4 := Lib.hid ((C4.out.block w.heap.size (by have := C3.out.size; have := HS1.out; have := HS2.out; omega) (by simp)).trans ((C3.out.block w.heap.size (by have := HS1.out; have := HS2.out; omega) (by simp)).trans ((C1.out.block w.heap.size (by have := HS1.out; have := HS2.out; omega) (by simp)).trans R0.out)))
           have d0 : w4.cell? ⟨(w1.heap.size + 1), 0, none⟩ = some (.bool P.A.there) := (by rw [cell_of_row _ _ _ _ _ _ L4.out]; rfl)
           have d1 : w4.cell? ⟨(w1.heap.size + 1), 1, none⟩ = some (.slice A P.A.data.length cap) := (by rw [cell_of_row _ _ _ _ _ _ L4.out]; rfl)
           have d2 : w4.cell? ⟨(w1.heap.size + 1), 2, none⟩ = some (.int .u64 P.A.tick) := (by rw [cell_of_row _ _ _ _ _ _ L4.out]; rfl)
           have d3 : w4.cell? ⟨w1.heap.size, 0, none⟩ = some (.bool P.B.there) := (by rw [cell_of_row _ _ _ _ _ _ N4.out]; rfl)
           have d4 : w4.cell? ⟨w1.heap.size, 1, none⟩ = some (.slice B P.B.data.length cap2) := (by rw [cell_of_row _ _ _ _ _ _ N4.out]; rfl)
           have d5 : w4.cell? ⟨w1.heap.size, 2, none⟩ = some (.int .u64 P.B.tick) := (by rw [cell_of_row _ _ _ _ _ _ N4.out]; rfl)
           have e0 : w4.cell? ⟨w.heap.size, 0, none⟩ = some (.bool false) := (by rw [cell_of_row _ _ _ _ _ _ R4.out]; rfl)
           have e1 : w4.cell? ⟨w.heap.size, 1, none⟩ = some (.bool false) := (by rw [cell_of_row _ _ _ _ _ _ R4.out]; rfl)
           have e2 : w4.cell? ⟨w.heap.size, 2, none⟩ = some (.slice none 0 0) := (by rw [cell_of_row _ _ _ _ _ _ R4.out]; rfl)
           have e3 : w4.cell? ⟨w.heap.size, 3, none⟩ = some (.int .u64 0) := (by rw [cell_of_row _ _ _ _ _ _ R4.out]; rfl)
           have e4 : w4.cell? ⟨w.heap.size, 4, none⟩ = some (.slice none 0 0) := (by rw [cell_of_row _ _ _ _ _ _ R4.out]; rfl)
           have e5 : w4.cell? ⟨w.heap.size, 5, none⟩ = some (.int .u64 0) := (by rw [cell_of_row _ _ _ _ _ _ R4.out]; rfl)
           have f0 := frozen_of_row w4 w.heap.size 0 _ _ R4.out
           have f1 := frozen_of_row w4 w.heap.size 1 _ _ R4.out
           have f2 := frozen_of_row w4 w.heap.size 2 _ _ R4.out
           have f3 := frozen_of_row w4 w.heap.size 3 _ _ R4.out
           have f4 := frozen_of_row w4 w.heap.size 4 _ _ R4.out
           have f5 := frozen_of_row w4 w.heap.size 5 _ _ R4.out
           have hne : w.heap.size ≠ (w1.heap.size + 1) := (by have := HS1.out; have := HS2.out; omega)
           have hne2 : w.heap.size ≠ w1.heap.size := (by have := HS1.out; have := HS2.out; omega)
           clear hown4 hC4))
      go_wp2
      obtain ⟨hg, o1, o2, hne3, hC⟩ := state_end (w2 := w2) (a := P.A.there) (b := P.B.there) (t := P.A.tick) (q := P.B.tick) rfl R4.out O3.out O4.out ((C0.out.trans C1.out).trans C3.out) C4.out (by have := HS1.out; have := HS2.out; omega) C3.out.size rfl
      refine bodyPost_ret (results_cell_row (p := 2) (ty := 44) rfl _ _ w.heap.size 44 _ (0, 0) _ rfl hg Try.underlying44 rfl info44) rfl ?_
      exact ⟨_, _, rfl, o1, o2, HF.out, HF2.out, hne3, hC⟩
  | true =>
    have c9 : w1.cell? ⟨b, 9, none⟩ = some (.int .i64 1) := by rw [cell_of_row _ _ _ _ _ _ hrow]; rfl
    have c3 : w1.cell? ⟨b, 6, none⟩ = some (.bool P.A.there) := by rw [cell_of_row _ _ _ _ _ _ hrow]; rfl
    have c4 : w1.cell? ⟨b, 7, none⟩ = some (.slice A P.A.data.length cap) := by rw [cell_of_row _ _ _ _ _ _ hrow]; rfl
    have c5 : w1.cell? ⟨b, 8, none⟩ = some (.int .u64 P.A.tick) := by rw [cell_of_row _ _ _ _ _ _ hrow]; rfl
    have c6 : w1.cell? ⟨b, 3, none⟩ = some (.bool P.B.there) := by rw [cell_of_row _ _ _ _ _ _ hrow]; rfl
    have c7 : w1.cell? ⟨b, 4, none⟩ = some (.slice B P.B.data.length cap2) := by rw [cell_of_row _ _ _ _ _ _ hrow]; rfl
    have c8 : w1.cell? ⟨b, 5, none⟩ = some (.int .u64 P.B.tick) := by rw [cell_of_row _ _ _ _ _ _ hrow]; rfl
    have hsum : IntKind.i64.wrap ((1 : Int) - 1) = 0 := by decide
    have hsum2 : IntKind.i64.wrap (0 : Int) = 0 := by decide
    have n9 := World.new_ne w1 _ c9
    clear hrow
    go_region_held (fun w' => w'.cell? ⟨b, 9, none⟩ = some (.int .i64 1) ∧ w'.cell? ⟨b, 6, none⟩ = some (.bool P.A.there) ∧ w'.cell? ⟨b, 7, none⟩ = some (.slice A P.A.data.length cap) ∧ w'.cell? ⟨b, 8, none⟩ = some (.int .u64 P.A.tick) ∧ w'.cell? ⟨b, 3, none⟩ = some (.bool P.B.there) ∧ w'.cell? ⟨b, 4, none⟩ = some (.slice B P.B.data.length cap2) ∧ w'.cell? ⟨b, 5, none⟩ = some (.int .u64 P.B.tick)) (go_keep) (fail)
    · rename_i _ hHH
      clear hHH n9 c9 c3 c4 c5 c6 c7 c8
      have C1 := Lib.hid ((((Chg.refl w1 none).alloc (.cells #[.bool P.A.there, .slice A P.A.data.length cap, .int .u64 P.A.tick] 64)).alloc (.cells #[.bool P.B.there, .slice B P.B.data.length cap2, .int .u64 P.B.tick] 64)).drewN 1)
      have L1 := Lib.hid (show ((w1.alloc (.cells #[.bool P.A.there, .slice A P.A.data.length cap, .int .u64 P.A.tick] 64)).alloc (.cells #[.bool P.B.there, .slice B P.B.data.length cap2, .int .u64 P.B.tick] 64)).drew.heap[w1.heap.size]? = some (.cells #[.bool P.A.there, .slice A P.A.data.length cap, .int .u64 P.A.tick] 64 (0, 0)) from Eq.trans (heap_alloc_old (w1.alloc _) _ (by simp)) (heap_alloc_last w1 _))
      have N1 := Lib.hid (show ((w1.alloc (.cells #[.bool P.A.there, .slice A P.A.data.length cap, .int .u64 P.A.tick] 64)).alloc (.cells #[.bool P.B.there, .slice B P.B.data.length cap2, .int .u64 P.B.tick] 64)).drew.heap[w1.heap.size + 1]? = some (.cells #[.bool P.B.there, .slice B P.B.data.length cap2, .int .u64 P.B.tick] 64 (0, 0)) from heap_alloc2_new w1 _ _)
      have hs2 : ((w1.alloc (.cells #[.bool P.A.there, .slice A P.A.data.length cap, .int .u64 P.A.tick] 64)).alloc (.cells #[.bool P.B.there, .slice B P.B.data.length cap2, .int .u64 P.B.tick] 64)).drew.heap.size = w1.heap.size + 2 := by simp
      rw [World.drew_is_drewN] at *
      generalize ((w1.alloc (.cells #[.bool P.A.there, .slice A P.A.data.length cap, .int .u64 P.A.tick] 64)).alloc (.cells #[.bool P.B.there, .slice B P.B.data.length cap2, .int .u64 P.B.tick] 64)).drewN 1 = w2 at *
      have HS2 := Lib.hid hs2
      clear hs2
      have HA2 := Lib.hid (Chg.sl HA.out C1.out)
      have HB2 := Lib.hid (Chg.sl HB.out C1.out)
      have d0 : w2.cell? ⟨w1.heap.size, 0, none⟩ = some (.bool P.A.there) := by rw [cell_of_row _ _ _ _ _ _ L1.out]; rfl
      have d1 : w2.cell? ⟨w1.heap.size, 1, none⟩ = some (.slice A P.A.data.length cap) := by rw [cell_of_row _ _ _ _ _ _ L1.out]; rfl
      have d2 : w2.cell? ⟨w1.heap.size, 2, none⟩ = some (.int .u64 P.A.tick) := by rw [cell_of_row _ _ _ _ _ _ L1.out]; rfl
      have d3 : w2.cell? ⟨w1.heap.size + 1, 0, none⟩ = some (.bool P.B.there) := by rw [cell_of_row _ _ _ _ _ _ N1.out]; rfl
      have d4 : w2.cell? ⟨w1.heap.size + 1, 1, none⟩ = some (.slice B P.B.data.length cap2) := by rw [cell_of_row _ _ _ _ _ _ N1.out]; rfl
      have d5 : w2.cell? ⟨w1.heap.size + 1, 2, none⟩ = some (.int .u64 P.B.tick) := by rw [cell_of_row _ _ _ _ _ _ N1.out]; rfl
      go_wp2_with fail
      go_region_held (fun w' => w'.cell? ⟨w1.heap.size, 0, none⟩ = some (.bool P.A.there) ∧ w'.cell? ⟨w1.heap.size, 1, none⟩ = some (.slice A P.A.data.length cap) ∧ w'.cell? ⟨w1.heap.size, 2, none⟩ = some (.int .u64 P.A.tick) ∧ w'.cell? ⟨w1.heap.size + 1, 0, none⟩ = some (.bool P.B.there) ∧ w'.cell? ⟨w1.heap.size + 1, 1, none⟩ = some (.slice B P.B.data.length cap2) ∧ w'.cell? ⟨w1.heap.size + 1, 2, none⟩ = some (.int .u64 P.B.tick)) (go_keep) (first
        | (go_at_call 29; refine (copied_any w2.drew _ P.A.data (Sl.drewN HA2.out 1) P.A.tick).mono ?_; rintro e w3 ⟨v3, rfl, hown3, hC3⟩
           obtain ⟨A3, c3, rfl⟩ := own_slice hown3
           have O3 := Lib.hid hown3; have C3 := Lib.hid (((Chg.refl w2 none).drewN 1).trans hC3)
           have L3 := Lib.hid ((C3.out.block w1.heap.size (by have := HS1.out; have := HS2.out; omega) (by simp)).trans L1.out)
           have N3 := Lib.hid ((C3.out.block (w1.heap.size + 1) (by have := HS1.out; have := HS2.out; omega) (by simp)).trans N1.out)
           have d0 : w3.cell? ⟨w1.heap.size, 0, none⟩ = some (.bool P.A.there) := (by rw [cell_of_row _ _ _ _ _ _ L3.out]; rfl)
           have d1 : w3.cell? ⟨w1.heap.size, 1, none⟩ = some (.slice A P.A.data.length cap) := (by rw [cell_of_row _ _ _ _ _ _ L3.out]; rfl)
           have d2 : w3.cell? ⟨w1.heap.size, 2, none⟩ = some (.int .u64 P.A.tick) := (by rw [cell_of_row _ _ _ _ _ _ L3.out]; rfl)
           have d3 : w3.cell? ⟨w1.heap.size + 1, 0, none⟩ = some (.bool P.B.there) := (by rw [cell_of_row _ _ _ _ _ _ N3.out]; rfl)
           have d4 : w3.cell? ⟨w1.heap.size + 1, 1, none⟩ = some (.slice B P.B.data.length cap2) := (by rw [cell_of_row _ _ _ _ _ _ N3.out]; rfl)
           have d5 : w3.cell? ⟨w1.heap.size + 1, 2, none⟩ = some (.int .u64 P.B.tick) := (by rw [cell_of_row _ _ _ _ _ _ N3.out]; rfl)
           have HB3 := Lib.hid (Chg.sl HB2.out C3.out)
           clear hown3 hC3)
        | (go_at_call 29; refine (copied_any w3 _ P.B.data HB3.out P.B.tick).mono ?_; rintro e w4 ⟨v4, rfl, hown4, hC4⟩
           obtain ⟨A4, c4, rfl⟩ := own_slice hown4
           have O4 := Lib.hid hown4; have C4 := Lib.hid hC4
           have L4 := Lib.hid ((C4.out.block w1.heap.size (by have := C3.out.size; have := HS1.out; have := HS2.out; omega) (by simp)).trans L3.out)
           have N4 := Lib.hid ((C4.out.block (w1.heap.size + 1) (by have := C3.out.size; have := HS1.out; have := HS2.out; omega) (by simp)).trans N3.out)
           have R4 := Lib.hid ((C4.out.block w.heap.size (by have := C3.out.size; have := HS1.out; have := HS2.out; omega) (by simp)).trans ((C3.out.block w.heap.size (by have := HS1.out; have := HS2.out; omega) (by simp)).trans ((C1.out.block w.heap.size (by have := HS1.out; have := HS2.out; omega) (by simp)).trans R0.out)))
           have d0 : w4.cell? ⟨w1.heap.size, 0, none⟩ = some (.bool P.A.there) := (by rw [cell_of_row _ _ _ _ _ _ L4.out]; rfl)
           have d1 : w4.cell? ⟨w1.heap.size, 1, none⟩ = some (.slice A P.A.data.length cap) := (by rw [cell_of_row _ _ _ _ _ _ L4.out]; rfl)
           have d2 : w4.cell? ⟨w1.heap.size, 2, none⟩ = some (.int .u64 P.A.tick) := (by rw [cell_of_row _ _ _ _ _ _ L4.out]; rfl)
           have d3 : w4.cell? ⟨w1.heap.size + 1, 0, none⟩ = some (.bool P.B.there) := (by rw [cell_of_row _ _ _ _ _ _ N4.out]; rfl)
           have d4 : w4.cell? ⟨w1.heap.size + 1, 1, none⟩ = some (.slice B P.B.data.length cap2) := (by rw [cell_of_row _ _ _ _ _ _ N4.out]; rfl)
           have d5 : w4.cell? ⟨w1.heap.size + 1, 2, none⟩ = some (.int .u64 P.B.tick) := (by rw [cell_of_row _ _ _ _ _ _ N4.out]; rfl)
           have e0 : w4.cell? ⟨w.heap.size, 0, none⟩ = some (.bool false) := (by rw [cell_of_row _ _ _ _ _ _ R4.out]; rfl)
           have e1 : w4.cell? ⟨w.heap.size, 1, none⟩ = some (.bool false) := (by rw [cell_of_row _ _ _ _ _ _ R4.out]; rfl)
           have e2 : w4.cell? ⟨w.heap.size, 2, none⟩ = some (.slice none 0 0) := (by rw [cell_of_row _ _ _ _ _ _ R4.out]; rfl)
           have e3 : w4.cell? ⟨w.heap.size, 3, none⟩ = some (.int .u64 0) := (by rw [cell_of_row _ _ _ _ _ _ R4.out]; rfl)
           have e4 : w4.cell? ⟨w.heap.size, 4, none⟩ = some (.slice none 0 0) := (by rw [cell_of_row _ _ _ _ _ _ R4.out]; rfl)
           have e5 : w4.cell? ⟨w.heap.size, 5, none⟩ = some (.int .u64 0) := (by rw [cell_of_row _ _ _ _ _ _ R4.out]; rfl)
           have f0 := frozen_of_row w4 w.heap.size 0 _ _ R4.out
           have f1 := frozen_of_row w4 w.heap.size 1 _ _ R4.out
           have f2 := frozen_of_row w4 w.heap.size 2 _ _ R4.out
           have f3 := frozen_of_row w4 w.heap.size 3 _ _ R4.out
           have f4 := frozen_of_row w4 w.heap.size 4 _ _ R4.out
           have f5 := frozen_of_row w4 w.heap.size 5 _ _ R4.out
           have hne : w.heap.size ≠ w1.heap.size := (by have := HS1.out; have := HS2.out; omega)
           have hne2 : w.heap.size ≠ w1.heap.size + 1 := (by have := HS1.out; have := HS2.out; omega)
           clear hown4 hC4))
      go_wp2
      obtain ⟨hg, o1, o2, hne3, hC⟩ := state_end (w2 := w2) (a := P.A.there) (b := P.B.there) (t := P.A.tick) (q := P.B.tick) rfl R4.out O3.out O4.out ((C0.out.trans C1.out).trans C3.out) C4.out (by have := HS1.out; have := HS2.out; omega) C3.out.size rfl
      refine bodyPost_ret (results_cell_row (p := 2) (ty := 44) rfl _ _ w.heap.size 44 _ (0, 0) _ rfl hg Try.underlying44 rfl info44) rfl ?_
      exact ⟨_, _, rfl, o1, o2, HF.out, HF2.out, hne3, hC⟩
    · rename_i _ hHH
      clear hHH n9 c9 c3 c4 c5 c6 c7 c8
      have C1 := Lib.hid ((((Chg.refl w1 none).alloc (.cells #[.bool P.B.there, .slice B P.B.data.length cap2, .int .u64 P.B.tick] 64)).alloc (.cells #[.bool P.A.there, .slice A P.A.data.length cap, .int .u64 P.A.tick] 64)).drewN 1)
      have L1 := Lib.hid (show ((w1.alloc (.cells #[.bool P.B.there, .slice B P.B.data.length cap2, .int .u64 P.B.tick] 64)).alloc (.cells #[.bool P.A.there, .slice A P.A.data.length cap, .int .u64 P.A.tick] 64)).drew.heap[(w1.heap.size + 1)]? = some (.cells #[.bool P.A.there, .slice A P.A.data.length cap, .int .u64 P.A.tick] 64 (0, 0)) from heap_alloc2_new w1 _ _)
      have N1 := Lib.hid (show ((w1.alloc (.cells #[.bool P.B.there, .slice B P.B.data.length cap2, .int .u64 P.B.tick] 64)).alloc (.cells #[.bool P.A.there, .slice A P.A.data.length cap, .int .u64 P.A.tick] 64)).drew.heap[w1.heap.size]? = some (.cells #[.bool P.B.there, .slice B P.B.data.length cap2, .int .u64 P.B.tick] 64 (0, 0)) from Eq.trans (heap_alloc_old (w1.alloc _) _ (by simp)) (heap_alloc_last w1 _))
      have hs2 : ((w1.alloc (.cells #[.bool P.B.there, .slice B P.B.data.length cap2, .int .u64 P.B.tick] 64)).alloc (.cells #[.bool P.A.there, .slice A P.A.data.length cap, .int .u64 P.A.tick] 64)).drew.heap.size = w1.heap.size + 2 := by simp
      rw [World.drew_is_drewN] at *
      generalize ((w1.alloc (.cells #[.bool P.B.there, .slice B P.B.data.length cap2, .int .u64 P.B.tick] 64)).alloc (.cells #[.bool P.A.there, .slice A P.A.data.length cap, .int .u64 P.A.tick] 64)).drewN 1 = w2 at *
      have HS2 := Lib.hid hs2
      clear hs2
      have HA2 := Lib.hid (Chg.sl HA.out C1.out)
      have HB2 := Lib.hid (Chg.sl HB.out C1.out)
      have d0 : w2.cell? ⟨(w1.heap.size + 1), 0, none⟩ = some (.bool P.A.there) := by rw [cell_of_row _ _ _ _ _ _ L1.out]; rfl
      have d1 : w2.cell? ⟨(w1.heap.size + 1), 1, none⟩ = some (.slice A P.A.data.length cap) := by rw [cell_of_row _ _ _ _ _ _ L1.out]; rfl
      have d2 : w2.cell? ⟨(w1.heap.size + 1), 2, none⟩ = some (.int .u64 P.A.tick) := by rw [cell_of_row _ _ _ _ _ _ L1.out]; rfl
      have d3 : w2.cell? ⟨w1.heap.size, 0, none⟩ = some (.bool P.B.there) := by rw [cell_of_row _ _ _ _ _ _ N1.out]; rfl
      have d4 : w2.cell? ⟨w1.heap.size, 1, none⟩ = some (.slice B P.B.data.length cap2) := by rw [cell_of_row _ _ _ _ _ _ N1.out]; rfl
      have d5 : w2.cell? ⟨w1.heap.size, 2, none⟩ = some (.int .u64 P.B.tick) := by rw [cell_of_row _ _ _ _ _ _ N1.out]; rfl
      go_wp2_with fail
      go_region_held (fun w' => w'.cell? ⟨(w1.heap.size + 1), 0, none⟩ = some (.bool P.A.there) ∧ w'.cell? ⟨(w1.heap.size + 1), 1, none⟩ = some (.slice A P.A.data.length cap) ∧ w'.cell? ⟨(w1.heap.size + 1), 2, none⟩ = some (.int .u64 P.A.tick) ∧ w'.cell? ⟨w1.heap.size, 0, none⟩ = some (.bool P.B.there) ∧ w'.cell? ⟨w1.heap.size, 1, none⟩ = some (.slice B P.B.data.length cap2) ∧ w'.cell? ⟨w1.heap.size, 2, none⟩ = some (.int .u64 P.B.tick)) (go_keep) (first
        | (go_at_call 29; refine (copied_any w2.drew _ P.A.data (Sl.drewN HA2.out 1) P.A.tick).mono ?_; rintro e w3 ⟨v3, rfl, hown3, hC3⟩
           obtain ⟨A3, c3, rfl⟩ := own_slice hown3
           have O3 := Lib.hid hown3; have C3 := Lib.hid (((Chg.refl w2 none).drewN 1).trans hC3)
           have L3 := Lib.hid ((C3.out.block (w1.heap.size + 1) (by have := HS1.out; have := HS2.out; omega) (by simp)).trans L1.out)
           have N3 := Lib.hid ((C3.out.block (w1.heap.size) (by have := HS1.out; have := HS2.out; omega) (by simp)).trans N1.out)
           have d0 : w3.cell? ⟨(w1.heap.size + 1), 0, none⟩ = some (.bool P.A.there) := (by rw [cell_of_row _ _ _ _ _ _ L3.out]; rfl)
           have d1 : w3.cell? ⟨(w1.heap.size + 1), 1, none⟩ = some (.slice A P.A.data.length cap) := (by rw [cell_of_row _ _ _ _ _ _ L3.out]; rfl)
           have d2 : w3.cell? ⟨(w1.heap.size + 1), 2, none⟩ = some (.int .u64 P.A.tick) := (by rw [cell_of_row _ _ _ _ _ _ L3.out]; rfl)
           have d3 : w3.cell? ⟨w1.heap.size, 0, none⟩ = some (.bool P.B.there) := (by rw [cell_of_row _ _ _ _ _ _ N3.out]; rfl)
           have d4 : w3.cell? ⟨w1.heap.size, 1, none⟩ = some (.slice B P.B.data.length cap2) := (by rw [cell_of_row _ _ _ _ _ _ N3.out]; rfl)
           have d5 : w3.cell? ⟨w1.heap.size, 2, none⟩ = some (.int .u64 P.B.tick) := (by rw [cell_of_row _ _ _ _ _ _ N3.out]; rfl)
           have HB3 := Lib.hid (Chg.sl HB2.out C3.out)
           clear hown3 hC3)
        | (go_at_call 29; refine (copied_any w3 _ P.B.data HB3.out P.B.tick).mono ?_; rintro e w4 ⟨v4, rfl, hown4, hC4⟩
           obtain ⟨A4, c4, rfl⟩ := own_slice hown4
           have O4 := Lib.hid hown4; have C4 := Lib.hid hC4
           have L4 := Lib.hid ((C4.out.block (w1.heap.size + 1) (by have := C3.out.size; have := HS1.out; have := HS2.out; omega) (by simp)).trans L3.out)
           have N4 := Lib.hid ((C4.out.block (w1.heap.size) (by have := C3.out.size; have := HS1.out; have := HS2.out; omega) (by simp)).trans N3.out)
           have R4 := Lib.hid ((C4.out.block w.heap.size (by have := C3.out.size; have := HS1.out; have := HS2.out; omega) (by simp)).trans ((C3.out.block w.heap.size (by have := HS1.out; have := HS2.out; omega) (by simp)).trans ((C1.out.block w.heap.size (by have := HS1.out; have := HS2.out; omega) (by simp)).trans R0.out)))
           have d0 : w4.cell? ⟨(w1.heap.size + 1), 0, none⟩ = some (.bool P.A.there) := (by rw [cell_of_row _ _ _ _ _ _ L4.out]; rfl)
           have d1 : w4.cell? ⟨(w1.heap.size + 1), 1, none⟩ = some (.slice A P.A.data.length cap) := (by rw [cell_of_row _ _ _ _ _ _ L4.out]; rfl)
           have d2 : w4.cell? ⟨(w1.heap.size + 1), 2, none⟩ = some (.int .u64 P.A.tick) := (by rw [cell_of_row _ _ _ _ _ _ L4.out]; rfl)
           have d3 : w4.cell? ⟨w1.heap.size, 0, none⟩ = some (.bool P.B.there) := (by rw [cell_of_row _ _ _ _ _ _ N4.out]; rfl)
           have d4 : w4.cell? ⟨w1.heap.size, 1, none⟩ = some (.slice B P.B.data.length cap2) := (by rw [cell_of_row _ _ _ _ _ _ N4.out]; rfl)
           have d5 : w4.cell? ⟨w1.heap.size, 2, none⟩ = some (.int .u64 P.B.tick) := (by rw [cell_of_row _ _ _ _ _ _ N4.out]; rfl)
           have e0 : w4.cell? ⟨w.heap.size, 0, none⟩ = some (.bool false) := (by rw [cell_of_row _ _ _ _ _ _ R4.out]; rfl)
           have e1 : w4.cell? ⟨w.heap.size, 1, none⟩ = some (.bool false) := (by rw [cell_of_row _ _ _ _ _ _ R4.out]; rfl)
           have e2 : w4.cell? ⟨w.heap.size, 2, none⟩ = some (.slice none 0 0) := (by rw [cell_of_row _ _ _ _ _ _ R4.out]; rfl)
           have e3 : w4.cell? ⟨w.heap.size, 3, none⟩ = some (.int .u64 0) := (by rw [cell_of_row _ _ _ _ _ _ R4.out]; rfl)
           have e4 : w4.cell? ⟨w.heap.size, 4, none⟩ = some (.slice none 0 0) := (by rw [cell_of_row _ _ _ _ _ _ R4.out]; rfl)
           have e5 : w4.cell? ⟨w.heap.size, 5, none⟩ = some (.int .u64 0) := (by rw [cell_of_row _ _ _ _ _ _ R4.out]; rfl)
           have f0 := frozen_of_row w4 w.heap.size 0 _ _ R4.out
           have f1 := frozen_of_row w4 w.heap.size 1 _ _ R4.out
           have f2 := frozen_of_row w4 w.heap.size 2 _ _ R4.out
           have f3 := frozen_of_row w4 w.heap.size 3 _ _ R4.out
           have f4 := frozen_of_row w4 w.heap.size 4 _ _ R4.out
           have f5 := frozen_of_row w4 w.heap.size 5 _ _ R4.out
           have hne : w.heap.size ≠ (w1.heap.size + 1) := (by have := HS1.out; have := HS2.out; omega)
           have hne2 : w.heap.size ≠ w1.heap.size := (by have := HS1.out; have := HS2.out; omega)
           clear hown4 hC4))
      go_wp2
      obtain ⟨hg, o1, o2, hne3, hC⟩ := state_end (w2 := w2) (a := P.A.there) (b := P.B.there) (t := P.A.tick) (q := P.B.tick) rfl R4.out O3.out O4.out ((C0.out.trans C1.out).trans C3.out) C4.out (by have := HS1.out; have := HS2.out; omega) C3.out.size rfl
      refine bodyPost_ret (results_cell_row (p := 2) (ty := 44) rfl _ _ w.heap.size 44 _ (0, 0) _ rfl hg Try.underlying44 rfl info44) rfl ?_
      exact ⟨_, _, rfl, o1, o2, HF.out, HF2.out, hne3, hC⟩
end Go.Proofs.Ytfoofipkbijajaa.Sa
