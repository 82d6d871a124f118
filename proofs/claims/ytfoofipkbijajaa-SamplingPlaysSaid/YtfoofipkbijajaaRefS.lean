/- The document's port: State: contract. No statement of the seat is proved here. -/
import Derived.Test.YtfoofipkbijajaaRefB
namespace Go.Proofs.Ytfoofipkbijajaa.Sa
open Go.RowKit Go.Proofs.Ytfoofipkbijajaa.Kit
set_option linter.unusedSimpArgs false
set_option linter.unusedVariables false
theorem info44' : (Try.prog.info? 44).map (·.size) = some 6 := info44
theorem rstate_end {R : Ending → World → Prop} (w3 : World) (q : Nat) (cs : Array Value) (s : Nat × Nat) (a : Act) (hp : a.tmps.getD 2 undef = .pointer (some ⟨q, 0, none⟩)) (hr : w3.heap[q]? = some (.cells cs 44 s)) (hs : cs.size = 6) (hd : a.defers = [])
    (h : R (.returned (.agg cs)) w3) : bodyPost Try.prog Try.f20 R .ret a w3 :=
  bodyPost_ret (results_cell_row (p := 2) (ty := 44) rfl _ _ q 44 cs s _ hp hr Try.underlying44 rfl (by rw [hs]; exact info44)) hd h
set_option maxRecDepth 4000 in
set_option maxHeartbeats 2000000 in
theorem rstate_any (w : World) (b : Nat) (F : Nat → Prop) (P : PA) (h : RefIs w b F P) :
    Calls Try.prog 20 #[.pointer (some ⟨b, 0, none⟩)] w fun e w' => ∃ da db, e = .returned (.agg #[.bool P.A.there, .bool P.B.there, da, .int .u64 P.A.tick, db, .int .u64 P.B.tick]) ∧
      Rb w' da P.A.data ∧ Rb w' db P.B.data ∧ Chg w w' none := by
  obtain ⟨⟨rv, da, db, hrow, hr, ha, hbb, k1, k2, k3⟩, hoff, hlt⟩ := h
  have hblt : b < w.heap.size := (Array.getElem?_eq_some_iff.1 hrow).1
  obtain ⟨w0, hw0⟩ : ∃ x, x = w.alloc (.cells #[.bool false, .bool false, .slice none 0 0, .int .u64 0, .slice none 0 0, .int .u64 0] 44) := ⟨_, rfl⟩
  have hrow1 : w0.heap[b]? = some (.cells (rcells P rv da db) 69 (0, 0)) := by rw [hw0, heap_alloc_old (h := hblt)]; exact hrow
  have Z0 := Lib.hid (show w0.heap[w.heap.size]? = some (.cells #[.bool false, .bool false, .slice none 0 0, .int .u64 0, .slice none 0 0, .int .u64 0] 44 (0, 0)) from by rw [hw0]; exact heap_alloc_last w _)
  have C0 := Lib.hid (show Chg w w0 none from by rw [hw0]; exact (Chg.refl w none).alloc _)
  have hs0 : w0.heap.size = w.heap.size + 1 := by rw [hw0]; simp
  have c3 : w0.cell? ⟨b, 3, none⟩ = some (.bool P.A.there) := by rw [cell_of_row _ _ _ _ _ _ hrow1]; rfl
  have c4 : w0.cell? ⟨b, 4, none⟩ = some (.bool P.B.there) := by rw [cell_of_row _ _ _ _ _ _ hrow1]; rfl
  have c5 : w0.cell? ⟨b, 5, none⟩ = some da := by rw [cell_of_row _ _ _ _ _ _ hrow1]; rfl
  have c6 : w0.cell? ⟨b, 6, none⟩ = some (.int .u64 P.A.tick) := by rw [cell_of_row _ _ _ _ _ _ hrow1]; rfl
  have c7 : w0.cell? ⟨b, 7, none⟩ = some db := by rw [cell_of_row _ _ _ _ _ _ hrow1]; rfl
  have c8 : w0.cell? ⟨b, 8, none⟩ = some (.int .u64 P.B.tick) := by rw [cell_of_row _ _ _ _ _ _ hrow1]; rfl
  have HW0 := Lib.hid hw0
  have hz := zero44
  have HA := Lib.hid ha
  have HB := Lib.hid hbb
  obtain ⟨⟨A, cap, rfl, hcap, hcc⟩, hf⟩ := ha
  obtain ⟨⟨B, cap2, rfl, hcap2, hcc2⟩, hf2⟩ := hbb
  have HF := Lib.hid hf
  have HF2 := Lib.hid hf2
  clear hr hrow hrow1 hcc hcc2 hcap hcap2 hf hf2
  obtain ⟨na, hna⟩ : ∃ n, n = P.A.data.length := ⟨_, rfl⟩
  obtain ⟨nb, hnb⟩ : ∃ n, n = P.B.data.length := ⟨_, rfl⟩
  have NA := Lib.hid hna
  have NB := Lib.hid hnb
  rw [← hna] at c5 HA
  have HLB := Lib.hid (fun g (e : (Value.slice B P.B.data.length cap2).ownBlock = some g) => hlt g (k3 g e))
  rw [← hnb] at c7 HB HLB
  clear hna hnb
  clear k1 k2 k3 hlt hoff
  go_enter Try.func20, Try.ntmps20
  go_upto_region 1 with (fail)
  rw [← hw0]
  clear hw0
  go_wp2_with fail
  have R1 := Lib.hid (show (w0.alloc (.cells #[.bool P.A.there, .bool P.B.there, .slice A na cap, .int .u64 P.A.tick, .slice B nb cap2, .int .u64 P.B.tick] 44)).heap[w.heap.size + 1]? = some (.cells #[.bool P.A.there, .bool P.B.there, .slice A na cap, .int .u64 P.A.tick, .slice B nb cap2, .int .u64 P.B.tick] 44 (0, 0)) from by have := heap_alloc_last w0 (.cells #[.bool P.A.there, .bool P.B.there, .slice A na cap, .int .u64 P.A.tick, .slice B nb cap2, .int .u64 P.B.tick] 44); rwa [hs0] at this)
  have C1 := Lib.hid (C0.out.alloc (.cells #[.bool P.A.there, .bool P.B.there, .slice A na cap, .int .u64 P.A.tick, .slice B nb cap2, .int .u64 P.B.tick] 44))
  have Z1 := Lib.hid (show (w0.alloc (.cells #[.bool P.A.there, .bool P.B.there, .slice A na cap, .int .u64 P.A.tick, .slice B nb cap2, .int .u64 P.B.tick] 44)).heap[w.heap.size]? = some (.cells #[.bool false, .bool false, .slice none 0 0, .int .u64 0, .slice none 0 0, .int .u64 0] 44 (0, 0)) from by rw [heap_alloc_old (h := by omega)]; exact Z0.out)
  have hs1 : (w0.alloc (.cells #[.bool P.A.there, .bool P.B.there, .slice A na cap, .int .u64 P.A.tick, .slice B nb cap2, .int .u64 P.B.tick] 44)).heap.size = w.heap.size + 2 := by simp [hs0]
  have A1 := Lib.hid (Chg.sl HA.out C1.out)
  have B1 := Lib.hid (Chg.sl HB.out C1.out)
  generalize w0.alloc (.cells #[.bool P.A.there, .bool P.B.there, .slice A na cap, .int .u64 P.A.tick, .slice B nb cap2, .int .u64 P.B.tick] 44) = w1 at *
  clear c3 c4 c5 c6 c7 c8 Z0 C0 HW0 hs0
  refine (copied39 w1 _ _ A1.out).mono ?_
  rintro e w2 ⟨v1, rfl, ho, hc⟩
  obtain ⟨X1, x1, rfl⟩ := own_slice ho
  have R2 := Lib.hid ((hc.block _ (by omega) (by simp)).trans R1.out)
  have Z2 := Lib.hid ((hc.block w.heap.size (by omega) (by simp)).trans Z1.out)
  have C2 := Lib.hid (C1.out.trans hc)
  have OA := Lib.hid ho
  have B2 := Lib.hid (Chg.sl B1.out hc)
  have hs2 := hc.size
  have d2 : w2.cell? ⟨w.heap.size + 1, 2, none⟩ = some (.slice A na cap) := by rw [cell_of_row _ _ _ _ _ _ R2.out]; rfl
  have d4 : w2.cell? ⟨w.heap.size + 1, 4, none⟩ = some (.slice B nb cap2) := by rw [cell_of_row _ _ _ _ _ _ R2.out]; rfl
  have f2 := frozen_of_row w2 (w.heap.size + 1) 2 _ _ R2.out
  have HOA := Lib.hid (fun g e => (own_block ho g e).1)
  have nn : P.A.data.length = na := NA.out.symm
  rw [nn]
  clear ho hc C1 R1 Z1 A1 B1
  go_wp2_with fail
  have R3 := Lib.hid (heap_setCell_same w2 (w.heap.size + 1) 2 _ _ (Value.slice X1 na x1) R2.out)
  have KK := (Chg.refl w2 (some (w.heap.size + 1))).set 2 (Value.slice X1 na x1)
  have Z3 := Lib.hid ((KK.block w.heap.size (by omega) (by simp)).trans Z2.out)
  have C3 := Lib.hid (C2.out.trans_new KK (by omega))
  have A3 := Lib.hid ((own_sl OA.out HA.out.few).kept fun g e hl => KK.block g hl (fun e2 => by cases e2; have h1 := (own_block OA.out _ e).1; omega))
  have B3 := Lib.hid (B2.out.kept fun g e hl => KK.block g hl (fun e2 => by cases e2; have h1 := HLB.out _ e; omega))
  have hs3 : w2.heap.size ≤ (w2.setCell ⟨w.heap.size + 1, 2, none⟩ (.slice X1 na x1)).heap.size := KK.size
  clear KK R2 Z2 C2 OA B2 d2 d4 f2
  generalize w2.setCell ⟨w.heap.size + 1, 2, none⟩ (.slice X1 na x1) = w3 at *
  refine (copied39 w3 _ _ B3.out).mono ?_
  rintro e w4 ⟨v2, rfl, ho, hc⟩
  obtain ⟨X2, x2, rfl⟩ := own_slice ho
  have R4 := Lib.hid ((hc.block _ (by omega) (by simp)).trans R3.out)
  have Z4 := Lib.hid ((hc.block w.heap.size (by omega) (by simp)).trans Z3.out)
  have C4 := Lib.hid (C3.out.trans hc)
  have A4 := Lib.hid (Chg.sl A3.out hc)
  have OB := Lib.hid ho
  have hs4 := hc.size
  have HOB := Lib.hid (fun g e => (own_block ho g e).1)
  have mm : P.B.data.length = nb := NB.out.symm
  rw [mm]
  have d4 : w4.cell? ⟨w.heap.size + 1, 4, none⟩ = some (.slice B nb cap2) := by rw [cell_of_row _ _ _ _ _ _ R4.out]; rfl
  have f4 := frozen_of_row w4 (w.heap.size + 1) 4 _ _ R4.out
  clear ho hc R3 Z3 C3 A3 B3
  go_upto_region 4 with (fail)
  have R5 := Lib.hid (heap_setCell_same w4 (w.heap.size + 1) 4 _ _ (Value.slice X2 nb x2) R4.out)
  have KK := (Chg.refl w4 (some (w.heap.size + 1))).set 4 (Value.slice X2 nb x2)
  have Z5 := Lib.hid ((KK.block w.heap.size (by omega) (by simp)).trans Z4.out)
  have C5 := Lib.hid (C4.out.trans_new KK (by omega))
  have A5 := Lib.hid (A4.out.kept fun g e hl => KK.block g hl (fun e2 => by cases e2; have h1 := HOA.out _ e; omega))
  have B5 := Lib.hid ((own_sl OB.out HB.out.few).kept fun g e hl => KK.block g hl (fun e2 => by cases e2; have h1 := (own_block OB.out _ e).1; omega))
  clear KK R4 Z4 C4 A4 OB d4 f4
  generalize w4.setCell ⟨w.heap.size + 1, 4, none⟩ (.slice X2 nb x2) = w5 at *
  have r0 : w5.cell? ⟨w.heap.size + 1, 0, none⟩ = some (.bool P.A.there) := by rw [cell_of_row _ _ _ _ _ _ R5.out]; rfl
  have z0 : w5.cell? ⟨w.heap.size, 0, none⟩ = some (.bool false) := by rw [cell_of_row _ _ _ _ _ _ Z5.out]; rfl
  have y0 := frozen_of_row w5 w.heap.size 0 _ _ Z5.out
  have r1 : w5.cell? ⟨w.heap.size + 1, 1, none⟩ = some (.bool P.B.there) := by rw [cell_of_row _ _ _ _ _ _ R5.out]; rfl
  have z1 : w5.cell? ⟨w.heap.size, 1, none⟩ = some (.bool false) := by rw [cell_of_row _ _ _ _ _ _ Z5.out]; rfl
  have y1 := frozen_of_row w5 w.heap.size 1 _ _ Z5.out
  have r2 : w5.cell? ⟨w.heap.size + 1, 2, none⟩ = some (.slice X1 na x1) := by rw [cell_of_row _ _ _ _ _ _ R5.out]; rfl
  have z2 : w5.cell? ⟨w.heap.size, 2, none⟩ = some (.slice none 0 0) := by rw [cell_of_row _ _ _ _ _ _ Z5.out]; rfl
  have y2 := frozen_of_row w5 w.heap.size 2 _ _ Z5.out
  have r3 : w5.cell? ⟨w.heap.size + 1, 3, none⟩ = some (.int .u64 P.A.tick) := by rw [cell_of_row _ _ _ _ _ _ R5.out]; rfl
  have z3 : w5.cell? ⟨w.heap.size, 3, none⟩ = some (.int .u64 0) := by rw [cell_of_row _ _ _ _ _ _ Z5.out]; rfl
  have y3 := frozen_of_row w5 w.heap.size 3 _ _ Z5.out
  have r4 : w5.cell? ⟨w.heap.size + 1, 4, none⟩ = some (.slice X2 nb x2) := by rw [cell_of_row _ _ _ _ _ _ R5.out]; rfl
  have z4 : w5.cell? ⟨w.heap.size, 4, none⟩ = some (.slice none 0 0) := by rw [cell_of_row _ _ _ _ _ _ Z5.out]; rfl
  have y4 := frozen_of_row w5 w.heap.size 4 _ _ Z5.out
  have r5 : w5.cell? ⟨w.heap.size + 1, 5, none⟩ = some (.int .u64 P.B.tick) := by rw [cell_of_row _ _ _ _ _ _ R5.out]; rfl
  have z5 : w5.cell? ⟨w.heap.size, 5, none⟩ = some (.int .u64 0) := by rw [cell_of_row _ _ _ _ _ _ Z5.out]; rfl
  have y5 := frozen_of_row w5 w.heap.size 5 _ _ Z5.out
  go_wp2
  have KW := ((((((Chg.refl w5 (some w.heap.size)).set 0 (Value.bool P.A.there)).set 1 (Value.bool P.B.there)).set 2 (Value.slice X1 na x1)).set 3 (Value.int .u64 P.A.tick)).set 4 (Value.slice X2 nb x2)).set 5 (Value.int .u64 P.B.tick)
  have RZ := (heap_setCell_same _ w.heap.size 5 _ _ (Value.int .u64 P.B.tick) (heap_setCell_same _ w.heap.size 4 _ _ (Value.slice X2 nb x2) (heap_setCell_same _ w.heap.size 3 _ _ (Value.int .u64 P.A.tick) (heap_setCell_same _ w.heap.size 2 _ _ (Value.slice X1 na x1) (heap_setCell_same _ w.heap.size 1 _ _ (Value.bool P.B.there) (heap_setCell_same _ w.heap.size 0 _ _ (Value.bool P.A.there) Z5.out))))))
  refine rstate_end _ w.heap.size _ _ _ rfl RZ rfl rfl ?_
  refine ⟨_, _, rfl, ?_, ?_, C5.out.trans_new KW (Nat.le_refl _)⟩
  · rw [show na = P.A.data.length from NA.out]
    rw [show na = P.A.data.length from NA.out] at KW
    exact A5.out.kept fun g e hl => KW.block g hl (fun e2 => by cases e2; have h1 := HOA.out _ e; omega)
  · rw [show nb = P.B.data.length from NB.out]
    rw [show nb = P.B.data.length from NB.out] at KW
    exact B5.out.kept fun g e hl => KW.block g hl (fun e2 => by cases e2; have h1 := HOB.out _ e; omega)
end Go.Proofs.Ytfoofipkbijajaa.Sa
