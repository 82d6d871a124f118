/- Read, Turn of a port: contracts. No statement of the seat is proved here. -/
import Derived.Test.YtfoofipkbijajaaWrite
namespace Go.Proofs.Ytfoofipkbijajaa.Sa
open Go.RowKit Go.Proofs.Ytfoofipkbijajaa.Kit
set_option linter.unusedSimpArgs false
set_option linter.unusedVariables false

theorem results_tmp4 {fn : Func} {t u v x : Tmp} (h : fn.results = #[.tmp t, .tmp u, .tmp v, .tmp x]) (tmps : Array Value) (P : Program) (w : World) :
    (results fn tmps).run P w = .ok (.tuple #[tmps.getD t undef, tmps.getD u undef, tmps.getD v undef, tmps.getD x undef]) w := by
  simp [results, h]
theorem read_who (w : World) (b : Nat) (F : Nat → Prop) (P : PA) (h : PortIs w b F P) (c : Int) (hc : ¬ c ∈ P.rs) :
    Calls Try.prog 11 #[.pointer (some ⟨b, 0, none⟩), .int .i64 c] w fun e w' => e = .returned (.tuple #[.slice none 0 0, .int .u64 0, .bool false, .int .i64 161]) ∧ w = w' := by
  obtain ⟨⟨rv, da, db, la, hrow, hr, ha, hbb, k1, k2, k3⟩, hoff, hlt⟩ := h
  have c2 : w.cell? ⟨b, 2, none⟩ = some rv := by rw [cell_of_row _ _ _ _ _ _ hrow]; cases la <;> rfl
  have HR := Lib.hid hr
  have HC := Lib.hid hc
  obtain ⟨⟨A, cap, rfl, hcap, hcc⟩, hf⟩ := hr
  clear hcc hrow ha hbb k1 k2 k3 hlt hc hcap
  go_enter Try.func11, Try.ntmps11
  go_wp2_with fail
  refine (contains_any _ _ _ HR.out _).mono ?_
  rw [decide_eq_false HC.out]
  rintro e w' ⟨rfl, rfl⟩
  go_wp2
  refine bodyPost_ret (results_tmp4 rfl _ _ _) rfl ?_
  exact ⟨rfl, rfl⟩
theorem zero64 : ∀ w, (zeroValue 64).run Try.prog w = .ok (.agg #[.bool false, .slice none 0 0, .int .u64 0]) w := fun _ => by kernel_rfl
set_option maxHeartbeats 2000000 in
theorem read_ok (w : World) (b : Nat) (F : Nat → Prop) (P : PA) (h : PortIs w b F P) (c : Int) (hc : c ∈ P.rs) :
    Calls Try.prog 11 #[.pointer (some ⟨b, 0, none⟩), .int .i64 c] w fun e w' => ∃ v', e = .returned (.tuple #[v', .int .u64 P.A.tick, .bool P.A.there, .int .i64 0]) ∧
      w'.ownsRow w.heap.size 5 1 v' P.A.data.length (P.A.data.map (Value.int .u8)) ∧ P.A.data.length * 1 ≤ 140737488351232 ∧ Chg w w' none := by
  obtain ⟨⟨rv, da, db, la, hrow, hr, ha, hbb, k1, k2, k3⟩, hoff, hlt⟩ := h
  have hblt : b < w.heap.size := (Array.getElem?_eq_some_iff.1 hrow).1
  have c2 : w.cell? ⟨b, 2, none⟩ = some rv := by rw [cell_of_row _ _ _ _ _ _ hrow]; cases la <;> rfl
  have HR := Lib.hid hr
  have HA := Lib.hid ha
  have HC := Lib.hid hc
  have hz := zero64
  obtain ⟨⟨A, cap, rfl, hcap, hcc⟩, hf⟩ := hr
  obtain ⟨⟨D, cap2, rfl, hcap2, hcc2⟩, hf2⟩ := ha
  have HF2 := Lib.hid hf2
  clear hcc hcc2 hbb k1 k2 k3 hlt hc hcap hcap2
  cases la with
  | false =>
    have c9 : w.cell? ⟨b, 9, none⟩ = some (.int .i64 0) := by rw [cell_of_row _ _ _ _ _ _ hrow]; rfl
    have c3 : w.cell? ⟨b, 3, none⟩ = some (.bool P.A.there) := by rw [cell_of_row _ _ _ _ _ _ hrow]; rfl
    have c4 : w.cell? ⟨b, 4, none⟩ = some (.slice D P.A.data.length cap2) := by rw [cell_of_row _ _ _ _ _ _ hrow]; rfl
    have c5 : w.cell? ⟨b, 5, none⟩ = some (.int .u64 P.A.tick) := by rw [cell_of_row _ _ _ _ _ _ hrow]; rfl
    clear hrow
    go_enter Try.func11, Try.ntmps11
    go_wp2_with fail
    refine (contains_any _ _ _ HR.out _).mono ?_
    rw [decide_eq_true HC.out]
    rintro e w' ⟨rfl, rfl⟩
    go_wp2
    go_region
    have C1 := Lib.hid (((Chg.refl w none).alloc (.cells #[.bool P.A.there, .slice D P.A.data.length cap2, .int .u64 P.A.tick] 64)).drewN 1)
    have hbx : ((w.alloc (.cells #[.bool P.A.there, .slice D P.A.data.length cap2, .int .u64 P.A.tick] 64)).drewN 1).heap[w.heap.size]? = some (.cells #[.bool P.A.there, .slice D P.A.data.length cap2, .int .u64 P.A.tick] 64 (0, 0)) := heap_alloc_last w _
    have hs1 : w.heap.size < ((w.alloc (.cells #[.bool P.A.there, .slice D P.A.data.length cap2, .int .u64 P.A.tick] 64)).drewN 1).heap.size := by simp
    have HBX := Lib.hid hbx
    have HA1 := Lib.hid (Chg.sl HA.out C1.out)
    rw [World.drew_is_drewN]
    generalize (w.alloc (.cells #[.bool P.A.there, .slice D P.A.data.length cap2, .int .u64 P.A.tick] 64)).drewN 1 = w1 at *
    have d0 : w1.cell? ⟨w.heap.size, 0, none⟩ = some (.bool P.A.there) := by rw [cell_of_row _ _ _ _ _ _ hbx]; rfl
    have d1 : w1.cell? ⟨w.heap.size, 1, none⟩ = some (.slice D P.A.data.length cap2) := by rw [cell_of_row _ _ _ _ _ _ hbx]; rfl
    have d2 : w1.cell? ⟨w.heap.size, 2, none⟩ = some (.int .u64 P.A.tick) := by rw [cell_of_row _ _ _ _ _ _ hbx]; rfl
    clear hbx c9 c3 c4 c5 c2
    go_wp2
    go_region_held (fun w' => w'.cell? ⟨w.heap.size, 0, none⟩ = some (.bool P.A.there) ∧ w'.cell? ⟨w.heap.size, 1, none⟩ = some (.slice D P.A.data.length cap2) ∧ w'.cell? ⟨w.heap.size, 2, none⟩ = some (.int .u64 P.A.tick)) (go_keep) (first | (go_at_call 27; refine (clone27 w1.drew _ P.A.data ⟨HA1.out.shape, HA1.out.few⟩).mono ?_; rintro e w' ⟨v', rfl, hown, hgr⟩; obtain ⟨A', c', rfl⟩ := own_slice hown; have hr1 := Lib.hid ((hgr.block _ hs1 (by simp)).trans HBX.out); have e0 : w'.cell? ⟨w.heap.size, 0, none⟩ = some (.bool P.A.there) := (by rw [cell_of_row _ _ _ _ _ _ hr1.out]; rfl); have e1 : w'.cell? ⟨w.heap.size, 1, none⟩ = some (.slice D P.A.data.length cap2) := (by rw [cell_of_row _ _ _ _ _ _ hr1.out]; rfl); have e2 : w'.cell? ⟨w.heap.size, 2, none⟩ = some (.int .u64 P.A.tick) := (by rw [cell_of_row _ _ _ _ _ _ hr1.out]; rfl); have hown' := Lib.hid hown; have hgr' := Lib.hid hgr; clear hown hgr))
    go_wp2
    refine bodyPost_ret (results_tmp4 rfl _ _ _) rfl ?_
    have h2 : w1.drew.heap.size = w1.heap.size := rfl
    have h3 := C1.out.size
    have CC : Chg w w' none := C1.out.trans ⟨hgr'.out.os, hgr'.out.tape, hgr'.out.output, hgr'.out.size, hgr'.out.block⟩
    refine ⟨_, rfl, ?_, HF2.out, CC⟩
    obtain ⟨hl, hor⟩ := hown'.out
    refine ⟨hl, ?_⟩
    rcases hor with h | ⟨g, cp, cur, h1, h4, h5⟩
    · exact .inl h
    · exact .inr ⟨g, cp, cur, h1, by omega, h5⟩
  | true =>
    have c9 : w.cell? ⟨b, 9, none⟩ = some (.int .i64 1) := by rw [cell_of_row _ _ _ _ _ _ hrow]; rfl
    have c3 : w.cell? ⟨b, 6, none⟩ = some (.bool P.A.there) := by rw [cell_of_row _ _ _ _ _ _ hrow]; rfl
    have c4 : w.cell? ⟨b, 7, none⟩ = some (.slice D P.A.data.length cap2) := by rw [cell_of_row _ _ _ _ _ _ hrow]; rfl
    have c5 : w.cell? ⟨b, 8, none⟩ = some (.int .u64 P.A.tick) := by rw [cell_of_row _ _ _ _ _ _ hrow]; rfl
    clear hrow
    go_enter Try.func11, Try.ntmps11
    go_wp2_with fail
    refine (contains_any _ _ _ HR.out _).mono ?_
    rw [decide_eq_true HC.out]
    rintro e w' ⟨rfl, rfl⟩
    go_wp2
    go_region
    have C1 := Lib.hid (((Chg.refl w none).alloc (.cells #[.bool P.A.there, .slice D P.A.data.length cap2, .int .u64 P.A.tick] 64)).drewN 1)
    have hbx : ((w.alloc (.cells #[.bool P.A.there, .slice D P.A.data.length cap2, .int .u64 P.A.tick] 64)).drewN 1).heap[w.heap.size]? = some (.cells #[.bool P.A.there, .slice D P.A.data.length cap2, .int .u64 P.A.tick] 64 (0, 0)) := heap_alloc_last w _
    have hs1 : w.heap.size < ((w.alloc (.cells #[.bool P.A.there, .slice D P.A.data.length cap2, .int .u64 P.A.tick] 64)).drewN 1).heap.size := by simp
    have HBX := Lib.hid hbx
    have HA1 := Lib.hid (Chg.sl HA.out C1.out)
    rw [World.drew_is_drewN]
    generalize (w.alloc (.cells #[.bool P.A.there, .slice D P.A.data.length cap2, .int .u64 P.A.tick] 64)).drewN 1 = w1 at *
    have d0 : w1.cell? ⟨w.heap.size, 0, none⟩ = some (.bool P.A.there) := by rw [cell_of_row _ _ _ _ _ _ hbx]; rfl
    have d1 : w1.cell? ⟨w.heap.size, 1, none⟩ = some (.slice D P.A.data.length cap2) := by rw [cell_of_row _ _ _ _ _ _ hbx]; rfl
    have d2 : w1.cell? ⟨w.heap.size, 2, none⟩ = some (.int .u64 P.A.tick) := by rw [cell_of_row _ _ _ _ _ _ hbx]; rfl
    clear hbx c9 c3 c4 c5 c2
    go_wp2
    go_region_held (fun w' => w'.cell? ⟨w.heap.size, 0, none⟩ = some (.bool P.A.there) ∧ w'.cell? ⟨w.heap.size, 1, none⟩ = some (.slice D P.A.data.length cap2) ∧ w'.cell? ⟨w.heap.size, 2, none⟩ = some (.int .u64 P.A.tick)) (go_keep) (first | (go_at_call 27; refine (clone27 w1.drew _ P.A.data ⟨HA1.out.shape, HA1.out.few⟩).mono ?_; rintro e w' ⟨v', rfl, hown, hgr⟩; obtain ⟨A', c', rfl⟩ := own_slice hown; have hr1 := Lib.hid ((hgr.block _ hs1 (by simp)).trans HBX.out); have e0 : w'.cell? ⟨w.heap.size, 0, none⟩ = some (.bool P.A.there) := (by rw [cell_of_row _ _ _ _ _ _ hr1.out]; rfl); have e1 : w'.cell? ⟨w.heap.size, 1, none⟩ = some (.slice D P.A.data.length cap2) := (by rw [cell_of_row _ _ _ _ _ _ hr1.out]; rfl); have e2 : w'.cell? ⟨w.heap.size, 2, none⟩ = some (.int .u64 P.A.tick) := (by rw [cell_of_row _ _ _ _ _ _ hr1.out]; rfl); have hown' := Lib.hid hown; have hgr' := Lib.hid hgr; clear hown hgr))
    go_wp2
    refine bodyPost_ret (results_tmp4 rfl _ _ _) rfl ?_
    have h2 : w1.drew.heap.size = w1.heap.size := rfl
    have h3 := C1.out.size
    have CC : Chg w w' none := C1.out.trans ⟨hgr'.out.os, hgr'.out.tape, hgr'.out.output, hgr'.out.size, hgr'.out.block⟩
    refine ⟨_, rfl, ?_, HF2.out, CC⟩
    obtain ⟨hl, hor⟩ := hown'.out
    refine ⟨hl, ?_⟩
    rcases hor with h | ⟨g, cp, cur, h1, h4, h5⟩
    · exact .inl h
    · exact .inr ⟨g, cp, cur, h1, by omega, h5⟩
end Go.Proofs.Ytfoofipkbijajaa.Sa
