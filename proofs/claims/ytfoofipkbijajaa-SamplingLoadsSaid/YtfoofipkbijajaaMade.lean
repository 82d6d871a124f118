/- made of the statements' own text: its contract; a step in memory. No statement of the seat is proved here. -/
import Derived.Test.YtfoofipkbijajaaOps
import Derived.Test.YtfoofipkbijajaaApp
namespace Go.Proofs.Ytfoofipkbijajaa.Sa
open Go.RowKit Go.Proofs.Ytfoofipkbijajaa.Kit
set_option linter.unusedSimpArgs false
set_option linter.unusedVariables false

theorem may2 : may 1 16 [2, 3] = true := by decide +kernel
theorem may1 : may 1 16 [3] = true := by decide +kernel
set_option maxHeartbeats 1000000 in
theorem made_any (w : World) (n : Int) : Calls Try.prog 13 #[.int .i64 n] w fun e w' => ∃ b F rs, e = .returned (.pointer (some ⟨b, 0, none⟩)) ∧ PortIs w' b F ⟨1, 16, rs, Msg.none, Msg.none⟩ ∧ 3 ∈ rs ∧
    w.heap.size ≤ b ∧ (∀ x, F x → w.heap.size ≤ x) ∧ Chg w w' none := by
  have S1 := Lib.hid (sl_lit (k := .i64) (m := 8) w [2, 3] 3 (by decide))
  have C1 := Lib.hid ((Chg.refl w none).alloc (.cells ([2, 3].map (Value.int .i64)).toArray 3))
  by_cases h : n.tmod 2 = 0
  · have hb : (n.tmod 2 == 0) = true := by simpa using h
    have S2' := sl_lit (k := .i64) (m := 8) (w.alloc (.cells ([2, 3].map (Value.int .i64)).toArray 3)) [3] 3 (by decide)
    rw [World.size_alloc] at S2'
    have S2 := Lib.hid S2'
    clear S2'
    have C2 := Lib.hid (C1.out.alloc (.cells ([3].map (Value.int .i64)).toArray 3))
    clear h
    go_enter Try.func13, Try.ntmps13
    go_wp2_with fail
    refine (new_any _ 1 16 _ [3] S2.out).mono ?_
    intro e w2 hN
    rcases hN with ⟨hm, _⟩ | ⟨_, b, F, rfl, hP, hbb, hF, hC⟩
    · rw [may1] at hm; cases hm
    have P2 := Lib.hid hP
    have HC := Lib.hid (C2.out.trans hC)
    have HB := Lib.hid (And.intro hbb hF)
    clear hP hbb hF hC
    go_wp2
    go_ret
    have hs := C2.out.size
    exact ⟨b, F, [3], rfl, P2.out, by decide, Nat.le_trans hs HB.out.1, fun x hx => Nat.le_trans hs (HB.out.2 x hx), HC.out⟩
  · have hb : (n.tmod 2 == 0) = false := by simpa using h
    clear h
    go_enter Try.func13, Try.ntmps13
    go_wp2_with fail
    refine (new_any _ 1 16 _ [2, 3] S1.out).mono ?_
    intro e w2 hN
    rcases hN with ⟨hm, _⟩ | ⟨_, b, F, rfl, hP, hbb, hF, hC⟩
    · rw [may2] at hm; cases hm
    have P2 := Lib.hid hP
    have HC := Lib.hid (C1.out.trans hC)
    have HB := Lib.hid (And.intro hbb hF)
    clear hP hbb hF hC
    go_wp2
    go_ret
    have hs := C1.out.size
    exact ⟨b, F, [2, 3], rfl, P2.out, by decide, Nat.le_trans hs HB.out.1, fun x hx => Nat.le_trans hs (HB.out.2 x hx), HC.out⟩

/-! ### a step, laid into a block of the round's own -/
def oz : Array Value := (opCells d0).toArray
theorem zero46 : ∀ w, (zeroValue 46).run Try.prog w = .ok (.agg oz) w := fun _ => by kernel_rfl
theorem info46 : (Try.prog.info? 46).map (·.size) = some 10 := by kernel_rfl
def opArr (d : OpD) : Array Value := (opCells d).toArray
theorem sl_one {k : IntKind} {m : Nat} {w : World} {v : Value} {xs : List Int} (h : Sl k m w v xs) : v.oneCell' = true := by
  obtain ⟨⟨A, cap, rfl, _⟩, _⟩ := h; rfl
theorem opArr_one {w : World} {d : OpD} (h : d.okay w) : (opArr d).all (·.oneCell') = true := by
  have h1 := sl_one h.data
  have h2 := sl_one h.ldata
  have h3 := sl_one h.ndata
  rw [Array.all_eq_true_iff_forall_mem]
  intro v hv
  simp only [opArr, opCells, List.mem_toArray, List.mem_cons, List.not_mem_nil, or_false] at hv
  rcases hv with rfl | rfl | rfl | rfl | rfl | rfl | rfl | rfl | rfl | rfl <;> first | rfl | assumption
theorem op_box (w : World) (d : OpD) (t : TypeId) : (w.alloc (.cells (opArr d) t)).cell? ⟨w.heap.size, 0, none⟩ = some (.int .i64 d.kind) ∧ (w.alloc (.cells (opArr d) t)).cell? ⟨w.heap.size, 1, none⟩ = some (.int .i64 d.cell) ∧
    (w.alloc (.cells (opArr d) t)).cell? ⟨w.heap.size, 2, none⟩ = some (.int .u64 d.tick) ∧ (w.alloc (.cells (opArr d) t)).cell? ⟨w.heap.size, 3, none⟩ = some d.dv := by
  have h := heap_alloc_last w (.cells (opArr d) t)
  refine ⟨?_, ?_, ?_, ?_⟩ <;> (rw [cell_of_row _ _ _ _ _ _ h]; rfl)
theorem op_cells {w : World} {b : Nat} {d : OpD} {t : TypeId} {s : Nat × Nat} (h : w.heap[b]? = some (.cells (opArr d) t s)) : w.cell? ⟨b, 0, none⟩ = some (.int .i64 d.kind) ∧ w.cell? ⟨b, 1, none⟩ = some (.int .i64 d.cell) ∧
    w.cell? ⟨b, 2, none⟩ = some (.int .u64 d.tick) ∧ w.cell? ⟨b, 3, none⟩ = some d.dv := by
  refine ⟨?_, ?_, ?_, ?_⟩ <;> (rw [cell_of_row _ _ _ _ _ _ h]; rfl)
end Go.Proofs.Ytfoofipkbijajaa.Sa
