/- New, State and Load of the controller: contracts. No statement of the seat is proved here. -/
import Derived.Test.YtpedciapkalhgaaDoorBase2
namespace Go.Proofs.YtpedciapkalhgaaDoor.Gk
open Go.RowKit Go.Proofs.YtpedciapkalhgaaDoor.Kit
set_option linter.unusedSimpArgs false
set_option linter.unusedVariables false

def z0 : List Int := List.replicate 32 0
theorem z0_len : z0.length = 32 := rfl
theorem nth_z0 (i : Nat) : nth z0 i = 0 := by
  unfold nth z0
  simp only [List.getD_eq_getElem?_getD, List.getElem?_replicate]
  split <;> rfl
def gz : Array Value := gcells z0 0 0
theorem zero67 : ∀ w, (zeroValue 67).run Tryd.prog w = .ok (.agg gz) w := fun _ => by kernel_rfl
theorem zero39 : ∀ w, (zeroValue 39).run Tryd.prog w = .ok (.agg gz) w := fun _ => by kernel_rfl
theorem new_any (w : World) : Calls Tryd.prog 23 #[] w fun e w' => e = .returned (.pointer (some ⟨w.heap.size, 0, none⟩)) ∧ w.alloc (.cells gz 67) = w' := by
  have hz := zero67
  go_enter Tryd.func23, Tryd.ntmps23
  go_wp2
  go_ret
  exact ⟨rfl, rfl⟩
theorem new_at (w : World) : GicAt (w.alloc (.cells gz 67)) w.heap.size z0 0 0 := ⟨heap_alloc_last w _, z0_len, by decide, by decide⟩

theorem GicAt.ranges {w : World} {b : Nat} {r : List Int} {p m : Nat} (h : GicAt w b r p m) (W : World) (hW : W.heap[b]? = w.heap[b]?) : W.rangeAt b 0 (r.map (Value.int .i64)) :=
  (GicAt.range (w := W) ⟨by rw [hW]; exact h.heap, h.len, h.hp, h.hm⟩)

theorem list32 (r : List Int) (h : r.length = 32) : r = (List.range 32).map (nth r) := by
  apply List.ext_getElem
  · simp [h]
  · intro i h1 h2; simp [nth, List.getElem?_eq_getElem h1]
theorem build39_f (f : Nat → Int) (p m : Nat) (w : World) : (Instr.build 39 #[(0, .agg (((List.range 32).map f).map (Value.int .i64)).toArray), (1, .int .u32 p), (2, .int .u32 m)]).run Tryd.prog w = .ok (.agg (gcells ((List.range 32).map f) p m)) w := by kernel_rfl
theorem build67_f (f : Nat → Int) (p m : Nat) (w : World) : (Instr.build 67 #[(0, .agg (((List.range 32).map f).map (Value.int .i64)).toArray), (1, .int .u32 p), (2, .int .u32 m)]).run Tryd.prog w = .ok (.agg (gcells ((List.range 32).map f) p m)) w := by kernel_rfl
theorem build39 (r : List Int) (h : r.length = 32) (p m : Nat) (w : World) : (Instr.build 39 #[(0, .agg (r.map (Value.int .i64)).toArray), (1, .int .u32 p), (2, .int .u32 m)]).run Tryd.prog w = .ok (.agg (gcells r p m)) w := by
  rw [list32 r h]; exact build39_f _ p m w
theorem build67 (r : List Int) (h : r.length = 32) (p m : Nat) (w : World) : (Instr.build 67 #[(0, .agg (r.map (Value.int .i64)).toArray), (1, .int .u32 p), (2, .int .u32 m)]).run Tryd.prog w = .ok (.agg (gcells r p m)) w := by
  rw [list32 r h]; exact build67_f _ p m w
theorem gcells_size (r : List Int) (h : r.length = 32) (p m : Nat) : (gcells r p m).size = 34 := by simp [gcells, h]
theorem gcells_one (r : List Int) (p m : Nat) : (gcells r p m).all (·.oneCell') = true := by
  rw [Array.all_eq_true_iff_forall_mem]
  intro v hv
  simp only [gcells, List.mem_toArray, List.mem_append, List.mem_map, List.mem_cons, List.not_mem_nil, or_false] at hv
  rcases hv with ⟨a, _, rfl⟩ | rfl | rfl <;> rfl
theorem info39 : (Tryd.prog.info? 39).map (·.size) = some 34 := by kernel_rfl
theorem info67 : (Tryd.prog.info? 67).map (·.size) = some 34 := by kernel_rfl

set_option maxHeartbeats 400000 in
theorem state_any (w : World) (b : Nat) (r : List Int) (p m : Nat) (h : GicAt w b r p m) :
    Calls Tryd.prog 18 #[.pointer (some ⟨b, 0, none⟩)] w fun e w' => e = .returned (.agg (gcells r p m)) ∧ GicAt w' b r p m ∧ Chg w w' b := by
  have hc2 := h.pend
  have hc3 := h.mask
  have hlen := Lib.hid h.len
  have H := Lib.hid h
  have HR := Lib.hid (h.ranges (w.alloc (.cells gz 39)).drew (heap_alloc_old w _ h.lt))
  have hlt := h.lt
  have hz := zero39
  clear h
  go_enter Tryd.func18, Tryd.ntmps18
  go_wp2
  refine wp_region_tail 13 (by kernel_rfl) (by kernel_rfl) ?_
  simp only [List.take_succ_cons, List.take_zero, List.drop_succ_cons, List.drop_zero]
  iterate 3 still_step
  refine wpStill_load_mid rfl 37 (.tmp 5) rfl b 0 rfl (r.map (Value.int .i64)) _ HR.out Tryd.underlying37 rfl (by rw [List.length_map, hlen.out]; kernel_rfl) ?_
  iterate 8 still_step
  refine wpStill_build rfl 39 _ rfl _ (by simp [Act.eval]) (.agg (gcells r p m)) (build39 r hlen.out p m _) ?_
  refine wpStill_nil ?_
  refine wpList_store_row rfl 39 (.tmp 2) (.tmp 15) rfl w.heap.size (gcells r p m) rfl rfl 39 gz (heap_alloc_last w _) (by rw [gcells_size r hlen.out]; exact info39) (by rw [gcells_size r hlen.out]; rfl) (gcells_one r p m) ?_
  go_wp2
  have hg : ((w.alloc (.cells gz 39)).drew.setRow w.heap.size (gcells r p m)).heap[w.heap.size]? = some (.cells (gcells r p m) 39 (0, 0)) := setRow_heap _ _ _ _ _ _ (heap_alloc_last w _)
  refine bodyPost_ret (results_cell_row (p := 2) (ty := 39) rfl _ _ w.heap.size 39 (gcells r p m) (0, 0) _ rfl hg Tryd.underlying39 rfl (by rw [gcells_size r hlen.out]; exact info39)) rfl ⟨rfl, ?_, ?_⟩
  · exact ⟨by rw [setRow_other _ _ _ _ (Nat.ne_of_lt hlt)]; exact (heap_alloc_old w _ hlt).trans H.out.heap, hlen.out, H.out.hp, H.out.hm⟩
  · exact ⟨rfl, rfl, rfl, by simp, fun i hi _ => by rw [setRow_other _ _ _ _ (Nat.ne_of_lt hi)]; exact heap_alloc_old w _ hi⟩

/-! ### Load -/
/-- May routes be? -/
def okR (r : List Int) : Bool := r.all fun c => decide (c = 0) || isC c
end Go.Proofs.YtpedciapkalhgaaDoor.Gk
