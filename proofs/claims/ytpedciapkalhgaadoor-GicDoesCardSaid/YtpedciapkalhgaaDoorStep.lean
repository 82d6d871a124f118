/- step: one walk for each kind. No statement of the seat is proved here. -/
import Derived.Test.YtpedciapkalhgaaDoorLines
namespace Go.Proofs.YtpedciapkalhgaaDoor.Gk
open Go.RowKit Go.Proofs.YtpedciapkalhgaaDoor.Kit
set_option linter.unusedSimpArgs false
set_option linter.unusedVariables false

def SPost (q g b x y z : Nat) (w : World) (e : Ending) (w' : World) : Prop := e = .returned (.bool true) ∧ (∃ r' p' m', PAt w' q g b x y z r' p' m') ∧ Ex (F4 g x y z) w w'
def SPostE (q g b x y z : Nat) (w : World) (r' : List Int) (p' m' : Nat) (e : Ending) (w' : World) : Prop := e = .returned (.bool true) ∧ PAt w' q g b x y z r' p' m' ∧ Ex (F4 g x y z) w w'
theorem op_row (w : World) (d : OpD) (t : TypeId) : (w.alloc (.cells (opArr d) t)).rangeAt w.heap.size 4 (gcells d.r d.p d.m).toList := by
  intro j v hv
  rw [cell_of_row _ _ _ _ _ _ (heap_alloc_last w _)]
  have : (opArr d)[4 + j]? = (gcells d.r d.p d.m).toList[j]? := by simp [opArr, opCells, List.getElem?_append, Nat.add_comm 4 j]
  rw [this]; exact hv
set_option maxRecDepth 100000 in
set_option maxHeartbeats 2000000 in
theorem step_route (w : World) (q g b x y z : Nat) (r : List Int) (p m : Nat) (h : PAt w q g b x y z r p m) (hT : TabAt w) (d : OpD) (hd : d.okay) (hk : d.kind = 1) :
    Calls Tryd.prog 25 #[.pointer (some ⟨q, 0, none⟩), .agg (opArr d)] w (SPostE q g b x y z w (roR d.line d.cell r) (roP d.line d.cell r p) (roP d.line d.cell r m)) := by
  obtain ⟨b0, b1, b2, b3⟩ := op_box w d 41
  have Q1 := Lib.hid (h.alloc (.cells (opArr d) 41))
  have T1 := Lib.hid (hT.below ((Below.refl w.heap.size w).alloc (Nat.le_refl _) (.cells (opArr d) 41)) (World.block_lt_of_cell? w _ (hT 0 (by omega))))
  have E1 := Lib.hid ((Ex.refl (F4 g x y z) w).alloc (.cells (opArr d) 41))
  have HD := Lib.hid hd
  have hcg := Q1.out.cg
  have hcb := Q1.out.cb
  have hwg := h.gc.lt
  rw [hk] at b0
  clear h hT hd hk
  go_enter Tryd.func25, Tryd.ntmps25
  go_wp2_with fail
  generalize w.alloc (.cells (opArr d) 41) = w1 at *
  refine wp_region_tail 8 (by kernel_rfl) (by kernel_rfl) ?_
  simp only [List.take_succ_cons, List.take_zero, List.drop_succ_cons, List.drop_zero]
  iterate 8 still_step
  refine wpStill_nil ?_
  go_wp2_with fail
  refine (groute _ g r p m _ _ Q1.out.gc.drew).mono ?_
  rintro e w5 ⟨rfl, g5, c5⟩
  have C5 := Lib.hid ((Chg.refl w1 g).drew.trans c5)
  obtain ⟨R5, hcb5, hcg5⟩ := Q1.out.mid C5.out
  have HR5 := Lib.hid R5
  have G5 := Lib.hid g5
  have hwgs : w.heap.size ≠ g := by omega
  have b1' := cell_of_kept C5.out b1 hwgs
  have b2' := cell_of_kept C5.out b2 hwgs
  clear g5 c5 R5 hcb hcg hcg5 b0 b1 b2 b3
  go_wp2_with fail
  refine wp_region_tail 10 (by kernel_rfl) (by kernel_rfl) ?_
  simp only [List.take_succ_cons, List.take_zero, List.drop_succ_cons, List.drop_zero]
  still_step
  still_call ((num_any _ _).mono fun _ _ h => ⟨h.1, h.2.symm⟩)
  iterate 8 still_step
  refine wpStill_nil ?_
  go_wp2_with fail
  refine (rroute _ b x y z r p m _ _ HR5.out.drew).mono ?_
  rintro e w6 ⟨rfl, r6, x6⟩
  have R6 := Lib.hid r6
  have X6 := Lib.hid ((Ex.refl _ w5).drew.trans x6)
  clear r6 x6
  go_wp2
  go_ret
  obtain ⟨f1, f2⟩ := Q1.out.both G5.out C5.out R6.out X6.out
  exact ⟨rfl, f1, E1.out.trans f2⟩
set_option maxRecDepth 100000 in
set_option maxHeartbeats 2000000 in
theorem step_raise (w : World) (q g b x y z : Nat) (r : List Int) (p m : Nat) (h : PAt w q g b x y z r p m) (hT : TabAt w) (d : OpD) (hd : d.okay) (hk : d.kind = 2) :
    Calls Tryd.prog 25 #[.pointer (some ⟨q, 0, none⟩), .agg (opArr d)] w (SPostE q g b x y z w r (rsd r p d.line) m) := by
  obtain ⟨b0, b1, b2, b3⟩ := op_box w d 41
  have Q1 := Lib.hid (h.alloc (.cells (opArr d) 41))
  have T1 := Lib.hid (hT.below ((Below.refl w.heap.size w).alloc (Nat.le_refl _) (.cells (opArr d) 41)) (World.block_lt_of_cell? w _ (hT 0 (by omega))))
  have E1 := Lib.hid ((Ex.refl (F4 g x y z) w).alloc (.cells (opArr d) 41))
  have HD := Lib.hid hd
  have hcg := Q1.out.cg
  have hcb := Q1.out.cb
  have hwg := h.gc.lt
  rw [hk] at b0
  clear h hT hd hk
  go_enter Tryd.func25, Tryd.ntmps25
  go_wp2_with fail
  generalize w.alloc (.cells (opArr d) 41) = w1 at *
  go_region_with (go_at_call 12; refine (graise _ g r p m _ Q1.out.gc.drew).mono ?_; rintro e w5 ⟨rfl, g5, c5⟩)
  all_goals
    have C5 := Lib.hid ((Chg.refl w1 g).drew.trans c5)
    obtain ⟨R5, hcb5, hcg5⟩ := Q1.out.mid C5.out
    have HR5 := Lib.hid R5
    have G5 := Lib.hid g5
    have hwgs : w.heap.size ≠ g := by omega
    have b1' := cell_of_kept C5.out b1 hwgs
    clear g5 c5 R5 hcb hcg hcg5 b0 b1 b2 b3
    go_wp2_with fail
    go_region_with (go_at_call 40; refine (rraise _ b x y z r p m _ HR5.out.drew).mono ?_; rintro e w6 ⟨rfl, r6, x6⟩)
    all_goals
      have R6 := Lib.hid r6
      have X6 := Lib.hid ((Ex.refl _ w5).drew.trans x6)
      clear r6 x6
      generalize nw r p d.line = nwb
      generalize lcode d.line = lc
      go_wp2_with (go_at_call 38; refine (num_any _ _).mono ?_; rintro e w' ⟨rfl, rfl⟩)
      go_ret
      obtain ⟨f1, f2⟩ := Q1.out.both G5.out C5.out R6.out X6.out
      exact ⟨rfl, f1, E1.out.trans f2⟩
set_option maxRecDepth 100000 in
set_option maxHeartbeats 2000000 in
theorem step_mask (w : World) (q g b x y z : Nat) (r : List Int) (p m : Nat) (h : PAt w q g b x y z r p m) (hT : TabAt w) (d : OpD) (hd : d.okay) (hk : d.kind = 3) :
    Calls Tryd.prog 25 #[.pointer (some ⟨q, 0, none⟩), .agg (opArr d)] w (SPost q g b x y z w) := by
  obtain ⟨b0, b1, b2, b3⟩ := op_box w d 41
  have Q1 := Lib.hid (h.alloc (.cells (opArr d) 41))
  have T1 := Lib.hid (hT.below ((Below.refl w.heap.size w).alloc (Nat.le_refl _) (.cells (opArr d) 41)) (World.block_lt_of_cell? w _ (hT 0 (by omega))))
  have E1 := Lib.hid ((Ex.refl (F4 g x y z) w).alloc (.cells (opArr d) 41))
  have HD := Lib.hid hd
  have hcg := Q1.out.cg
  have hcb := Q1.out.cb
  have hwg := h.gc.lt
  rw [hk] at b0
  clear h hT hd hk
  go_enter Tryd.func25, Tryd.ntmps25
  go_wp2_with fail
  generalize w.alloc (.cells (opArr d) 41) = w1 at *
  refine wp_region_tail 8 (by kernel_rfl) (by kernel_rfl) ?_
  simp only [List.take_succ_cons, List.take_zero, List.drop_succ_cons, List.drop_zero]
  iterate 8 still_step
  refine wpStill_nil ?_
  go_wp2_with fail
  refine (gmask _ g r p m _ _ HD.out.set Q1.out.gc.drew).mono ?_
  rintro e w5 ⟨rfl, g5, c5⟩
  have C5 := Lib.hid ((Chg.refl w1 g).drew.trans c5)
  obtain ⟨R5, hcb5, hcg5⟩ := Q1.out.mid C5.out
  have HR5 := Lib.hid R5
  have G5 := Lib.hid g5
  have hwgs : w.heap.size ≠ g := by omega
  have b2' := cell_of_kept C5.out b2 hwgs
  have b3' := cell_of_kept C5.out b3 hwgs
  clear g5 c5 R5 hcb hcg hcg5 b0 b1 b2 b3
  go_wp2_with fail
  refine wp_region_tail 8 (by kernel_rfl) (by kernel_rfl) ?_
  simp only [List.take_succ_cons, List.take_zero, List.drop_succ_cons, List.drop_zero]
  iterate 8 still_step
  refine wpStill_nil ?_
  go_wp2_with fail
  refine (rmask _ b x y z r p m _ _ HD.out.set HR5.out.drew).mono ?_
  rintro e w6 ⟨rfl, r6, x6⟩
  have R6 := Lib.hid r6
  have X6 := Lib.hid ((Ex.refl _ w5).drew.trans x6)
  clear r6 x6
  go_wp2
  go_ret
  obtain ⟨f1, f2⟩ := Q1.out.both G5.out C5.out R6.out X6.out
  exact ⟨rfl, ⟨_, _, _, f1⟩, E1.out.trans f2⟩
set_option maxRecDepth 100000 in
set_option maxHeartbeats 2000000 in
theorem step_told (w : World) (q g b x y z : Nat) (r : List Int) (p m : Nat) (h : PAt w q g b x y z r p m) (hT : TabAt w) (d : OpD) (hd : d.okay) (hk : d.kind = 4) :
    Calls Tryd.prog 25 #[.pointer (some ⟨q, 0, none⟩), .agg (opArr d)] w (SPostE q g b x y z w r p m) := by
  obtain ⟨b0, b1, b2, b3⟩ := op_box w d 41
  have Q1 := Lib.hid (h.alloc (.cells (opArr d) 41))
  have T1 := Lib.hid (hT.below ((Below.refl w.heap.size w).alloc (Nat.le_refl _) (.cells (opArr d) 41)) (World.block_lt_of_cell? w _ (hT 0 (by omega))))
  have E1 := Lib.hid ((Ex.refl (F4 g x y z) w).alloc (.cells (opArr d) 41))
  have HD := Lib.hid hd
  have hcg := Q1.out.cg
  have hcb := Q1.out.cb
  have hwg := h.gc.lt
  rw [hk] at b0
  clear h hT hd hk
  go_enter Tryd.func25, Tryd.ntmps25
  go_wp2_with fail
  generalize w.alloc (.cells (opArr d) 41) = w1 at *
  refine (told_any _ q g b x y z r p m _ Q1.out T1.out).mono ?_
  rintro e w5 ⟨rfl, n, rfl⟩
  go_wp2
  go_ret
  exact ⟨rfl, Q1.out.drewN n, E1.out.drewN n⟩
set_option maxRecDepth 100000 in
set_option maxHeartbeats 2000000 in
theorem step_take (w : World) (q g b x y z : Nat) (r : List Int) (p m : Nat) (h : PAt w q g b x y z r p m) (hT : TabAt w) (d : OpD) (hd : d.okay) (hk : d.kind = 5) :
    Calls Tryd.prog 25 #[.pointer (some ⟨q, 0, none⟩), .agg (opArr d)] w (SPost q g b x y z w) := by
  obtain ⟨b0, b1, b2, b3⟩ := op_box w d 41
  have Q1 := Lib.hid (h.alloc (.cells (opArr d) 41))
  have T1 := Lib.hid (hT.below ((Below.refl w.heap.size w).alloc (Nat.le_refl _) (.cells (opArr d) 41)) (World.block_lt_of_cell? w _ (hT 0 (by omega))))
  have E1 := Lib.hid ((Ex.refl (F4 g x y z) w).alloc (.cells (opArr d) 41))
  have HD := Lib.hid hd
  have hcg := Q1.out.cg
  have hcb := Q1.out.cb
  have hwg := h.gc.lt
  rw [hk] at b0
  clear h hT hd hk
  go_enter Tryd.func25, Tryd.ntmps25
  go_wp2_with fail
  generalize w.alloc (.cells (opArr d) 41) = w1 at *
  go_region_with (go_at_call 14; refine (gtake _ g r p m _ Q1.out.gc.drew (T1.out.drewN 1)).mono ?_; rintro e w5 ⟨rfl, g5, c5⟩)
  all_goals
    have C5 := Lib.hid ((Chg.refl w1 g).drew.trans c5)
    obtain ⟨R5, hcb5, hcg5⟩ := Q1.out.mid C5.out
    have HR5 := Lib.hid R5
    have G5 := Lib.hid g5
    have hwgs : w.heap.size ≠ g := by omega
    have b2' := cell_of_kept C5.out b2 hwgs
    clear g5 c5 R5 hcb hcg hcg5 b0 b1 b2 b3
    go_wp2_with fail
    refine wp_region_tail 6 (by kernel_rfl) (by kernel_rfl) ?_
    simp only [List.take_succ_cons, List.take_zero, List.drop_succ_cons, List.drop_zero]
    iterate 6 still_step
    refine wpStill_nil ?_
    go_wp2_with fail
    refine (rtake_any _ b x y z r p m _ HR5.out.drew).mono ?_
    rintro e w6 ⟨rfl, r6, x6⟩
    have R6 := Lib.hid r6
    have X6 := Lib.hid ((Ex.refl _ w5).drew.trans x6)
    clear r6 x6
    obtain ⟨s0, s1⟩ := same_next (someOf r d.cell (wait p m))
    by_cases hz : someOf r d.cell (wait p m) = 0
    · obtain ⟨e1, e2, e3⟩ := s0 hz
      rw [e1, e2, e3]
      clear s0 s1 hz e1 e2 e3
      go_wp2
      go_ret
      obtain ⟨f1, f2⟩ := Q1.out.both G5.out C5.out R6.out X6.out
      exact ⟨rfl, ⟨_, _, _, f1⟩, E1.out.trans f2⟩
    · obtain ⟨e1, e2, e3⟩ := s1 hz
      rw [e1, e2]
      clear s0 s1 hz e1 e2
      generalize nx (someOf r d.cell (wait p m)) = nv at *
      go_wp2
      go_ret
      obtain ⟨f1, f2⟩ := Q1.out.both G5.out C5.out R6.out X6.out
      exact ⟨rfl, ⟨_, _, _, f1⟩, E1.out.trans f2⟩
set_option maxRecDepth 100000 in
set_option maxHeartbeats 2000000 in
theorem step_lines (w : World) (q g b x y z : Nat) (r : List Int) (p m : Nat) (h : PAt w q g b x y z r p m) (hT : TabAt w) (d : OpD) (hd : d.okay) (hk : d.kind = 6) :
    Calls Tryd.prog 25 #[.pointer (some ⟨q, 0, none⟩), .agg (opArr d)] w (SPost q g b x y z w) := by
  obtain ⟨b0, b1, b2, b3⟩ := op_box w d 41
  have Q1 := Lib.hid (h.alloc (.cells (opArr d) 41))
  have T1 := Lib.hid (hT.below ((Below.refl w.heap.size w).alloc (Nat.le_refl _) (.cells (opArr d) 41)) (World.block_lt_of_cell? w _ (hT 0 (by omega))))
  have E1 := Lib.hid ((Ex.refl (F4 g x y z) w).alloc (.cells (opArr d) 41))
  have HD := Lib.hid hd
  have hcg := Q1.out.cg
  have hcb := Q1.out.cb
  have hwg := h.gc.lt
  rw [hk] at b0
  clear h hT hd hk
  go_enter Tryd.func25, Tryd.ntmps25
  go_wp2_with fail
  generalize w.alloc (.cells (opArr d) 41) = w1 at *
  refine (plines_any _ q g b x y z r p m Q1.out T1.out _ _).mono ?_
  rintro e w5 ⟨rfl, b5⟩
  have B5 := Lib.hid b5
  clear b5
  go_wp2
  go_ret
  exact ⟨rfl, ⟨_, _, _, Q1.out.below B5.out⟩, E1.out.trans (Ex.of_below B5.out _)⟩
set_option maxRecDepth 100000 in
set_option maxHeartbeats 2000000 in
theorem step_clear (w : World) (q g b x y z : Nat) (r : List Int) (p m : Nat) (h : PAt w q g b x y z r p m) (hT : TabAt w) (d : OpD) (hd : d.okay) (hk : d.kind = 7) :
    Calls Tryd.prog 25 #[.pointer (some ⟨q, 0, none⟩), .agg (opArr d)] w (SPost q g b x y z w) := by
  obtain ⟨b0, b1, b2, b3⟩ := op_box w d 41
  have Q1 := Lib.hid (h.alloc (.cells (opArr d) 41))
  have T1 := Lib.hid (hT.below ((Below.refl w.heap.size w).alloc (Nat.le_refl _) (.cells (opArr d) 41)) (World.block_lt_of_cell? w _ (hT 0 (by omega))))
  have E1 := Lib.hid ((Ex.refl (F4 g x y z) w).alloc (.cells (opArr d) 41))
  have HD := Lib.hid hd
  have hcg := Q1.out.cg
  have hcb := Q1.out.cb
  have hwg := h.gc.lt
  rw [hk] at b0
  clear h hT hd hk
  go_enter Tryd.func25, Tryd.ntmps25
  go_wp2_with fail
  generalize w.alloc (.cells (opArr d) 41) = w1 at *
  refine wp_region_tail 6 (by kernel_rfl) (by kernel_rfl) ?_
  simp only [List.take_succ_cons, List.take_zero, List.drop_succ_cons, List.drop_zero]
  iterate 6 still_step
  refine wpStill_nil ?_
  go_wp2_with fail
  refine (clear_any _ g r p m _ Q1.out.gc.drew).mono ?_
  rintro e w5 ⟨rfl, g5, c5⟩
  have C5 := Lib.hid ((Chg.refl w1 g).drew.trans c5)
  obtain ⟨R5, hcb5, hcg5⟩ := Q1.out.mid C5.out
  have HR5 := Lib.hid R5
  have G5 := Lib.hid g5
  have hwgs : w.heap.size ≠ g := by omega
  have b2' := cell_of_kept C5.out b2 hwgs
  clear g5 c5 R5 hcb hcg hcg5 b0 b1 b2 b3
  go_wp2_with fail
  refine wp_region_tail 6 (by kernel_rfl) (by kernel_rfl) ?_
  simp only [List.take_succ_cons, List.take_zero, List.drop_succ_cons, List.drop_zero]
  iterate 6 still_step
  refine wpStill_nil ?_
  go_wp2_with fail
  refine (rclear _ b x y z r p m _ HR5.out.drew).mono ?_
  rintro e w6 ⟨rfl, r6, x6⟩
  have R6 := Lib.hid r6
  have X6 := Lib.hid ((Ex.refl _ w5).drew.trans x6)
  clear r6 x6
  go_wp2
  go_ret
  obtain ⟨f1, f2⟩ := Q1.out.both G5.out C5.out R6.out X6.out
  exact ⟨rfl, ⟨_, _, _, f1⟩, E1.out.trans f2⟩
set_option maxRecDepth 100000 in
set_option maxHeartbeats 2000000 in
theorem step_state (w : World) (q g b x y z : Nat) (r : List Int) (p m : Nat) (h : PAt w q g b x y z r p m) (hT : TabAt w) (d : OpD) (hd : d.okay) (hk : d.kind = 8) :
    Calls Tryd.prog 25 #[.pointer (some ⟨q, 0, none⟩), .agg (opArr d)] w (SPost q g b x y z w) := by
  obtain ⟨b0, b1, b2, b3⟩ := op_box w d 41
  have Q1 := Lib.hid (h.alloc (.cells (opArr d) 41))
  have T1 := Lib.hid (hT.below ((Below.refl w.heap.size w).alloc (Nat.le_refl _) (.cells (opArr d) 41)) (World.block_lt_of_cell? w _ (hT 0 (by omega))))
  have E1 := Lib.hid ((Ex.refl (F4 g x y z) w).alloc (.cells (opArr d) 41))
  have HD := Lib.hid hd
  have hcg := Q1.out.cg
  have hcb := Q1.out.cb
  have hwg := h.gc.lt
  rw [hk] at b0
  clear h hT hd hk
  go_enter Tryd.func25, Tryd.ntmps25
  go_wp2_with fail
  generalize w.alloc (.cells (opArr d) 41) = w1 at *
  refine (pstate_any _ q g b x y z r p m Q1.out).mono ?_
  rintro e w5 ⟨rfl, b5⟩
  have B5 := Lib.hid b5
  clear b5
  go_wp2
  go_ret
  exact ⟨rfl, ⟨_, _, _, Q1.out.below B5.out⟩, E1.out.trans (Ex.of_below B5.out _)⟩
set_option maxRecDepth 100000 in
set_option maxHeartbeats 2000000 in
theorem step_load (w : World) (q g b x y z : Nat) (r : List Int) (p m : Nat) (h : PAt w q g b x y z r p m) (hT : TabAt w) (d : OpD) (hd : d.okay) (hk : d.kind = 9) :
    Calls Tryd.prog 25 #[.pointer (some ⟨q, 0, none⟩), .agg (opArr d)] w (SPost q g b x y z w) := by
  obtain ⟨b0, b1, b2, b3⟩ := op_box w d 41
  have Q1 := Lib.hid (h.alloc (.cells (opArr d) 41))
  have T1 := Lib.hid (hT.below ((Below.refl w.heap.size w).alloc (Nat.le_refl _) (.cells (opArr d) 41)) (World.block_lt_of_cell? w _ (hT 0 (by omega))))
  have E1 := Lib.hid ((Ex.refl (F4 g x y z) w).alloc (.cells (opArr d) 41))
  have HD := Lib.hid hd
  have hcg := Q1.out.cg
  have hcb := Q1.out.cb
  have hwg := h.gc.lt
  rw [hk] at b0
  have RW := Lib.hid (op_row w d 41)
  clear h hT hd hk
  go_enter Tryd.func25, Tryd.ntmps25
  go_wp2_with (refine wpList_load_mid (op := ⟨some 167, _, _, _, _, _⟩) rfl 39 (.tmp 166) rfl w.heap.size 4 rfl (gcells d.r d.p d.m).toList _ RW.out Tryd.underlying39 rfl (by rw [Array.length_toList, gcells_size d.r HD.out.len]; exact info39) ?_)
  generalize w.alloc (.cells (opArr d) 41) = w1 at *
  refine (pload_any _ q g b x y z r p m Q1.out d.r d.p d.m HD.out.len HD.out.hp HD.out.hm).mono ?_
  rintro e w5 ⟨rfl, ⟨r', p', m', q5⟩, x5⟩
  have Q5 := Lib.hid q5
  have X5 := Lib.hid x5
  clear q5 x5
  go_wp2
  go_ret
  exact ⟨rfl, ⟨_, _, _, Q5.out⟩, E1.out.trans X5.out⟩
set_option maxRecDepth 100000 in
set_option maxHeartbeats 2000000 in
theorem step_back (w : World) (q g b x y z : Nat) (r : List Int) (p m : Nat) (h : PAt w q g b x y z r p m) (hT : TabAt w) (d : OpD) (hd : d.okay) (hk : d.kind = 10) :
    Calls Tryd.prog 25 #[.pointer (some ⟨q, 0, none⟩), .agg (opArr d)] w (SPost q g b x y z w) := by
  obtain ⟨b0, b1, b2, b3⟩ := op_box w d 41
  have Q1 := Lib.hid (h.alloc (.cells (opArr d) 41))
  have T1 := Lib.hid (hT.below ((Below.refl w.heap.size w).alloc (Nat.le_refl _) (.cells (opArr d) 41)) (World.block_lt_of_cell? w _ (hT 0 (by omega))))
  have E1 := Lib.hid ((Ex.refl (F4 g x y z) w).alloc (.cells (opArr d) 41))
  have HD := Lib.hid hd
  have hcg := Q1.out.cg
  have hcb := Q1.out.cb
  have hwg := h.gc.lt
  rw [hk] at b0
  have hz := zero39
  clear h hT hd hk
  go_enter Tryd.func25, Tryd.ntmps25
  go_wp2_with fail
  generalize w.alloc (.cells (opArr d) 41) = w1 at *
  refine (state_any _ g r p m Q1.out.gc).mono ?_
  rintro e w5 ⟨rfl, g5, c5⟩
  have B5 := Lib.hid (show Below w1.heap.size w1 w5 from ⟨c5.os, c5.tape, c5.output, c5.size, fun i hi => by
    by_cases e : i = g
    · subst e; rw [g5.heap, Q1.out.gc.heap]
    · exact c5.block i hi (fun e2 => e (Option.some.inj e2))⟩)
  have hlen := Lib.hid g5.len
  have Q5 := Lib.hid (Q1.out.below B5.out)
  clear g5 c5 hcg hcb
  have S9 := Lib.hid (gc_all (heap_alloc_last w5 (.cells (gcells r p m) 39)))
  go_wp2_with ((with_reducible show wpList _ _ _ (_ :: _) _ _); first | refine wpList_store_new (o := ⟨none, .store 39 (.tmp 13) (.tmp 175), _, _, _, _⟩) rfl 39 (.tmp 13) (.tmp 175) rfl gz (gcells r p m) 39 rfl rfl (by rw [gcells_size r hlen.out]; exact info39) (by rw [gcells_size r hlen.out]; rfl) (gcells_one r p m) ?_ | refine wpList_load_mid (op := ⟨some 177, _, _, _, _, _⟩) rfl 39 (.tmp 13) rfl w5.heap.size 0 rfl (gcells r p m).toList _ S9.out Tryd.underlying39 rfl (by rw [Array.length_toList, gcells_size r hlen.out]; exact info39) ?_)
  have Q9 := Lib.hid (Q5.out.alloc (.cells (gcells r p m) 39))
  have E9 := Lib.hid (Ex.of_below (B5.out.alloc B5.out.size (.cells (gcells r p m) 39)) (F4 g x y z))
  refine (pload_any _ q g b x y z r p m Q9.out r p m hlen.out Q5.out.gc.hp Q5.out.gc.hm).mono ?_
  rintro e w6 ⟨rfl, ⟨r', p', m', q6⟩, x6⟩
  have Q6 := Lib.hid q6
  have X6 := Lib.hid x6
  clear q6 x6
  go_wp2
  go_ret
  exact ⟨rfl, ⟨_, _, _, Q6.out⟩, (E1.out.trans E9.out).trans X6.out⟩
set_option maxRecDepth 100000 in
set_option maxHeartbeats 2000000 in
theorem step_many (w : World) (q g b x y z : Nat) (r : List Int) (p m : Nat) (h : PAt w q g b x y z r p m) (hT : TabAt w) (d : OpD) (hd : d.okay) (hk : d.kind = 12) :
    Calls Tryd.prog 25 #[.pointer (some ⟨q, 0, none⟩), .agg (opArr d)] w (SPost q g b x y z w) := by
  obtain ⟨b0, b1, b2, b3⟩ := op_box w d 41
  have Q1 := Lib.hid (h.alloc (.cells (opArr d) 41))
  have T1 := Lib.hid (hT.below ((Below.refl w.heap.size w).alloc (Nat.le_refl _) (.cells (opArr d) 41)) (World.block_lt_of_cell? w _ (hT 0 (by omega))))
  have E1 := Lib.hid ((Ex.refl (F4 g x y z) w).alloc (.cells (opArr d) 41))
  have HD := Lib.hid hd
  have hcg := Q1.out.cg
  have hcb := Q1.out.cb
  have hwg := h.gc.lt
  rw [hk] at b0
  have hset := hd.set
  have hrem : (((d.set : Nat) : Int).tmod 1501) = ((d.set % 1501 : Nat) : Int) := by rw [Int.tmod_eq_emod_of_nonneg (by omega)]; omega
  clear h hT hd hk
  go_enter Tryd.func25, Tryd.ntmps25
  go_wp2_with fail
  generalize w.alloc (.cells (opArr d) 41) = w1 at *
  refine (many_any _ q g b x y z r p m Q1.out T1.out _ _ (d.set % 1501) (by omega)).mono ?_
  rintro e w5 ⟨rfl, ⟨r', p', m', q5⟩, x5⟩
  have Q5 := Lib.hid q5
  have X5 := Lib.hid x5
  clear q5 x5
  go_wp2
  go_ret
  exact ⟨rfl, ⟨_, _, _, Q5.out⟩, E1.out.trans X5.out⟩
set_option maxRecDepth 100000 in
set_option maxHeartbeats 2000000 in
theorem step_none (w : World) (q g b x y z : Nat) (r : List Int) (p m : Nat) (h : PAt w q g b x y z r p m) (hT : TabAt w) (d : OpD) (hd : d.okay) (hk : ∀ i : Int, 1 ≤ i → i ≤ 10 → d.kind ≠ i) (hk2 : d.kind ≠ 12) :
    Calls Tryd.prog 25 #[.pointer (some ⟨q, 0, none⟩), .agg (opArr d)] w (SPost q g b x y z w) := by
  obtain ⟨b0, b1, b2, b3⟩ := op_box w d 41
  have Q1 := Lib.hid (h.alloc (.cells (opArr d) 41))
  have T1 := Lib.hid (hT.below ((Below.refl w.heap.size w).alloc (Nat.le_refl _) (.cells (opArr d) 41)) (World.block_lt_of_cell? w _ (hT 0 (by omega))))
  have E1 := Lib.hid ((Ex.refl (F4 g x y z) w).alloc (.cells (opArr d) 41))
  have HD := Lib.hid hd
  have hcg := Q1.out.cg
  have hcb := Q1.out.cb
  have hwg := h.gc.lt
  have n1 : (d.kind == 1) = false := by simpa using hk 1 (by omega) (by omega)
  have n2 : (d.kind == 2) = false := by simpa using hk 2 (by omega) (by omega)
  have n3 : (d.kind == 3) = false := by simpa using hk 3 (by omega) (by omega)
  have n4 : (d.kind == 4) = false := by simpa using hk 4 (by omega) (by omega)
  have n5 : (d.kind == 5) = false := by simpa using hk 5 (by omega) (by omega)
  have n6 : (d.kind == 6) = false := by simpa using hk 6 (by omega) (by omega)
  have n7 : (d.kind == 7) = false := by simpa using hk 7 (by omega) (by omega)
  have n8 : (d.kind == 8) = false := by simpa using hk 8 (by omega) (by omega)
  have n9 : (d.kind == 9) = false := by simpa using hk 9 (by omega) (by omega)
  have n10 : (d.kind == 10) = false := by simpa using hk 10 (by omega) (by omega)
  have n12 : (d.kind == 12) = false := by simpa using hk2
  clear h hT hd hk hk2
  go_enter Tryd.func25, Tryd.ntmps25
  go_wp2
  generalize w.alloc (.cells (opArr d) 41) = w1 at *
  go_ret
  exact ⟨rfl, ⟨_, _, _, Q1.out⟩, E1.out⟩
theorem step_any (w : World) (q g b x y z : Nat) (r : List Int) (p m : Nat) (h : PAt w q g b x y z r p m) (hT : TabAt w) (d : OpD) (hd : d.okay) :
    Calls Tryd.prog 25 #[.pointer (some ⟨q, 0, none⟩), .agg (opArr d)] w (SPost q g b x y z w) := by
  by_cases k1 : d.kind = 1
  · exact (step_route w q g b x y z r p m h hT d hd k1).mono fun e w' h => ⟨h.1, ⟨_, _, _, h.2.1⟩, h.2.2⟩
  by_cases k2 : d.kind = 2
  · exact (step_raise w q g b x y z r p m h hT d hd k2).mono fun e w' h => ⟨h.1, ⟨_, _, _, h.2.1⟩, h.2.2⟩
  by_cases k3 : d.kind = 3
  · exact (step_mask w q g b x y z r p m h hT d hd k3)
  by_cases k4 : d.kind = 4
  · exact (step_told w q g b x y z r p m h hT d hd k4).mono fun e w' h => ⟨h.1, ⟨_, _, _, h.2.1⟩, h.2.2⟩
  by_cases k5 : d.kind = 5
  · exact (step_take w q g b x y z r p m h hT d hd k5)
  by_cases k6 : d.kind = 6
  · exact (step_lines w q g b x y z r p m h hT d hd k6)
  by_cases k7 : d.kind = 7
  · exact (step_clear w q g b x y z r p m h hT d hd k7)
  by_cases k8 : d.kind = 8
  · exact (step_state w q g b x y z r p m h hT d hd k8)
  by_cases k9 : d.kind = 9
  · exact (step_load w q g b x y z r p m h hT d hd k9)
  by_cases k10 : d.kind = 10
  · exact (step_back w q g b x y z r p m h hT d hd k10)
  by_cases k12 : d.kind = 12
  · exact (step_many w q g b x y z r p m h hT d hd k12)
  refine step_none w q g b x y z r p m h hT d hd (fun i h1 h2 e => ?_) k12
  have : i = 1 ∨ i = 2 ∨ i = 3 ∨ i = 4 ∨ i = 5 ∨ i = 6 ∨ i = 7 ∨ i = 8 ∨ i = 9 ∨ i = 10 := by omega
  rcases this with rfl | rfl | rfl | rfl | rfl | rfl | rfl | rfl | rfl | rfl <;> contradiction
end Go.Proofs.YtpedciapkalhgaaDoor.Gk
