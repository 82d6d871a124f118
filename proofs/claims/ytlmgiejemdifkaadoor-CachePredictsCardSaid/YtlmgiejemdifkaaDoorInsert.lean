/- slices.Insert of one line ahead of a list of lines: its contract. No statement of the seat is proved here. -/
import Derived.Test.YtlmgiejemdifkaaDoorSeen
namespace Go.Proofs.YtlmgiejemdifkaaDoor.Ca
open Go.RowKit Go.Proofs.YtlmgiejemdifkaaDoor.Kit
set_option linter.unusedSimpArgs false
set_option linter.unusedVariables false

theorem run_append_92 (w : World) (ty : TypeId) (base : Option Addr) (n cap : Nat) (y : Value) (w' : World) (v : Value) (h : (Builtin.append_ #[100, 100] ty #[.slice base n cap, y]).run Tryd.prog w = .ok v w') :
    (Builtin.append_ #[100, 92] ty #[.slice base n cap, y]).run Tryd.prog w = .ok v w' := by
  rw [← h]
  simp [Builtin.append_, run_underlying u100, run_underlying u92, size80']
theorem sl_lo0 (a : Option Addr) (n cap : Nat) (hn : n ≤ cap) (w : World) (ha : ∀ x, a = some x → x.spot = none) : (Instr.sliceAt 100 (.slice a n cap) (some (.int .i64 0)) none none).run Tryd.prog w = .ok (.slice a n cap) w := by
  rw [run_sliceAt_slice w 100 _ _ _ _ u100', run_slice_l w 100 _ n cap u100' .i64 0 (by omega) (by omega), sized100]
  cases a with
  | none => simp [Result.andThen, sliced]
  | some x =>
    obtain ⟨xb, xo, xs⟩ := x
    obtain rfl : xs = none := ha _ rfl
    simp [Result.andThen, sliced, Addr.add_mid]
theorem flat_cells1 (l : Ln) : flat [l] = [.int .u32 l.1, .bool l.2] := rfl
/-- The one line stands ahead of the others. -/
theorem ins_rows {w : World} {g : Nat} {V : List Ln} {N : Nat} (l : Ln) (hr : Row w g 80 N) (hN : (V.length + 1) * 2 ≤ N) :
    ((w.setCells g 2 (flat V)).setCells g 0 (flat [l])).rangeAt g 0 (flat (l :: V)) := by
  intro j v hv
  have h1 : Row (w.setCells g 2 (flat V)) g 80 N := Row.setCells _ _ _ hr
  match j, hv with
  | 0, hv => exact World.rangeAt_setCells_same _ g 0 (flat [l]) (h1.there _ _ (by rw [flat_len]; simp; omega)) 0 v hv
  | 1, hv => exact World.rangeAt_setCells_same _ g 0 (flat [l]) (h1.there _ _ (by rw [flat_len]; simp; omega)) 1 v hv
  | j + 2, hv =>
    rw [World.cell?_setCells_out g _ _ _ _ (fun _ _ => .inr (by show 0 + (flat [l]).length ≤ 0 + (j + 2); rw [flat_len]; simp))]
    have := World.rangeAt_setCells_same w g 2 (flat V) (hr.there _ _ (by rw [flat_len]; omega)) j v hv
    rw [show 2 + j = 0 + (j + 2) by omega] at this
    exact this
theorem ins_rows' {w : World} {g : Nat} {V : List Ln} {N : Nat} (l : Ln) (hr : Row w g 80 N) (hN : (V.length + 1) * 2 ≤ N) :
    ((w.setCells g 0 (flat [l])).setCells g 2 (flat V)).rangeAt g 0 (flat (l :: V)) := by
  intro j v hv
  have h1 : Row (w.setCells g 0 (flat [l])) g 80 N := Row.setCells _ _ _ hr
  match j, hv with
  | 0, hv =>
    rw [World.cell?_setCells_out g _ _ _ _ (fun _ _ => .inl (by show 0 + 0 < 2; omega))]
    exact World.rangeAt_setCells_same _ g 0 (flat [l]) (hr.there _ _ (by rw [flat_len]; simp; omega)) 0 v hv
  | 1, hv =>
    rw [World.cell?_setCells_out g _ _ _ _ (fun _ _ => .inl (by show 0 + 1 < 2; omega))]
    exact World.rangeAt_setCells_same _ g 0 (flat [l]) (hr.there _ _ (by rw [flat_len]; simp; omega)) 1 v hv
  | j + 2, hv =>
    have := World.rangeAt_setCells_same _ g 2 (flat V) (h1.there _ _ (by rw [flat_len]; omega)) j v hv
    rw [show 2 + j = 0 + (j + 2) by omega] at this
    exact this
theorem cells80 : (Value.agg #[.int .u32 0, .bool false]).cells.size = 2 := by kernel_rfl
theorem Src1 (w : World) (vb : Nat) (l : Ln) (hl : w.rangeAt vb 0 (flat [l])) : Src Tryd.prog 2 92 (.slice (some ⟨vb, 0, none⟩) 1 1) 1 (flat [l]) w :=
  Src.ofSlice w u92 _ 1 1 _ rfl (fun j v h => by rw [Addr.add_mid]; exact hl j v h) (flat_one _)
set_option maxRecDepth 4000 in
set_option maxHeartbeats 2000000 in
theorem insert_new (w : World) (base : Nat) (hb : base ≤ w.heap.size) (a : Option Addr) (ha : ∀ x, a = some x → x.spot = none) (vb : Nat) (l : Ln) (hl : w.rangeAt vb 0 (flat [l])) :
    Calls Tryd.prog 47 #[.slice a 0 0, .int .i64 0, .slice (some ⟨vb, 0, none⟩) 1 1] w fun e w' =>
      ∃ v', e = .returned v' ∧ Own w' base v' [l] ∧ v'.ownBlock = some w.heap.size ∧ Chg w w' none := by
  obtain ⟨i0, hi0, hz0, hz1, hzb⟩ := info_parts info80
  have hold : (Builtin.firstCells i0.size 0 (.slice a 0 0)).run Tryd.prog w.drew = .ok ([] : List Value).toArray w.drew := by
    rw [hz1]
    cases a with
    | none => exact run_firstCells_none w.drew 2 0 0 0
    | some x => exact run_firstCells_some w.drew 2 0 x 0 0 [] rfl (fun j v h => by cases h)
  have hap : ∀ ty, (Builtin.append_ #[100, 92] ty #[.slice a 0 0, .slice (some ⟨vb, 0, none⟩) 1 1]).run Tryd.prog w =
      .ok (.slice (some ⟨w.heap.size, 0, none⟩) 1 (grownCap w 1 0 80)) (w.drew.alloc (.cells ((flat [l]).toArray ++ Builtin.zeroCells (Value.agg #[.int .u32 0, .bool false]).cells (grownCap w 1 0 80 - 1)) 80)) := fun ty =>
    run_append_grow_src w 100 92 ty 80 i0 _ u100 hi0 hz0 a 0 0 [] hold _ 1 (flat [l]) (by rw [hz1]; exact Src1 w vb l hl) (by omega) (by omega) (by rw [hzb]; exact growslice_fits (by omega) (by omega))
  have hGn := grownCap_ge w 1 0 80
  have hG63 := grownCap_le_maxLen w 1 0 80 (by unfold maxLen; omega)
  generalize grownCap w 1 0 80 = G at *
  have hsz : ((flat [l]).toArray ++ Builtin.zeroCells (Value.agg #[.int .u32 0, .bool false]).cells (G - 1)).size = G * 2 := by
    simp only [Array.size_append, size_zeroCells, cells80, List.size_toArray, flat_len, List.length_singleton]
    omega
  have hat : ∀ j v, (flat [l])[j]? = some v → ((flat [l]).toArray ++ Builtin.zeroCells (Value.agg #[.int .u32 0, .bool false]).cells (G - 1))[j]? = some v := fun j v h => by
    have hj := (List.getElem?_eq_some_iff.1 h).1
    rw [Array.getElem?_append_left (by simpa using hj)]
    simpa using h
  generalize (flat [l]).toArray ++ Builtin.zeroCells (Value.agg #[.int .u32 0, .bool false]).cells (G - 1) = ROW at *
  have HB := Lib.hid (show (w.drew.alloc (.cells ROW 80)).heap[w.heap.size]? = some (.cells ROW 80) from heap_alloc_new w.drew (.cells ROW 80))
  have O := Lib.hid (show Own (w.drew.alloc (.cells ROW 80)) base (.slice (some ⟨w.heap.size, 0, none⟩) 1 G) [l] from
    own_shut (V := [l]) ⟨ROW, HB.out, hsz⟩ (fun j v h => by rw [Nat.zero_add, cell_of_row _ _ _ _ _ _ HB.out]; exact hat j v h) hGn hG63 hb)
  have C := Lib.hid (show Chg w (w.drew.alloc (.cells ROW 80)) none from ((Chg.refl w none).drewN 1).alloc _)
  have hs0 := sl_lo0 a 0 0 (by omega)
  clear hold hz0 hz1 hzb hi0 hat hsz
  cases a with
  | none =>
    go_enter Tryd.func47, Tryd.ntmps47
    go_wp2_with (at_builtin; refine Lib.wpList_append_run _ rfl _ _ _ _ rfl _ _ rfl rfl _ _ (hap _) ?_)
    go_ret
    exact ⟨_, rfl, O.out, rfl, C.out⟩
  | some x =>
    obtain ⟨xb, xo, xs⟩ := x
    obtain rfl : xs = none := ha _ rfl
    go_enter Tryd.func47, Tryd.ntmps47
    go_wp2_with (at_builtin; refine Lib.wpList_append_run _ rfl _ _ _ _ rfl _ _ rfl rfl _ _ (hap _) ?_)
    go_ret
    exact ⟨_, rfl, O.out, rfl, C.out⟩
set_option maxRecDepth 4000 in
set_option maxHeartbeats 2000000 in
theorem insert_first (w : World) (base g cap : Nat) (hb : base ≤ g) (hr : Row w g 80 (cap * 2)) (h1 : 1 ≤ cap) (hm : cap ≤ maxLen) (vb : Nat) (l : Ln) (hl : w.rangeAt vb 0 (flat [l])) :
    Calls Tryd.prog 47 #[.slice (some ⟨g, 0, none⟩) 0 cap, .int .i64 0, .slice (some ⟨vb, 0, none⟩) 1 1] w fun e w' =>
      e = .returned (.slice (some ⟨g, 0, none⟩) 1 cap) ∧ Own w' base (.slice (some ⟨g, 0, none⟩) 1 cap) [l] ∧ Chg w w' (some g) := by
  obtain ⟨i0, hi0, hz0, hz1, hzb⟩ := info_parts info80
  have hap : ∀ ty, (Builtin.append_ #[100, 92] ty #[.slice (some ⟨g, 0, none⟩) 0 cap, .slice (some ⟨vb, 0, none⟩) 1 1]).run Tryd.prog w = .ok (.slice (some ⟨g, 0, none⟩) 1 cap) (w.setCells g 0 (flat [l])) := fun ty => by
    have := run_append_room_src w 100 92 ty 80 i0 u100 hi0 g 0 0 cap _ 1 (flat [l]) (by rw [hz1]; exact Src1 w vb l hl) (by omega)
      (fun j hj => by rw [hz1]; exact ((hr.there 0 2 (by omega)) j hj).1)
      (fun j hj => by rw [hz1]; exact ((hr.there 0 2 (by omega)) j hj).2)
    rw [hz1] at this
    exact this
  have O := Lib.hid (show Own (w.setCells g 0 (flat [l])) base (.slice (some ⟨g, 0, none⟩) 1 cap) [l] from
    own_shut (V := [l]) (Row.setCells _ _ _ hr) (World.rangeAt_setCells_same _ g 0 (flat [l]) (hr.there _ _ (by show 0 + 2 ≤ _; omega))) h1 hm hb)
  have C := Lib.hid (Chg.setCells (flat [l]) 0 _ (Chg.refl w (some g)))
  have hs0 := sl_lo0 (some ⟨g, 0, none⟩) 0 cap (by omega)
  have hc63 : cap ≤ 9223372036854775807 := by unfold maxLen at hm; omega
  clear hr hz0 hz1 hzb hi0
  go_enter Tryd.func47, Tryd.ntmps47
  go_wp2_with (at_builtin; refine Lib.wpList_append_run _ rfl _ _ _ _ rfl _ _ rfl rfl _ _ (hap _) ?_)
  go_ret
  exact ⟨rfl, O.out, C.out⟩
theorem over_no (w : World) (vb g n cap lb cb : Nat) (l : Ln) (hv : Row w vb 80 2) (hr : Row w g 80 (cap * 2)) (hc : cap ≠ 0) (hne : vb ≠ g) :
    (callFunc 59 #[.slice (some ⟨vb, 0, none⟩) 1 1, .slice (some ⟨g, 2, none⟩) lb cb]).run Tryd.prog w = .ok (.value (.bool false)) w := by
  obtain ⟨c1, h1, s1⟩ := hv
  obtain ⟨c2, h2, s2⟩ := hr
  rw [run_callFunc_extern (e := Extern.SlicesOverlaps.overlaps #[92, 92] #[4]) Tryd.func59 (by kernel_rfl) (by kernel_rfl) (by kernel_rfl) (by kernel_rfl),
    Lib.run_overlaps_apart w 92 4 80 u92 2 (fun w => by kernel_rfl) ⟨vb, 0, none⟩ ⟨g, 2, none⟩ 1 1 lb cb hne 80 80 2 (cap * 2) (by simp [World.shape?, h1, s1]) (by simp [World.shape?, h2, s2]) (by omega)
      (frozen_of_row _ _ _ _ _ h1) (frozen_of_row _ _ _ _ _ h1)]
  rfl
set_option maxRecDepth 4000 in
set_option maxHeartbeats 4000000 in
theorem insert_room (w : World) (base g cap n : Nat) (V : List Ln) (hn : V.length = n) (h0 : 0 < n) (hb : base ≤ g) (hr : Row w g 80 (cap * 2)) (hV : w.rangeAt g 0 (flat V)) (hcap : n + 1 ≤ cap) (hm : cap ≤ maxLen) (vb : Nat) (l : Ln) (hl : w.rangeAt vb 0 (flat [l])) (hv : Row w vb 80 2) (hne : vb ≠ g) :
    Calls Tryd.prog 47 #[.slice (some ⟨g, 0, none⟩) n cap, .int .i64 0, .slice (some ⟨vb, 0, none⟩) 1 1] w fun e w' =>
      e = .returned (.slice (some ⟨g, 0, none⟩) (n + 1) cap) ∧ Own w' base (.slice (some ⟨g, 0, none⟩) (n + 1) cap) (l :: V) ∧ Chg w w' (some g) := by
  have hc63 : cap ≤ 9223372036854775807 := by unfold maxLen at hm; omega
  have hs0 := sl_lo0 (some ⟨g, 0, none⟩) n cap (by omega)
  have hs1 := sl_lo0 (some ⟨g, 0, none⟩) (n + 1) cap (by omega)
  have hs2 := sl_hi g n cap (n + 1) (by omega)
  obtain ⟨A, hA, hA2⟩ := sl_lo g (n + 1) cap 1 (by omega) (by omega)
  rw [hA2 (by omega)] at hA
  have hov := fun lb cb => over_no w vb g n cap lb cb l hv hr (by omega) hne
  have hfl : (flat V).length = n * 2 := by rw [flat_len, hn]
  have hcp1 : ∀ ty sc dc, (Builtin.copy_ #[100, 100] ty #[.slice (some ⟨g, 2, none⟩) n dc, .slice (some ⟨g, 0, none⟩) (n + 1) sc]).run Tryd.prog w.drew = .ok (goInt n) (w.drew.setCells g 2 (flat V)) := fun ty sc dc => by
    have := run_copy_ln w.drew 100 100 ty u100 u100 g 2 n dc ⟨g, 0, none⟩ (n + 1) sc (flat V) (by rw [hfl, Nat.min_eq_left (by omega)]) (fun j v h => by rw [Addr.add_mid]; exact hV j v h) (flat_one _) (by
      rw [hfl]; exact (hr.kept ((Chg.refl w none).drewN 1) (by simp)).there _ _ (by omega))
    rw [Nat.min_eq_left (by omega)] at this
    exact this
  obtain ⟨W1, hW1⟩ : ∃ W1, W1 = w.drew.setCells g 2 (flat V) := ⟨_, rfl⟩
  have hr1 : Row W1 g 80 (cap * 2) := by rw [hW1]; exact Row.setCells _ _ _ (hr.kept ((Chg.refl w none).drewN 1) (by simp))
  have hl1 : W1.rangeAt vb 0 (flat [l]) := fun j v h => by
    rw [hW1, World.cell?_setCells_out g _ _ _ _ (fun e _ => absurd e hne)]
    exact hl j v h
  have hcp2 : ∀ ty dc, (Builtin.copy_ #[100, 92] ty #[.slice (some ⟨g, 0, none⟩) (n + 1) dc, .slice (some ⟨vb, 0, none⟩) 1 1]).run Tryd.prog W1 = .ok (goInt 1) (W1.setCells g 0 (flat [l])) := fun ty dc => by
    have := run_copy_ln W1 100 92 ty u100 u92 g 0 (n + 1) dc ⟨vb, 0, none⟩ 1 1 (flat [l]) (by rw [Nat.min_eq_right (by omega)]; rfl) (fun j v h => by rw [Addr.add_mid]; exact hl1 j v h) (flat_one _) (hr1.there _ _ (by show 0 + 2 ≤ _; omega))
    rw [Nat.min_eq_right (by omega)] at this
    exact this
  rw [← hW1] at hcp1
  have C2 := Lib.hid (show Chg w (W1.setCells g 0 (flat [l])) (some g) by
    rw [hW1]; exact Chg.setCells _ _ _ (Chg.setCells _ _ _ (((Chg.refl w none).drewN 1).any _)))
  have O2 := Lib.hid (show Own (W1.setCells g 0 (flat [l])) base (.slice (some ⟨g, 0, none⟩) (n + 1) cap) (l :: V) by
    have h1 := own_shut (base := base) (V := l :: V) (Row.setCells (flat [l]) 0 _ hr1) (by rw [hW1]; exact ins_rows l (N := cap * 2) (hr.kept ((Chg.refl w none).drewN 1) (by simp)) (by omega)) (by simp; omega) hm hb
    have e : (l :: V).length = n + 1 := by simp [hn]
    rw [e] at h1
    exact h1)
  have hz2 : ¬ ((0 : Int) = (n : Int)) := by omega
  have hw1 : IntKind.i64.wrap 1 = 1 := by kernel_rfl
  have hw2 : ¬ (cap = 1) := by omega
  have hw3 : (1 : Int) ≤ (n : Int) + 1 := by omega
  have hz3 : ¬ ((cap : Int) < (n : Int) + 1) := by omega
  have hz4 : ((n : Int) + 1) ≤ (cap : Int) := by omega
  have hA' : ∀ w : World, (Instr.sliceAt 100 (.slice (some ⟨g, 0, none⟩) (n + 1) cap) (some (.int .i64 1)) none none).run Tryd.prog w = .ok (.slice (some ⟨g, 2, none⟩) n (cap - 1)) w := hA
  have hs2' : ∀ w : World, (Instr.sliceAt 100 (.slice (some ⟨g, 0, none⟩) n cap) none (some (.int .i64 ((n : Int) + 1))) none).run Tryd.prog w = .ok (.slice (some ⟨g, 0, none⟩) (n + 1) cap) w := hs2
  have mixed : Tryd.prog.follows Departure.mixedOrders = true := by kernel_rfl
  clear hA hs2 hA2 hfl hl1 hr1 hW1 hV hl hv hr
  go_enter Tryd.func47, Tryd.ntmps47
  go_wp2_with (simp only [hov])
  go_region_law_o (refine step_copy_eq rfl _ _ 100 100 rfl _ _ (by simp [Act.eval, Act.put]) (by simp [Act.eval, Act.put]) (hcp1 _ _ _) ?_)
  go_wp2_with (at_builtin; refine wpList_copy_eq _ rfl _ _ 100 92 rfl _ _ rfl rfl (hcp2 _ _) ?_)
  go_ret
  exact ⟨rfl, O2.out, C2.out⟩

theorem i64' : Tryd.prog.underlying 3 = some (.int .i64) := by kernel_rfl
set_option maxRecDepth 4000 in
set_option maxHeartbeats 4000000 in
theorem insert_grow (w : World) (base g n : Nat) (V : List Ln) (hn : V.length = n) (h0 : 0 < n) (hb : base ≤ w.heap.size) (hr : Row w g 80 (n * 2)) (hV : w.rangeAt g 0 (flat V)) (hm : (n + 1) * 8 ≤ 140737488355328) (vb : Nat) (l : Ln) (hl : w.rangeAt vb 0 (flat [l])) :
    Calls Tryd.prog 47 #[.slice (some ⟨g, 0, none⟩) n n, .int .i64 0, .slice (some ⟨vb, 0, none⟩) 1 1] w fun e w' =>
      ∃ v', e = .returned v' ∧ Own w' base v' (l :: V) ∧ v'.ownBlock = some w.heap.size ∧ Chg w w' none := by
  have hgb := hr.lt
  have hvb := World.block_lt_of_cell? w _ (hl 0 _ rfl)
  obtain ⟨i0, hi0, hz0, hz1, hzb⟩ := info_parts info80
  have hs0 := sl_lo0 (some ⟨g, 0, none⟩) n n (by omega)
  have hs2 := sl_hi g n n 0 (by omega)
  have hrz : ∀ ty, (Builtin.append_ #[100, 3] ty #[.slice (some ⟨g, 0, none⟩) 0 n, .int .i64 ((n : Int) + 1)]).run Tryd.prog w =
      .ok (.slice (some ⟨w.heap.size, 0, none⟩) (n + 1) (grownCap w (n + 1) n 80)) (w.drew.alloc (.cells (([] : List Value).toArray ++ Builtin.zeroCells (Value.agg #[.int .u32 0, .bool false]).cells (n + 1) ++ Builtin.zeroCells (Value.agg #[.int .u32 0, .bool false]).cells (grownCap w (n + 1) n 80 - (n + 1))) 80)) := fun ty => by
    have h := Lib.run_append_grow_zeros w 100 3 ty 80 i0 _ .i64 .i64 u100 i64' hi0 hz0 (some ⟨g, 0, none⟩) 0 n [] (by rw [hz1]; exact run_firstCells_some w.drew 2 0 _ 0 n [] rfl (fun j v h => by cases h)) (n + 1) (by omega) (by omega) (by omega) (by omega) (by rw [hzb]; omega) (by rw [hzb, Nat.zero_add]; exact growslice_fits (by omega) (by omega))
    rw [Nat.zero_add] at h
    exact h
  have hGn := grownCap_ge w (n + 1) n 80
  have hG63 := grownCap_le_maxLen w (n + 1) n 80 (by unfold maxLen; omega)
  generalize grownCap w (n + 1) n 80 = G at *
  obtain ⟨ROW, hROW⟩ : ∃ ROW : Array Value, ROW = ([] : List Value).toArray ++ Builtin.zeroCells (Value.agg #[.int .u32 0, .bool false]).cells (n + 1) ++ Builtin.zeroCells (Value.agg #[.int .u32 0, .bool false]).cells (G - (n + 1)) := ⟨_, rfl⟩
  have hRs : ROW.size = G * 2 := by
    rw [hROW]
    simp only [Array.size_append, size_zeroCells, cells80, List.size_toArray, List.length_nil]
    omega
  rw [← hROW] at hrz
  clear hROW
  obtain ⟨W1, hW1⟩ : ∃ W1, W1 = w.drew.alloc (.cells ROW 80) := ⟨_, rfl⟩
  rw [← hW1] at hrz
  have hq : w.drew.heap.size = w.heap.size := rfl
  have C1 : Chg w W1 none := by rw [hW1]; exact ((Chg.refl w none).drewN 1).alloc _
  have hr1 : Row W1 w.heap.size 80 (G * 2) := ⟨ROW, by rw [hW1]; exact heap_alloc_new w.drew _, hRs⟩
  have hl1 : W1.rangeAt vb 0 (flat [l]) := range_kept hl C1
  have hfl : (flat V).length = n * 2 := by rw [flat_len, hn]
  obtain ⟨A, hA, hA2⟩ := sl_lo w.heap.size (n + 1) G 1 (by omega) (by omega)
  rw [hA2 (by omega)] at hA
  have hsG := sl_lo0 (some ⟨w.heap.size, 0, none⟩) (n + 1) G (by omega)
  have hcpA : ∀ ty dc, (Builtin.copy_ #[100, 92] ty #[.slice (some ⟨w.heap.size, 0, none⟩) (n + 1) dc, .slice (some ⟨vb, 0, none⟩) 1 1]).run Tryd.prog W1 = .ok (goInt 1) (W1.setCells w.heap.size 0 (flat [l])) := fun ty dc => by
    have := run_copy_ln W1 100 92 ty u100 u92 w.heap.size 0 (n + 1) dc ⟨vb, 0, none⟩ 1 1 (flat [l]) (by rw [Nat.min_eq_right (by omega)]; rfl) (fun j v h => by rw [Addr.add_mid]; exact hl1 j v h) (flat_one _) (hr1.there _ _ (by show 0 + 2 ≤ _; omega))
    rw [Nat.min_eq_right (by omega)] at this
    exact this
  obtain ⟨W2, hW2⟩ : ∃ W2, W2 = (W1.setCells w.heap.size 0 (flat [l])).drew := ⟨_, rfl⟩
  have hr2 : Row W2 w.heap.size 80 (G * 2) := by rw [hW2]; exact (Row.setCells _ _ _ hr1).kept ((Chg.refl _ none).drewN 1) (by simp)
  have C2 : Chg w W2 (some w.heap.size) := by rw [hW2]; exact (Chg.setCells _ _ _ (C1.any _)).drewN 1
  have hV2 : W2.rangeAt g 0 (flat V) := fun j v h => by
    rw [World.cell?_of_block (C2.block g hgb (by intro e; injection e; omega))]
    exact hV j v h
  have hcpB : ∀ ty dc sc, (Builtin.copy_ #[100, 100] ty #[.slice (some ⟨w.heap.size, 2, none⟩) n dc, .slice (some ⟨g, 0, none⟩) n sc]).run Tryd.prog W2 = .ok (goInt n) (W2.setCells w.heap.size 2 (flat V)) := fun ty dc sc => by
    have := run_copy_ln W2 100 100 ty u100 u100 w.heap.size 2 n dc ⟨g, 0, none⟩ n sc (flat V) (by rw [hfl, Nat.min_self]) (fun j v h => by rw [Addr.add_mid]; exact hV2 j v h) (flat_one _) (by rw [hfl]; exact hr2.there _ _ (by omega))
    rw [Nat.min_self] at this
    exact this
  have C3 := Lib.hid (show Chg w (W2.setCells w.heap.size 2 (flat V)) none from by
    have := Chg.setCells (flat V) 2 _ C2
    exact (Chg.refl w none).trans_new this (Nat.le_refl _))
  have O3 := Lib.hid (show Own (W2.setCells w.heap.size 2 (flat V)) base (.slice (some ⟨w.heap.size, 0, none⟩) (n + 1) G) (l :: V) by
    have hq := (Row.setCells (flat [l]) 0 _ hr1)
    have h1 := own_shut (base := base) (V := l :: V) (Row.setCells (flat V) 2 _ hr2) (by rw [hW2]; exact ins_rows' (w := W1.drew) l (N := G * 2) (hr1.kept ((Chg.refl _ none).drewN 1) (by simp)) (by omega)) (by simp; omega) hG63 hb
    have e : (l :: V).length = n + 1 := by simp [hn]
    rw [e] at h1
    exact h1)
  have hc63 : G ≤ 9223372036854775807 := by unfold maxLen at hG63; omega
  have hz2 : ¬ ((0 : Int) = (n : Int)) := by omega
  have hz3 : ((n : Int) < (n : Int) + 1) := by omega
  have hw1 : IntKind.i64.wrap 1 = 1 := by kernel_rfl
  have hw2 : ¬ (G = 1) := by omega
  have hw3 : (1 : Int) ≤ (n : Int) + 1 := by omega
  have hA' : ∀ w' : World, (Instr.sliceAt 100 (.slice (some ⟨w.heap.size, 0, none⟩) (n + 1) G) (some (.int .i64 1)) none none).run Tryd.prog w' = .ok (.slice (some ⟨w.heap.size, 2, none⟩) n (G - 1)) w' := hA
  have hs2' : ∀ w : World, (Instr.sliceAt 100 (.slice (some ⟨g, 0, none⟩) n n) none (some (.int .i64 0)) none).run Tryd.prog w = .ok (.slice (some ⟨g, 0, none⟩) 0 n) w := hs2
  have mixed : Tryd.prog.follows Departure.mixedOrders = true := by kernel_rfl
  clear hA hs2 hA2 hfl hl1 hr1 hr2 hV2 hV hl hr C1 C2 hW1 hGn hRs hz0 hz1 hzb hi0 hq
  go_enter Tryd.func47, Tryd.ntmps47
  go_wp2_with (first
    | (at_builtin; refine Lib.wpList_append_run _ rfl _ _ _ _ rfl _ _ rfl rfl _ _ (hrz _) ?_)
    | (at_builtin; refine wpList_copy_eq _ rfl _ _ 100 92 rfl _ _ rfl rfl (hcpA _ _) ?_))
  rw [hW2] at hcpB
  go_region_law_o (refine step_copy_eq rfl _ _ 100 100 rfl _ _ (by simp [Act.eval, Act.put]) (by simp [Act.eval, Act.put]) (hcpB _ _ _) ?_)
  go_wp2
  go_ret
  rw [← hW2]
  exact ⟨_, rfl, O3.out, rfl, C3.out⟩
theorem seen_insert (w : World) (base : Nat) (v : Value) (V : List Ln) (h : Own w base v V) (hb : base ≤ w.heap.size) (hm : (V.length + 1) * 8 ≤ 140737488355328) (vb : Nat) (l : Ln) (hl : w.rangeAt vb 0 (flat [l])) (hv : Row w vb 80 2) (hne : v.ownBlock ≠ some vb) :
    Calls Tryd.prog 47 #[v, .int .i64 0, .slice (some ⟨vb, 0, none⟩) 1 1] w fun e w' =>
      ∃ v', e = .returned v' ∧ Own w' base v' (l :: V) ∧ Chg w w' v.ownBlock ∧ (v'.ownBlock = v.ownBlock ∨ v'.ownBlock = some w.heap.size) := by
  rcases own_open h with ⟨rfl, rfl⟩ | ⟨g, cap, rfl, hgb, hr, hV, hn, hm'⟩
  · exact (insert_new w base hb none (by simp) vb l hl).mono (fun e w' ⟨v', h1, h2, h3, h4⟩ => ⟨v', h1, h2, h4.any _, .inr h3⟩)
  · by_cases h0 : V.length = 0
    · obtain rfl := List.eq_nil_of_length_eq_zero h0
      by_cases hc : cap = 0
      · subst hc
        exact (insert_new w base hb (some ⟨g, 0, none⟩) (by rintro x ⟨⟩; rfl) vb l hl).mono (fun e w' ⟨v', h1, h2, h3, h4⟩ => ⟨v', h1, h2, h4.any _, .inr h3⟩)
      · exact (insert_first w base g cap hgb hr (by omega) hm' vb l hl).mono (fun e w' ⟨h1, h2, h3⟩ => ⟨_, h1, h2, h3, .inl rfl⟩)
    · by_cases hc : V.length + 1 ≤ cap
      · exact (insert_room w base g cap _ V rfl (by omega) hgb hr hV hc hm' vb l hl hv (fun e => hne (by rw [e]; rfl))).mono (fun e w' ⟨h1, h2, h3⟩ => ⟨_, h1, h2, h3, .inl rfl⟩)
      · obtain rfl : cap = V.length := by omega
        exact (insert_grow w base g _ V rfl (by omega) hb hr hV hm vb l hl).mono (fun e w' ⟨v', h1, h2, h3, h4⟩ => ⟨v', h1, h2, h4.any _, .inr h3⟩)
end Go.Proofs.YtlmgiejemdifkaaDoor.Ca
