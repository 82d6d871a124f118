/- slices.IndexFunc, Delete on a list of lines: contracts. No statement of the seat is proved here. -/
import Derived.Test.YtlmgiejemdifkaaDoorFront
import Derived.Lib.Overlaps
import Derived.Lib.AppendZerosOnto
namespace Go.Proofs.YtlmgiejemdifkaaDoor.Ca
open Go.RowKit Go.Proofs.YtlmgiejemdifkaaDoor.Kit
set_option linter.unusedSimpArgs false
set_option linter.unusedVariables false

/-! ### an own list of lines -/
abbrev Own (w : World) (base : Nat) (v : Value) (V : List Ln) : Prop := w.ownsRow base 80 2 v V.length (flat V)
theorem flat_len (V : List Ln) : (flat V).length = V.length * 2 := by rw [flat_length]; omega
theorem own_open {w : World} {base : Nat} {v : Value} {V : List Ln} (h : Own w base v V) :
    (v = .slice none 0 0 ∧ V = []) ∨ ∃ g cap, v = .slice (some ⟨g, 0, none⟩) V.length cap ∧ base ≤ g ∧ Row w g 80 (cap * 2) ∧ w.rangeAt g 0 (flat V) ∧ V.length ≤ cap ∧ cap ≤ maxLen := by
  rcases h.2 with ⟨hv, h0⟩ | ⟨g, cap, cur, hv, hgb, hrow, hnc, hcm, hcs, htk⟩
  · exact .inl ⟨hv, List.eq_nil_of_length_eq_zero h0⟩
  · refine .inr ⟨g, cap, hv, hgb, ⟨cur, hrow, hcs⟩, fun j u hu => ?_, hnc, hcm⟩
    rw [Nat.zero_add, cell_of_row _ _ _ _ _ _ hrow]
    rw [← htk, List.getElem?_take] at hu
    split at hu
    · simpa using hu
    · cases hu
theorem own_shut {w : World} {base g cap : Nat} {V : List Ln} (hr : Row w g 80 (cap * 2)) (h : w.rangeAt g 0 (flat V)) (hn : V.length ≤ cap) (hm : cap ≤ maxLen) (hb : base ≤ g) :
    Own w base (.slice (some ⟨g, 0, none⟩) V.length cap) V := by
  obtain ⟨cs, hc, hs⟩ := hr
  refine ⟨flat_len V, .inr ⟨g, cap, cs, rfl, hb, hc, hn, hm, hs, ?_⟩⟩
  apply List.ext_getElem?
  intro j
  rw [List.getElem?_take]
  split
  · rename_i hj
    have hj' : j < (flat V).length := by rw [flat_len]; exact hj
    have := h j _ (List.getElem?_eq_getElem hj')
    rw [Nat.zero_add, cell_of_row _ _ _ _ _ _ hc] at this
    rw [List.getElem?_eq_getElem hj', ← this]
    simp
  · rw [List.getElem?_eq_none (by rw [flat_len]; omega)]

/-! ### the runs -/
theorem size80' (w : World) : (sizeOf 80).run Tryd.prog w = .ok 2 w := by kernel_rfl
theorem info80 : (Tryd.prog.info? 80).map (fun i => (i.zero, i.size, i.bytes)) = some (some (.agg #[.int .u32 0, .bool false]), 2, 8) := by kernel_rfl
theorem zero80 : ∀ w, (zeroValue 80).run Tryd.prog w = .ok (.agg #[.int .u32 0, .bool false]) w := fun _ => by kernel_rfl
theorem u100 : Tryd.prog.underlying 100 = some (.slice 80) := by kernel_rfl
theorem u92 : Tryd.prog.underlying 92 = some (.slice 80) := by kernel_rfl
theorem run_copy_ln (w : World) (t t' ty : TypeId) (ht : Tryd.prog.underlying t = some (.slice 80)) (ht' : Tryd.prog.underlying t' = some (.slice 80)) (b o n c : Nat) (a : Addr) (m c2 : Nat) (cs : List Value) (hl : cs.length = min n m * 2)
    (hs : ∀ j v, cs[j]? = some v → w.cell? (a.add j) = some v) (h1 : ∀ v ∈ cs, v.oneCell' = true) (hd : w.there b o cs.length) :
    (Builtin.copy_ #[t, t'] ty #[.slice (some ⟨b, o, none⟩) n c, .slice (some a) m c2]).run Tryd.prog w = .ok (goInt (min n m : Nat)) (w.setCells b o cs) := by
  have hlc : (loadCells a (min n m * 2)).run Tryd.prog w = .ok cs.toArray w := by
    rw [← hl]; exact run_loadCells_list (P := Tryd.prog) w a cs hs
  have hst := run_storeCells_cells (P := Tryd.prog) b o cs 0 w (fun j hj => by simpa using (hd j hj).1) (fun j hj => by simpa using (hd j hj).2) h1
  simp only [Nat.add_zero] at hst
  obtain ⟨i0, hi, hz0, hz1, hz2⟩ := info_parts info80
  have e : min n m = Nat.min m n := Nat.min_comm n m
  rw [e] at hlc ⊢
  simp [Builtin.copy_, run_underlying ht, run_underlying ht', Builtin.lenOf, Builtin.firstCells, sizeOf, typeInfo, hi, hz1, hlc, hst]
theorem run_clear_ln (w : World) (ty b o c : Nat) (hd : w.there b o 2) :
    (Builtin.clear_ #[100] ty #[.slice (some ⟨b, o, none⟩) 1 c]).run Tryd.prog w = .ok (.tuple #[]) (w.setCells b o [.int .u32 0, .bool false]) := by
  have hst := run_storeCells_cells (P := Tryd.prog) b o [.int .u32 0, .bool false] 0 w (fun j hj => by simpa using (hd j hj).1) (fun j hj => by simpa using (hd j hj).2) (by simp [Value.oneCell'])
  simp only [Nat.add_zero] at hst
  have hzc : (Builtin.zeroCells (Value.agg #[.int .u32 0, .bool false]).cells 1).toList = [.int .u32 0, .bool false] := by kernel_rfl
  simp [Builtin.clear_, run_underlying u100, zero80, hzc, hst]
theorem step_append_eq {ops : Array Oper} {P : Program} {o : Oper} {a : Act} {w : World} {K : Act → World → Prop} {Q : Exit → Act → World → Prop} {E : Prop}
    (hg : o.guard = none) (d x : Operand) (dT sT : TypeId) (hop : o.op = Op.call { callee := Callee.builtin Builtin.append, args := #[d, x], argTypes := #[dT, sT] })
    (v u : Value) (hd : a.eval d = v) (hx : a.eval x = u) {v' : Value} {w' : World} (hr : (Builtin.append_ #[dT, sT] o.type #[v, u]).run P w = .ok v' w') (hK : K (a.put o.dst v') w') :
    if Region.wanted o (yielded ops a.tmps) = true then Oper.wp P o a w K Q else E := by
  have hw : Region.wanted o (yielded ops a.tmps) = true := by simp [Region.wanted, hg]
  rw [if_pos hw]
  unfold Oper.wp
  simp [execOp, hop, resolve, invoke, builtin, hd, hx, hr, Result.andThen]
  exact hK
theorem step_copy_eq {ops : Array Oper} {P : Program} {o : Oper} {a : Act} {w : World} {K : Act → World → Prop} {Q : Exit → Act → World → Prop} {E : Prop}
    (hg : o.guard = none) (d x : Operand) (dT sT : TypeId) (hop : o.op = Op.call { callee := Callee.builtin Builtin.copy, args := #[d, x], argTypes := #[dT, sT] })
    (v u : Value) (hd : a.eval d = v) (hx : a.eval x = u) {v' : Value} {w' : World} (hr : (Builtin.copy_ #[dT, sT] o.type #[v, u]).run P w = .ok v' w') (hK : K (a.put o.dst v') w') :
    if Region.wanted o (yielded ops a.tmps) = true then Oper.wp P o a w K Q else E := by
  have hw : Region.wanted o (yielded ops a.tmps) = true := by simp [Region.wanted, hg]
  rw [if_pos hw]
  unfold Oper.wp
  simp [execOp, hop, resolve, invoke, builtin, hd, hx, hr, Result.andThen]
  exact hK
theorem wpList_clear_eq (w : World) {P : Program} {ops : Array Oper} {rest : List Oper} {o : Oper} {a : Act} {Q : Exit → Act → World → Prop} (hgd : o.guard = none) (d : Operand) (t : TypeId)
    (ho : o.op = .call { callee := .builtin .clear, args := #[d], argTypes := #[t] }) (v : Value) (hd : a.eval d = v) {v' : Value} {w' : World}
    (hr : (Builtin.clear_ #[t] o.type #[v]).run P w = .ok v' w') (h : wpList P ops Q rest (a.put o.dst v') w') : wpList P ops Q (o :: rest) a w :=
  wpList_plain hgd fun _ hK => by
    unfold Oper.wp execOp
    simp only [ho, resolve, invoke, builtin, Sem.run_bind, Sem.run_pure, Result.andThen_ok, List.map_toArray, List.map_cons, List.map_nil, hd, hr]
    exact hK _ _ h

/-! ### the predicate -/
set_option maxHeartbeats 400000 in
theorem seen_tag (w : World) (B : Nat) (t : Nat) (l : Ln) (hB : w.cell? ⟨B, 0, none⟩ = some (.int .u32 t)) :
    Calls Tryd.prog 45 #[.agg #[.int .u32 l.1, .bool l.2], .pointer (some ⟨B, 0, none⟩)] w fun e w' => e = .returned (.bool (l.1 == t)) ∧ Chg w w' none := by
  have hb := World.block_lt_of_cell? w _ hB
  by_cases h : l.1 = t
  · have hx : ((l.1 : Int) == (t : Int)) = true := by simp; omega
    have e : (l.1 == t) = true := by simpa using h
    rw [e]
    clear h e
    go_enter Tryd.func45, Tryd.ntmps45
    go_wp2
    go_ret
    exact ⟨rfl, (Chg.refl w none).alloc _⟩
  · have hx : ((l.1 : Int) == (t : Int)) = false := by simp; omega
    have e : (l.1 == t) = false := by simpa using h
    rw [e]
    clear h e
    go_enter Tryd.func45, Tryd.ntmps45
    go_wp2
    go_ret
    exact ⟨rfl, (Chg.refl w none).alloc _⟩

/-! ### slices.IndexFunc -/
set_option maxHeartbeats 1000000 in
theorem seen_index1 (w : World) (b o cap B t n : Nat) (V : List Ln) (hn : V.length = n) (hV : w.rangeAt b o (flat V)) (hB : w.cell? ⟨B, 0, none⟩ = some (.int .u32 t)) (hcap : n ≤ cap) (hl : cap ≤ maxLen) :
    Calls Tryd.prog 44 #[.slice (some ⟨b, o, none⟩) n cap, .func (.func 45) #[] #[.pointer (some ⟨B, 0, none⟩)]] w fun e w' =>
      e = .returned (.int .i64 (seekI V t)) ∧ Chg w w' none := by
  have HV := Lib.hid hV
  have HB := Lib.hid hB
  have HN := Lib.hid hn
  have hl : cap ≤ 9223372036854775807 := by unfold maxLen at hl; omega
  clear hV hB hn
  go_enter Tryd.func44, Tryd.ntmps44
  go_wp2_with fail
  go_loopw [5, 8] (fun _ i wr => ∃ k : Nat, k ≤ n ∧ i = .int .i64 k ∧ Hid (Chg w wr none ∧ ∀ j, j < k → (lnth V j).1 ≠ t)) (fun _ i _ => n - (intOf i).toNat)
  case atStart => exact ⟨0, by omega, rfl, Lib.hid ⟨Chg.refl _ _, fun j hj => by omega⟩⟩
  case round =>
    obtain ⟨k, hk, rfl, I⟩ := hrel
    by_cases hlt : k < n
    · obtain ⟨c0, c1⟩ := range_at (range_kept HV.out I.out.1) k (by rw [HN.out]; exact hlt)
      go_wp2_with fail
      refine (seen_tag wr B t (lnth V k) (by rw [World.cell?_of_block (I.out.1.block B (World.block_lt_of_cell? w _ HB.out) (by simp))]; exact HB.out)).mono ?_
      by_cases he : (lnth V k).1 = t
      · have hb : ((lnth V k).1 == t) = true := by simpa using he
        rw [hb]
        rintro e w5 ⟨rfl, hC⟩
        have C5 := Lib.hid (I.out.1.trans hC)
        have E := Lib.hid (seekI_eq (by rw [HN.out]; exact hlt) he I.out.2)
        clear hC he hb c0 c1
        go_wp2
        go_ret
        exact ⟨by rw [E.out]; rfl, C5.out⟩
      · have hb : ((lnth V k).1 == t) = false := by simpa using he
        rw [hb]
        rintro e w5 ⟨rfl, hC⟩
        have C5 := Lib.hid (And.intro (I.out.1.trans hC) (show ∀ j, j < k + 1 → (lnth V j).1 ≠ t from fun j hj => by
          by_cases e : j = k
          · subst e; exact he
          · exact I.out.2 j (by omega)))
        clear hC he hb c0 c1
        go_wp2
        go_roundw
        case rel => exact ⟨k + 1, by omega, by go_num, C5⟩
        case measure => simp [intOf]; omega
    · have E := Lib.hid (seekI_none (V := V) (t := t) (fun j hj => I.out.2 j (by rw [HN.out] at hj; omega)))
      go_wp2
      go_ret
      exact ⟨by rw [E.out]; rfl, I.out.1⟩
set_option maxHeartbeats 1000000 in
theorem seen_index0 (w : World) (B t : Nat) :
    Calls Tryd.prog 44 #[.slice none 0 0, .func (.func 45) #[] #[.pointer (some ⟨B, 0, none⟩)]] w fun e w' =>
      e = .returned (.int .i64 (-1)) ∧ Chg w w' none := by
  go_enter Tryd.func44, Tryd.ntmps44
  go_wp2_with fail
  go_loopw [5, 8] (fun _ i wr => i = .int .i64 0 ∧ wr = w) (fun _ i _ => 0)
  case atStart => exact ⟨rfl, rfl⟩
  case round =>
    obtain ⟨rfl, rfl⟩ := hrel
    go_wp2
    go_ret
    exact ⟨rfl, Chg.refl _ _⟩
theorem seen_index (w : World) (base B t : Nat) (v : Value) (V : List Ln) (h : Own w base v V) (hB : w.cell? ⟨B, 0, none⟩ = some (.int .u32 t)) :
    Calls Tryd.prog 44 #[v, .func (.func 45) #[] #[.pointer (some ⟨B, 0, none⟩)]] w fun e w' =>
      e = .returned (.int .i64 (seekI V t)) ∧ Chg w w' none := by
  rcases own_open h with ⟨rfl, rfl⟩ | ⟨g, cap, rfl, hb, hr, hv, hn, hm⟩
  · exact seen_index0 w B t
  · exact seen_index1 w g 0 cap B t _ V rfl hv hB hn hm

/-! ### slices.Delete -/
theorem elem100 : Tryd.prog.elem 100 = 80 := by kernel_rfl
theorem u100' : Tryd.prog.underlying 100 = some (.slice (Tryd.prog.elem 100)) := by kernel_rfl
theorem sized100 (w : World) : (sizeOf (Tryd.prog.elem 100)).run Tryd.prog w = .ok 2 w := by kernel_rfl
theorem sl_lo (g n cap lo : Nat) (hlo : lo ≤ n) (hn : n ≤ cap) : ∃ A, (∀ w, (Instr.sliceAt 100 (.slice (some ⟨g, 0, none⟩) n cap) (some (.int .i64 lo)) none none).run Tryd.prog w = .ok (.slice (some A) (n - lo) (cap - lo)) w) ∧ (lo < cap → A = ⟨g, lo * 2, none⟩) := by
  by_cases h : cap = lo
  · refine ⟨⟨g, 0, none⟩, fun w => ?_, fun h1 => by omega⟩
    rw [run_sliceAt_slice w 100 _ _ _ _ u100', run_slice_l w 100 _ n cap u100' .i64 lo (by omega) (by omega), sized100]
    simp [Result.andThen, sliced, h]
  · refine ⟨⟨g, lo * 2, none⟩, fun w => ?_, fun _ => rfl⟩
    rw [run_sliceAt_slice w 100 _ _ _ _ u100', run_slice_l w 100 _ n cap u100' .i64 lo (by omega) (by omega), sized100]
    simp [Result.andThen, sliced, h, Addr.add_mid]
theorem sl_hi (g n cap hi : Nat) (hn : hi ≤ cap) (w : World) : (Instr.sliceAt 100 (.slice (some ⟨g, 0, none⟩) n cap) none (some (.int .i64 hi)) none).run Tryd.prog w = .ok (.slice (some ⟨g, 0, none⟩) hi cap) w := by
  rw [run_sliceAt_slice w 100 _ _ _ _ u100', run_slice_h w 100 _ n cap u100' .i64 hi (by omega) (by omega), sized100]
  simp [Result.andThen, sliced, Addr.add_mid]
theorem sl_lh (g n cap lo hi : Nat) (hl : lo ≤ hi) (hn : hi ≤ cap) (hlt : lo < cap) (w : World) : (Instr.sliceAt 100 (.slice (some ⟨g, 0, none⟩) n cap) (some (.int .i64 lo)) (some (.int .i64 hi)) none).run Tryd.prog w = .ok (.slice (some ⟨g, lo * 2, none⟩) (hi - lo) (cap - lo)) w := by
  rw [run_sliceAt_slice w 100 _ _ _ _ u100', run_slice_lh w 100 _ n cap u100' .i64 .i64 lo hi (by omega) (by omega) (by omega), sized100]
  have h : ¬ cap = lo := by omega
  simp [Result.andThen, sliced, h, Addr.add_mid]
theorem flat_drop (V : List Ln) (k : Nat) : ∀ j, (flat (V.drop k))[j]? = (flat V)[k * 2 + j]? := fun j => by
  by_cases hk : k ≤ V.length
  · conv => rhs; rw [← List.take_append_drop k V, flat_append, List.getElem?_append_right (by rw [flat_len, List.length_take]; omega), flat_len, List.length_take, Nat.min_eq_left hk]
    congr 1; omega
  · rw [List.drop_eq_nil_of_le (by omega), List.getElem?_eq_none (by simp [flat]), List.getElem?_eq_none (by rw [flat_len]; omega)]
/-- Behind the append: the lines but the i-th, then two cells. -/
theorem del_rows {w : World} {g i : Nat} {V : List Ln} {N : Nat} (hV : w.rangeAt g 0 (flat V)) (hi : i < V.length) (hr : Row w g 80 N) (hN : V.length * 2 ≤ N) :
    ((w.setCells g (i * 2) (flat (V.drop (i + 1)))).setCells g ((V.length - 1) * 2) [.int .u32 0, .bool false]).rangeAt g 0 (flat (V.eraseIdx i)) := by
  intro j v hv
  have hlen : (flat (V.eraseIdx i)).length = (V.length - 1) * 2 := by rw [flat_len, List.length_eraseIdx, if_pos hi]
  have hj : j < (V.length - 1) * 2 := by rw [← hlen]; exact (List.getElem?_eq_some_iff.1 hv).1
  rw [World.cell?_setCells_out g _ _ _ _ (fun _ _ => .inl (by show 0 + j < _; omega))]
  have hd : (flat (V.drop (i + 1))).length = (V.length - (i + 1)) * 2 := by rw [flat_len, List.length_drop]
  rw [List.eraseIdx_eq_take_drop_succ, flat_append] at hv
  have ht : (flat (V.take i)).length = i * 2 := by rw [flat_len, List.length_take, Nat.min_eq_left (by omega)]
  by_cases hlt : j < i * 2
  · rw [World.cell?_setCells_out g _ _ _ _ (fun _ _ => .inl (by show 0 + j < _; omega))]
    rw [List.getElem?_append_left (by omega)] at hv
    exact hV j v (by
      rw [← List.take_append_drop i V, flat_append, List.getElem?_append_left (by omega)]; exact hv)
  · rw [List.getElem?_append_right (by omega), ht] at hv
    have := World.rangeAt_setCells_same w g (i * 2) (flat (V.drop (i + 1))) (hr.there _ _ (by omega)) (j - i * 2) v hv
    rw [show i * 2 + (j - i * 2) = 0 + j by omega] at this
    exact this
set_option maxRecDepth 4000 in
set_option maxHeartbeats 2000000 in
theorem seen_delete (w : World) (base g cap i n : Nat) (V : List Ln) (hn : V.length = n) (hb : base ≤ g) (hr : Row w g 80 (cap * 2)) (hV : w.rangeAt g 0 (flat V)) (hcap : n ≤ cap) (hm : cap ≤ maxLen) (hi : i < n) :
    Calls Tryd.prog 46 #[.slice (some ⟨g, 0, none⟩) n cap, .int .i64 i, .int .i64 ((i : Int) + 1)] w fun e w' =>
      e = .returned (.slice (some ⟨g, 0, none⟩) (n - 1) cap) ∧ Own w' base (.slice (some ⟨g, 0, none⟩) (n - 1) cap) (V.eraseIdx i) ∧ Chg w w' (some g) := by
  have hc63 : cap ≤ 9223372036854775807 := by unfold maxLen at hm; omega
  obtain ⟨A, hA1, hA2⟩ := sl_lo g n cap (i + 1) (by omega) hcap
  have hd : (flat (V.drop (i + 1))).length = (n - (i + 1)) * 2 := by rw [flat_len, List.length_drop, hn]
  have hA3 : ∀ j v, (flat (V.drop (i + 1)))[j]? = some v → w.cell? (A.add j) = some v := fun j v hv => by
    have hj := (List.getElem?_eq_some_iff.1 hv).1
    rw [hA2 (by omega), Addr.add_mid]
    rw [flat_drop] at hv
    have := hV _ v hv
    rw [Nat.zero_add] at this
    exact this
  obtain ⟨i0, hi0, hz0, hz1, hz2⟩ := info_parts info80
  have hsrc : Src Tryd.prog i0.size 100 (.slice (some A) (n - (i + 1)) (cap - (i + 1))) (n - (i + 1)) (flat (V.drop (i + 1))) w.drew := by
    rw [hz1]
    exact Src.ofSlice w.drew u100 A _ _ _ hd (fun j v h => hA3 j v h) (flat_one _)
  have hap : ∀ ty, (Builtin.append_ #[100, 100] ty #[.slice (some ⟨g, 0, none⟩) i cap, .slice (some A) (n - (i + 1)) (cap - (i + 1))]).run Tryd.prog w.drew = .ok (.slice (some ⟨g, 0, none⟩) (n - 1) cap) (w.drew.setCells g (i * 2) (flat (V.drop (i + 1)))) := fun ty => by
    have := run_append_room_src w.drew 100 100 ty 80 i0 u100 hi0 g 0 i cap _ _ _ hsrc (by omega)
      (fun j hj => by rw [hz1, Nat.zero_add]; exact ((hr.there (i * 2) ((n - (i + 1)) * 2) (by omega)) j (by omega)).1)
      (fun j hj => by rw [hz1, Nat.zero_add]; exact ((hr.there (i * 2) ((n - (i + 1)) * 2) (by omega)) j (by omega)).2)
    rw [hz1, Nat.zero_add, show i + (n - (i + 1)) = n - 1 by omega] at this
    exact this
  obtain ⟨W1, hW1⟩ : ∃ W1, W1 = w.drew.setCells g (i * 2) (flat (V.drop (i + 1))) := ⟨_, rfl⟩
  have hr1 : Row W1 g 80 (cap * 2) := by rw [hW1]; exact Row.setCells _ _ _ (hr.kept ((Chg.refl w none).drewN 1) (by simp))
  have hcl : ∀ ty c, (Builtin.clear_ #[100] ty #[.slice (some ⟨g, (n - 1) * 2, none⟩) 1 c]).run Tryd.prog W1 = .ok (.tuple #[]) (W1.setCells g ((n - 1) * 2) [.int .u32 0, .bool false]) := fun ty c =>
    run_clear_ln W1 ty g _ c (hr1.there _ _ (by omega))
  rw [← hW1] at hap
  have C2 := Lib.hid (show Chg w (W1.setCells g ((n - 1) * 2) [.int .u32 0, .bool false]) (some g) by
    rw [hW1]; exact Chg.setCells _ _ _ (Chg.setCells _ _ _ (((Chg.refl w none).drewN 1).any _)))
  have O2 := Lib.hid (show Own (W1.setCells g ((n - 1) * 2) [.int .u32 0, .bool false]) base (.slice (some ⟨g, 0, none⟩) (n - 1) cap) (V.eraseIdx i) by
    have h1 := own_shut (base := base) (V := V.eraseIdx i) (Row.setCells [.int .u32 0, .bool false] ((n - 1) * 2) _ hr1) (by rw [hW1, ← hn]; exact del_rows (w := w.drew) (N := cap * 2) (fun j v hv => hV j v hv) (by omega) (hr.kept ((Chg.refl w none).drewN 1) (by simp)) (by omega)) (by rw [List.length_eraseIdx]; split <;> omega) hm hb
    have e : (V.eraseIdx i).length = n - 1 := by rw [List.length_eraseIdx, if_pos (by omega), hn]
    rw [e] at h1
    exact h1)
  have hs1 := sl_hi g n cap i (by omega)
  have hs2 := sl_lh g (n - 1) cap (n - 1) n (by omega) hcap (by omega)
  rw [show n - (n - 1) = 1 by omega] at hs2
  have hA1' : ∀ w : World, (Instr.sliceAt 100 (.slice (some ⟨g, 0, none⟩) n cap) (some (.int .i64 ((i : Int) + 1))) none none).run Tryd.prog w = .ok (.slice (some A) (n - (i + 1)) (cap - (i + 1))) w := hA1
  have ha : (i : Int) + 1 ≤ n := by omega
  have hne : ¬ ((i : Int) = (i : Int) + 1) := by omega
  have mixed : Tryd.prog.follows Departure.mixedOrders = true := by kernel_rfl
  clear hsrc hA3 hA2 hV hr hd hA1 hW1 hz0 hz1 hz2 hi0
  go_enter Tryd.func46, Tryd.ntmps46
  go_wp2_with fail

  go_region_law_o (refine step_append_eq rfl _ _ 100 100 rfl _ _ (by simp [Act.eval, Act.put]) (by simp [Act.eval, Act.put]) (hap _) ?_)
  go_wp2_with (at_builtin; refine wpList_clear_eq _ rfl (.tmp 31) 100 rfl _ rfl (hcl _ _) ?_)
  go_ret
  exact ⟨rfl, O2.out, C2.out⟩
end Go.Proofs.YtlmgiejemdifkaaDoor.Ca
