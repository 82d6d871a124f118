/- front: its contract. No statement of the seat is proved here. -/
import Derived.Test.YtlmgiejemdifkaaDoorSet
namespace Go.Proofs.YtlmgiejemdifkaaDoor.Ca
open Go.RowKit Go.Proofs.YtlmgiejemdifkaaDoor.Kit
set_option linter.unusedSimpArgs false
set_option linter.unusedVariables false

/-! ### a block of so many cells -/
def Row (w : World) (b : Nat) (T : TypeId) (n : Nat) : Prop := ∃ cs, w.heap[b]? = some (.cells cs T (0, 0)) ∧ cs.size = n
theorem Row.lt {w : World} {b : Nat} {T : TypeId} {n : Nat} (h : Row w b T n) : b < w.heap.size := by
  obtain ⟨cs, h, _⟩ := h; exact (Array.getElem?_eq_some_iff.1 h).1
theorem Row.there {w : World} {b : Nat} {T : TypeId} {n : Nat} (h : Row w b T n) (o k : Nat) (hk : o + k ≤ n) : w.there b o k := by
  obtain ⟨cs, h, hs⟩ := h
  intro j hj
  refine ⟨?_, frozen_of_row _ _ _ _ _ h⟩
  rw [cell_of_row _ _ _ _ _ _ h]
  simp; omega
theorem Row.kept {w w' : World} {b : Nat} {T : TypeId} {n : Nat} (h : Row w b T n) {r : Option Nat} (hC : Chg w w' r) (hn : r ≠ some b) : Row w' b T n := by
  obtain ⟨cs, hc, hs⟩ := h
  exact ⟨cs, (hC.block b (Array.getElem?_eq_some_iff.1 hc).1 (fun e => hn e.symm)).trans hc, hs⟩
theorem Row.set {w : World} {b : Nat} {T : TypeId} {n : Nat} (h : Row w b T n) (j : Nat) (v : Value) : Row (w.setCell ⟨b, j, none⟩ v) b T n := by
  obtain ⟨cs, h, hs⟩ := h
  exact ⟨_, heap_setCell_same w b j _ _ v h, by simpa using hs⟩
theorem Row.setCells {b : Nat} {T : TypeId} {n : Nat} : ∀ (vs : List Value) (o : Nat) (w : World), Row w b T n → Row (w.setCells b o vs) b T n
  | [], _, _, h => h
  | v :: vs, o, w, h => Row.setCells vs (o + 1) _ (h.set o v)
theorem Chg.setCells {w : World} {b : Nat} : ∀ (vs : List Value) (o : Nat) (w1 : World), Chg w w1 (some b) → Chg w (w1.setCells b o vs) (some b)
  | [], _, _, h => h
  | v :: vs, o, w1, h => Chg.setCells vs (o + 1) _ (h.set o v)

/-! ### copy within one block -/
theorem size80 : (Tryd.prog.info? 80).map (·.size) = some 2 := by kernel_rfl
theorem run_copy2 (w : World) (b o n ty : Nat) (L : List Ln) (hL : w.rangeAt b o (flat L)) (hn : n ≤ 7) (hn2 : n ≤ L.length) (ht : w.there b (o + 2) (2 * n)) :
    (Builtin.copy_ #[92, 92] ty #[.slice (some ⟨b, o + 2, none⟩) n 7, .slice (some ⟨b, o, none⟩) n 8]).run Tryd.prog w = .ok (goInt n) (w.setCells b (o + 2) (flat (L.take n))) := by
  have hlen : (flat (L.take n)).length = 2 * n := by rw [flat_length, List.length_take, Nat.min_eq_left hn2]
  have hr := range_take hL n
  have hl : (loadCells ⟨b, o, none⟩ (n * 2)).run Tryd.prog w = .ok (flat (L.take n)).toArray w := by
    rw [Nat.mul_comm, ← hlen]
    exact run_loadCells_list (P := Tryd.prog) w ⟨b, o, none⟩ _ (fun j v hv => by rw [Addr.add_mid]; exact hr j v hv)
  have hst := run_storeCells_cells (P := Tryd.prog) b (o + 2) (flat (L.take n)) 0 w (fun j hj => by simpa using (ht j (by rw [hlen] at hj; exact hj)).1) (fun j hj => by simpa using (ht j (by rw [hlen] at hj; exact hj)).2) (fun v hv => flat_one _ v hv)
  simp only [Nat.add_zero] at hst
  have hu : Tryd.prog.underlying 92 = some (.slice 80) := by kernel_rfl
  cases hq : Tryd.prog.info? 80 with
  | none => have := size80; rw [hq] at this; cases this
  | some i =>
    have hi : i.size = 2 := by have := size80; rw [hq] at this; simpa using this
    simp [Builtin.copy_, run_underlying hu, Builtin.lenOf, Builtin.firstCells, sizeOf, typeInfo, hq, hi, hl, hst]
theorem wpList_copy_eq (w : World) {P : Program} {ops : Array Oper} {rest : List Oper} {o : Oper} {a : Act} {Q : Exit → Act → World → Prop} (hgd : o.guard = none) (d s : Operand) (t t' : TypeId)
    (ho : o.op = .call { callee := .builtin .copy, args := #[d, s], argTypes := #[t, t'] }) (v u : Value) (hd : a.eval d = v) (hs : a.eval s = u) {v' : Value} {w' : World}
    (hr : (Builtin.copy_ #[t, t'] o.type #[v, u]).run P w = .ok v' w') (h : wpList P ops Q rest (a.put o.dst v') w') : wpList P ops Q (o :: rest) a w :=
  wpList_plain hgd fun _ hK => by
    unfold Oper.wp execOp
    simp only [ho, resolve, invoke, builtin, Sem.run_bind, Sem.run_pure, Result.andThen_ok, List.map_toArray, List.map_cons, List.map_nil, hd, hs, hr]
    exact hK _ _ h

theorem wrap_small {x : Int} (h0 : 0 ≤ x) (h1 : x < 9223372036854775808) : IntKind.i64.wrap x = x := by
  have e : x % 2 ^ 64 = x := by omega
  simp only [IntKind.wrap, IntKind.signed, IntKind.bits, e]
  rw [if_neg (by simp; omega)]
theorem heap_setCells_other {w : World} (vs : List Value) {b o i : Nat} (h : i ≠ b) : (w.setCells b o vs).heap[i]? = w.heap[i]? := by
  induction vs generalizing w o with
  | nil => rfl
  | cons v vs ih =>
    show ((w.setCell ⟨b, o, none⟩ v).setCells b (o + 1) vs).heap[i]? = _
    rw [ih, heap_setCell_other w ⟨b, o, none⟩ i v (by show i ≠ b; exact h)]
theorem flat_take_len {L : List Ln} {n : Nat} (h8 : L.length = 8) (hn : n ≤ 7) : (flat (L.take n)).length = 2 * n := by
  rw [flat_length, List.length_take, Nat.min_eq_left (by omega)]
theorem front_out {w : World} {b o n : Nat} {L : List Ln} (hn : n ≤ 7) (h8 : L.length = 8) (x : Nat) (hx : x < o + 2 ∨ o + 2 + 2 * n ≤ x) : (w.setCells b (o + 2) (flat (L.take n))).cell? ⟨b, x, none⟩ = w.cell? ⟨b, x, none⟩ :=
  World.cell?_setCells_out b _ (o + 2) w ⟨b, x, none⟩ (fun _ _ => by rw [flat_take_len h8 hn]; exact hx)
/-- Behind the copy: the first n lines stand one place on, the others where they stood. -/
theorem front_mid {w : World} {b o n : Nat} {L : List Ln} (hL : w.rangeAt b o (flat L)) (hn : n ≤ 7) (h8 : L.length = 8) (ht : w.there b (o + 2) (2 * n)) :
    (w.setCells b (o + 2) (flat (L.take n))).rangeAt b (o + 2) (flat (L.take n ++ L.drop (n + 1))) := by
  intro j v hv
  rw [flat_append] at hv
  by_cases hj : j < 2 * n
  · rw [List.getElem?_append_left (by rw [flat_take_len h8 hn]; exact hj)] at hv
    exact World.rangeAt_setCells_same w b (o + 2) _ (by rw [flat_take_len h8 hn]; exact ht) j v hv
  · rw [List.getElem?_append_right (by rw [flat_take_len h8 hn]; omega), flat_take_len h8 hn] at hv
    rw [front_out hn h8 _ (.inr (by omega))]
    have : (flat L)[j + 2]? = some v := by
      rw [← List.take_append_drop (n + 1) L, flat_append, List.getElem?_append_right (by rw [flat_length, List.length_take]; omega)]
      rw [flat_length, List.length_take, Nat.min_eq_left (by omega)]
      rw [show j + 2 - 2 * (n + 1) = j - 2 * n by omega]
      exact hv
    have := hL (j + 2) v this
    rw [show o + 2 + j = o + (j + 2) by omega]
    exact this
theorem front_range {w : World} {b o : Nat} {M : List Ln} {l : Ln} {v0 v1 : Value} (e0 : w.cell? ⟨b, o, none⟩ = some v0) (e1 : w.cell? ⟨b, o + 1, none⟩ = some v1) (h : w.rangeAt b (o + 2) (flat M)) :
    ((w.setCell ⟨b, o, none⟩ (.int .u32 l.1)).setCell ⟨b, o + 1, none⟩ (.bool l.2)).rangeAt b o (flat (l :: M)) := by
  intro j v hv
  match j, hv with
  | 0, hv =>
    have h1 : (⟨b, o + 0, none⟩ : Addr) ≠ ⟨b, o + 1, none⟩ := fun e => by injection e; omega
    rw [World.cell?_setCell_other _ _ _ _ (Ne.symm h1)]
    simp only [flat, List.getElem?_cons_zero, Option.some.injEq] at hv
    subst hv
    exact World.cell?_setCell_same _ _ _ e0
  | 1, hv =>
    have h1 : (⟨b, o + 1, none⟩ : Addr) ≠ ⟨b, o, none⟩ := fun e => by injection e; omega
    simp only [flat, List.getElem?_cons_succ, List.getElem?_cons_zero, Option.some.injEq] at hv
    subst hv
    exact World.cell?_setCell_same _ _ _ ((World.cell?_setCell_other _ _ _ _ (Ne.symm h1)).trans e1)
  | j + 2, hv =>
    have h1 : (⟨b, o + (j + 2), none⟩ : Addr) ≠ ⟨b, o + 1, none⟩ := fun e => by injection e; omega
    have h2 : (⟨b, o + (j + 2), none⟩ : Addr) ≠ ⟨b, o, none⟩ := fun e => by injection e; omega
    rw [World.cell?_setCell_other _ _ _ _ (Ne.symm h1), World.cell?_setCell_other _ _ _ _ (Ne.symm h2)]
    rw [show o + (j + 2) = o + 2 + j by omega]
    exact h j v hv
/-! ### front -/
/-- What only turns some cells of block b, and lays blocks. -/
structure In (w w' : World) (b lo hi : Nat) (T : TypeId) (n : Nat) : Prop where
  chg : Chg w w' (some b)
  row : Row w' b T n
  out : ∀ x, x < lo ∨ hi ≤ x → w'.cell? ⟨b, x, none⟩ = w.cell? ⟨b, x, none⟩
set_option maxRecDepth 4000 in
set_option maxHeartbeats 1000000 in
theorem front_any (w : World) (b o n : Nat) (T : TypeId) (N : Nat) (L : List Ln) (l : Ln) (hr : Row w b T N) (hfit : o + 16 ≤ N) (hL : w.rangeAt b o (flat L)) (h8 : L.length = 8) (hn : n ≤ 7) :
    Calls Tryd.prog 35 #[.pointer (some ⟨b, o, none⟩), .int .i64 n, .agg #[.int .u32 l.1, .bool l.2]] w fun e w' =>
      e = .returned (.tuple #[]) ∧ In w w' b o (o + 16) T N ∧ w'.rangeAt b o (flat (l :: (L.take n ++ L.drop (n + 1)))) := by
  have hb := hr.lt
  have C1 := Lib.hid (show Chg w (w.alloc (.cells #[.int .u32 l.1, .bool l.2] 80)).drew none from ((Chg.refl w none).alloc _).drewN 1)
  have HL := Lib.hid (range_kept hL C1.out)
  have HR := Lib.hid (hr.kept C1.out (by simp))
  have hcp := run_copy2 (w.alloc (.cells #[.int .u32 l.1, .bool l.2] 80)).drew b o n 3 L HL.out hn (by omega) (HR.out.there (o + 2) (2 * n) (by omega))
  have HCP := Lib.hid hcp
  have hs1 := slice_h b o n (by omega)
  have hs2 := slice_lh b o n hn
  have hwr := wrap_small (x := (n : Int) + 1) (by omega) (by omega)
  have hbx := heap_alloc_last w (.cells #[.int .u32 l.1, .bool l.2] 80)
  clear hcp hL
  go_enter Tryd.func35, Tryd.ntmps35
  go_wp2_with fail
  refine wp_region_tail 11 (by kernel_rfl) (by kernel_rfl) ?_
  simp only [List.take_succ_cons, List.take_zero, List.drop_succ_cons, List.drop_zero]
  iterate 11 still_step
  refine wpStill_nil ?_
  refine wpList_copy_eq _ rfl (.tmp 11) (.tmp 16) 92 92 rfl _ _ rfl rfl HCP.out ?_
  have KC := Lib.hid (Chg.setCells (flat (L.take n)) (o + 2) _ (C1.out.any (some b)))
  have KR := Lib.hid (Row.setCells (flat (L.take n)) (o + 2) _ HR.out)
  have hB : ((w.alloc (.cells #[.int .u32 l.1, .bool l.2] 80)).drew.setCells b (o + 2) (flat (L.take n))).heap[w.heap.size]? = some (.cells #[.int .u32 l.1, .bool l.2] 80 (0, 0)) := by
    have := heap_setCells_other (w := (w.alloc (.cells #[.int .u32 l.1, .bool l.2] 80)).drew) (flat (L.take n)) (b := b) (o := o + 2) (i := w.heap.size) (by omega)
    rw [this]; exact hbx
  have KL := Lib.hid (front_mid HL.out hn h8 (HR.out.there (o + 2) (2 * n) (by omega)))
  have KO := Lib.hid (fun x (hx : x < o + 2 ∨ o + 2 + 2 * n ≤ x) => front_out (w := (w.alloc (.cells #[.int .u32 l.1, .bool l.2] 80)).drew) (b := b) (o := o) (n := n) (L := L) hn h8 x hx)
  clear hs1 hs2 hbx hwr HCP HL HR
  generalize (w.alloc (.cells #[.int .u32 l.1, .bool l.2] 80)).drew.setCells b (o + 2) (flat (L.take n)) = w2 at *
  have d0 : w2.cell? ⟨w.heap.size, 0, none⟩ = some (.int .u32 l.1) := by rw [cell_of_row _ _ _ _ _ _ hB]; rfl
  have d1 : w2.cell? ⟨w.heap.size, 1, none⟩ = some (.bool l.2) := by rw [cell_of_row _ _ _ _ _ _ hB]; rfl
  obtain ⟨v0, e0⟩ := Option.isSome_iff_exists.1 (KR.out.there o 2 (by omega) 0 (by omega)).1
  obtain ⟨v1, e1⟩ := Option.isSome_iff_exists.1 (KR.out.there o 2 (by omega) 1 (by omega)).1
  have f0 := (KR.out.there o 2 (by omega) 0 (by omega)).2
  have f1 := (KR.out.there o 2 (by omega) 1 (by omega)).2
  rw [Nat.add_zero] at e0 f0
  clear hB
  go_wp2_with fail
  simp only [Act.put, List.setIfInBounds_toArray, List.set_cons_succ, List.set_cons_zero]
  go_region
  go_end0
  refine ⟨rfl, ⟨((KC.out.set o _).set (o + 1) _).drewN 1, (KR.out.set o _).set (o + 1) _, fun x hx => ?_⟩, ?_⟩
  · have h1 : (⟨b, x, none⟩ : Addr) ≠ ⟨b, o + 1, none⟩ := fun e => by injection e; omega
    have h2 : (⟨b, x, none⟩ : Addr) ≠ ⟨b, o, none⟩ := fun e => by injection e; omega
    show ((w2.setCell ⟨b, o, none⟩ _).setCell ⟨b, o + 1, none⟩ _).cell? ⟨b, x, none⟩ = _
    rw [World.cell?_setCell_other _ _ _ _ (Ne.symm h1), World.cell?_setCell_other _ _ _ _ (Ne.symm h2), KO.out x (by omega), World.cell?_of_block (C1.out.block b hb (by simp))]
  · exact front_range e0 e1 KL.out
end Go.Proofs.YtlmgiejemdifkaaDoor.Ca
