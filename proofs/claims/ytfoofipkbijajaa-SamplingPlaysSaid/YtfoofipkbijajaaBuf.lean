/- lent, kept: contracts. No statement of the seat is proved here. -/
import Derived.Test.YtfoofipkbijajaaRefB
namespace Go.Proofs.Ytfoofipkbijajaa.Sa
open Go.RowKit Go.Proofs.Ytfoofipkbijajaa.Kit
set_option linter.unusedSimpArgs false
set_option linter.unusedVariables false
theorem new_byte (W : World) (x : Int) : Rb (W.alloc (.cells #[.int .u8 x] 5)) (.slice (some ⟨W.heap.size, 0, none⟩) 1 1) [x] :=
  ⟨⟨_, _, rfl, Nat.le_refl _, fun _ => ⟨_, _, rfl, fun j hj => by
    obtain rfl : j = 0 := by simp at hj; omega
    rw [cell_of_row _ _ _ _ _ _ (heap_alloc_last W _)]; rfl⟩⟩, by simp⟩
set_option maxHeartbeats 1000000 in
theorem lent_any (w : World) (v : Value) (xs : List Int) (h : Rb w v xs) : Calls Try.prog 36 #[v] w fun e w' => ∃ v', e = .returned v' ∧ Own w' w.heap.size v' (xs ++ [90]) ∧ Chg w w' none := by
  have H := Lib.hid h
  obtain ⟨⟨A, cap, rfl, hcap, hcc⟩, hf⟩ := h
  clear hcc
  have hl : xs.length ≤ 140737488351232 := by omega
  generalize hv : Value.slice A xs.length cap = v at *
  clear hf hcap
  go_enter Try.func36, Try.ntmps36
  go_wp2_with (at_builtin; refine wpList_append_sl rfl (.tmp 4) (.tmp 5) 33 rfl .u8 1 w.heap.size 5 Try.underlying33 info5 (.slice none 0 0) [] rfl (own_nil _ _) v xs rfl H.out ?qa ?qb ?qc ?_)
  case qa => simp only [maxLen, List.length_nil]; omega
  case qb => simp only [List.length_nil]; omega
  case qc => exact Nat.le_refl _
  intro v1 w1 ho hc
  replace ho : w1.ownsRow w.heap.size 5 1 v1 xs.length (xs.map (Value.int .u8)) := ho
  obtain ⟨A1, c1, rfl⟩ := own_slice ho
  have O1 := Lib.hid ho
  have C1 := Lib.hid hc
  have hs1 := hc.size
  clear ho hc hv
  have O2 := Lib.hid (O1.out.alloc (.cells #[.int .u8 90] 5))
  have N2 := Lib.hid (new_byte w1 90)
  go_wp2_with (at_builtin; refine wpList_append_sl rfl (.tmp 7) (.tmp 8) 33 rfl .u8 1 w.heap.size 5 Try.underlying33 info5 (.slice A1 xs.length c1) xs rfl O2.out (.slice (some ⟨w1.heap.size, 0, none⟩) 1 1) [90] rfl N2.out ?qa ?qb ?qc ?_)
  case qa => simp only [maxLen, List.length_cons, List.length_nil]; omega
  case qb => simp only [List.length_cons, List.length_nil]; omega
  case qc => simp; omega
  intro v2 w2 ho hc
  obtain ⟨A2, c2, rfl⟩ := own_slice ho
  have F := Lib.hid (show Own w2 w.heap.size (.slice A2 (xs.length + 1) c2) (xs ++ [90]) ∧ Chg w w2 none from ⟨by
    show w2.ownsRow _ _ _ _ (xs ++ [90]).length ((xs ++ [90]).map _)
    rw [List.map_append, List.length_append]; exact ho, by
    have hb := own_block O1.out
    refine ⟨hc.os.trans C1.out.os, hc.tape.trans C1.out.tape, hc.output.trans C1.out.output, by have := hc.size; simp at this; omega, fun i hi hn => ?_⟩
    rw [hc.block i (by simp; omega) (fun e => by have := (hb i e.symm).1; omega), heap_alloc_old (h := by omega)]
    exact C1.out.block i hi (by simp [Value.ownBlock])⟩)
  clear ho hc O1 O2 N2
  go_wp2
  go_ret
  exact ⟨_, rfl, F.out⟩
/-- A row of so many bytes. -/
def RowN (w : World) (g N : Nat) : Prop := ∃ cs, w.heap[g]? = some (.cells cs 5 (0, 0)) ∧ cs.size = N
theorem RowN.set {w : World} {g N : Nat} (h : RowN w g N) (j : Nat) (v : Value) : RowN (w.setCell ⟨g, j, none⟩ v) g N := by
  obtain ⟨cs, h2, h3⟩ := h
  exact ⟨_, heap_setCell_same w g j _ _ v h2, by simpa using h3⟩
theorem RowN.cell {w : World} {g N : Nat} (h : RowN w g N) {j : Nat} (hj : j < N) : (∃ u, w.cell? ⟨g, j, none⟩ = some u) ∧ w.frozen? ⟨g, j, none⟩ = false ∧ g < w.heap.size := by
  obtain ⟨cs, h2, h3⟩ := h
  refine ⟨⟨cs[j]'(by omega), ?_⟩, frozen_of_row w g j _ _ h2, (Array.getElem?_eq_some_iff.1 h2).1⟩
  rw [cell_of_row _ _ _ _ _ _ h2, Array.getElem?_eq_getElem (by omega)]
theorem RowN.of_own {w : World} {base : Nat} {v : Value} {xs : List Int} (h : Own w base v xs) (h0 : 0 < xs.length) : ∃ g c N, v = .slice (some ⟨g, 0, none⟩) xs.length c ∧ base ≤ g ∧ RowN w g N ∧ xs.length ≤ N := by
  rcases h.2 with ⟨_, hz⟩ | ⟨g, cap, cur, hv, hb, hrow, hn, hm, hs, htk⟩
  · omega
  · exact ⟨g, cap, _, hv, hb, ⟨cur, hrow, rfl⟩, by omega⟩
theorem RowN.kept {w w' : World} {g N : Nat} (h : RowN w g N) (hk : w'.heap[g]? = w.heap[g]?) : RowN w' g N := by obtain ⟨cs, h1, h2⟩ := h; exact ⟨cs, hk.trans h1, h2⟩
/-- A lent list: the bytes, and a mark behind them. -/
structure Len (w : World) (g cap : Nat) (xs : List Int) : Prop where
  data : Rb w (.slice (some ⟨g, 0, none⟩) xs.length cap) xs
  mark : w.cell? ⟨g, xs.length, none⟩ = some (.int .u8 90)
  cap : xs.length + 1 ≤ cap
theorem Len.of_rb {w : World} {g cap : Nat} {xs : List Int} (hx : Rb w (.slice (some ⟨g, 0, none⟩) (xs.length + 1) cap) (xs ++ [90])) : Len w g cap xs := by
  refine ⟨?_, ?_, ?_⟩
  · have := Sl.take hx xs.length (by simp)
    simpa using this
  · obtain ⟨b, off, hA, hc⟩ := hx.at_ xs.length (by simp)
    cases hA
    rw [nth_append_end, Nat.zero_add] at hc
    exact hc
  · obtain ⟨⟨A, c, e, h, _⟩, _⟩ := hx
    injection e with _ _ e
    have : (xs ++ [90]).length = xs.length + 1 := by simp
    omega
theorem Len.of_own {w : World} {base g n cap : Nat} {xs : List Int} (ho : Own w base (.slice (some ⟨g, 0, none⟩) n cap) (xs ++ [90])) (hf : xs.length * 1 ≤ 140737488351232) : Len w g cap xs := by
  have hl : (xs ++ [90]).length = xs.length + 1 := by simp
  rcases ho.2 with ⟨h, _⟩ | ⟨g2, cap2, cur, h, h1, h2, h3, h4, h5, h6⟩
  · cases h
  · injection h with e1 _ e2
    injection e1 with e1
    injection e1 with e1 _ _
    subst e1 e2
    have hcell : ∀ j, j < xs.length + 1 → w.cell? ⟨g, j, none⟩ = some (.int .u8 (nth (xs ++ [90]) j)) := fun j hj => by
      rw [cell_of_row _ _ _ _ _ _ h2, ← Array.getElem?_toList]
      have e := congrArg (fun l => l[j]?) h6
      simp only [List.getElem?_take, hl, Nat.mul_one, if_pos hj] at e
      rw [e, List.getElem?_map, List.getElem?_eq_getElem (show j < (xs ++ [90]).length by omega)]
      simp [nth, List.getD_eq_getElem?_getD, List.getElem?_eq_getElem (show j < (xs ++ [90]).length by omega)]
    refine ⟨⟨⟨_, _, rfl, by omega, fun h0 => ⟨g, 0, rfl, fun j hj => ?_⟩⟩, hf⟩, ?_, by omega⟩
    · rw [Nat.zero_add, hcell j (by omega), nth_append_left hj]
    · rw [hcell _ (by omega), nth_append_end]
theorem Len.kept {w w' : World} {g cap : Nat} {xs : List Int} (h : Len w g cap xs) (hk : w'.heap[g]? = w.heap[g]?) : Len w' g cap xs :=
  ⟨h.data.kept fun g' e _ => by cases e; exact hk, (World.cell?_of_block (show w'.heap[(⟨g, xs.length, none⟩ : Addr).block]? = w.heap[g]? from hk)).trans h.mark, h.cap⟩
set_option maxHeartbeats 2000000 in
/-- kept: the list is looked at, then written over. -/
theorem kept_any (w : World) (g cap : Nat) (v : Value) (xs : List Int) (hx : Len w g cap xs) (N : Nat) (hN : xs.length + 1 ≤ N) (hb : RowN w g N) (hv : Rb w v xs) :
    Calls Try.prog 31 #[.slice (some ⟨g, 0, none⟩) (xs.length + 1) cap, v] w fun e w' => e = .returned (.bool true) ∧ Chg w w' (some g) ∧ RowN w' g N := by
  have HB := Lib.hid hb
  have hcap := hx.cap
  have S1 := Lib.hid hx.data
  have e90 := hx.mark
  have HV := Lib.hid hv
  have hl : xs.length ≤ 140737488351232 := by have := hv.few; omega
  have SA := Lib.hid (same_any w _ v xs xs S1.out HV.out)
  rw [decide_eq_true rfl] at SA
  obtain ⟨n, hn⟩ : ∃ n, n = xs.length := ⟨_, rfl⟩
  rw [← hn] at hN SA e90 hcap hl ⊢
  clear hx hb hv hn S1
  go_enter Try.func31, Try.ntmps31
  go_wp2_with fail
  refine SA.out.mono ?_
  rintro e w1 ⟨rfl, nd, hw1⟩
  have C1 := Lib.hid (show Chg w w1 (some g) from by rw [hw1]; exact (Chg.refl w _).drewN nd)
  have B1 := Lib.hid (show RowN w1 g N from by rw [hw1]; exact HB.out)
  have e91 : w1.cell? ⟨g, n, none⟩ = some (.int .u8 90) := by rw [hw1]; exact e90
  clear hw1 HB SA HV
  go_wp2_with fail
  clear e90 e91
  go_loopw [6] (fun i wr => ∃ k : Nat, k ≤ n + 1 ∧ i = .int .i64 k ∧ Hid (Chg w wr (some g) ∧ RowN wr g N)) (fun i _ => n + 1 - (intOf i).toNat)
  case atStart => exact ⟨0, by omega, rfl, Lib.hid ⟨C1.out, B1.out⟩⟩
  case round =>
    obtain ⟨k, hk, rfl, I⟩ := hrel
    by_cases hlt : k < n + 1
    · obtain ⟨⟨u, hu⟩, hfz, hgl⟩ := I.out.2.cell (show k < N by omega)
      have J := Lib.hid (show Chg w (wr.setCell ⟨g, k, none⟩ (.int .u8 238)) (some g) ∧ RowN (wr.setCell ⟨g, k, none⟩ (.int .u8 238)) g N from ⟨I.out.1.set _ _, I.out.2.set _ _⟩)
      clear I
      go_wp2
      go_roundw
      case rel => exact ⟨k + 1, by omega, by go_num, J⟩
      case measure => simp [intOf]; omega
    · obtain rfl : k = n + 1 := by omega
      go_wp2
      go_ret
      exact ⟨rfl, I.out.1, I.out.2⟩
end Go.Proofs.Ytfoofipkbijajaa.Sa
