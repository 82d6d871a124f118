/- A set of a cache in memory; find, front: contracts. No statement of the seat is proved here. -/
import Derived.Test.YtlmgiejemdifkaaDoorBase
namespace Go.Proofs.YtlmgiejemdifkaaDoor.Ca
open Go.RowKit Go.Proofs.YtlmgiejemdifkaaDoor.Kit
set_option linter.unusedSimpArgs false
set_option linter.unusedVariables false

/-! ### lines as cells -/
def lnCells (l : Ln) : List Value := [.int .u32 l.1, .bool l.2]
def flat : List Ln → List Value
  | [] => []
  | l :: L => .int .u32 l.1 :: .bool l.2 :: flat L
theorem flat_length : ∀ L : List Ln, (flat L).length = 2 * L.length
  | [] => rfl
  | l :: L => by simp [flat, flat_length L]; omega
theorem flat_append : ∀ L M : List Ln, flat (L ++ M) = flat L ++ flat M
  | [], M => rfl
  | l :: L, M => by simp [flat, flat_append L M]
def lnth (L : List Ln) (j : Nat) : Ln := L.getD j (0, false)
theorem flat_even : ∀ (L : List Ln) (j : Nat), j < L.length → (flat L)[2 * j]? = some (.int .u32 (lnth L j).1) ∧ (flat L)[2 * j + 1]? = some (.bool (lnth L j).2)
  | l :: L, 0, _ => ⟨rfl, rfl⟩
  | l :: L, j + 1, h => by
    have := flat_even L j (by simpa using h)
    rw [show 2 * (j + 1) = 2 * j + 1 + 1 by omega]
    exact this
theorem flat_one : ∀ (L : List Ln), ∀ v ∈ flat L, v.oneCell' = true
  | l :: L, v, h => by
    simp only [flat, List.mem_cons] at h
    rcases h with rfl | rfl | h
    · rfl
    · rfl
    · exact flat_one L v h
theorem range_at {w : World} {b o : Nat} {L : List Ln} (h : w.rangeAt b o (flat L)) (j : Nat) (hj : j < L.length) :
    w.cell? ⟨b, o + j * 2, none⟩ = some (.int .u32 (lnth L j).1) ∧ w.cell? ⟨b, o + j * 2 + 1, none⟩ = some (.bool (lnth L j).2) := by
  obtain ⟨h1, h2⟩ := flat_even L j hj
  have a := h _ _ h1
  have c := h _ _ h2
  rw [Nat.mul_comm 2 j] at a c
  exact ⟨a, c⟩
theorem range_kept {w w' : World} {b o : Nat} {cs : List Value} (h : w.rangeAt b o cs) (hC : Chg w w' none) : w'.rangeAt b o cs := fun j v hv => by
  have := h j v hv
  rw [World.cell?_of_block (hC.block b (World.block_lt_of_cell? w _ this) (by simp))]
  exact this

theorem lnth_eq {V : List Ln} {k : Nat} (h : k < V.length) : lnth V k = V[k] := by simp [lnth, h]
theorem seek_eq {V : List Ln} {t k : Nat} (hk : k < V.length) (h : (lnth V k).1 = t) (hno : ∀ j, j < k → (lnth V j).1 ≠ t) : seek V t = k := by
  unfold seek
  rw [List.findIdx_eq hk]
  rw [lnth_eq hk] at h
  refine ⟨by simpa using h, fun j hj => ?_⟩
  have := hno j hj
  rw [lnth_eq (by omega)] at this
  simpa using this
theorem seek_none {V : List Ln} {t : Nat} (hno : ∀ j, j < V.length → (lnth V j).1 ≠ t) : ¬ seek V t < V.length := by
  rw [seek_lt]
  intro h
  obtain ⟨l, hl, e⟩ := List.mem_map.1 h
  obtain ⟨j, hj, rfl⟩ := List.mem_iff_getElem.1 hl
  have := hno j hj
  rw [lnth_eq hj] at this
  exact this e
/-- As find tells it: -1 if it is not there. -/
def seekI (V : List Ln) (t : Nat) : Int := if seek V t < V.length then seek V t else -1
theorem seekI_eq {V : List Ln} {t k : Nat} (hk : k < V.length) (h : (lnth V k).1 = t) (hno : ∀ j, j < k → (lnth V j).1 ≠ t) : seekI V t = k := by
  unfold seekI; rw [seek_eq hk h hno, if_pos hk]
theorem seekI_none {V : List Ln} {t : Nat} (hno : ∀ j, j < V.length → (lnth V j).1 ≠ t) : seekI V t = -1 := by
  unfold seekI; rw [if_neg (seek_none hno)]
/-! ### the predicate -/
set_option maxHeartbeats 400000 in
theorem same_tag (w : World) (B : Nat) (t : Nat) (l : Ln) (hB : w.cell? ⟨B, 0, none⟩ = some (.int .u32 t)) :
    Calls Tryd.prog 53 #[.agg #[.int .u32 l.1, .bool l.2], .pointer (some ⟨B, 0, none⟩)] w fun e w' => e = .returned (.bool (l.1 == t)) ∧ Chg w w' none := by
  have hb := World.block_lt_of_cell? w _ hB
  by_cases h : l.1 = t
  · have hx : ((l.1 : Int) == (t : Int)) = true := by simp; omega
    have e : (l.1 == t) = true := by simpa using h
    rw [e]
    clear h e
    go_enter Tryd.func53, Tryd.ntmps53
    go_wp2
    go_ret
    exact ⟨rfl, (Chg.refl w none).alloc _⟩
  · have hx : ((l.1 : Int) == (t : Int)) = false := by simp; omega
    have e : (l.1 == t) = false := by simpa using h
    rw [e]
    clear h e
    go_enter Tryd.func53, Tryd.ntmps53
    go_wp2
    go_ret
    exact ⟨rfl, (Chg.refl w none).alloc _⟩

/-! ### slices.IndexFunc -/
set_option maxHeartbeats 1000000 in
theorem index_any (w : World) (b o cap B t : Nat) (V : List Ln) (hV : w.rangeAt b o (flat V)) (hB : w.cell? ⟨B, 0, none⟩ = some (.int .u32 t)) (hcap : V.length ≤ cap) (hl : V.length ≤ 1000000) :
    Calls Tryd.prog 52 #[.slice (some ⟨b, o, none⟩) V.length cap, .func (.func 53) #[] #[.pointer (some ⟨B, 0, none⟩)]] w fun e w' =>
      e = .returned (.int .i64 (seekI V t)) ∧ Chg w w' none := by
  have HV := Lib.hid hV
  have HB := Lib.hid hB
  clear hV hB
  go_enter Tryd.func52, Tryd.ntmps52
  go_wp2_with fail
  go_loopw [5, 8] (fun _ i wr => ∃ k : Nat, k ≤ V.length ∧ i = .int .i64 k ∧ Hid (Chg w wr none ∧ ∀ j, j < k → (lnth V j).1 ≠ t)) (fun _ i _ => V.length - (intOf i).toNat)
  case atStart => exact ⟨0, by omega, rfl, Lib.hid ⟨Chg.refl _ _, fun j hj => by omega⟩⟩
  case round =>
    obtain ⟨k, hk, rfl, I⟩ := hrel
    by_cases hlt : k < V.length
    · obtain ⟨c0, c1⟩ := range_at (range_kept HV.out I.out.1) k hlt
      go_wp2_with fail
      refine (same_tag wr B t (lnth V k) (by rw [World.cell?_of_block (I.out.1.block B (World.block_lt_of_cell? w _ HB.out) (by simp))]; exact HB.out)).mono ?_
      by_cases he : (lnth V k).1 = t
      · have hb : ((lnth V k).1 == t) = true := by simpa using he
        rw [hb]
        rintro e w5 ⟨rfl, hC⟩
        have C5 := Lib.hid (I.out.1.trans hC)
        have E := Lib.hid (seekI_eq hlt he I.out.2)
        clear hC he hb c0 c1
        go_wp2
        go_ret
        exact ⟨by rw [E.out]; rfl, C5.out⟩
      · have hb : ((lnth V k).1 == t) = false := by simpa using he
        rw [hb]
        rintro e w5 ⟨rfl, hC⟩
        have C5 := Lib.hid (And.intro (I.out.1.trans hC) (show ∀ j, j < k + 1 → (lnth V j).1 ≠ t from fun j hj => by
          by_cases e : j = k
          · subst e; exact he
          · exact I.out.2 j (by omega)))
        clear hC he hb c0 c1
        go_wp2
        go_roundw
        case rel => exact ⟨k + 1, by omega, by go_num, C5⟩
        case measure => simp [intOf]; omega
    · have E := Lib.hid (seekI_none (V := V) (t := t) (fun j hj => I.out.2 j (by omega)))
      go_wp2
      go_ret
      exact ⟨by rw [E.out]; rfl, I.out.1⟩

theorem index_of (w : World) (b o cap B t n : Nat) (V : List Ln) (hV : w.rangeAt b o (flat V)) (hB : w.cell? ⟨B, 0, none⟩ = some (.int .u32 t)) (hcap : n ≤ cap) (hl : n ≤ 1000000) (hn : V.length = n) :
    Calls Tryd.prog 52 #[.slice (some ⟨b, o, none⟩) n cap, .func (.func 53) #[] #[.pointer (some ⟨B, 0, none⟩)]] w fun e w' =>
      e = .returned (.int .i64 (seekI V t)) ∧ Chg w w' none := by
  subst hn; exact index_any w b o cap B t V hV hB hcap hl
theorem range_take {w : World} {b o : Nat} {L : List Ln} (h : w.rangeAt b o (flat L)) (m : Nat) : w.rangeAt b o (flat (L.take m)) := fun j v hv => by
  refine h j v ?_
  rw [← List.take_append_drop m L, flat_append, List.getElem?_append_left (List.getElem?_eq_some_iff.1 hv).1]
  exact hv
theorem u81 : Tryd.prog.underlying 81 = some (.array (Tryd.prog.arrayLen 81) (Tryd.prog.elem 81)) := by kernel_rfl
theorem n81 : Tryd.prog.arrayLen 81 = 8 := by kernel_rfl
theorem s80 (w : World) : (sizeOf (Tryd.prog.elem 81)).run Tryd.prog w = .ok 2 w := by kernel_rfl
theorem slice_h (b o m : Nat) (hm : m ≤ 8) (w : World) : (Instr.sliceAt 81 (.pointer (some ⟨b, o, none⟩)) none (some (.int .i64 m)) none).run Tryd.prog w = .ok (.slice (some ⟨b, o, none⟩) m 8) w := by
  rw [run_sliceAt_array_h w 81 _ u81 .i64 m (by omega) (by rw [n81]; omega), s80, n81]
  simp [Result.andThen, slicedAt, Addr.add]
theorem slice_lh (b o n : Nat) (hm : n ≤ 7) (w : World) : (Instr.sliceAt 81 (.pointer (some ⟨b, o, none⟩)) (some (.int .i64 1)) (some (.int .i64 ((n : Int) + 1))) none).run Tryd.prog w = .ok (.slice (some ⟨b, o + 2, none⟩) n 7) w := by
  rw [run_sliceAt_array_lh w 81 _ u81 .i64 .i64 1 ((n : Int) + 1) (by omega) (by omega) (by rw [n81]; omega), s80, n81]
  have e : ((n : Int) + 1).toNat = n + 1 := by omega
  simp [Result.andThen, slicedAt, e, Addr.add_mid]
/-! ### find -/
set_option maxRecDepth 4000 in
set_option maxHeartbeats 1000000 in
theorem find_any (w : World) (b o t : Nat) (L : List Ln) (m : Nat) (hL : w.rangeAt b o (flat L)) (h8 : L.length = 8) (hm : m ≤ 8) (hc : w.cell? ⟨b, o + 16, none⟩ = some (.int .i64 m)) :
    Calls Tryd.prog 34 #[.pointer (some ⟨b, o, none⟩), .int .u32 t] w fun e w' =>
      e = .returned (.int .i64 (seekI (L.take m) t)) ∧ Chg w w' none := by
  have C1 := Lib.hid (((Chg.refl w none).alloc (.cells #[.int .u32 t] 34)).drewN 1)
  have HL := Lib.hid (range_take (range_kept hL C1.out) m)
  have hb := World.block_lt_of_cell? w _ hc
  have hc1 : (w.alloc (.cells #[.int .u32 t] 34)).drew.cell? ⟨b, o + 16, none⟩ = some (.int .i64 m) := by rw [World.cell?_of_block (C1.out.block b hb (by simp))]; exact hc
  have hB : (w.alloc (.cells #[.int .u32 t] 34)).drew.cell? ⟨w.heap.size, 0, none⟩ = some (.int .u32 t) := by rw [cell_of_row _ _ _ _ _ _ (show (w.alloc (.cells #[.int .u32 t] 34)).drew.heap[w.heap.size]? = _ from heap_alloc_last w _)]; rfl
  have hsl := slice_h b o m hm
  have HM := Lib.hid (show (L.take m).length = m by simp; omega)
  clear hL
  go_enter Tryd.func34, Tryd.ntmps34
  go_wp2_with fail
  go_region_held (fun w' => w'.cell? ⟨b, o + 16, none⟩ = some (.int .i64 m)) (first | exact hc1 | exact hc2) (first
    | (go_at_call 52; refine (index_of (w.alloc (.cells #[.int .u32 t] 34)).drew b o 8 w.heap.size t m (L.take m) HL.out hB hm (by omega) HM.out).mono ?_; rintro e w' ⟨rfl, hC⟩
       have hc2 : w'.cell? ⟨b, o + 16, none⟩ = some (.int .i64 m) := (by rw [World.cell?_of_block (hC.block b (World.block_lt_of_cell? _ _ hc1) (by simp))]; exact hc1)
       have C2 := Lib.hid (C1.out.trans hC); clear hC))
  go_wp2
  go_ret
  exact ⟨rfl, C2.out⟩
end Go.Proofs.YtlmgiejemdifkaaDoor.Ca
