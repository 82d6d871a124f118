/- SamplingMakes: the walk. -/
import Derived.Test.YtfoofipkbijajaaApp
namespace Go.Proofs.Ytfoofipkbijajaa.Sa
open Go.RowKit Go.Proofs.Ytfoofipkbijajaa.Kit
set_option linter.unusedSimpArgs false
set_option linter.unusedVariables false

/-- A row of the call's own: what its first n cells hold. -/
structure LAt (w : World) (g n : Nat) (f : Nat → Int) : Prop where
  has : ∃ cur, w.heap[g]? = some (.cells cur 3 (0, 0)) ∧ ∀ j, j < n → cur[j]? = some (.int .i64 (f j))
theorem LAt.cell {w : World} {g n : Nat} {f : Nat → Int} (h : LAt w g n f) (j : Nat) (hj : j < n) : w.cell? ⟨g, j, none⟩ = some (.int .i64 (f j)) := by
  obtain ⟨cur, hg, hc⟩ := h.has
  rw [cell_of_row _ _ _ _ _ _ hg]; exact hc j hj
theorem LAt.free {w : World} {g n : Nat} {f : Nat → Int} (h : LAt w g n f) (j : Nat) : w.frozen? ⟨g, j, none⟩ = false := by
  obtain ⟨cur, hg, hc⟩ := h.has
  exact frozen_of_row w g j _ _ hg
theorem LAt.lt {w : World} {g n : Nat} {f : Nat → Int} (h : LAt w g n f) : g < w.heap.size := by
  obtain ⟨cur, hg, hc⟩ := h.has
  exact (Array.getElem?_eq_some_iff.1 hg).1
theorem LAt.kept {w w' : World} {g n : Nat} {f : Nat → Int} (h : LAt w g n f) {row : Option Nat} (hg : w.grownBy w' row) (hn : row ≠ some g) : LAt w' g n f := by
  have hlt := h.lt
  obtain ⟨cur, hq, hc⟩ := h.has
  exact ⟨cur, (hg.block g hlt (fun e => hn e.symm)).trans hq, hc⟩
theorem LAt.set {w : World} {g n : Nat} {f : Nat → Int} (h : LAt w g n f) (i : Nat) (x : Int) : LAt (w.setCell ⟨g, i, none⟩ (.int .i64 x)) g n (fun j => if j = i then x else f j) := by
  obtain ⟨cur, hg, hc⟩ := h.has
  refine ⟨_, heap_setCell_same w g i _ _ _ hg, fun j hj => ?_⟩
  have := hc j hj
  have hs : j < cur.size := (Array.getElem?_eq_some_iff.1 this).1
  by_cases e : i = j
  · subst e; simp [Array.getElem?_setIfInBounds, hs]
  · simp [Array.getElem?_setIfInBounds, e, Ne.symm e, this]
theorem LAt.congr {w : World} {g n : Nat} {f f' : Nat → Int} (h : LAt w g n f) (e : ∀ j, j < n → f j = f' j) : LAt w g n f' := by
  obtain ⟨cur, hg, hc⟩ := h.has
  exact ⟨cur, hg, fun j hj => by rw [hc j hj, e j hj]⟩
theorem LAt.sl {w : World} {g n : Nat} {f : Nat → Int} (h : LAt w g n f) (m cap : Nat) (hm : m ≤ n) (hc : m ≤ cap) (hf : m * 8 ≤ 140737488351232) (xs : List Int) (hx : xs.length = m) (he : ∀ j, j < m → nth xs j = f j) : Ri w (.slice (some ⟨g, 0, none⟩) m cap) xs := by
  subst hx
  refine ⟨⟨_, _, rfl, hc, fun h0 => ⟨g, 0, rfl, fun j hj => ?_⟩⟩, hf⟩
  rw [Nat.zero_add, he j hj]
  exact h.cell j (by omega)
theorem own_some {w : World} {base : Nat} {v : Value} {n : Nat} {xs : List Int} (h : w.ownsRow base 3 1 v n (xs.map (Value.int .i64))) (hp : 0 < n) : ∃ g cap, v = .slice (some ⟨g, 0, none⟩) n cap ∧ base ≤ g ∧ n ≤ cap ∧ LAt w g n (nth xs) := by
  obtain ⟨hl, hr⟩ := h
  have hn : n = xs.length := by simpa using hl.symm
  rcases hr with ⟨rfl, h0⟩ | ⟨g, cap, cur, rfl, hb, hg, hcap, hm, hs, ht⟩
  · omega
  · refine ⟨g, cap, rfl, hb, hcap, ⟨cur, hg, fun j hj => ?_⟩⟩
    have := congrArg (fun l => l[j]?) ht
    have hj2 : j < xs.length := by omega
    simp only [Nat.mul_one, List.getElem?_take, hj, if_true, List.getElem?_map, List.getElem?_eq_getElem hj2, Option.map_some] at this
    rw [← Array.getElem?_toList, this]
    simp [nth, List.getD_eq_getElem?_getD, List.getElem?_eq_getElem hj2]

theorem set99 (f : Nat → Int) (k j : Nat) : (if j = k then (99 : Int) else if j < k then 99 else f j) = if j < k + 1 then 99 else f j := by
  by_cases e : j = k
  · subst e; simp
  · by_cases e2 : j < k
    · simp [e2, show j < k + 1 by omega]
    · simp [e, e2, show ¬ j < k + 1 by omega]
theorem setf (f3 f : Nat → Int) (k j : Nat) : (if j = k then f3 k else if j < k then f3 j else f j) = if j < k + 1 then f3 j else f j := by
  by_cases e : j = k
  · subst e; simp
  · by_cases e2 : j < k
    · simp [e, e2, show j < k + 1 by omega]
    · simp [e, e2, show ¬ j < k + 1 by omega]
theorem LAt.drewN {w : World} {g n : Nat} {f : Nat → Int} (h : LAt w g n f) (m : Nat) : LAt (w.drewN m) g n f := ⟨h.has⟩

/-! ### place -/
def plc (n : Int) : Int := if n < 0 then -((n + 1).tmod 8) else n % 8
theorem plc_range (n : Int) : 0 ≤ plc n ∧ plc n < 8 := by
  unfold plc
  split
  · rw [← Int.neg_tmod, Int.tmod_eq_emod_of_nonneg (by omega)]; omega
  · omega
theorem zero24 : ∀ w, (zeroValue 24).run Try.prog w = .ok (.agg #[.int .i64 0, .int .i64 0, .slice none 0 0]) w := fun _ => by kernel_rfl
theorem place_any (w : World) (n : Int) (h1 : -9223372036854775808 ≤ n) (h2 : n ≤ 9223372036854775807) : Calls Try.prog 12 #[.int .i64 n] w fun e w' => e = .returned (.int .i64 (plc n)) ∧ w = w' := by
  by_cases h : n < 0
  · have e : plc n = -((n + 1).tmod 8) := by simp [plc, h]
    rw [e]
    clear e
    go_enter Try.func12, Try.ntmps12
    go_wp2
    go_ret
    exact ⟨rfl, rfl⟩
  · have e : plc n = n % 8 := by simp [plc, h]
    have hd : decide (n < 0) = false := by simp only [decide_eq_false_iff_not]; omega
    rw [e]
    clear e
    go_enter Try.func12, Try.ntmps12
    go_wp2
    go_ret
    exact ⟨rfl, rfl⟩
theorem Chg.trans_own {w w1 w2 w3 : World} {base : Nat} {v : Value} {n : Nat} {xs : List Value} (h : Chg w w2 none) (ho : w1.ownsRow base 3 1 v n xs) (k : Chg w2 w3 v.ownBlock) (hb : w.heap.size ≤ base) : Chg w w3 none := by
  cases hv : v.ownBlock with
  | none => rw [hv] at k; exact h.trans k
  | some c => rw [hv] at k; exact h.trans_new k (by have := (own_block ho c hv).1; omega)
set_option maxRecDepth 4000 in
set_option maxHeartbeats 4000000 in
theorem makes_walk (w : World) (W S : Int) (rv : Value) (rs : List Int) (h : Ri w rv rs) (hW1 : -9223372036854775808 ≤ W) (hW2 : W ≤ 9223372036854775807) :
    Calls Try.prog 3 #[.agg #[.int .i64 W, .int .i64 S, rv]] w fun e w' => e = .returned (.bool true) ∧ Chg w w' none := by
  have H := Lib.hid h
  obtain ⟨⟨A, cap, rfl, hcap, hcc⟩, hf⟩ := h
  clear hcc
  have C1 := Lib.hid ((Chg.refl w none).alloc (.cells #[.int .i64 W, .int .i64 S, .slice A rs.length cap] 24))
  have hbk := heap_alloc_last w (.cells #[.int .i64 W, .int .i64 S, .slice A rs.length cap] 24)
  have HB := Lib.hid hbk
  have hs1 : w.heap.size < (w.alloc (.cells #[.int .i64 W, .int .i64 S, .slice A rs.length cap] 24)).heap.size := by simp
  clear hbk
  go_enter Try.func3, Try.ntmps3
  go_wp2_with fail
  generalize w.alloc (.cells #[.int .i64 W, .int .i64 S, .slice A rs.length cap] 24) = w1 at *
  refine (known_any _).mono ?_
  rintro e w2 ⟨rfl, hC⟩
  have C2 := Lib.hid (C1.out.trans hC)
  have R2 := Lib.hid (Chg.sl H.out C2.out)
  have HB2 := Lib.hid ((hC.block _ hs1 (by simp)).trans HB.out)
  have p0 : w2.cell? ⟨w.heap.size, 0, none⟩ = some (.int .i64 W) := by rw [cell_of_row _ _ _ _ _ _ HB2.out]; rfl
  have p1 : w2.cell? ⟨w.heap.size, 1, none⟩ = some (.int .i64 S) := by rw [cell_of_row _ _ _ _ _ _ HB2.out]; rfl
  have p2 : w2.cell? ⟨w.heap.size, 2, none⟩ = some (.slice A rs.length cap) := by rw [cell_of_row _ _ _ _ _ _ HB2.out]; rfl
  have hs2 : w.heap.size < w2.heap.size := by have := hC.size; omega
  have hz := zero24
  clear hC C1 HB hs1
  go_wp2_with (first
    | (at_builtin; refine wpList_append_sl (o := ⟨some 26, _, _, _, _, none⟩) rfl _ _ 22 rfl .i64 8 w2.heap.size 3 Try.underlying22 info3 (.slice none 0 0) [] rfl (World.ownsRow_nil _ _ _ _) _ rs rfl R2.out (by simp only [maxLen, List.length_nil]; omega) (by simp only [List.length_nil]; omega) (Nat.le_refl _) ?_; intro v1 w3 hown1 hg1; simp only [List.nil_append] at hown1
       have HO1 := Lib.hid hown1; have HG1 := Lib.hid (show Chg w2 w3 none from hg1); clear hown1 hg1)
    | (at_builtin; refine wpList_append_sl (o := ⟨some 29, _, _, _, _, none⟩) rfl _ _ 22 rfl .i64 8 w2.heap.size 3 Try.underlying22 info3 v1 rs rfl (HO1.out.alloc _) _ [-77] rfl (sl_lit (k := .i64) (m := 8) w3 [-77] 3 (by decide)) (by simp only [maxLen, List.length_cons, List.length_nil]; omega) (by simp only [List.length_cons, List.length_nil]; omega) (by have := HG1.out.size; simp; omega) ?_; intro v2 w4 hown2 hg2
       obtain ⟨g, cap2, rfl, hgb, hcap2, hLA⟩ := own_some hown2 (by simp)
       have hcap3 : rs.length + 1 ≤ cap2 := by simpa using hcap2
       have C24 := Lib.hid (show Chg w2 w4 none from (HG1.out.alloc _).trans_own HO1.out hg2 (Nat.le_refl _))
       have LA4 := Lib.hid (show LAt w4 g (rs.length + 1) (nth (rs ++ [-77])) by have e : (rs ++ [-77]).length = rs.length + 1 := (by simp); rw [e] at hLA; exact hLA)
       have hg5 : g < w4.heap.size := hLA.lt
       have HB5 := Lib.hid ((heap_alloc_old w4 (.cells #[.int .i64 W, .int .i64 S, .slice A rs.length cap] 24) (show w.heap.size < w4.heap.size by have := C24.out.size; omega)).trans ((C24.out.block _ hs2 (by simp)).trans HB2.out))
       have hbk := heap_alloc_last w4 (.cells #[.int .i64 W, .int .i64 S, .slice A rs.length cap] 24)
       have p0 : w4.cell? ⟨w.heap.size, 0, none⟩ = some (.int .i64 W) := (by rw [cell_of_row _ _ _ _ _ _ ((C24.out.block _ hs2 (by simp)).trans HB2.out)]; rfl)
       have p1 : w4.cell? ⟨w.heap.size, 1, none⟩ = some (.int .i64 S) := (by rw [cell_of_row _ _ _ _ _ _ ((C24.out.block _ hs2 (by simp)).trans HB2.out)]; rfl)
       have p2 : w4.cell? ⟨w.heap.size, 2, none⟩ = some (.slice A rs.length cap) := (by rw [cell_of_row _ _ _ _ _ _ ((C24.out.block _ hs2 (by simp)).trans HB2.out)]; rfl)
       have z2 : (w4.alloc (.cells #[.int .i64 W, .int .i64 S, .slice A rs.length cap] 24)).cell? ⟨w.heap.size, 2, none⟩ = some (.slice A rs.length cap) := (by rw [cell_of_row _ _ _ _ _ _ HB5.out]; rfl)
       have e0 : (w4.alloc (.cells #[.int .i64 W, .int .i64 S, .slice A rs.length cap] 24)).cell? ⟨w4.heap.size, 0, none⟩ = some (.int .i64 W) := (by rw [cell_of_row _ _ _ _ _ _ hbk]; rfl)
       have e1 : (w4.alloc (.cells #[.int .i64 W, .int .i64 S, .slice A rs.length cap] 24)).cell? ⟨w4.heap.size, 1, none⟩ = some (.int .i64 S) := (by rw [cell_of_row _ _ _ _ _ _ hbk]; rfl)
       have e2 : (w4.alloc (.cells #[.int .i64 W, .int .i64 S, .slice A rs.length cap] 24)).cell? ⟨w4.heap.size, 2, none⟩ = some (.slice A rs.length cap) := (by rw [cell_of_row _ _ _ _ _ _ hbk]; rfl)
       have f2 : (w4.alloc (.cells #[.int .i64 W, .int .i64 S, .slice A rs.length cap] 24)).frozen? ⟨w4.heap.size, 2, none⟩ = false := frozen_of_row _ _ _ _ _ hbk
       have HBK := Lib.hid hbk
       have hn1 : (rs.length : Int) ≤ (cap2 : Int) := by omega
       clear hbk
       clear hown2 hg2 hcap2 hLA))
  have hne1 : w.heap.size ≠ w4.heap.size := by have := C24.out.size; omega
  have hgp : w.heap.size < g := by omega
  have PB5 := Lib.hid ((heap_alloc_old w4 (.cells #[.int .i64 W, .int .i64 S, .slice (some ⟨g, 0, none⟩) rs.length cap2] 24) (show w.heap.size < w4.heap.size by have := C24.out.size; omega)).trans ((C24.out.block _ hs2 (by simp)).trans HB2.out))
  have QB5 := Lib.hid (heap_alloc_last w4 (.cells #[.int .i64 W, .int .i64 S, .slice (some ⟨g, 0, none⟩) rs.length cap2] 24))
  have LQ5 := Lib.hid (LA4.out.kept ((Chg.refl w4 none).alloc (.cells #[.int .i64 W, .int .i64 S, .slice (some ⟨g, 0, none⟩) rs.length cap2] 24)) (by simp))
  have C25 := Lib.hid (C24.out.alloc (.cells #[.int .i64 W, .int .i64 S, .slice (some ⟨g, 0, none⟩) rs.length cap2] 24))
  have R5 := Lib.hid (Chg.sl R2.out C25.out)
  have C5 := Lib.hid (C2.out.trans C25.out)
  have hgq : g ≠ w4.heap.size := by omega
  have hs5 : w.heap.size < (w4.alloc (.cells #[.int .i64 W, .int .i64 S, .slice (some ⟨g, 0, none⟩) rs.length cap2] 24)).heap.size := by have := C24.out.size; simp; omega
  have hg5' : g < (w4.alloc (.cells #[.int .i64 W, .int .i64 S, .slice (some ⟨g, 0, none⟩) rs.length cap2] 24)).heap.size := by simp; omega
  have hw5 : w4.heap.size < (w4.alloc (.cells #[.int .i64 W, .int .i64 S, .slice (some ⟨g, 0, none⟩) rs.length cap2] 24)).heap.size := by simp
  clear z2 e0 e1 e2 f2 HBK HB5 LA4 p0 p1 p2 HO1 HG1 hn1 hz hg5
  generalize w4.alloc (.cells #[.int .i64 W, .int .i64 S, .slice (some ⟨g, 0, none⟩) rs.length cap2] 24) = w5 at *
  generalize w4.heap.size = qb at *
  refine (new_any w5 W S _ rs (LQ5.out.sl rs.length cap2 (by omega) (by omega) hf rs rfl (fun j hj => (nth_append_left hj).symm))).mono ?_
  intro e w6 hN
  cases hm : may W S rs with
  | false =>
    rcases hN with ⟨_, rfl, hC⟩ | ⟨h, _⟩
    case inr => rw [hm] at h; cases h
    have HMY := Lib.hid hm
    have PB6 := Lib.hid ((hC.block w.heap.size (by omega) (by simp)).trans PB5.out)
    have QB6 := Lib.hid ((hC.block qb hw5 (by simp)).trans QB5.out)
    have LQ6 := Lib.hid (LQ5.out.kept hC (by simp))
    have R6 := Lib.hid (Chg.sl R5.out hC)
    have C6 := Lib.hid (C5.out.trans hC)
    have hsz6 := hC.size
    clear hC hm PB5 QB5 LQ5 R5 C5
    have p0 : w6.cell? ⟨w.heap.size, 0, none⟩ = some (.int .i64 W) := by rw [cell_of_row _ _ _ _ _ _ PB6.out]; rfl
    have p1 : w6.cell? ⟨w.heap.size, 1, none⟩ = some (.int .i64 S) := by rw [cell_of_row _ _ _ _ _ _ PB6.out]; rfl
    have p2 : w6.cell? ⟨w.heap.size, 2, none⟩ = some (.slice A rs.length cap) := by rw [cell_of_row _ _ _ _ _ _ PB6.out]; rfl
    go_wp2_with fail
    refine (rnew_any w6 W S _ rs R6.out).mono ?_
    intro e w7 hN
    rcases hN with ⟨_, rfl, hC⟩ | ⟨h, _⟩
    case inr => rw [HMY.out] at h; cases h
    have PB7 := Lib.hid ((hC.block w.heap.size (by omega) (by simp)).trans PB6.out)
    have QB7 := Lib.hid ((hC.block qb (by omega) (by simp)).trans QB6.out)
    have LQ7 := Lib.hid (LQ6.out.kept hC (by simp))
    have R7 := Lib.hid (Chg.sl R6.out hC)
    have C7 := Lib.hid (C6.out.trans hC)
    have hsz7 := hC.size
    clear hC PB6 QB6 LQ6 R6 C6 p0 p1 p2
    have l7 := LQ7.out.cell rs.length (by omega)
    rw [nth_append_end] at l7
    have hnb1 : (rs.length : Int) < (rs.length : Int) + 1 := by omega
    go_wp2_with fail
    clear l7
    go_loopw [10, 11] (fun ok i wr => ∃ k : Nat, k ≤ rs.length ∧ i = .int .i64 k ∧ ok = .bool true ∧ LAt wr g (rs.length + 1) (fun j => if j < k then 99 else nth (rs ++ [-77]) j) ∧ Chg w7 wr (some g)) (fun _ i _ => rs.length - (intOf i).toNat)
    case atStart => exact ⟨0, by omega, rfl, rfl, LQ7.out.congr (fun j hj => by simp), Chg.refl _ _⟩
    case round =>
      obtain ⟨k, hk, rfl, rfl, hl, hC⟩ := hrel
      have p2 : wr.cell? ⟨w.heap.size, 2, none⟩ = some (.slice A rs.length cap) := by rw [cell_of_row _ _ _ _ _ _ ((hC.block w.heap.size (by omega) (fun e => by cases e; omega)).trans PB7.out)]; rfl
      have CW := Lib.hid (C7.out.trans_new hC (show w.heap.size ≤ g by omega))
      by_cases hlt : k < rs.length
      · obtain ⟨ab, ao, rfl, hcell⟩ := (Chg.sl H.out CW.out).at_ k hlt
        have lc := hl.cell k (by omega)
        rw [if_neg (by omega), nth_append_left hlt] at lc
        have lf := hl.free k
        have LK := Lib.hid hl
        have CK := Lib.hid hC
        clear hl hC
        have hk1 : (k : Int) < (rs.length : Int) + 1 := by omega
        have hk2 : (k : Int) < (rs.length : Int) := by omega
        go_wp2
        go_quiet (fail)
        go_wp2
        go_roundw
        case rel => exact ⟨k + 1, by omega, by go_num, rfl, ((LK.out.drewN _).set k 99).congr (fun j _ => set99 _ k j), (CK.out.drewN _).set k _⟩
        case measure => simp [intOf]; omega
      · have LK := Lib.hid hl
        have CK := Lib.hid hC
        clear hl hC LQ7
        have hk2 : decide ((k : Int) < (rs.length : Int)) = false := by simp only [decide_eq_false_iff_not]; omega
        obtain ⟨w8, e8⟩ : ∃ x, x = wr := ⟨wr, rfl⟩
        subst e8
        obtain ⟨f9, LQ9⟩ : ∃ f9, Hid (LAt w8 g (rs.length + 1) f9) := ⟨_, LK⟩
        have PB9 := Lib.hid ((CK.out.block w.heap.size (by omega) (fun e => by cases e; omega)).trans PB7.out)
        have QB9 := Lib.hid ((CK.out.block qb (by omega) (fun e => by cases e; omega)).trans QB7.out)
        have hsz9 := CK.out.size
        clear LK CK PB7 QB7 C7
        go_wp2_with fail
        go_loopw [17] (fun i wr => ∃ k : Nat, k ≤ rs.length ∧ i = .int .i64 k ∧ LAt wr g (rs.length + 1) (fun j => if j < k then 1 + ((j : Int) + plc W) % 8 else f9 j) ∧ Chg w8 wr (some g)) (fun i _ => rs.length - (intOf i).toNat)
        case atStart => exact ⟨0, by omega, rfl, LQ9.out.congr (fun j hj => by simp), Chg.refl _ _⟩
        case round =>
          obtain ⟨k3, hk3', rfl, hl, hC⟩ := hrel
          have hPB := (hC.block w.heap.size (by omega) (fun e => by cases e; omega)).trans PB9.out
          have hQB := (hC.block qb (by omega) (fun e => by cases e; omega)).trans QB9.out
          have p0 : wr.cell? ⟨w.heap.size, 0, none⟩ = some (.int .i64 W) := by rw [cell_of_row _ _ _ _ _ _ hPB]; rfl
          have p2 : wr.cell? ⟨w.heap.size, 2, none⟩ = some (.slice A rs.length cap) := by rw [cell_of_row _ _ _ _ _ _ hPB]; rfl
          have CT := Lib.hid (CW.out.trans_new hC (show w.heap.size ≤ g by omega))
          have CK := Lib.hid hC
          have LK := Lib.hid hl
          have hszt := hC.size
          by_cases hlt3 : k3 < rs.length
          · have lf := hl.free k3
            have lc := hl.cell k3 (by omega)
            have hk5 : (k3 : Int) < (rs.length : Int) + 1 := by omega
            have hpl := plc_range W
            clear hl hC hPB hQB
            go_wp2_with (go_at_call 12; refine (place_any _ W hW1 hW2).mono ?_; rintro e w' ⟨rfl, rfl⟩)
            go_roundw
            case rel => exact ⟨k3 + 1, by omega, by go_num, (LK.out.set k3 (1 + ((k3 : Int) + plc W) % 8)).congr (fun j _ => setf (fun j => 1 + ((j : Int) + plc W) % 8) f9 k3 j), CK.out.set k3 _⟩
            case measure => simp [intOf]; omega
          · have hk5 : decide ((k3 : Int) < (rs.length : Int)) = false := by simp only [decide_eq_false_iff_not]; omega
            obtain ⟨rs3, hl3, S3⟩ : ∃ rs3 : List Int, rs3.length = rs.length ∧ Hid (Ri wr (.slice (some ⟨g, 0, none⟩) rs.length cap2) rs3) := ⟨(List.range rs.length).map fun j : Nat => 1 + ((j : Int) + plc W) % 8, by simp, Lib.hid (hl.sl rs.length cap2 (by omega) (by omega) hf _ (by simp) (fun j hj => by rw [if_pos (by omega)]; simp [nth, hj]))⟩
            have q0 : wr.cell? ⟨qb, 0, none⟩ = some (.int .i64 W) := by rw [cell_of_row _ _ _ _ _ _ hQB]; rfl
            have q1 : wr.cell? ⟨qb, 1, none⟩ = some (.int .i64 S) := by rw [cell_of_row _ _ _ _ _ _ hQB]; rfl
            have q2 : wr.cell? ⟨qb, 2, none⟩ = some (.slice (some ⟨g, 0, none⟩) rs.length cap2) := by rw [cell_of_row _ _ _ _ _ _ hQB]; rfl
            have HQ := Lib.hid hQB
            clear hl hC hPB hQB LK
            go_wp2_with fail
            refine (new_any wr W S _ rs3 S3.out).mono ?_
            intro e w12 hN
            cases hm3 : may W S rs3 with
            | false =>
              rcases hN with ⟨_, rfl, hC⟩ | ⟨h, _⟩
              case inr => rw [hm3] at h; cases h
              have HM3 := Lib.hid hm3
              have S12 := Lib.hid (Chg.sl S3.out hC)
              have hQ12 := (hC.block qb (by omega) (by simp)).trans HQ.out
              have C12 := Lib.hid (CT.out.trans hC)
              clear hC hm3 q0 q1 q2
              have q0 : w12.cell? ⟨qb, 0, none⟩ = some (.int .i64 W) := by rw [cell_of_row _ _ _ _ _ _ hQ12]; rfl
              have q1 : w12.cell? ⟨qb, 1, none⟩ = some (.int .i64 S) := by rw [cell_of_row _ _ _ _ _ _ hQ12]; rfl
              have q2 : w12.cell? ⟨qb, 2, none⟩ = some (.slice (some ⟨g, 0, none⟩) rs.length cap2) := by rw [cell_of_row _ _ _ _ _ _ hQ12]; rfl
              clear hQ12
              go_wp2_with fail
              refine (rnew_any w12 W S _ rs3 S12.out).mono ?_
              intro e w13 hN
              rcases hN with ⟨_, rfl, hC⟩ | ⟨h, _⟩
              case inr => rw [HM3.out] at h; cases h
              have C13 := Lib.hid (C12.out.trans hC)
              clear hC
              go_wp2
              go_ret
              exact ⟨rfl, C13.out⟩
            | true =>
              rcases hN with ⟨h, _⟩ | ⟨_, b12, F12, rfl, _, _, _, hC⟩
              case inl => rw [hm3] at h; cases h
              have HM3 := Lib.hid hm3
              have S12 := Lib.hid (Chg.sl S3.out hC)
              have hQ12 := (hC.block qb (by omega) (by simp)).trans HQ.out
              have C12 := Lib.hid (CT.out.trans hC)
              clear hC hm3 q0 q1 q2
              have q0 : w12.cell? ⟨qb, 0, none⟩ = some (.int .i64 W) := by rw [cell_of_row _ _ _ _ _ _ hQ12]; rfl
              have q1 : w12.cell? ⟨qb, 1, none⟩ = some (.int .i64 S) := by rw [cell_of_row _ _ _ _ _ _ hQ12]; rfl
              have q2 : w12.cell? ⟨qb, 2, none⟩ = some (.slice (some ⟨g, 0, none⟩) rs.length cap2) := by rw [cell_of_row _ _ _ _ _ _ hQ12]; rfl
              clear hQ12
              go_wp2_with fail
              refine (rnew_any w12 W S _ rs3 S12.out).mono ?_
              intro e w13 hN
              rcases hN with ⟨h, _⟩ | ⟨_, b13, F13, rfl, _, _, _, hC⟩
              case inl => rw [HM3.out] at h; cases h
              have C13 := Lib.hid (C12.out.trans hC)
              clear hC
              go_wp2
              go_ret
              exact ⟨rfl, C13.out⟩
  | true =>
    rcases hN with ⟨h, _⟩ | ⟨_, b, F, rfl, hP, hb, hF, hC⟩
    case inl => rw [hm] at h; cases h
    have HMY := Lib.hid hm
    have PB6 := Lib.hid ((hC.block w.heap.size (by omega) (by simp)).trans PB5.out)
    have QB6 := Lib.hid ((hC.block qb hw5 (by simp)).trans QB5.out)
    have LQ6 := Lib.hid (LQ5.out.kept hC (by simp))
    have R6 := Lib.hid (Chg.sl R5.out hC)
    have C6 := Lib.hid (C5.out.trans hC)
    have hsz6 := hC.size
    have P6 := Lib.hid hP
    have hbF := Lib.hid (And.intro hb hF)
    clear hP hb hF
    clear hC hm PB5 QB5 LQ5 R5 C5
    have p0 : w6.cell? ⟨w.heap.size, 0, none⟩ = some (.int .i64 W) := by rw [cell_of_row _ _ _ _ _ _ PB6.out]; rfl
    have p1 : w6.cell? ⟨w.heap.size, 1, none⟩ = some (.int .i64 S) := by rw [cell_of_row _ _ _ _ _ _ PB6.out]; rfl
    have p2 : w6.cell? ⟨w.heap.size, 2, none⟩ = some (.slice A rs.length cap) := by rw [cell_of_row _ _ _ _ _ _ PB6.out]; rfl
    go_wp2_with fail
    refine (rnew_any w6 W S _ rs R6.out).mono ?_
    intro e w7 hN
    rcases hN with ⟨h, _⟩ | ⟨_, b2, F2, rfl, hP2, hb2, hF2, hC⟩
    case inl => rw [HMY.out] at h; cases h
    clear hP2 hb2 hF2
    have PB7 := Lib.hid ((hC.block w.heap.size (by omega) (by simp)).trans PB6.out)
    have QB7 := Lib.hid ((hC.block qb (by omega) (by simp)).trans QB6.out)
    have LQ7 := Lib.hid (LQ6.out.kept hC (by simp))
    have R7 := Lib.hid (Chg.sl R6.out hC)
    have C7 := Lib.hid (C6.out.trans hC)
    have hsz7 := hC.size
    have P7 := Lib.hid (P6.out.kept hC (by simp) (fun _ _ => by simp))
    clear P6
    clear hC PB6 QB6 LQ6 R6 C6 p0 p1 p2
    have l7 := LQ7.out.cell rs.length (by omega)
    rw [nth_append_end] at l7
    have hnb1 : (rs.length : Int) < (rs.length : Int) + 1 := by omega
    go_wp2_with fail
    clear l7
    go_loopw [10, 11] (fun ok i wr => ∃ k : Nat, k ≤ rs.length ∧ i = .int .i64 k ∧ ok = .bool true ∧ LAt wr g (rs.length + 1) (fun j => if j < k then 99 else nth (rs ++ [-77]) j) ∧ Chg w7 wr (some g)) (fun _ i _ => rs.length - (intOf i).toNat)
    case atStart => exact ⟨0, by omega, rfl, rfl, LQ7.out.congr (fun j hj => by simp), Chg.refl _ _⟩
    case round =>
      obtain ⟨k, hk, rfl, rfl, hl, hC⟩ := hrel
      have p2 : wr.cell? ⟨w.heap.size, 2, none⟩ = some (.slice A rs.length cap) := by rw [cell_of_row _ _ _ _ _ _ ((hC.block w.heap.size (by omega) (fun e => by cases e; omega)).trans PB7.out)]; rfl
      have CW := Lib.hid (C7.out.trans_new hC (show w.heap.size ≤ g by omega))
      by_cases hlt : k < rs.length
      · obtain ⟨ab, ao, rfl, hcell⟩ := (Chg.sl H.out CW.out).at_ k hlt
        have lc := hl.cell k (by omega)
        rw [if_neg (by omega), nth_append_left hlt] at lc
        have lf := hl.free k
        have LK := Lib.hid hl
        have CK := Lib.hid hC
        clear hl hC
        have hk1 : (k : Int) < (rs.length : Int) + 1 := by omega
        have hk2 : (k : Int) < (rs.length : Int) := by omega
        go_wp2
        go_quiet (fail)
        go_wp2
        go_roundw
        case rel => exact ⟨k + 1, by omega, by go_num, rfl, ((LK.out.drewN _).set k 99).congr (fun j _ => set99 _ k j), (CK.out.drewN _).set k _⟩
        case measure => simp [intOf]; omega
      · have LK := Lib.hid hl
        have CK := Lib.hid hC
        clear hl hC LQ7
        have hk2 : decide ((k : Int) < (rs.length : Int)) = false := by simp only [decide_eq_false_iff_not]; omega
        obtain ⟨w8, e8⟩ : ∃ x, x = wr := ⟨wr, rfl⟩
        subst e8
        obtain ⟨f9, LQ9⟩ : ∃ f9, Hid (LAt w8 g (rs.length + 1) f9) := ⟨_, LK⟩
        have PB9 := Lib.hid ((CK.out.block w.heap.size (by omega) (fun e => by cases e; omega)).trans PB7.out)
        have QB9 := Lib.hid ((CK.out.block qb (by omega) (fun e => by cases e; omega)).trans QB7.out)
        have hsz9 := CK.out.size
        have P9 := Lib.hid (P7.out.kept CK.out (fun e => by cases e; have := hbF.out.1; omega) (fun x hx e => by cases e; have := hbF.out.2 _ hx; omega))
        clear P7
        clear LK CK PB7 QB7 C7
        go_wp2_with fail
        go_loopw [10, 12, 13, 14, 15, 16] (fun ok i _ _ _ _ wr => ∃ k : Nat, k ≤ rs.length ∧ i = .int .i64 k ∧ ok = .bool true ∧ Chg w8 wr none) (fun _ i _ _ _ _ _ => rs.length - (intOf i).toNat)
        case atStart => exact ⟨0, by omega, rfl, rfl, Chg.refl _ _⟩
        case round =>
          obtain ⟨k2, hk2', rfl, rfl, hC⟩ := hrel
          have p2 : wr.cell? ⟨w.heap.size, 2, none⟩ = some (.slice A rs.length cap) := by rw [cell_of_row _ _ _ _ _ _ ((hC.block w.heap.size (by omega) (by simp)).trans PB9.out)]; rfl
          have CQ := Lib.hid hC
          have CWQ := Lib.hid (CW.out.trans hC)
          have hszq := hC.size
          clear hC
          by_cases hlt2 : k2 < rs.length
          · obtain ⟨ab, ao, rfl, hcell⟩ := (Chg.sl H.out CWQ.out).at_ k2 hlt2
            have hk3 : (k2 : Int) < (rs.length : Int) := by omega
            go_wp2_with fail
            refine (read_ok _ b F _ (P9.out.kept CQ.out (by simp) (fun _ _ => by simp)) _ (nth_mem hlt2)).mono ?_
            rintro e w11 ⟨v11, rfl, _, _, hC⟩
            have CK := Lib.hid (CQ.out.trans hC)
            clear hC
            go_wp2
            go_roundw
            case rel => exact ⟨k2 + 1, by omega, by go_num, rfl, CK.out⟩
            case measure => simp [intOf]; omega
          · have hk4 : decide ((k2 : Int) < (rs.length : Int)) = false := by simp only [decide_eq_false_iff_not]; omega
            obtain ⟨w9, e8⟩ : ∃ x, x = wr := ⟨wr, rfl⟩
            subst e8
            have PBq := Lib.hid ((CQ.out.block w.heap.size (by omega) (by simp)).trans PB9.out)
            have QBq := Lib.hid ((CQ.out.block qb (by omega) (by simp)).trans QB9.out)
            have LQq := Lib.hid (LQ9.out.kept CQ.out (by simp))
            clear PB9 QB9 LQ9 P9 CQ CW
            go_wp2_with fail
            go_loopw [17] (fun i wr => ∃ k : Nat, k ≤ rs.length ∧ i = .int .i64 k ∧ LAt wr g (rs.length + 1) (fun j => if j < k then 1 + ((j : Int) + plc W) % 8 else f9 j) ∧ Chg w9 wr (some g)) (fun i _ => rs.length - (intOf i).toNat)
            case atStart => exact ⟨0, by omega, rfl, LQq.out.congr (fun j hj => by simp), Chg.refl _ _⟩
            case round =>
              obtain ⟨k3, hk3', rfl, hl, hC⟩ := hrel
              have hPB := (hC.block w.heap.size (by omega) (fun e => by cases e; omega)).trans PBq.out
              have hQB := (hC.block qb (by omega) (fun e => by cases e; omega)).trans QBq.out
              have p0 : wr.cell? ⟨w.heap.size, 0, none⟩ = some (.int .i64 W) := by rw [cell_of_row _ _ _ _ _ _ hPB]; rfl
              have p2 : wr.cell? ⟨w.heap.size, 2, none⟩ = some (.slice A rs.length cap) := by rw [cell_of_row _ _ _ _ _ _ hPB]; rfl
              have CT := Lib.hid (CWQ.out.trans_new hC (show w.heap.size ≤ g by omega))
              have CK := Lib.hid hC
              have LK := Lib.hid hl
              have hszt := hC.size
              by_cases hlt3 : k3 < rs.length
              · have lf := hl.free k3
                have lc := hl.cell k3 (by omega)
                have hk5 : (k3 : Int) < (rs.length : Int) + 1 := by omega
                have hpl := plc_range W
                clear hl hC hPB hQB
                go_wp2_with (go_at_call 12; refine (place_any _ W hW1 hW2).mono ?_; rintro e w' ⟨rfl, rfl⟩)
                go_roundw
                case rel => exact ⟨k3 + 1, by omega, by go_num, (LK.out.set k3 (1 + ((k3 : Int) + plc W) % 8)).congr (fun j _ => setf (fun j => 1 + ((j : Int) + plc W) % 8) f9 k3 j), CK.out.set k3 _⟩
                case measure => simp [intOf]; omega
              · have hk5 : decide ((k3 : Int) < (rs.length : Int)) = false := by simp only [decide_eq_false_iff_not]; omega
                obtain ⟨rs3, hl3, S3⟩ : ∃ rs3 : List Int, rs3.length = rs.length ∧ Hid (Ri wr (.slice (some ⟨g, 0, none⟩) rs.length cap2) rs3) := ⟨(List.range rs.length).map fun j : Nat => 1 + ((j : Int) + plc W) % 8, by simp, Lib.hid (hl.sl rs.length cap2 (by omega) (by omega) hf _ (by simp) (fun j hj => by rw [if_pos (by omega)]; simp [nth, hj]))⟩
                have q0 : wr.cell? ⟨qb, 0, none⟩ = some (.int .i64 W) := by rw [cell_of_row _ _ _ _ _ _ hQB]; rfl
                have q1 : wr.cell? ⟨qb, 1, none⟩ = some (.int .i64 S) := by rw [cell_of_row _ _ _ _ _ _ hQB]; rfl
                have q2 : wr.cell? ⟨qb, 2, none⟩ = some (.slice (some ⟨g, 0, none⟩) rs.length cap2) := by rw [cell_of_row _ _ _ _ _ _ hQB]; rfl
                have HQ := Lib.hid hQB
                clear hl hC hPB hQB LK
                go_wp2_with fail
                refine (new_any wr W S _ rs3 S3.out).mono ?_
                intro e w12 hN
                cases hm3 : may W S rs3 with
                | false =>
                  rcases hN with ⟨_, rfl, hC⟩ | ⟨h, _⟩
                  case inr => rw [hm3] at h; cases h
                  have HM3 := Lib.hid hm3
                  have S12 := Lib.hid (Chg.sl S3.out hC)
                  have hQ12 := (hC.block qb (by omega) (by simp)).trans HQ.out
                  have C12 := Lib.hid (CT.out.trans hC)
                  clear hC hm3 q0 q1 q2
                  have q0 : w12.cell? ⟨qb, 0, none⟩ = some (.int .i64 W) := by rw [cell_of_row _ _ _ _ _ _ hQ12]; rfl
                  have q1 : w12.cell? ⟨qb, 1, none⟩ = some (.int .i64 S) := by rw [cell_of_row _ _ _ _ _ _ hQ12]; rfl
                  have q2 : w12.cell? ⟨qb, 2, none⟩ = some (.slice (some ⟨g, 0, none⟩) rs.length cap2) := by rw [cell_of_row _ _ _ _ _ _ hQ12]; rfl
                  clear hQ12
                  go_wp2_with fail
                  refine (rnew_any w12 W S _ rs3 S12.out).mono ?_
                  intro e w13 hN
                  rcases hN with ⟨_, rfl, hC⟩ | ⟨h, _⟩
                  case inr => rw [HM3.out] at h; cases h
                  have C13 := Lib.hid (C12.out.trans hC)
                  clear hC
                  go_wp2
                  go_ret
                  exact ⟨rfl, C13.out⟩
                | true =>
                  rcases hN with ⟨h, _⟩ | ⟨_, b12, F12, rfl, _, _, _, hC⟩
                  case inl => rw [hm3] at h; cases h
                  have HM3 := Lib.hid hm3
                  have S12 := Lib.hid (Chg.sl S3.out hC)
                  have hQ12 := (hC.block qb (by omega) (by simp)).trans HQ.out
                  have C12 := Lib.hid (CT.out.trans hC)
                  clear hC hm3 q0 q1 q2
                  have q0 : w12.cell? ⟨qb, 0, none⟩ = some (.int .i64 W) := by rw [cell_of_row _ _ _ _ _ _ hQ12]; rfl
                  have q1 : w12.cell? ⟨qb, 1, none⟩ = some (.int .i64 S) := by rw [cell_of_row _ _ _ _ _ _ hQ12]; rfl
                  have q2 : w12.cell? ⟨qb, 2, none⟩ = some (.slice (some ⟨g, 0, none⟩) rs.length cap2) := by rw [cell_of_row _ _ _ _ _ _ hQ12]; rfl
                  clear hQ12
                  go_wp2_with fail
                  refine (rnew_any w12 W S _ rs3 S12.out).mono ?_
                  intro e w13 hN
                  rcases hN with ⟨h, _⟩ | ⟨_, b13, F13, rfl, _, _, _, hC⟩
                  case inl => rw [HM3.out] at h; cases h
                  have C13 := Lib.hid (C12.out.trans hC)
                  clear hC
                  go_wp2
                  go_ret
                  exact ⟨rfl, C13.out⟩
end Go.Proofs.Ytfoofipkbijajaa.Sa
