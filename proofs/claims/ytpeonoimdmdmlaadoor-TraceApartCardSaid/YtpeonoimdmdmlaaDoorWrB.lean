/- wire: what writes a number: contracts. No statement of the seat is proved here. -/
import Derived.Test.YtpeonoimdmdmlaaDoorWrA
import Derived.RangeFuncBox
namespace Go.Proofs.YtpeonoimdmdmlaaDoor.Tr
open Go.RowKit Go.Proofs.YtpeonoimdmdmlaaDoor.Kit
set_option linter.unusedSimpArgs false
set_option linter.unusedVariables false
/-- A number's bytes, the lowest first. -/
def le (k : Nat) (x : Int) : List Int := (List.range k).map fun (i : Nat) => IntKind.u8.wrap (x / 2 ^ (8 * (i : Int)).toNat)
theorem le_zero (x : Int) : le 0 x = [] := rfl
theorem le_succ (k : Nat) (x : Int) : le (k + 1) x = le k x ++ [IntKind.u8.wrap (x / 2 ^ (8 * (k : Int)).toNat)] := by simp [le, List.range_succ]
theorem le_len (k : Nat) (x : Int) : (le k x).length = k := by simp [le]
theorem grown_set (W : World) (b j : Nat) (v : Value) : W.grownBy (W.setCell ⟨b, j, none⟩ v) (some b) := ⟨rfl, rfl, rfl, (KeepsWalks.setCell W _ v).size, fun k _ hk => Below.heap_setCell _ _ _ k (fun e => hk (by rw [e]))⟩
theorem wrap_u64 {x : Int} (h0 : 0 ≤ x) (h1 : x < 18446744073709551616) : IntKind.u64.wrap x = x := by simp [IntKind.wrap, IntKind.signed, IntKind.bits]; omega
/-- Nothing turned but block b and rows of bytes. -/
def Onl (b : Nat) (w w' : World) : Prop := ∀ i, i < w.heap.size → i ≠ b → (∀ cs f, w.heap[i]? ≠ some (.cells cs 5 f)) → w'.heap[i]? = w.heap[i]?
theorem Onl.trans {b : Nat} {w w1 w2 : World} (h : Onl b w w1) (hs : w.heap.size ≤ w1.heap.size) (k : Onl b w1 w2) : Onl b w w2 := fun i hi hb hn =>
  (k i (by omega) hb (fun cs f e => hn cs f ((h i hi hb hn).symm.trans e))).trans (h i hi hb hn)
theorem Onl.refl (b : Nat) (w : World) : Onl b w w := fun _ _ _ _ => rfl
theorem info5 : (Tryd.prog.info? 5).map (fun i => (i.zero, i.size, i.bytes)) = some (some (.int .u8 0), 1, 1) := by kernel_rfl
theorem info_parts {P : Program} {t : TypeId} {z : Value} {n b : Nat} (h : (P.info? t).map (fun i => (i.zero, i.size, i.bytes)) = some (some z, n, b)) : ∃ i, P.info? t = some i ∧ i.zero = some z ∧ i.size = n ∧ i.bytes = b := by
  cases hi : P.info? t with
  | none => rw [hi] at h; cases h
  | some i => rw [hi] at h; simp at h; exact ⟨i, rfl, h.1, h.2.1, h.2.2⟩
/-- Behind an append to the writer's slice, and its store. -/
theorem wr_app {wr w' : World} {n₀ b lim m : Nat} {M : List Int} {v v' : Value} {y : Int} (lo : n₀ ≤ b) (hb : wr.heap[b]? = some (.cells #[.int .i64 lim, v, .map (some m), .int .i64 0] 55 (0, 0))) (ho : By wr n₀ v M) (hm : wr.heap[m]? = some (.map #[] 0)) (hn : n₀ ≤ wr.heap.size)
    (hown : w'.ownsRow n₀ 5 1 v' (M.length + 1) (rows eb M ++ [.int .u8 y])) (htwo : Two (wr.drew.alloc (.cells #[.int .u8 y] 5)) w' v v' M.length 1) :
    w'.heap[b]? = some (.cells #[.int .i64 lim, v, .map (some m), .int .i64 0] 55 (0, 0)) ∧ Wr (w'.setCell ⟨b, 1, none⟩ v') n₀ b lim (M ++ [y]) ∧ Below n₀ wr (w'.setCell ⟨b, 1, none⟩ v') ∧ Onl b wr (w'.setCell ⟨b, 1, none⟩ v') := by
  have hbl := (Array.getElem?_eq_some_iff.1 hb).1
  have hml := (Array.getElem?_eq_some_iff.1 hm).1
  have hg := htwo.grown
  have hb2 : w'.heap[b]? = some (.cells #[.int .i64 lim, v, .map (some m), .int .i64 0] 55 (0, 0)) := (hg.block b (by simp; omega) (fun e => ho.ne hb (by decide) e.symm)).trans ((Below.heap_alloc wr.drew _ b hbl).trans hb)
  have hm2 : w'.heap[m]? = some (.map #[] 0) := (hg.block m (by simp; omega) (fun e => ho.nmap hm e.symm)).trans ((Below.heap_alloc wr.drew _ m hml).trans hm)
  have hbm : b ≠ m := fun e => by rw [e, hm] at hb; cases hb
  have ho2 : By w' n₀ v' (M ++ [y]) := by
    show w'.ownsRow n₀ 5 1 v' (M ++ [y]).length (rows eb (M ++ [y]))
    rw [rows_append, List.length_append]; exact hown
  refine ⟨hb2, ⟨lo, v', m, heap_setCell_same w' b 1 _ _ v' hb2, ?_, (Below.heap_setCell _ _ _ _ (show m ≠ b from fun e => hbm e.symm)).trans hm2⟩, ?_, ?_⟩
  · exact World.ownsRow.kept ho2 (grown_set w' b 1 v') (.inr (ho2.ne hb2 (by decide)))
  · refine (((Below.refl n₀ wr).drew.alloc (o := .cells #[.int .u8 y] 5) hn).grown hg (by simp; omega) (fun k e => ?_)).setCell (p := ⟨b, 1, none⟩) lo v'
    rcases ho.2 with ⟨rfl, _⟩ | ⟨g, cap, cur, rfl, h1, _⟩
    · cases e
    · obtain rfl : g = k := by simpa [Value.ownBlock] using e
      exact h1
  · intro i hi hb' hn5
    refine (Below.heap_setCell _ _ _ _ hb').trans ((hg.block i (by simp; omega) (fun e => ?_)).trans (Below.heap_alloc wr.drew _ i hi))
    rcases ho.2 with ⟨rfl, _⟩ | ⟨g, cap, cur, rfl, h1, hgb, _⟩
    · cases e
    · obtain rfl : i = g := by simpa [Value.ownBlock] using e
      exact hn5 _ _ hgb
theorem Wr.drewN {w : World} {n₀ b lim : Nat} {L : List Int} (h : Wr w n₀ b lim L) (q : Nat) : Wr (w.drewN q) n₀ b lim L := ⟨h.lo, h.at_⟩
theorem below_drewN {B : Nat} {a w : World} (h : Below B a w) (q : Nat) : Below B a (w.drewN q) := ⟨h.os, h.tape, h.output, h.size, h.block⟩
set_option maxHeartbeats 4000000 in
theorem put64_any (w : World) (n₀ b lim : Nat) (L : List Int) (h : Wr w n₀ b lim L) (x : Int) (hx0 : 0 ≤ x) (hx : x < 18446744073709551616) (hn : L.length + 8 ≤ lim) (hl : lim ≤ 1000000) (hn0 : n₀ ≤ w.heap.size) :
    Calls Tryd.prog 23 #[.pointer (some ⟨b, 0, none⟩), .int .u64 x] w fun e w' => (∃ v, e = .returned v) ∧ Wr w' n₀ b lim (L ++ le 8 x) ∧ Below n₀ w w' ∧ Onl b w w' := by
  have H := Lib.hid h; clear h
  obtain ⟨i0, hi, hz0, hz1, hz2⟩ := info_parts info5
  go_enter Tryd.func23, Tryd.ntmps23
  go_wp2_with (first
    | (go_at_call 26; refine (size64_any _).mono ?_; rintro e w' ⟨rfl, rfl⟩)
    | (go_at_call 27; refine (room_any _ n₀ b lim L H.out 8 hn hl).mono ?_; rintro e w' ⟨rfl, q, rfl⟩))
  have I0 := Lib.hid (show Wr (w.drewN q) n₀ b lim (L ++ le 0 x) ∧ Below n₀ w (w.drewN q) ∧ Onl b w (w.drewN q) from ⟨by rw [le_zero, List.append_nil]; exact H.out.drewN q, below_drewN (Below.refl n₀ w) q, Onl.refl b w⟩)
  generalize w.drewN q = w1 at *
  go_loopw [12] (fun u wr => ∃ k : Nat, k ≤ 8 ∧ u = .int .i64 k ∧ Hid (Wr wr n₀ b lim (L ++ le k x) ∧ Below n₀ w wr ∧ Onl b w wr)) (fun u _ => 8 - (intOf u).toNat)
  case atStart => exact ⟨0, by omega, rfl, I0⟩
  case round =>
    obtain ⟨k, hk, rfl, I⟩ := hrel
    clear I0
    by_cases hlt : k < 8
    · obtain ⟨v, m, hb, ho, hm⟩ := I.out.1.at_
      have LO := I.out.1.lo
      obtain ⟨n, hn1⟩ : ∃ n, n = (L ++ le k x).length := ⟨_, rfl⟩
      have hlen : n < 1000000 := by rw [hn1, List.length_append, le_len]; omega
      have hws := I.out.2.1.size
      have ST := Lib.hid (show ∀ v' w', w'.ownsRow n₀ 5 1 v' (n + 1) (rows eb (L ++ le k x) ++ [.int .u8 (IntKind.u8.wrap (x / 2 ^ (8 * (k : Int)).toNat))]) → Two ((wr.alloc (.cells #[.int .u8 (IntKind.u8.wrap (x / 2 ^ (8 * (k : Int)).toNat))] 5)).drew) w' v v' n 1 → w'.heap[b]? = some (.cells #[.int .i64 lim, v, .map (some m), .int .i64 0] 55 (0, 0)) ∧ Wr (w'.setCell ⟨b, 1, none⟩ v') n₀ b lim (L ++ le (k + 1) x) ∧ Below n₀ w (w'.setCell ⟨b, 1, none⟩ v') ∧ Onl b w (w'.setCell ⟨b, 1, none⟩ v') from fun v' w' h1 h2 => by
        rw [le_succ, ← List.append_assoc]
        obtain ⟨a1, a2, a3, a4⟩ := wr_app LO hb ho hm (by omega) (by rw [← hn1]; exact h1) (by rw [← hn1]; exact h2)
        exact ⟨a1, a2, I.out.2.1.trans a3, I.out.2.2.trans hws a4⟩)
      obtain ⟨A, c, hv⟩ := ho.slice
      rw [← hn1] at hv
      subst hv
      have c1 : wr.cell? ⟨b, 1, none⟩ = some (.slice A n c) := by rw [cell_of_row _ _ _ _ _ _ hb]; rfl
      have f1 := frozen_of_row wr b 1 _ _ hb
      have OW := Lib.hid (show (wr.alloc (.cells #[.int .u8 (IntKind.u8.wrap (x / 2 ^ (8 * (k : Int)).toNat))] 5)).drew.ownsRow n₀ 5 1 (.slice A n c) n (rows eb (L ++ le k x)) from by
        have := World.ownsRow.alloc (w := wr) (show wr.ownsRow n₀ 5 1 (.slice A n c) n (rows eb (L ++ le k x)) from hn1 ▸ ho) (.cells #[.int .u8 (IntKind.u8.wrap (x / 2 ^ (8 * (k : Int)).toNat))] 5)
        exact this)
      have hbl : b < wr.heap.size := I.out.1.lt
      have TN := Lib.hid (fun (q : Nat) (u : Value) (hu : ([.int .u8 (IntKind.u8.wrap (x / 2 ^ (8 * (k : Int)).toNat))] : List Value)[q]? = some u) => show (wr.alloc (.cells #[.int .u8 (IntKind.u8.wrap (x / 2 ^ (8 * (k : Int)).toNat))] 5)).drew.cell? ((⟨wr.heap.size, 0, none⟩ : Addr).add q) = some u by
        rw [Addr.add_mid, Nat.zero_add]
        refine (cell_of_row (wr.alloc (.cells #[.int .u8 (IntKind.u8.wrap (x / 2 ^ (8 * (k : Int)).toNat))] 5)).drew wr.heap.size q _ _ _ (heap_alloc_last wr (.cells #[.int .u8 (IntKind.u8.wrap (x / 2 ^ (8 * (k : Int)).toNat))] 5))).trans ?_
        show ([.int .u8 (IntKind.u8.wrap (x / 2 ^ (8 * (k : Int)).toNat))] : List Value).toArray[q]? = some u
        rw [List.getElem?_toArray]; exact hu)
      have QA := Lib.hid (show ∀ u ∈ ([.int .u8 (IntKind.u8.wrap (x / 2 ^ (8 * (k : Int)).toNat))] : List Value), u.oneCell' = true by intro u hu; simp only [List.mem_cons, List.not_mem_nil, or_false] at hu; subst hu; rfl)
      have QB := Lib.hid (show n + 1 ≤ maxLen by simp only [maxLen]; omega)
      have QC := Lib.hid (show (n + 1) * 1 ≤ 140737488355328 by omega)
      have QD := Lib.hid (show n₀ ≤ (wr.alloc (.cells #[.int .u8 (IntKind.u8.wrap (x / 2 ^ (8 * (k : Int)).toNat))] 5)).drew.heap.size by simp; omega)
      have hwr := wrap_small (n := 8 * (k : Int)) (by omega) (by omega)
      clear hb ho hm hn1
      have hxw : IntKind.u64.wrap x = x := wrap_u64 hx0 (by omega)
      go_wp2_with fail
      go_region_law (refine step_append_two _ rfl (.tmp 19) (.tmp 25) 39 rfl n₀ 5 i0 (.int .u8 0) 1 1 Tryd.underlying39 hi hz0 hz1 hz2 rfl (by decide) (.slice A n c) n (rows eb (L ++ le k x)) (by simp [Act.eval, Act.put]) OW.out ⟨wr.heap.size, 0, none⟩ 1 1 [.int .u8 (IntKind.u8.wrap (x / 2 ^ (8 * (k : Int)).toNat))] (by simp [Act.eval, Act.put]) rfl TN.out QA.out (by decide) QB.out QC.out QD.out ?_; intro v' w' hown htwo; obtain ⟨HB2, HW2⟩ := ST.out v' w' hown htwo; obtain ⟨g2, cap2, rfl⟩ := ownsRow_succ hown; have c12 : w'.cell? ⟨b, 1, none⟩ = some (.slice A n c) := (by rw [cell_of_row _ _ _ _ _ _ HB2]; rfl); have f12 := frozen_of_row w' b 1 _ _ HB2)
      all_goals
        have W2 := Lib.hid HW2
        clear HW2 HB2 hown htwo
        go_wp2
        go_roundw
        case rel => exact ⟨k + 1, by omega, by go_num, W2⟩
        case measure => simp [intOf]; omega
    · obtain rfl : k = 8 := by omega
      go_wp2
      go_end0
      exact ⟨⟨_, rfl⟩, I.out⟩
set_option maxHeartbeats 4000000 in
theorem put8_any (w : World) (n₀ b lim : Nat) (L : List Int) (h : Wr w n₀ b lim L) (x : Int) (hx0 : 0 ≤ x) (hx : x < 256) (hn : L.length + 1 ≤ lim) (hl : lim ≤ 1000000) (hn0 : n₀ ≤ w.heap.size) :
    Calls Tryd.prog 24 #[.pointer (some ⟨b, 0, none⟩), .int .u8 x] w fun e w' => (∃ v, e = .returned v) ∧ Wr w' n₀ b lim (L ++ le 1 x) ∧ Below n₀ w w' ∧ Onl b w w' := by
  have H := Lib.hid h; clear h
  obtain ⟨i0, hi, hz0, hz1, hz2⟩ := info_parts info5
  go_enter Tryd.func24, Tryd.ntmps24
  go_wp2_with (first
    | (go_at_call 28; refine (size8_any _).mono ?_; rintro e w' ⟨rfl, rfl⟩)
    | (go_at_call 27; refine (room_any _ n₀ b lim L H.out 1 hn hl).mono ?_; rintro e w' ⟨rfl, q, rfl⟩))
  have I0 := Lib.hid (show Wr (w.drewN q) n₀ b lim (L ++ le 0 x) ∧ Below n₀ w (w.drewN q) ∧ Onl b w (w.drewN q) from ⟨by rw [le_zero, List.append_nil]; exact H.out.drewN q, below_drewN (Below.refl n₀ w) q, Onl.refl b w⟩)
  generalize w.drewN q = w1 at *
  go_loopw [12] (fun u wr => ∃ k : Nat, k ≤ 1 ∧ u = .int .i64 k ∧ Hid (Wr wr n₀ b lim (L ++ le k x) ∧ Below n₀ w wr ∧ Onl b w wr)) (fun u _ => 1 - (intOf u).toNat)
  case atStart => exact ⟨0, by omega, rfl, I0⟩
  case round =>
    obtain ⟨k, hk, rfl, I⟩ := hrel
    clear I0
    by_cases hlt : k < 1
    · obtain ⟨v, m, hb, ho, hm⟩ := I.out.1.at_
      have LO := I.out.1.lo
      obtain ⟨n, hn1⟩ : ∃ n, n = (L ++ le k x).length := ⟨_, rfl⟩
      have hlen : n < 1000000 := by rw [hn1, List.length_append, le_len]; omega
      have hws := I.out.2.1.size
      have ST := Lib.hid (show ∀ v' w', w'.ownsRow n₀ 5 1 v' (n + 1) (rows eb (L ++ le k x) ++ [.int .u8 (IntKind.u8.wrap (x / 2 ^ (8 * (k : Int)).toNat))]) → Two ((wr.alloc (.cells #[.int .u8 (IntKind.u8.wrap (x / 2 ^ (8 * (k : Int)).toNat))] 5)).drew) w' v v' n 1 → w'.heap[b]? = some (.cells #[.int .i64 lim, v, .map (some m), .int .i64 0] 55 (0, 0)) ∧ Wr (w'.setCell ⟨b, 1, none⟩ v') n₀ b lim (L ++ le (k + 1) x) ∧ Below n₀ w (w'.setCell ⟨b, 1, none⟩ v') ∧ Onl b w (w'.setCell ⟨b, 1, none⟩ v') from fun v' w' h1 h2 => by
        rw [le_succ, ← List.append_assoc]
        obtain ⟨a1, a2, a3, a4⟩ := wr_app LO hb ho hm (by omega) (by rw [← hn1]; exact h1) (by rw [← hn1]; exact h2)
        exact ⟨a1, a2, I.out.2.1.trans a3, I.out.2.2.trans hws a4⟩)
      obtain ⟨A, c, hv⟩ := ho.slice
      rw [← hn1] at hv
      subst hv
      have c1 : wr.cell? ⟨b, 1, none⟩ = some (.slice A n c) := by rw [cell_of_row _ _ _ _ _ _ hb]; rfl
      have f1 := frozen_of_row wr b 1 _ _ hb
      have OW := Lib.hid (show (wr.alloc (.cells #[.int .u8 (IntKind.u8.wrap (x / 2 ^ (8 * (k : Int)).toNat))] 5)).drew.ownsRow n₀ 5 1 (.slice A n c) n (rows eb (L ++ le k x)) from by
        have := World.ownsRow.alloc (w := wr) (show wr.ownsRow n₀ 5 1 (.slice A n c) n (rows eb (L ++ le k x)) from hn1 ▸ ho) (.cells #[.int .u8 (IntKind.u8.wrap (x / 2 ^ (8 * (k : Int)).toNat))] 5)
        exact this)
      have hbl : b < wr.heap.size := I.out.1.lt
      have TN := Lib.hid (fun (q : Nat) (u : Value) (hu : ([.int .u8 (IntKind.u8.wrap (x / 2 ^ (8 * (k : Int)).toNat))] : List Value)[q]? = some u) => show (wr.alloc (.cells #[.int .u8 (IntKind.u8.wrap (x / 2 ^ (8 * (k : Int)).toNat))] 5)).drew.cell? ((⟨wr.heap.size, 0, none⟩ : Addr).add q) = some u by
        rw [Addr.add_mid, Nat.zero_add]
        refine (cell_of_row (wr.alloc (.cells #[.int .u8 (IntKind.u8.wrap (x / 2 ^ (8 * (k : Int)).toNat))] 5)).drew wr.heap.size q _ _ _ (heap_alloc_last wr (.cells #[.int .u8 (IntKind.u8.wrap (x / 2 ^ (8 * (k : Int)).toNat))] 5))).trans ?_
        show ([.int .u8 (IntKind.u8.wrap (x / 2 ^ (8 * (k : Int)).toNat))] : List Value).toArray[q]? = some u
        rw [List.getElem?_toArray]; exact hu)
      have QA := Lib.hid (show ∀ u ∈ ([.int .u8 (IntKind.u8.wrap (x / 2 ^ (8 * (k : Int)).toNat))] : List Value), u.oneCell' = true by intro u hu; simp only [List.mem_cons, List.not_mem_nil, or_false] at hu; subst hu; rfl)
      have QB := Lib.hid (show n + 1 ≤ maxLen by simp only [maxLen]; omega)
      have QC := Lib.hid (show (n + 1) * 1 ≤ 140737488355328 by omega)
      have QD := Lib.hid (show n₀ ≤ (wr.alloc (.cells #[.int .u8 (IntKind.u8.wrap (x / 2 ^ (8 * (k : Int)).toNat))] 5)).drew.heap.size by simp; omega)
      have hwr := wrap_small (n := 8 * (k : Int)) (by omega) (by omega)
      clear hb ho hm hn1
      have hxw : IntKind.u64.wrap x = x := wrap_u64 hx0 (by omega)
      go_wp2_with fail
      go_region_law (refine step_append_two _ rfl (.tmp 19) (.tmp 26) 39 rfl n₀ 5 i0 (.int .u8 0) 1 1 Tryd.underlying39 hi hz0 hz1 hz2 rfl (by decide) (.slice A n c) n (rows eb (L ++ le k x)) (by simp [Act.eval, Act.put]) OW.out ⟨wr.heap.size, 0, none⟩ 1 1 [.int .u8 (IntKind.u8.wrap (x / 2 ^ (8 * (k : Int)).toNat))] (by simp [Act.eval, Act.put]) rfl TN.out QA.out (by decide) QB.out QC.out QD.out ?_; intro v' w' hown htwo; obtain ⟨HB2, HW2⟩ := ST.out v' w' hown htwo; obtain ⟨g2, cap2, rfl⟩ := ownsRow_succ hown; have c12 : w'.cell? ⟨b, 1, none⟩ = some (.slice A n c) := (by rw [cell_of_row _ _ _ _ _ _ HB2]; rfl); have f12 := frozen_of_row w' b 1 _ _ HB2)
      all_goals
        have W2 := Lib.hid HW2
        clear HW2 HB2 hown htwo
        go_wp2
        go_roundw
        case rel => exact ⟨k + 1, by omega, by go_num, W2⟩
        case measure => simp [intOf]; omega
    · obtain rfl : k = 1 := by omega
      go_wp2
      go_end0
      exact ⟨⟨_, rfl⟩, I.out⟩
set_option maxHeartbeats 4000000 in
theorem put32_any (w : World) (n₀ b lim : Nat) (L : List Int) (h : Wr w n₀ b lim L) (x : Int) (hx0 : 0 ≤ x) (hx : x < 4294967296) (hn : L.length + 4 ≤ lim) (hl : lim ≤ 1000000) (hn0 : n₀ ≤ w.heap.size) :
    Calls Tryd.prog 25 #[.pointer (some ⟨b, 0, none⟩), .int .u32 x] w fun e w' => (∃ v, e = .returned v) ∧ Wr w' n₀ b lim (L ++ le 4 x) ∧ Below n₀ w w' ∧ Onl b w w' := by
  have H := Lib.hid h; clear h
  obtain ⟨i0, hi, hz0, hz1, hz2⟩ := info_parts info5
  go_enter Tryd.func25, Tryd.ntmps25
  go_wp2_with (first
    | (go_at_call 29; refine (size32_any _).mono ?_; rintro e w' ⟨rfl, rfl⟩)
    | (go_at_call 27; refine (room_any _ n₀ b lim L H.out 4 hn hl).mono ?_; rintro e w' ⟨rfl, q, rfl⟩))
  have I0 := Lib.hid (show Wr (w.drewN q) n₀ b lim (L ++ le 0 x) ∧ Below n₀ w (w.drewN q) ∧ Onl b w (w.drewN q) from ⟨by rw [le_zero, List.append_nil]; exact H.out.drewN q, below_drewN (Below.refl n₀ w) q, Onl.refl b w⟩)
  generalize w.drewN q = w1 at *
  go_loopw [12] (fun u wr => ∃ k : Nat, k ≤ 4 ∧ u = .int .i64 k ∧ Hid (Wr wr n₀ b lim (L ++ le k x) ∧ Below n₀ w wr ∧ Onl b w wr)) (fun u _ => 4 - (intOf u).toNat)
  case atStart => exact ⟨0, by omega, rfl, I0⟩
  case round =>
    obtain ⟨k, hk, rfl, I⟩ := hrel
    clear I0
    by_cases hlt : k < 4
    · obtain ⟨v, m, hb, ho, hm⟩ := I.out.1.at_
      have LO := I.out.1.lo
      obtain ⟨n, hn1⟩ : ∃ n, n = (L ++ le k x).length := ⟨_, rfl⟩
      have hlen : n < 1000000 := by rw [hn1, List.length_append, le_len]; omega
      have hws := I.out.2.1.size
      have ST := Lib.hid (show ∀ v' w', w'.ownsRow n₀ 5 1 v' (n + 1) (rows eb (L ++ le k x) ++ [.int .u8 (IntKind.u8.wrap (x / 2 ^ (8 * (k : Int)).toNat))]) → Two ((wr.alloc (.cells #[.int .u8 (IntKind.u8.wrap (x / 2 ^ (8 * (k : Int)).toNat))] 5)).drew) w' v v' n 1 → w'.heap[b]? = some (.cells #[.int .i64 lim, v, .map (some m), .int .i64 0] 55 (0, 0)) ∧ Wr (w'.setCell ⟨b, 1, none⟩ v') n₀ b lim (L ++ le (k + 1) x) ∧ Below n₀ w (w'.setCell ⟨b, 1, none⟩ v') ∧ Onl b w (w'.setCell ⟨b, 1, none⟩ v') from fun v' w' h1 h2 => by
        rw [le_succ, ← List.append_assoc]
        obtain ⟨a1, a2, a3, a4⟩ := wr_app LO hb ho hm (by omega) (by rw [← hn1]; exact h1) (by rw [← hn1]; exact h2)
        exact ⟨a1, a2, I.out.2.1.trans a3, I.out.2.2.trans hws a4⟩)
      obtain ⟨A, c, hv⟩ := ho.slice
      rw [← hn1] at hv
      subst hv
      have c1 : wr.cell? ⟨b, 1, none⟩ = some (.slice A n c) := by rw [cell_of_row _ _ _ _ _ _ hb]; rfl
      have f1 := frozen_of_row wr b 1 _ _ hb
      have OW := Lib.hid (show (wr.alloc (.cells #[.int .u8 (IntKind.u8.wrap (x / 2 ^ (8 * (k : Int)).toNat))] 5)).drew.ownsRow n₀ 5 1 (.slice A n c) n (rows eb (L ++ le k x)) from by
        have := World.ownsRow.alloc (w := wr) (show wr.ownsRow n₀ 5 1 (.slice A n c) n (rows eb (L ++ le k x)) from hn1 ▸ ho) (.cells #[.int .u8 (IntKind.u8.wrap (x / 2 ^ (8 * (k : Int)).toNat))] 5)
        exact this)
      have hbl : b < wr.heap.size := I.out.1.lt
      have TN := Lib.hid (fun (q : Nat) (u : Value) (hu : ([.int .u8 (IntKind.u8.wrap (x / 2 ^ (8 * (k : Int)).toNat))] : List Value)[q]? = some u) => show (wr.alloc (.cells #[.int .u8 (IntKind.u8.wrap (x / 2 ^ (8 * (k : Int)).toNat))] 5)).drew.cell? ((⟨wr.heap.size, 0, none⟩ : Addr).add q) = some u by
        rw [Addr.add_mid, Nat.zero_add]
        refine (cell_of_row (wr.alloc (.cells #[.int .u8 (IntKind.u8.wrap (x / 2 ^ (8 * (k : Int)).toNat))] 5)).drew wr.heap.size q _ _ _ (heap_alloc_last wr (.cells #[.int .u8 (IntKind.u8.wrap (x / 2 ^ (8 * (k : Int)).toNat))] 5))).trans ?_
        show ([.int .u8 (IntKind.u8.wrap (x / 2 ^ (8 * (k : Int)).toNat))] : List Value).toArray[q]? = some u
        rw [List.getElem?_toArray]; exact hu)
      have QA := Lib.hid (show ∀ u ∈ ([.int .u8 (IntKind.u8.wrap (x / 2 ^ (8 * (k : Int)).toNat))] : List Value), u.oneCell' = true by intro u hu; simp only [List.mem_cons, List.not_mem_nil, or_false] at hu; subst hu; rfl)
      have QB := Lib.hid (show n + 1 ≤ maxLen by simp only [maxLen]; omega)
      have QC := Lib.hid (show (n + 1) * 1 ≤ 140737488355328 by omega)
      have QD := Lib.hid (show n₀ ≤ (wr.alloc (.cells #[.int .u8 (IntKind.u8.wrap (x / 2 ^ (8 * (k : Int)).toNat))] 5)).drew.heap.size by simp; omega)
      have hwr := wrap_small (n := 8 * (k : Int)) (by omega) (by omega)
      clear hb ho hm hn1
      have hxw : IntKind.u64.wrap x = x := wrap_u64 hx0 (by omega)
      go_wp2_with fail
      go_region_law (refine step_append_two _ rfl (.tmp 19) (.tmp 26) 39 rfl n₀ 5 i0 (.int .u8 0) 1 1 Tryd.underlying39 hi hz0 hz1 hz2 rfl (by decide) (.slice A n c) n (rows eb (L ++ le k x)) (by simp [Act.eval, Act.put]) OW.out ⟨wr.heap.size, 0, none⟩ 1 1 [.int .u8 (IntKind.u8.wrap (x / 2 ^ (8 * (k : Int)).toNat))] (by simp [Act.eval, Act.put]) rfl TN.out QA.out (by decide) QB.out QC.out QD.out ?_; intro v' w' hown htwo; obtain ⟨HB2, HW2⟩ := ST.out v' w' hown htwo; obtain ⟨g2, cap2, rfl⟩ := ownsRow_succ hown; have c12 : w'.cell? ⟨b, 1, none⟩ = some (.slice A n c) := (by rw [cell_of_row _ _ _ _ _ _ HB2]; rfl); have f12 := frozen_of_row w' b 1 _ _ HB2)
      all_goals
        have W2 := Lib.hid HW2
        clear HW2 HB2 hown htwo
        go_wp2
        go_roundw
        case rel => exact ⟨k + 1, by omega, by go_num, W2⟩
        case measure => simp [intOf]; omega
    · obtain rfl : k = 4 := by omega
      go_wp2
      go_end0
      exact ⟨⟨_, rfl⟩, I.out⟩
end Go.Proofs.YtpeonoimdmdmlaaDoor.Tr
