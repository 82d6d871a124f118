/- used: its contract. No statement of the seat is proved here. -/
import Derived.Test.YtlmgiejemdifkaaDoorShape
import Derived.Test.YtlmgiejemdifkaaDoorUses
import Derived.Deep.Onto
namespace Go.Proofs.YtlmgiejemdifkaaDoor.Ca
open Go.RowKit Go.Proofs.YtlmgiejemdifkaaDoor.Kit
set_option linter.unusedSimpArgs false
set_option linter.unusedVariables false

/-! ### a row of accesses, as lists -/
/-- The sets behind the first k uses. -/
def aft (s : Shp) (f : Nat → List Ln) (us : List Us) : Nat → (Nat → List Ln)
  | 0 => f
  | k + 1 => put (aft s f us k) (setOf s.S s.L (unth us k).1) (accV s.W (aft s f us k (setOf s.S s.L (unth us k).1)) (tagOf s.S s.L (unth us k).1) (unth us k).2)
/-- What use k costs. -/
def cost (s : Shp) (f : Nat → List Ln) (us : List Us) (k : Nat) : Tch := accT s.W (aft s f us k (setOf s.S s.L (unth us k).1)) (tagOf s.S s.L (unth us k).1)
def tcells (t : Tch) : List Value := [.bool t.hit, .bool t.back, .int .i64 t.cyc]
def costs (s : Shp) (f : Nat → List Ln) (us : List Us) : Nat → List Value
  | 0 => []
  | k + 1 => costs s f us k ++ tcells (cost s f us k)
theorem costs_length (s : Shp) (f : Nat → List Ln) (us : List Us) : ∀ n, (costs s f us n).length = n * 3
  | 0 => rfl
  | n + 1 => by rw [costs, List.length_append, costs_length s f us n]; show n * 3 + 3 = _; omega
theorem costs_at (s : Shp) (f : Nat → List Ln) (us : List Us) : ∀ n k j, k < n → j < 3 → (costs s f us n)[k * 3 + j]? = (tcells (cost s f us k))[j]?
  | n + 1, k, j, hk, hj => by
    rw [costs]
    by_cases h : k < n
    · rw [List.getElem?_append_left (by rw [costs_length]; omega)]; exact costs_at s f us n k j h hj
    · obtain rfl : k = n := by omega
      rw [List.getElem?_append_right (by rw [costs_length]; omega), costs_length]
      congr 1; omega
theorem info38' : (Tryd.prog.info? 38).map (fun i => (i.zero, i.size, i.bytes)) = some (some (.agg #[.bool false, .bool false, .int .i64 0]), 3, 16) := by kernel_rfl
theorem one_lt {w : World} (h : TabAt w) : 1 < w.heap.size := World.block_lt_of_cell? w _ (h 0 (by decide))
/-- Behind an append to a list of one's own. -/
theorem own_trans {w w1 w2 : World} {r o : Option Nat} (h : Chg w w1 r) (k : Chg w1 w2 o) (hn : ∀ g, o = some g → w.heap.size ≤ g) : Chg w w2 r := by
  cases o with
  | none => exact h.trans (k.any r)
  | some g => exact h.trans_new k (hn g rfl)
set_option maxRecDepth 4000 in
set_option maxHeartbeats 4000000 in
theorem used_any (w : World) (hT : TabAt w) (b : Nat) (s : Shp) (f : Nat → List Ln) (h : CacheIs w b s f) (hb1 : b ≠ 1) (v1 : Value) (us : List Us) (h1 : Ru w v1 us) (hnb : 0 < us.length → ∀ g, v1.ownBlock = some g → g ≠ b) (hbig : us.length * 16 ≤ 140737488355328) :
    Calls Tryd.prog 14 #[.pointer (some ⟨b, 0, none⟩), v1] w fun e w' => ∃ v', e = .returned v' ∧ w'.ownsRow w.heap.size 38 3 v' us.length (costs s f us us.length) ∧ CacheIs w' b s (aft s f us us.length) ∧ Chg w w' (some b) := by
  have OK := Lib.hid h1.okay
  have H10 := Lib.hid h1
  obtain ⟨⟨A, cap, rfl, _⟩, hfew, _⟩ := h1
  have hbl := h.lt
  have I0 := Lib.hid (show Chg w w (some b) ∧ TabAt w ∧ CacheIs w b s (aft s f us 0) ∧ w.ownsRow w.heap.size 38 3 (.slice none 0 0) 0 (costs s f us 0) from ⟨Chg.refl _ _, hT, h, World.ownsRow_nil _ _ _ _⟩)
  have NB := Lib.hid hnb
  have T0 := Lib.hid hT
  obtain ⟨i0, hi, hz0, hz1, hz2⟩ := info_parts info38'
  clear hT h hnb
  go_enter Tryd.func14, Tryd.ntmps14
  go_wp2_with fail
  go_loopw [5, 6, 7] (fun v5 i _ wr => ∃ k : Nat, k ≤ us.length ∧ i = .int .i64 k ∧ Hid (Chg w wr (some b) ∧ TabAt wr ∧ CacheIs wr b s (aft s f us k) ∧ wr.ownsRow w.heap.size 38 3 v5 k (costs s f us k))) (fun _ i _ _ => us.length - (intOf i).toNat)
  case atStart => exact ⟨0, by omega, rfl, I0⟩
  case round =>
    obtain ⟨k, hk, rfl, I⟩ := hrel
    clear I0
    by_cases hlt : k < us.length
    · obtain ⟨ab, ao, hA, hc0, hc1⟩ := H10.out.at_ k hlt
      subst hA
      have hba : ab ≠ b := NB.out (by omega) ab rfl
      have hc0 := cell_kept hc0 I.out.1 (by intro e; injection e with e; exact hba e.symm)
      have hc1 := cell_kept hc1 I.out.1 (by intro e; injection e with e; exact hba e.symm)
      have HA := Lib.hid (OK.out k)
      have DX := Lib.hid (show aft s f us (k + 1) = put (aft s f us k) (setOf s.S s.L (unth us k).1) (accV s.W (aft s f us k (setOf s.S s.L (unth us k).1)) (tagOf s.S s.L (unth us k).1) (unth us k).2) ∧ costs s f us (k + 1) = costs s f us k ++ tcells (accT s.W (aft s f us k (setOf s.S s.L (unth us k).1)) (tagOf s.S s.L (unth us k).1)) from ⟨rfl, rfl⟩)
      generalize (unth us k).1 = a at *
      generalize (unth us k).2 = x at *
      obtain ⟨T1, hT1⟩ : ∃ T, T = accT s.W (aft s f us k (setOf s.S s.L a)) (tagOf s.S s.L a) := ⟨_, rfl⟩
      have AC1 := Lib.hid (fun X (h1 : TabAt X) (h2 : CacheIs X b s (aft s f us k)) => (by have := access_any X h1 b s (aft s f us k) h2 a HA.out x; rw [← hT1, ← DX.out.1] at this; exact this : Calls Tryd.prog 15 #[.pointer (some ⟨b, 0, none⟩), .int .u32 a, .bool x] X fun e w' => e = .returned (.agg #[.bool T1.hit, .bool T1.back, .int .i64 T1.cyc]) ∧ Chg X w' (some b) ∧ CacheIs w' b s (aft s f us (k + 1))))
      have DC := Lib.hid (show costs s f us (k + 1) = costs s f us k ++ tcells T1 by rw [DX.out.2, hT1])
      clear hT1 DX
      have hol : b < wr.heap.size := I.out.2.2.1.lt
      have hws := I.out.1.size
      have hab := World.block_lt_of_cell? wr _ hc0
      have A0 := Lib.hid (show Chg wr wr.drew none from (Chg.refl wr none).drewN 1)
      have A1 := Lib.hid (show Chg wr (wr.alloc (.cells #[.bool false, .bool false, .int .i64 0] 38)).drew none from ((Chg.refl wr none).alloc _).drewN 1)
      have U1 := Lib.hid (And.intro hc0 hc1)
      go_wp2_with fail
      go_region_held (fun w' => w'.cell? ⟨ab, ao + k * 2, none⟩ = some (.int .u32 a) ∧ w'.cell? ⟨ab, ao + k * 2 + 1, none⟩ = some (.bool x)) (go_keep) (first
        | (go_at_call 15; refine (AC1.out wr.drew (I.out.2.1.kept A0.out (by simp)) (I.out.2.2.1.kept A0.out (by simp))).mono ?_; rintro e wa ⟨rfl, hC, hc⟩
           have hc0 : wa.cell? ⟨ab, ao + k * 2, none⟩ = some (.int .u32 a) := cell_kept (cell_kept U1.out.1 A0.out (by simp)) hC (by intro e; injection e with e; exact hba e.symm)
           have hc1 : wa.cell? ⟨ab, ao + k * 2 + 1, none⟩ = some (.bool x) := cell_kept (cell_kept U1.out.2 A0.out (by simp)) hC (by intro e; injection e with e; exact hba e.symm)
           have HC1 := Lib.hid hc; have C1 := Lib.hid hC; clear hc hC)
        | (go_at_call 15; refine (AC1.out (wr.alloc (.cells #[.bool false, .bool false, .int .i64 0] 38)).drew (I.out.2.1.kept A1.out (by simp)) (I.out.2.2.1.kept A1.out (by simp))).mono ?_; rintro e wa ⟨rfl, hC, hc⟩
           have hc0 : wa.cell? ⟨ab, ao + k * 2, none⟩ = some (.int .u32 a) := cell_kept (cell_kept U1.out.1 A1.out (by simp)) hC (by intro e; injection e with e; exact hba e.symm)
           have hc1 : wa.cell? ⟨ab, ao + k * 2 + 1, none⟩ = some (.bool x) := cell_kept (cell_kept U1.out.2 A1.out (by simp)) hC (by intro e; injection e with e; exact hba e.symm)
           have RZ := (hC.block wr.heap.size (by simp) (fun e => by injection e; omega)).trans (show (wr.alloc (.cells #[.bool false, .bool false, .int .i64 0] 38)).drew.heap[wr.heap.size]? = _ from heap_alloc_last wr _)
           have z0 : wa.cell? ⟨wr.heap.size, 0, none⟩ = some (.bool false) := (by rw [cell_of_row _ _ _ _ _ _ RZ]; rfl)
           have z1 : wa.cell? ⟨wr.heap.size, 1, none⟩ = some (.bool false) := (by rw [cell_of_row _ _ _ _ _ _ RZ]; rfl)
           have z2 : wa.cell? ⟨wr.heap.size, 2, none⟩ = some (.int .i64 0) := (by rw [cell_of_row _ _ _ _ _ _ RZ]; rfl)
           have y0 := frozen_of_row wa wr.heap.size 0 _ _ RZ
           have y1 := frozen_of_row wa wr.heap.size 1 _ _ RZ
           have y2 := frozen_of_row wa wr.heap.size 2 _ _ RZ
           have hne : wr.heap.size ≠ ab := (by omega)
           have RZ1 := Lib.hid RZ
           have HC1 := Lib.hid hc; have C1 := Lib.hid hC; clear hc hC RZ))
      · have hz := zero38
        have K1 := Lib.hid (((A0.out.any (some b)).trans C1.out).trans (((Chg.refl _ none).alloc (.cells #[.bool T1.hit, .bool T1.back, .int .i64 T1.cyc] 38)).any _))
        have P1 := Lib.hid (HC1.out.kept ((Chg.refl _ none).alloc (.cells #[.bool T1.hit, .bool T1.back, .int .i64 T1.cyc] 38)) (by simp))
        have Q1 := Lib.hid (heap_alloc_last wa (.cells #[.bool T1.hit, .bool T1.back, .int .i64 T1.cyc] 38))
        clear hc0 hc1
        generalize wa.alloc (.cells #[.bool T1.hit, .bool T1.back, .int .i64 T1.cyc] 38) = w6 at *
        generalize wa.heap.size = q1 at *
        have m0 : w6.cell? ⟨q1, 0, none⟩ = some (.bool T1.hit) := by rw [cell_of_row _ _ _ _ _ _ Q1.out]; rfl
        have m1 : w6.cell? ⟨q1, 1, none⟩ = some (.bool T1.back) := by rw [cell_of_row _ _ _ _ _ _ Q1.out]; rfl
        have m2 : w6.cell? ⟨q1, 2, none⟩ = some (.int .i64 T1.cyc) := by rw [cell_of_row _ _ _ _ _ _ Q1.out]; rfl
        have D6 := Lib.hid (I.out.1.trans K1.out)
        have O6 := Lib.hid ((I.out.2.2.2.kept K1.out (by
          cases hv : Value.ownBlock u5 with
          | none => exact .inl rfl
          | some g => refine .inr (fun e => ?_); injection e with e; have := (I.out.2.2.2.lt g hv).1; omega)).alloc (.cells #[.bool T1.hit, .bool T1.back, .int .i64 T1.cyc] 38))
        have TN := Lib.hid (fun (j : Nat) (u : Value) (hu : (tcells T1)[j]? = some u) => show (w6.alloc (.cells #[.bool T1.hit, .bool T1.back, .int .i64 T1.cyc] 38)).cell? ((⟨w6.heap.size, 0, none⟩ : Addr).add j) = some u by
          rw [Addr.add_mid, Nat.zero_add, cell_of_row _ _ _ _ _ _ (heap_alloc_last w6 (.cells #[.bool T1.hit, .bool T1.back, .int .i64 T1.cyc] 38))]
          show (tcells T1).toArray[j]? = some u
          rw [List.getElem?_toArray]; exact hu)
        have hs6 := D6.out.size
        go_wp2_with (at_builtin; refine wpList_append_own _ rfl (.tmp 26) (.tmp 28) 32 rfl w.heap.size 38 i0 (.agg #[.bool false, .bool false, .int .i64 0]) 3 16 Tryd.underlying32 hi hz0 hz1 hz2 rfl (by decide) _ k (costs s f us k) rfl O6.out ⟨w6.heap.size, 0, none⟩ 1 1 (tcells T1) rfl rfl TN.out ?qa ?qb ?qc ?qd ?_)
        case qa =>
          intro u hu
          simp only [tcells, List.mem_cons, List.not_mem_nil, or_false] at hu
          rcases hu with rfl | rfl | rfl <;> rfl
        case qb => simp only [maxLen]; omega
        case qc => omega
        case qd => simp; omega
        intro v7 w7 hown hg hnil
        have E7 := Lib.hid (D6.out.trans (((Chg.refl w6 none).alloc (.cells #[.bool T1.hit, .bool T1.back, .int .i64 T1.cyc] 38)).any (some b)))
        have hb6 : b < w6.heap.size := P1.out.lt
        have G7 := Lib.hid (show Chg (w6.alloc (.cells #[.bool T1.hit, .bool T1.back, .int .i64 T1.cyc] 38)) w7 (Value.ownBlock u5) from hg)
        have NE := Lib.hid (show Value.ownBlock u5 ≠ some b from fun e => by have := (I.out.2.2.2.lt b e).1; omega)
        have N1 := Lib.hid (show Value.ownBlock u5 ≠ some 1 from fun e => by have h1 := (I.out.2.2.2.lt 1 e).1; have h2 := one_lt T0.out; omega)
        have F7 := Lib.hid (show Chg w w7 (some b) ∧ TabAt w7 ∧ CacheIs w7 b s (aft s f us (k + 1)) ∧ w7.ownsRow w.heap.size 38 3 v7 (k + 1) (costs s f us (k + 1)) from
          ⟨own_trans E7.out G7.out (fun g e => (I.out.2.2.2.lt g e).1), ((I.out.2.1.kept K1.out (fun e => hb1 (by injection e))).kept ((Chg.refl w6 none).alloc (.cells #[.bool T1.hit, .bool T1.back, .int .i64 T1.cyc] 38)) (by simp)).kept G7.out N1.out, (P1.out.kept ((Chg.refl w6 none).alloc (.cells #[.bool T1.hit, .bool T1.back, .int .i64 T1.cyc] 38)) (by simp)).kept G7.out NE.out, by rw [DC.out]; exact hown⟩)
        clear hown hg hnil
        go_wp2
        go_roundw
        case rel => exact ⟨k + 1, by omega, by go_num, F7⟩
        case measure => simp [intOf]; omega
      · have hz := zero38
        have X6 : Chg wa (((wa.setCell ⟨wr.heap.size, 0, none⟩ (.bool T1.hit)).setCell ⟨wr.heap.size, 1, none⟩ (.bool T1.back)).setCell ⟨wr.heap.size, 2, none⟩ (.int .i64 T1.cyc)) (some wr.heap.size) := (((Chg.refl _ _).set 0 _).set 1 _).set 2 _
        have K1 := Lib.hid (((A1.out.any (some b)).trans C1.out).trans_new X6 (Nat.le_refl _))
        have P1 := Lib.hid (HC1.out.kept X6 (by intro e; injection e; omega))
        have Q1 := Lib.hid (heap_setCell_same _ wr.heap.size 2 _ _ (.int .i64 T1.cyc) (heap_setCell_same _ wr.heap.size 1 _ _ (.bool T1.back) (heap_setCell_same wa wr.heap.size 0 _ _ (.bool T1.hit) RZ1.out)))
        clear hc0 hc1 X6 z0 z1 z2 y0 y1 y2 hne
        generalize ((wa.setCell ⟨wr.heap.size, 0, none⟩ (.bool T1.hit)).setCell ⟨wr.heap.size, 1, none⟩ (.bool T1.back)).setCell ⟨wr.heap.size, 2, none⟩ (.int .i64 T1.cyc) = w6 at *
        generalize hqq : wr.heap.size = q1 at *
        have m0 : w6.cell? ⟨q1, 0, none⟩ = some (.bool T1.hit) := by rw [cell_of_row _ _ _ _ _ _ Q1.out]; rfl
        have m1 : w6.cell? ⟨q1, 1, none⟩ = some (.bool T1.back) := by rw [cell_of_row _ _ _ _ _ _ Q1.out]; rfl
        have m2 : w6.cell? ⟨q1, 2, none⟩ = some (.int .i64 T1.cyc) := by rw [cell_of_row _ _ _ _ _ _ Q1.out]; rfl
        have D6 := Lib.hid (I.out.1.trans K1.out)
        have O6 := Lib.hid ((I.out.2.2.2.kept K1.out (by
          cases hv : Value.ownBlock u5 with
          | none => exact .inl rfl
          | some g => refine .inr (fun e => ?_); injection e with e; have := (I.out.2.2.2.lt g hv).1; omega)).alloc (.cells #[.bool T1.hit, .bool T1.back, .int .i64 T1.cyc] 38))
        have TN := Lib.hid (fun (j : Nat) (u : Value) (hu : (tcells T1)[j]? = some u) => show (w6.alloc (.cells #[.bool T1.hit, .bool T1.back, .int .i64 T1.cyc] 38)).cell? ((⟨w6.heap.size, 0, none⟩ : Addr).add j) = some u by
          rw [Addr.add_mid, Nat.zero_add, cell_of_row _ _ _ _ _ _ (heap_alloc_last w6 (.cells #[.bool T1.hit, .bool T1.back, .int .i64 T1.cyc] 38))]
          show (tcells T1).toArray[j]? = some u
          rw [List.getElem?_toArray]; exact hu)
        have hs6 := D6.out.size
        go_wp2_with (at_builtin; refine wpList_append_own _ rfl (.tmp 26) (.tmp 28) 32 rfl w.heap.size 38 i0 (.agg #[.bool false, .bool false, .int .i64 0]) 3 16 Tryd.underlying32 hi hz0 hz1 hz2 rfl (by decide) _ k (costs s f us k) rfl O6.out ⟨w6.heap.size, 0, none⟩ 1 1 (tcells T1) rfl rfl TN.out ?qa ?qb ?qc ?qd ?_)
        case qa =>
          intro u hu
          simp only [tcells, List.mem_cons, List.not_mem_nil, or_false] at hu
          rcases hu with rfl | rfl | rfl <;> rfl
        case qb => simp only [maxLen]; omega
        case qc => omega
        case qd => simp; omega
        intro v7 w7 hown hg hnil
        have E7 := Lib.hid (D6.out.trans (((Chg.refl w6 none).alloc (.cells #[.bool T1.hit, .bool T1.back, .int .i64 T1.cyc] 38)).any (some b)))
        have hb6 : b < w6.heap.size := P1.out.lt
        have G7 := Lib.hid (show Chg (w6.alloc (.cells #[.bool T1.hit, .bool T1.back, .int .i64 T1.cyc] 38)) w7 (Value.ownBlock u5) from hg)
        have NE := Lib.hid (show Value.ownBlock u5 ≠ some b from fun e => by have := (I.out.2.2.2.lt b e).1; omega)
        have N1 := Lib.hid (show Value.ownBlock u5 ≠ some 1 from fun e => by have h1 := (I.out.2.2.2.lt 1 e).1; have h2 := one_lt T0.out; omega)
        have F7 := Lib.hid (show Chg w w7 (some b) ∧ TabAt w7 ∧ CacheIs w7 b s (aft s f us (k + 1)) ∧ w7.ownsRow w.heap.size 38 3 v7 (k + 1) (costs s f us (k + 1)) from
          ⟨own_trans E7.out G7.out (fun g e => (I.out.2.2.2.lt g e).1), ((I.out.2.1.kept K1.out (fun e => hb1 (by injection e))).kept ((Chg.refl w6 none).alloc (.cells #[.bool T1.hit, .bool T1.back, .int .i64 T1.cyc] 38)) (by simp)).kept G7.out N1.out, (P1.out.kept ((Chg.refl w6 none).alloc (.cells #[.bool T1.hit, .bool T1.back, .int .i64 T1.cyc] 38)) (by simp)).kept G7.out NE.out, by rw [DC.out]; exact hown⟩)
        clear hown hg hnil
        go_wp2
        go_roundw
        case rel => exact ⟨k + 1, by omega, by go_num, F7⟩
        case measure => simp [intOf]; omega
    · go_wp2
      go_ret
      obtain rfl : k = us.length := by omega
      exact ⟨_, rfl, I.out.2.2.2, I.out.2.2.1, I.out.1⟩
end Go.Proofs.YtlmgiejemdifkaaDoor.Ca
