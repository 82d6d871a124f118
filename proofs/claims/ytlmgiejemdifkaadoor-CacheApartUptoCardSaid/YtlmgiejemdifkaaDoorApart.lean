/- CacheApart: the walk. -/
import Derived.Test.YtlmgiejemdifkaaDoorUsed
namespace Go.Proofs.YtlmgiejemdifkaaDoor.Ca
open Go.RowKit Go.Proofs.YtlmgiejemdifkaaDoor.Kit
set_option linter.unusedSimpArgs false
set_option linter.unusedVariables false

theorem cost_cell {s : Shp} {f : Nat → List Ln} {us : List Us} {n j : Nat} {cur : Array Value} {t : Tch} (h : cur.toList.take (n * 3) = costs s f us n) (hj : j < n) (ht : cost s f us j = t) (i : Nat) (hi : i < 3) : cur[j * 3 + i]? = (tcells t)[i]? := by
  have := costs_at s f us n j i hj hi
  rw [← h, List.getElem?_take, if_pos (by omega), ht, Array.getElem?_toList] at this
  exact this
/-- What stands ahead of round i: the second cache has of set k what the first one had ahead of use i; what each use cost stands in the list. -/
structure Ap (w wr : World) (c : Nat) (s : Shp) (k : Nat) (us : List Us) (v : Value) (i : Nat) (g : Nat → List Ln) : Prop where
  q : CacheIs wr c s g
  hc : w.heap.size < c
  chg : Chg w wr none
  tab : TabAt wr
  one : 1 < w.heap.size
  row : wr.ownsRow (w.heap.size + 1) 38 3 v us.length (costs s (fun _ => []) us us.length)
  ne : v.ownBlock ≠ some c
  box : wr.heap[w.heap.size]? = some (.cells #[.int .i64 s.S, .int .i64 s.W, .int .i64 s.L] 23 (0, 0))
  same : g k = aft s (fun _ => []) us i k
theorem set_int (s : Shp) (a : Nat) (ha : a < 4294967296) : (a : Int) / (s.L : Int) % 4294967296 % (s.S : Int) = ((setOf s.S s.L a : Nat) : Int) := by
  have h : a / s.L < 4294967296 := Nat.lt_of_le_of_lt (Nat.div_le_self _ _) ha
  unfold setOf
  rw [← Int.natCast_ediv]
  generalize a / s.L = n at *
  have e : (n : Int) % 4294967296 = n := Int.emod_eq_of_lt (by omega) (by omega)
  rw [e]
  push_cast
  rfl
theorem Ap.grow {w wr w2 : World} {c : Nat} {s : Shp} {k : Nat} {us : List Us} {v : Value} {i : Nat} {g : Nat → List Ln} (h : Ap w wr c s k us v i g) (hC : Chg wr w2 none) : Ap w w2 c s k us v i g :=
  ⟨h.q.kept hC (by simp), h.hc, h.chg.trans hC, h.tab.kept hC (by simp), h.one, h.row.kept hC (by cases v.ownBlock <;> simp), h.ne, (hC.block w.heap.size (Array.getElem?_eq_some_iff.1 h.box).1 (by simp)).trans h.box, h.same⟩
theorem aft_other {s : Shp} {f : Nat → List Ln} {us : List Us} {j k : Nat} (h : setOf s.S s.L (unth us j).1 ≠ k) : aft s f us (j + 1) k = aft s f us j k := by
  show put _ _ _ k = _
  rw [put_other _ _ (fun e => h e.symm)]
theorem Ap.skip {w wr : World} {c : Nat} {s : Shp} {k : Nat} {us : List Us} {v : Value} {j : Nat} {g : Nat → List Ln} (h : Ap w wr c s k us v j g) (hn : setOf s.S s.L (unth us j).1 ≠ k) : Ap w wr c s k us v (j + 1) g :=
  ⟨h.q, h.hc, h.chg, h.tab, h.one, h.row, h.ne, h.box, by rw [aft_other hn]; exact h.same⟩
/-- One of the set's own: the second cache does it too. -/
theorem Ap.next {w wr w2 : World} {c : Nat} {s : Shp} {k : Nat} {us : List Us} {v : Value} {j : Nat} {g g1 : Nat → List Ln} (h : Ap w wr c s k us v j g) (hC : Chg wr w2 (some c)) (hq : CacheIs w2 c s g1) (he : setOf s.S s.L (unth us j).1 = k)
    (hg : g1 = put g (setOf s.S s.L (unth us j).1) (accV s.W (g (setOf s.S s.L (unth us j).1)) (tagOf s.S s.L (unth us j).1) (unth us j).2)) : Ap w w2 c s k us v (j + 1) g1 :=
  ⟨hq, h.hc, h.chg.trans_new hC (Nat.le_of_lt h.hc), h.tab.kept hC (fun e => by injection e with e; have := h.hc; have := h.one; omega), h.one, h.row.kept hC (.inr h.ne), h.ne,
    (hC.block w.heap.size (Array.getElem?_eq_some_iff.1 h.box).1 (fun e => by injection e with e; have := h.hc; omega)).trans h.box, by
      rw [hg]
      show _ = put _ _ _ k
      subst he
      rw [put_same, put_same, h.same]⟩
theorem Ap.onNew {w wr w2 : World} {c q : Nat} {s : Shp} {k : Nat} {us : List Us} {v : Value} {j : Nat} {g : Nat → List Ln} (h : Ap w wr c s k us v j g) (hC : Chg wr w2 (some q)) (hq : w.heap.size < q) (h1 : q ≠ c) (h2 : v.ownBlock ≠ some q) : Ap w w2 c s k us v j g :=
  ⟨h.q.kept hC (fun e => h1 (by injection e)), h.hc, h.chg.trans_new hC (Nat.le_of_lt hq), h.tab.kept hC (fun e => by injection e with e; have := h.one; omega), h.one, h.row.kept hC (.inr h2), h.ne,
    (hC.block w.heap.size (Array.getElem?_eq_some_iff.1 h.box).1 (fun e => by injection e with e; omega)).trans h.box, h.same⟩
set_option maxRecDepth 4000 in
set_option maxHeartbeats 8000000 in
theorem apart_walk (w : World) (hT : TabAt w) (S W L : Int) (hS : i64ok S) (hW : i64ok W) (hL : i64ok L) (v1 : Value) (us : List Us) (h1 : Ru w v1 us) (m : Int) (hm : i64ok m) (hbig : us.length * 16 ≤ 140737488355328) :
    Calls Tryd.prog 3 #[.agg #[.int .i64 S, .int .i64 W, .int .i64 L], v1, .int .i64 m] w fun e w' => e = .returned (.bool true) ∧ Chg w w' none := by
  have H1 := Lib.hid (fun w' (h : Chg w w' none) => h1.kept h)
  have OK := Lib.hid h1.okay
  have H10 := Lib.hid h1
  obtain ⟨⟨A, cap, rfl, hsh⟩, hfew, _⟩ := h1
  have HT := Lib.hid hT
  have SH := Lib.hid (fun X => shape_any X S W L hS hW hL)
  have HM := Lib.hid hm
  have C0 := Lib.hid ((Chg.refl w none).alloc (.cells #[.int .i64 S, .int .i64 W, .int .i64 L] 23))
  have R0 := Lib.hid (heap_alloc_last w (.cells #[.int .i64 S, .int .i64 W, .int .i64 L] 23))
  have T0 := Lib.hid (hT.kept C0.out (by simp))
  have h1w := World.block_lt_of_cell? w _ (hT 0 (by decide))
  clear hT hS hW hL hm hsh
  go_enter Tryd.func3, Tryd.ntmps3
  go_wp2_with fail
  refine (awake_any _ T0.out).mono ?_
  rintro e w1 ⟨rfl, hC⟩
  have R1 := (hC.block w.heap.size (by simp) (by simp)).trans R0.out
  have d0 : w1.cell? ⟨w.heap.size, 0, none⟩ = some (.int .i64 S) := by rw [cell_of_row _ _ _ _ _ _ R1]; rfl
  have d1 : w1.cell? ⟨w.heap.size, 1, none⟩ = some (.int .i64 W) := by rw [cell_of_row _ _ _ _ _ _ R1]; rfl
  have d2 : w1.cell? ⟨w.heap.size, 2, none⟩ = some (.int .i64 L) := by rw [cell_of_row _ _ _ _ _ _ R1]; rfl
  have C1 := Lib.hid (C0.out.trans hC)
  have R1' := Lib.hid R1
  clear hC R1
  go_wp2_with fail
  refine (SH.out w1).mono ?_
  rintro e w2 ⟨s, rfl, hC⟩
  have R2 := Lib.hid ((hC.block w.heap.size (Array.getElem?_eq_some_iff.1 R1'.out).1 (by simp)).trans R1'.out)
  have d0 : w2.cell? ⟨w.heap.size, 0, none⟩ = some (.int .i64 S) := by rw [cell_of_row _ _ _ _ _ _ R2.out]; rfl
  have d1 : w2.cell? ⟨w.heap.size, 1, none⟩ = some (.int .i64 W) := by rw [cell_of_row _ _ _ _ _ _ R2.out]; rfl
  have d2 : w2.cell? ⟨w.heap.size, 2, none⟩ = some (.int .i64 L) := by rw [cell_of_row _ _ _ _ _ _ R2.out]; rfl
  have f0 := frozen_of_row w2 w.heap.size 0 _ _ R2.out
  have f1 := frozen_of_row w2 w.heap.size 1 _ _ R2.out
  have f2 := frozen_of_row w2 w.heap.size 2 _ _ R2.out
  have C2 := Lib.hid (C1.out.trans hC)
  have hz := zero23
  clear hC
  go_wp2_with fail
  have C3 := Lib.hid (((C2.out.set_new 0 (.int .i64 s.S) (Nat.le_refl _)).set_new 1 (.int .i64 s.W) (Nat.le_refl _)).set_new 2 (.int .i64 s.L) (Nat.le_refl _))
  have RA := Lib.hid (heap_setCell_same _ w.heap.size 2 _ _ (.int .i64 s.L) (heap_setCell_same _ w.heap.size 1 _ _ (.int .i64 s.W) (heap_setCell_same w2 w.heap.size 0 _ _ (.int .i64 s.S) R2.out)))
  clear f0 f1 f2 d0 d1 d2 hz
  generalize ((w2.setCell ⟨w.heap.size, 0, none⟩ (.int .i64 s.S)).setCell ⟨w.heap.size, 1, none⟩ (.int .i64 s.W)).setCell ⟨w.heap.size, 2, none⟩ (.int .i64 s.L) = w3 at *
  refine (new_ok w3 s).mono ?_
  rintro e w4 ⟨b, rfl, hb, hbs, hC⟩
  have HB := Lib.hid hb
  have C4 := Lib.hid (C3.out.trans hC)
  have hs3 := (Array.getElem?_eq_some_iff.1 RA.out).1
  have RA4 := Lib.hid ((hC.block w.heap.size hs3 (by simp)).trans RA.out)
  have d0 : w4.cell? ⟨w.heap.size, 0, none⟩ = some (.int .i64 s.S) := by rw [cell_of_row _ _ _ _ _ _ RA4.out]; rfl
  have d1 : w4.cell? ⟨w.heap.size, 1, none⟩ = some (.int .i64 s.W) := by rw [cell_of_row _ _ _ _ _ _ RA4.out]; rfl
  have d2 : w4.cell? ⟨w.heap.size, 2, none⟩ = some (.int .i64 s.L) := by rw [cell_of_row _ _ _ _ _ _ RA4.out]; rfl
  clear hb hC
  go_wp2_with fail
  refine (new_ok w4 s).mono ?_
  rintro e w5 ⟨c, rfl, hc, hcs, hC⟩
  have HC := Lib.hid hc
  have C5 := Lib.hid (C4.out.trans hC)
  have HB5 := Lib.hid (HB.out.kept hC (by simp))
  have hs4 := (Array.getElem?_eq_some_iff.1 RA4.out).1
  have RA5 := Lib.hid ((hC.block w.heap.size hs4 (by simp)).trans RA4.out)
  have d0 : w5.cell? ⟨w.heap.size, 0, none⟩ = some (.int .i64 s.S) := by rw [cell_of_row _ _ _ _ _ _ RA5.out]; rfl
  have hbc : b ≠ c := by have := HB.out.lt; omega
  have hs45 := hC.size
  clear hc hC
  go_wp2_with fail
  have hSs := s.Sle
  refine (pick_any w5 m s.S HM.out (by omega) (by omega)).mono ?_
  have hk := pickN_lt m s.S (by omega)
  generalize pickN m s.S = k at *
  rintro e w' ⟨rfl, rfl⟩
  go_wp2_with fail
  have hs5 := C5.out.size
  refine (used_any w5 (HT.out.kept C5.out (by simp)) b s _ HB5.out (by omega) _ us (H1.out w5 C5.out) (fun h0 g e e2 => by
    obtain ⟨b', o', hA, hx, _⟩ := H10.out.at_ 0 h0
    subst hA
    have := World.block_lt_of_cell? w _ hx
    simp only [Value.ownBlock, Option.some.injEq] at e this
    omega) hbig).mono ?_
  rintro e w6 ⟨v, rfl, hown, hcb, hC⟩
  have I2 := Lib.hid (show Ap w w6 c s k us v 0 (fun _ => []) from
    ⟨HC.out.kept hC (fun e => hbc (by injection e)), by omega, C5.out.trans_new hC (by omega), (HT.out.kept C5.out (by simp)).kept hC (fun e => by injection e; omega), h1w, hown.mono (by omega), fun e => by have := (hown.lt c e).1; have := HC.out.lt; omega,
      (hC.block w.heap.size (Array.getElem?_eq_some_iff.1 RA5.out).1 (fun e => by injection e; omega)).trans RA5.out, rfl⟩)
  clear hown hcb hC HB HB5 HC C0 C1 C2 C3 C4 C5 R0 R1' R2 RA RA4 RA5 T0 SH HM d0 d1 d2
  go_wp2_with fail
  go_loopw [14, 15] (fun i _ wr => ∃ (j : Nat) (g : Nat → List Ln), j ≤ us.length ∧ i = .int .i64 j ∧ Hid (Ap w wr c s k us v j g)) (fun i _ _ => us.length - (intOf i).toNat)
  case atStart => exact ⟨0, _, by omega, rfl, I2⟩
  case round =>
    obtain ⟨j, g, hj, rfl, I⟩ := hrel
    clear I2
    by_cases hlt : j < us.length
    · obtain ⟨ab, ao, hA, hc0, hc1⟩ := (H1.out _ I.out.chg).at_ j hlt
      subst hA
      have HAB := Lib.hid (fun (h : j < us.length) => (by obtain ⟨b', o', e, h', _⟩ := H10.out.at_ j h; cases e; exact World.block_lt_of_cell? w _ h' : ab < w.heap.size))
      have HA := Lib.hid (OK.out j)
      have d0 : wr.cell? ⟨w.heap.size, 0, none⟩ = some (.int .i64 s.S) := by rw [cell_of_row _ _ _ _ _ _ I.out.box]; rfl
      have d2 : wr.cell? ⟨w.heap.size, 2, none⟩ = some (.int .i64 s.L) := by rw [cell_of_row _ _ _ _ _ _ I.out.box]; rfl
      obtain ⟨a, ha⟩ : ∃ a, a = (unth us j).1 := ⟨_, rfl⟩
      obtain ⟨x, hx⟩ : ∃ x, x = (unth us j).2 := ⟨_, rfl⟩
      rw [← ha] at hc0 HA
      rw [← hx] at hc1
      have HAX := Lib.hid (And.intro ha hx)
      clear ha hx
      have hLl := s.Lle
      have HU := Lib.hid (And.intro hc0 hc1)
      have hsi := set_int s a HA.out
      by_cases he : setOf s.S s.L a = k
      · have hcmp : ((a : Int) / (s.L : Int) % 4294967296 % (s.S : Int) != (k : Int)) = false := by rw [hsi, he]; simp
        have HE := Lib.hid he
        clear he hsi
        obtain ⟨gq, vc, cur, hv, hgb, hrow, hnc, _, hcs', htk⟩ : ∃ g cap cur, v = .slice (some ⟨g, 0, none⟩) us.length cap ∧ w.heap.size + 1 ≤ g ∧ wr.heap[g]? = some (.cells cur 38 (0, 0)) ∧ us.length ≤ cap ∧ cap ≤ maxLen ∧ cur.size = cap * 3 ∧ cur.toList.take (us.length * 3) = costs s (fun _ => []) us us.length := by
          rcases I.out.row.2 with ⟨_, h0⟩ | h
          · omega
          · exact h
        subst hv
        have HROW := Lib.hid (And.intro hrow htk)
        have NEQ := Lib.hid (show gq ≠ c from fun e => I.out.ne (by rw [e]; rfl))
        have hgl : gq < wr.heap.size := (Array.getElem?_eq_some_iff.1 hrow).1
        clear hrow htk hcs'
        obtain ⟨T1, hT1⟩ : ∃ T, T = accT s.W (g (setOf s.S s.L a)) (tagOf s.S s.L a) := ⟨_, rfl⟩
        obtain ⟨g1, hg1⟩ : ∃ g1, g1 = put g (setOf s.S s.L a) (accV s.W (g (setOf s.S s.L a)) (tagOf s.S s.L a) x) := ⟨_, rfl⟩
        have AC1 := Lib.hid (fun X (h1 : TabAt X) (h2 : CacheIs X c s g) => (by have := access_any X h1 c s g h2 a HA.out x; rw [← hT1, ← hg1] at this; exact this : Calls Tryd.prog 15 #[.pointer (some ⟨c, 0, none⟩), .int .u32 a, .bool x] X fun e w' => e = .returned (.agg #[.bool T1.hit, .bool T1.back, .int .i64 T1.cyc]) ∧ Chg X w' (some c) ∧ CacheIs w' c s g1))
        have CO := Lib.hid (show cost s (fun _ => []) us j = T1 by rw [hT1]; unfold cost; rw [← HAX.out.1, HE.out, I.out.same])
        have GG := Lib.hid hg1
        clear hT1 hg1
        go_wp2_with fail
        go_quiet (fail)
        have J := Lib.hid (I.out.grow ((Chg.refl wr none).drewN nq))
        have VR := Lib.hid (show (wr.drewN nq).heap[gq]? = some (.cells cur 38 (0, 0)) from HROW.out.1)
        have hgl : gq < (wr.drewN nq).heap.size := hgl
        have hc0 : (wr.drewN nq).cell? ⟨ab, ao + j * 2, none⟩ = some (.int .u32 a) := HU.out.1
        have hc1 : (wr.drewN nq).cell? ⟨ab, ao + j * 2 + 1, none⟩ = some (.bool x) := HU.out.2
        clear d0 d2 hcmp
        generalize wr.drewN nq = wp at *
        have hol : c < wp.heap.size := J.out.q.lt
        have hws := J.out.chg.size
        have hhc := J.out.hc
        have hab := World.block_lt_of_cell? wp _ hc0
        have hca : ab ≠ c := by have := HAB.out hlt; omega
        have A0 := Lib.hid (show Chg wp wp.drew none from (Chg.refl wp none).drewN 1)
        have A1 := Lib.hid (show Chg wp (wp.alloc (.cells #[.bool false, .bool false, .int .i64 0] 38)).drew none from ((Chg.refl wp none).alloc _).drewN 1)
        have U1 := Lib.hid (And.intro hc0 hc1)
        go_wp2_with fail
        go_region_held (fun w' => w'.cell? ⟨ab, ao + j * 2, none⟩ = some (.int .u32 a) ∧ w'.cell? ⟨ab, ao + j * 2 + 1, none⟩ = some (.bool x)) (go_keep) (first
          | (go_at_call 15; refine (AC1.out wp.drew (J.out.tab.kept A0.out (by simp)) (J.out.q.kept A0.out (by simp))).mono ?_; rintro e wa ⟨rfl, hC, hc⟩
             have hc0 : wa.cell? ⟨ab, ao + j * 2, none⟩ = some (.int .u32 a) := cell_kept (cell_kept U1.out.1 A0.out (by simp)) hC (by intro e; injection e with e; exact hca e.symm)
             have hc1 : wa.cell? ⟨ab, ao + j * 2 + 1, none⟩ = some (.bool x) := cell_kept (cell_kept U1.out.2 A0.out (by simp)) hC (by intro e; injection e with e; exact hca e.symm)
             have HC1 := Lib.hid hc; have C1 := Lib.hid hC; clear hc hC)
          | (go_at_call 15; refine (AC1.out (wp.alloc (.cells #[.bool false, .bool false, .int .i64 0] 38)).drew (J.out.tab.kept A1.out (by simp)) (J.out.q.kept A1.out (by simp))).mono ?_; rintro e wa ⟨rfl, hC, hc⟩
             have hc0 : wa.cell? ⟨ab, ao + j * 2, none⟩ = some (.int .u32 a) := cell_kept (cell_kept U1.out.1 A1.out (by simp)) hC (by intro e; injection e with e; exact hca e.symm)
             have hc1 : wa.cell? ⟨ab, ao + j * 2 + 1, none⟩ = some (.bool x) := cell_kept (cell_kept U1.out.2 A1.out (by simp)) hC (by intro e; injection e with e; exact hca e.symm)
             have RZ := (hC.block wp.heap.size (by simp) (fun e => by injection e; omega)).trans (show (wp.alloc (.cells #[.bool false, .bool false, .int .i64 0] 38)).drew.heap[wp.heap.size]? = _ from heap_alloc_last wp _)
             have z0 : wa.cell? ⟨wp.heap.size, 0, none⟩ = some (.bool false) := (by rw [cell_of_row _ _ _ _ _ _ RZ]; rfl)
             have z1 : wa.cell? ⟨wp.heap.size, 1, none⟩ = some (.bool false) := (by rw [cell_of_row _ _ _ _ _ _ RZ]; rfl)
             have z2 : wa.cell? ⟨wp.heap.size, 2, none⟩ = some (.int .i64 0) := (by rw [cell_of_row _ _ _ _ _ _ RZ]; rfl)
             have y0 := frozen_of_row wa wp.heap.size 0 _ _ RZ
             have y1 := frozen_of_row wa wp.heap.size 1 _ _ RZ
             have y2 := frozen_of_row wa wp.heap.size 2 _ _ RZ
             have hne : wp.heap.size ≠ ab := (by omega)
             have RZ1 := Lib.hid RZ
             have HC1 := Lib.hid hc; have C1 := Lib.hid hC; clear hc hC RZ))
        · have hz := zero38
          have X0 := (A0.out.any (some c)).trans C1.out
          have J1 := (J.out.next X0 HC1.out (by rw [← HAX.out.1]; exact HE.out) (by rw [← HAX.out.1, ← HAX.out.2]; exact GG.out))
          have J2 := Lib.hid (J1.grow ((Chg.refl _ none).alloc (.cells #[.bool T1.hit, .bool T1.back, .int .i64 T1.cyc] 38)))
          have V2 := Lib.hid ((((Chg.refl _ none).alloc (.cells #[.bool T1.hit, .bool T1.back, .int .i64 T1.cyc] 38)).block gq (by have := X0.size; omega) (by simp)).trans ((X0.block gq hgl (fun e => NEQ.out (by injection e))).trans VR.out))
          have Q1 := Lib.hid (heap_alloc_last wa (.cells #[.bool T1.hit, .bool T1.back, .int .i64 T1.cyc] 38))
          clear hc0 hc1 X0 J1
          generalize wa.alloc (.cells #[.bool T1.hit, .bool T1.back, .int .i64 T1.cyc] 38) = w6 at *
          generalize wa.heap.size = q1 at *
          have m0 : w6.cell? ⟨q1, 0, none⟩ = some (.bool T1.hit) := by rw [cell_of_row _ _ _ _ _ _ Q1.out]; rfl
          have m1 : w6.cell? ⟨q1, 1, none⟩ = some (.bool T1.back) := by rw [cell_of_row _ _ _ _ _ _ Q1.out]; rfl
          have m2 : w6.cell? ⟨q1, 2, none⟩ = some (.int .i64 T1.cyc) := by rw [cell_of_row _ _ _ _ _ _ Q1.out]; rfl
          have n0 : w6.cell? ⟨gq, j * 3, none⟩ = some (.bool T1.hit) := by rw [cell_of_row _ _ _ _ _ _ V2.out]; exact cost_cell HROW.out.2 hlt CO.out 0 (by decide)
          have n1 : w6.cell? ⟨gq, j * 3 + 1, none⟩ = some (.bool T1.back) := by rw [cell_of_row _ _ _ _ _ _ V2.out]; exact cost_cell HROW.out.2 hlt CO.out 1 (by decide)
          have n2 : w6.cell? ⟨gq, j * 3 + 2, none⟩ = some (.int .i64 T1.cyc) := by rw [cell_of_row _ _ _ _ _ _ V2.out]; exact cost_cell HROW.out.2 hlt CO.out 2 (by decide)
          go_wp2_with fail
          go_quiet (fail)
          have J3 := Lib.hid (J2.out.grow ((Chg.refl w6 none).drewN nq))
          go_wp2
          go_roundw
          case rel => exact ⟨j + 1, g1, by omega, by go_num, J3⟩
          case measure => simp [intOf]; omega
        · have hz := zero38
          have X6 : Chg wa (((wa.setCell ⟨wp.heap.size, 0, none⟩ (.bool T1.hit)).setCell ⟨wp.heap.size, 1, none⟩ (.bool T1.back)).setCell ⟨wp.heap.size, 2, none⟩ (.int .i64 T1.cyc)) (some wp.heap.size) := (((Chg.refl _ _).set 0 _).set 1 _).set 2 _
          have X0 := (A1.out.any (some c)).trans C1.out
          have J1 := (J.out.next X0 HC1.out (by rw [← HAX.out.1]; exact HE.out) (by rw [← HAX.out.1, ← HAX.out.2]; exact GG.out))
          have J2 := Lib.hid (J1.onNew X6 (by omega) (by omega) (fun e => by have e' : gq = wp.heap.size := (by injection e); omega))
          have V2 := Lib.hid ((X6.block gq (by have := X0.size; omega) (fun e => by injection e; omega)).trans ((X0.block gq hgl (fun e => NEQ.out (by injection e))).trans VR.out))
          have Q1 := Lib.hid (heap_setCell_same _ wp.heap.size 2 _ _ (.int .i64 T1.cyc) (heap_setCell_same _ wp.heap.size 1 _ _ (.bool T1.back) (heap_setCell_same wa wp.heap.size 0 _ _ (.bool T1.hit) RZ1.out)))
          clear hc0 hc1 X6 X0 J1 z0 z1 z2 y0 y1 y2 hne
          generalize ((wa.setCell ⟨wp.heap.size, 0, none⟩ (.bool T1.hit)).setCell ⟨wp.heap.size, 1, none⟩ (.bool T1.back)).setCell ⟨wp.heap.size, 2, none⟩ (.int .i64 T1.cyc) = w6 at *
          generalize hqq : wp.heap.size = q1 at *
          have m0 : w6.cell? ⟨q1, 0, none⟩ = some (.bool T1.hit) := by rw [cell_of_row _ _ _ _ _ _ Q1.out]; rfl
          have m1 : w6.cell? ⟨q1, 1, none⟩ = some (.bool T1.back) := by rw [cell_of_row _ _ _ _ _ _ Q1.out]; rfl
          have m2 : w6.cell? ⟨q1, 2, none⟩ = some (.int .i64 T1.cyc) := by rw [cell_of_row _ _ _ _ _ _ Q1.out]; rfl
          have n0 : w6.cell? ⟨gq, j * 3, none⟩ = some (.bool T1.hit) := by rw [cell_of_row _ _ _ _ _ _ V2.out]; exact cost_cell HROW.out.2 hlt CO.out 0 (by decide)
          have n1 : w6.cell? ⟨gq, j * 3 + 1, none⟩ = some (.bool T1.back) := by rw [cell_of_row _ _ _ _ _ _ V2.out]; exact cost_cell HROW.out.2 hlt CO.out 1 (by decide)
          have n2 : w6.cell? ⟨gq, j * 3 + 2, none⟩ = some (.int .i64 T1.cyc) := by rw [cell_of_row _ _ _ _ _ _ V2.out]; exact cost_cell HROW.out.2 hlt CO.out 2 (by decide)
          go_wp2_with fail
          go_quiet (fail)
          have J3 := Lib.hid (J2.out.grow ((Chg.refl w6 none).drewN nq))
          go_wp2
          go_roundw
          case rel => exact ⟨j + 1, g1, by omega, by go_num, J3⟩
          case measure => simp [intOf]; omega
      · have hcmp : ((a : Int) / (s.L : Int) % 4294967296 % (s.S : Int) != (k : Int)) = true := by rw [hsi]; simp; omega
        have HE := Lib.hid (show setOf s.S s.L (unth us j).1 ≠ k by rw [← HAX.out.1]; exact he)
        clear he hsi
        go_wp2_with fail
        go_quiet (fail)
        have J := Lib.hid ((I.out.skip HE.out).grow ((Chg.refl wr none).drewN nq))
        go_wp2
        go_roundw
        case rel => exact ⟨j + 1, g, by omega, by go_num, J⟩
        case measure => simp [intOf]; omega
    · go_wp2
      go_ret
      exact ⟨rfl, I.out.chg⟩
end Go.Proofs.YtlmgiejemdifkaaDoor.Ca
