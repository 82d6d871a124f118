/- CacheWorst: the walk. -/
import Derived.Test.YtlmgiejemdifkaaDoorHolds
import Derived.Test.YtlmgiejemdifkaaDoorDirty
import Derived.Test.YtlmgiejemdifkaaDoorUses
namespace Go.Proofs.YtlmgiejemdifkaaDoor.Ca
open Go.RowKit Go.Proofs.YtlmgiejemdifkaaDoor.Kit
set_option linter.unusedSimpArgs false
set_option linter.unusedVariables false

theorem acc_holds {W : Nat} {V : List Ln} {t : Nat} {x : Bool} : holdsT (accV W V t x) t = true ∧ (x = true → holdsD (accV W V t x) t = true) := by
  have key : ∀ (d : Bool) (U : List Ln), holdsT ((t, d) :: U) t = true ∧ holdsD ((t, d) :: U) t = d := fun d U => by
    have e : seek ((t, d) :: U) t = 0 := by simp [seek, List.findIdx_cons]
    have h : holdsT ((t, d) :: U) t = true := by unfold holdsT; rw [e]; simp
    exact ⟨h, by unfold holdsD; rw [h, e]; rfl⟩
  unfold accV
  split
  · exact ⟨(key _ _).1, fun hx => by rw [(key _ _).2, hx, Bool.or_true]⟩
  · split
    · exact ⟨(key _ _).1, fun hx => by rw [(key _ _).2, hx]⟩
    · exact ⟨(key _ _).1, fun hx => by rw [(key _ _).2, hx]⟩
theorem acc_cost (W : Nat) (V : List Ln) (t : Nat) : (accT W V t).cyc ≤ 20 ∧ ((accT W V t).back = true → (accT W V t).hit = false) := by
  unfold accT
  split
  · exact ⟨by decide, fun h => by cases h⟩
  · split
    · exact ⟨by decide, fun _ => rfl⟩
    · exact ⟨by decide, fun _ => rfl⟩
theorem own_shape {w : World} {base : Nat} {e : TypeId} {z : Nat} {v : Value} {n : Nat} {xs : List Value} (h : w.ownsRow base e z v n xs) : ∃ A c, v = .slice A n c := by
  rcases h.2 with ⟨rfl, rfl⟩ | ⟨g, cap, cur, rfl, _⟩
  · exact ⟨_, _, rfl⟩
  · exact ⟨_, _, rfl⟩
theorem lnum_nil : ∀ n, lnum (fun _ => []) n = 0
  | 0 => rfl
  | n + 1 => by rw [lnum, lnum_nil n]; rfl
structure Wo (w wr : World) (b : Nat) (s : Shp) (f : Nat → List Ln) : Prop where
  q : CacheIs wr b s f
  hb : w.heap.size < b
  chg : Chg w wr none
  tab : TabAt wr
  one : 1 < w.heap.size
  box : wr.heap[w.heap.size]? = some (.cells #[.int .i64 s.S, .int .i64 s.W, .int .i64 s.L] 23 (0, 0))
theorem Wo.grow {w wr w2 : World} {b : Nat} {s : Shp} {f : Nat → List Ln} (h : Wo w wr b s f) (hC : Chg wr w2 none) : Wo w w2 b s f :=
  ⟨h.q.kept hC (by simp), h.hb, h.chg.trans hC, h.tab.kept hC (by simp), h.one, (hC.block w.heap.size (Array.getElem?_eq_some_iff.1 h.box).1 (by simp)).trans h.box⟩
theorem Wo.next {w wr w2 : World} {b : Nat} {s : Shp} {f f1 : Nat → List Ln} (h : Wo w wr b s f) (hC : Chg wr w2 (some b)) (hq : CacheIs w2 b s f1) : Wo w w2 b s f1 :=
  ⟨hq, h.hb, h.chg.trans_new hC (Nat.le_of_lt h.hb), h.tab.kept hC (fun e => by injection e with e; have := h.hb; have := h.one; omega), h.one, (hC.block w.heap.size (Array.getElem?_eq_some_iff.1 h.box).1 (fun e => by injection e with e; have := h.hb; omega)).trans h.box⟩
theorem Wo.onNew {w wr w2 : World} {b q : Nat} {s : Shp} {f : Nat → List Ln} (h : Wo w wr b s f) (hC : Chg wr w2 (some q)) (hq : w.heap.size < q) (h1 : q ≠ b) : Wo w w2 b s f :=
  ⟨h.q.kept hC (fun e => h1 (by injection e)), h.hb, h.chg.trans_new hC (Nat.le_of_lt hq), h.tab.kept hC (fun e => by injection e with e; have := h.one; omega), h.one, (hC.block w.heap.size (Array.getElem?_eq_some_iff.1 h.box).1 (fun e => by injection e with e; omega)).trans h.box⟩
set_option maxRecDepth 4000 in
set_option maxHeartbeats 8000000 in
theorem worst_walk (w : World) (hT : TabAt w) (S W L : Int) (hS : i64ok S) (hW : i64ok W) (hL : i64ok L) (v1 : Value) (us : List Us) (h1 : Ru w v1 us) :
    Calls Tryd.prog 5 #[.agg #[.int .i64 S, .int .i64 W, .int .i64 L], v1] w fun e w' => e = .returned (.bool true) ∧ Chg w w' none := by
  have H1 := Lib.hid (fun w' (h : Chg w w' none) => h1.kept h)
  have OK := Lib.hid h1.okay
  have H10 := Lib.hid h1
  obtain ⟨⟨A, cap, rfl, hsh⟩, hfew, _⟩ := h1
  have HT := Lib.hid hT
  have SH := Lib.hid (fun X => shape_any X S W L hS hW hL)
  have C0 := Lib.hid ((Chg.refl w none).alloc (.cells #[.int .i64 S, .int .i64 W, .int .i64 L] 23))
  have R0 := Lib.hid (heap_alloc_last w (.cells #[.int .i64 S, .int .i64 W, .int .i64 L] 23))
  have T0 := Lib.hid (hT.kept C0.out (by simp))
  have h1w := World.block_lt_of_cell? w _ (hT 0 (by decide))
  clear hT hS hW hL hsh
  go_enter Tryd.func5, Tryd.ntmps5
  go_wp2_with fail
  refine (awake_any _ T0.out).mono ?_
  rintro e w1 ⟨rfl, hC⟩
  have R1 := (hC.block w.heap.size (by simp) (by simp)).trans R0.out
  have d0 : w1.cell? ⟨w.heap.size, 0, none⟩ = some (.int .i64 S) := by rw [cell_of_row _ _ _ _ _ _ R1]; rfl
  have d1 : w1.cell? ⟨w.heap.size, 1, none⟩ = some (.int .i64 W) := by rw [cell_of_row _ _ _ _ _ _ R1]; rfl
  have d2 : w1.cell? ⟨w.heap.size, 2, none⟩ = some (.int .i64 L) := by rw [cell_of_row _ _ _ _ _ _ R1]; rfl
  have C1 := Lib.hid (C0.out.trans hC)
  have R1' := Lib.hid R1
  clear hC R1
  go_wp2_with fail
  refine (SH.out w1).mono ?_
  rintro e w2 ⟨s, rfl, hC⟩
  have R2 := Lib.hid ((hC.block w.heap.size (Array.getElem?_eq_some_iff.1 R1'.out).1 (by simp)).trans R1'.out)
  have d0 : w2.cell? ⟨w.heap.size, 0, none⟩ = some (.int .i64 S) := by rw [cell_of_row _ _ _ _ _ _ R2.out]; rfl
  have d1 : w2.cell? ⟨w.heap.size, 1, none⟩ = some (.int .i64 W) := by rw [cell_of_row _ _ _ _ _ _ R2.out]; rfl
  have d2 : w2.cell? ⟨w.heap.size, 2, none⟩ = some (.int .i64 L) := by rw [cell_of_row _ _ _ _ _ _ R2.out]; rfl
  have f0 := frozen_of_row w2 w.heap.size 0 _ _ R2.out
  have f1 := frozen_of_row w2 w.heap.size 1 _ _ R2.out
  have f2 := frozen_of_row w2 w.heap.size 2 _ _ R2.out
  have C2 := Lib.hid (C1.out.trans hC)
  have hz := zero23
  clear hC
  go_wp2_with fail
  have C3 := Lib.hid (((C2.out.set_new 0 (.int .i64 s.S) (Nat.le_refl _)).set_new 1 (.int .i64 s.W) (Nat.le_refl _)).set_new 2 (.int .i64 s.L) (Nat.le_refl _))
  have RA := Lib.hid (heap_setCell_same _ w.heap.size 2 _ _ (.int .i64 s.L) (heap_setCell_same _ w.heap.size 1 _ _ (.int .i64 s.W) (heap_setCell_same w2 w.heap.size 0 _ _ (.int .i64 s.S) R2.out)))
  clear f0 f1 f2 d0 d1 d2 hz
  generalize ((w2.setCell ⟨w.heap.size, 0, none⟩ (.int .i64 s.S)).setCell ⟨w.heap.size, 1, none⟩ (.int .i64 s.W)).setCell ⟨w.heap.size, 2, none⟩ (.int .i64 s.L) = w3 at *
  refine (new_ok w3 s).mono ?_
  rintro e w4 ⟨b, rfl, hb, hbs, hC⟩
  have HB := Lib.hid hb
  have C4 := Lib.hid (C3.out.trans hC)
  have hs3 := (Array.getElem?_eq_some_iff.1 RA.out).1
  have RA4 := Lib.hid ((hC.block w.heap.size hs3 (by simp)).trans RA.out)
  have d0 : w4.cell? ⟨w.heap.size, 0, none⟩ = some (.int .i64 s.S) := by rw [cell_of_row _ _ _ _ _ _ RA4.out]; rfl
  have d1 : w4.cell? ⟨w.heap.size, 1, none⟩ = some (.int .i64 s.W) := by rw [cell_of_row _ _ _ _ _ _ RA4.out]; rfl
  have d2 : w4.cell? ⟨w.heap.size, 2, none⟩ = some (.int .i64 s.L) := by rw [cell_of_row _ _ _ _ _ _ RA4.out]; rfl
  clear hb hC
  go_wp2_with fail
  refine (worst_any w4 s).mono ?_
  rintro e w5 ⟨rfl, hC⟩
  have I2 := Lib.hid (show Wo w w5 b s (fun _ => []) from ⟨HB.out.kept hC (by simp), by omega, C4.out.trans hC, HT.out.kept (C4.out.trans hC) (by simp), h1w, (hC.block w.heap.size (Array.getElem?_eq_some_iff.1 RA4.out).1 (by simp)).trans RA4.out⟩)
  clear hC HB C0 C1 C2 C3 C4 R0 R1' R2 RA RA4 T0 SH d0 d1 d2
  go_wp2_with fail
  go_loopw [10, 11, 12, 13] (fun i _ _ _ wr => ∃ (j : Nat) (f : Nat → List Ln), j ≤ us.length ∧ i = .int .i64 j ∧ Hid (Wo w wr b s f)) (fun i _ _ _ _ => us.length - (intOf i).toNat)
  case atStart => exact ⟨0, _, by omega, rfl, I2⟩
  case round =>
    obtain ⟨j, f, hj, rfl, I⟩ := hrel
    clear I2
    by_cases hlt : j < us.length
    · obtain ⟨ab, ao, hA, hc0, hc1⟩ := (H1.out _ I.out.chg).at_ j hlt
      subst hA
      have HAB := Lib.hid (fun (h : j < us.length) => (by obtain ⟨b', o', e, h', _⟩ := H10.out.at_ j h; cases e; exact World.block_lt_of_cell? w _ h' : ab < w.heap.size))
      have HA := Lib.hid (OK.out j)
      generalize (unth us j).1 = a at *
      generalize (unth us j).2 = x at *
      obtain ⟨T1, hT1⟩ : ∃ T, T = accT s.W (f (setOf s.S s.L a)) (tagOf s.S s.L a) := ⟨_, rfl⟩
      obtain ⟨f1, hf1⟩ : ∃ f1, f1 = put f (setOf s.S s.L a) (accV s.W (f (setOf s.S s.L a)) (tagOf s.S s.L a) x) := ⟨_, rfl⟩
      have AC1 := Lib.hid (fun X (h1 : TabAt X) (h2 : CacheIs X b s f) => (by have := access_any X h1 b s f h2 a HA.out x; rw [← hT1, ← hf1] at this; exact this : Calls Tryd.prog 15 #[.pointer (some ⟨b, 0, none⟩), .int .u32 a, .bool x] X fun e w' => e = .returned (.agg #[.bool T1.hit, .bool T1.back, .int .i64 T1.cyc]) ∧ Chg X w' (some b) ∧ CacheIs w' b s f1))
      have hcost := acc_cost s.W (f (setOf s.S s.L a)) (tagOf s.S s.L a)
      rw [← hT1] at hcost
      obtain ⟨D, hD⟩ : ∃ D, D = holdsD (f1 (setOf s.S s.L a)) (tagOf s.S s.L a) := ⟨_, rfl⟩
      have hh := acc_holds (W := s.W) (V := f (setOf s.S s.L a)) (t := tagOf s.S s.L a) (x := x)
      have ef : f1 (setOf s.S s.L a) = accV s.W (f (setOf s.S s.L a)) (tagOf s.S s.L a) x := by rw [hf1, put_same]
      rw [← ef, ← hD] at hh
      have HO := Lib.hid (fun X (h1 : TabAt X) (h2 : CacheIs X b s f1) => (by have := holds_any X h1 b s f1 h2 a HA.out; rw [hh.1, ← hD] at this; exact this : Calls Tryd.prog 17 #[.pointer (some ⟨b, 0, none⟩), .int .u32 a] X fun e w' => e = .returned (.tuple #[.bool true, .bool D]) ∧ Chg X w' none))
      have XD := Lib.hid hh.2
      have BH := Lib.hid hcost.2
      have hcy : decide (20 < T1.cyc) = false := by have := hcost.1; simp only [decide_eq_false_iff_not]; omega
      clear hT1 hf1 hcost hD hh ef
      have hol : b < wr.heap.size := I.out.q.lt
      have hws := I.out.chg.size
      have hhb := I.out.hb
      have hab := World.block_lt_of_cell? wr _ hc0
      have hba : ab ≠ b := by have := HAB.out hlt; omega
      have A0 := Lib.hid (show Chg wr wr.drew none from (Chg.refl wr none).drewN 1)
      have A1 := Lib.hid (show Chg wr (wr.alloc (.cells #[.bool false, .bool false, .int .i64 0] 38)).drew none from ((Chg.refl wr none).alloc _).drewN 1)
      have U1 := Lib.hid (And.intro hc0 hc1)
      go_wp2_with fail
      go_region_held (fun w' => w'.cell? ⟨ab, ao + j * 2, none⟩ = some (.int .u32 a) ∧ w'.cell? ⟨ab, ao + j * 2 + 1, none⟩ = some (.bool x)) (go_keep) (first
        | (go_at_call 15; refine (AC1.out wr.drew (I.out.tab.kept A0.out (by simp)) (I.out.q.kept A0.out (by simp))).mono ?_; rintro e wa ⟨rfl, hC, hc⟩
           have hc0 : wa.cell? ⟨ab, ao + j * 2, none⟩ = some (.int .u32 a) := cell_kept (cell_kept U1.out.1 A0.out (by simp)) hC (by intro e; injection e with e; exact hba e.symm)
           have hc1 : wa.cell? ⟨ab, ao + j * 2 + 1, none⟩ = some (.bool x) := cell_kept (cell_kept U1.out.2 A0.out (by simp)) hC (by intro e; injection e with e; exact hba e.symm)
           have HC1 := Lib.hid hc; have C1 := Lib.hid hC; clear hc hC)
        | (go_at_call 15; refine (AC1.out (wr.alloc (.cells #[.bool false, .bool false, .int .i64 0] 38)).drew (I.out.tab.kept A1.out (by simp)) (I.out.q.kept A1.out (by simp))).mono ?_; rintro e wa ⟨rfl, hC, hc⟩
           have hc0 : wa.cell? ⟨ab, ao + j * 2, none⟩ = some (.int .u32 a) := cell_kept (cell_kept U1.out.1 A1.out (by simp)) hC (by intro e; injection e with e; exact hba e.symm)
           have hc1 : wa.cell? ⟨ab, ao + j * 2 + 1, none⟩ = some (.bool x) := cell_kept (cell_kept U1.out.2 A1.out (by simp)) hC (by intro e; injection e with e; exact hba e.symm)
           have RZ := (hC.block wr.heap.size (by simp) (fun e => by injection e; omega)).trans (show (wr.alloc (.cells #[.bool false, .bool false, .int .i64 0] 38)).drew.heap[wr.heap.size]? = _ from heap_alloc_last wr _)
           have z0 : wa.cell? ⟨wr.heap.size, 0, none⟩ = some (.bool false) := (by rw [cell_of_row _ _ _ _ _ _ RZ]; rfl)
           have z1 : wa.cell? ⟨wr.heap.size, 1, none⟩ = some (.bool false) := (by rw [cell_of_row _ _ _ _ _ _ RZ]; rfl)
           have z2 : wa.cell? ⟨wr.heap.size, 2, none⟩ = some (.int .i64 0) := (by rw [cell_of_row _ _ _ _ _ _ RZ]; rfl)
           have y0 := frozen_of_row wa wr.heap.size 0 _ _ RZ
           have y1 := frozen_of_row wa wr.heap.size 1 _ _ RZ
           have y2 := frozen_of_row wa wr.heap.size 2 _ _ RZ
           have hne : wr.heap.size ≠ ab := (by omega)
           have RZ1 := Lib.hid RZ
           have HC1 := Lib.hid hc; have C1 := Lib.hid hC; clear hc hC RZ))
      · have X0 := (A0.out.any (some b)).trans C1.out
        have J2 := Lib.hid ((I.out.next X0 HC1.out).grow ((Chg.refl _ none).alloc (.cells #[.bool T1.hit, .bool T1.back, .int .i64 T1.cyc] 38)))
        have Q1 := Lib.hid (heap_alloc_last wa (.cells #[.bool T1.hit, .bool T1.back, .int .i64 T1.cyc] 38))
        have hc0' := cell_kept hc0 ((Chg.refl _ none).alloc (.cells #[.bool T1.hit, .bool T1.back, .int .i64 T1.cyc] 38)) (by simp)
        have hc1' := cell_kept hc1 ((Chg.refl _ none).alloc (.cells #[.bool T1.hit, .bool T1.back, .int .i64 T1.cyc] 38)) (by simp)
        clear hc0 hc1 X0
        go_wp2_with fail
        generalize wa.alloc (.cells #[.bool T1.hit, .bool T1.back, .int .i64 T1.cyc] 38) = w6 at *
        generalize wa.heap.size = q1 at *
        refine (HO.out w6 J2.out.tab J2.out.q).mono ?_
        rintro e w7 ⟨rfl, hC⟩
        have J3 := Lib.hid (J2.out.grow hC)
        have Q2 := Lib.hid ((hC.block q1 (Array.getElem?_eq_some_iff.1 Q1.out).1 (by simp)).trans Q1.out)
        have m0 : w7.cell? ⟨q1, 0, none⟩ = some (.bool T1.hit) := by rw [cell_of_row _ _ _ _ _ _ Q2.out]; rfl
        have m1 : w7.cell? ⟨q1, 1, none⟩ = some (.bool T1.back) := by rw [cell_of_row _ _ _ _ _ _ Q2.out]; rfl
        have m2 : w7.cell? ⟨q1, 2, none⟩ = some (.int .i64 T1.cyc) := by rw [cell_of_row _ _ _ _ _ _ Q2.out]; rfl
        have hc1 := cell_kept hc1' hC (by simp)
        clear hc0' hc1' hC
        cases hbk : T1.back with
        | true =>
          have hh := BH.out hbk
          rw [hbk] at m1
          rw [hh] at m0
          clear hbk hh
          cases x with
          | true =>
            have hd := XD.out rfl
            subst hd
            go_wp2
            go_roundw
            case rel => exact ⟨j + 1, f1, by omega, by go_num, J3⟩
            case measure => simp [intOf]; omega
          | false =>
            go_wp2
            go_roundw
            case rel => exact ⟨j + 1, f1, by omega, by go_num, J3⟩
            case measure => simp [intOf]; omega
        | false =>
          rw [hbk] at m1
          clear hbk
          cases x with
          | true =>
            have hd := XD.out rfl
            subst hd
            go_wp2
            go_roundw
            case rel => exact ⟨j + 1, f1, by omega, by go_num, J3⟩
            case measure => simp [intOf]; omega
          | false =>
            go_wp2
            go_roundw
            case rel => exact ⟨j + 1, f1, by omega, by go_num, J3⟩
            case measure => simp [intOf]; omega
      · have X6 : Chg wa (((wa.setCell ⟨wr.heap.size, 0, none⟩ (.bool T1.hit)).setCell ⟨wr.heap.size, 1, none⟩ (.bool T1.back)).setCell ⟨wr.heap.size, 2, none⟩ (.int .i64 T1.cyc)) (some wr.heap.size) := (((Chg.refl _ _).set 0 _).set 1 _).set 2 _
        have X0 := (A1.out.any (some b)).trans C1.out
        have J2 := Lib.hid ((I.out.next X0 HC1.out).onNew X6 (by omega) (by omega))
        have Q1 := Lib.hid (heap_setCell_same _ wr.heap.size 2 _ _ (.int .i64 T1.cyc) (heap_setCell_same _ wr.heap.size 1 _ _ (.bool T1.back) (heap_setCell_same wa wr.heap.size 0 _ _ (.bool T1.hit) RZ1.out)))
        have hc0' := cell_kept hc0 X6 (by intro e; injection e; omega)
        have hc1' := cell_kept hc1 X6 (by intro e; injection e; omega)
        clear X6 X0 z0 z1 z2 y0 y1 y2
        go_wp2_with fail
        clear hc0 hc1 hne
        generalize ((wa.setCell ⟨wr.heap.size, 0, none⟩ (.bool T1.hit)).setCell ⟨wr.heap.size, 1, none⟩ (.bool T1.back)).setCell ⟨wr.heap.size, 2, none⟩ (.int .i64 T1.cyc) = w6 at *
        generalize hqq : wr.heap.size = q1 at *
        refine (HO.out w6 J2.out.tab J2.out.q).mono ?_
        rintro e w7 ⟨rfl, hC⟩
        have J3 := Lib.hid (J2.out.grow hC)
        have Q2 := Lib.hid ((hC.block q1 (Array.getElem?_eq_some_iff.1 Q1.out).1 (by simp)).trans Q1.out)
        have m0 : w7.cell? ⟨q1, 0, none⟩ = some (.bool T1.hit) := by rw [cell_of_row _ _ _ _ _ _ Q2.out]; rfl
        have m1 : w7.cell? ⟨q1, 1, none⟩ = some (.bool T1.back) := by rw [cell_of_row _ _ _ _ _ _ Q2.out]; rfl
        have m2 : w7.cell? ⟨q1, 2, none⟩ = some (.int .i64 T1.cyc) := by rw [cell_of_row _ _ _ _ _ _ Q2.out]; rfl
        have hc1 := cell_kept hc1' hC (by simp)
        clear hc0' hc1' hC
        cases hbk : T1.back with
        | true =>
          have hh := BH.out hbk
          rw [hbk] at m1
          rw [hh] at m0
          clear hbk hh
          cases x with
          | true =>
            have hd := XD.out rfl
            subst hd
            go_wp2
            go_roundw
            case rel => exact ⟨j + 1, f1, by omega, by go_num, J3⟩
            case measure => simp [intOf]; omega
          | false =>
            go_wp2
            go_roundw
            case rel => exact ⟨j + 1, f1, by omega, by go_num, J3⟩
            case measure => simp [intOf]; omega
        | false =>
          rw [hbk] at m1
          clear hbk
          cases x with
          | true =>
            have hd := XD.out rfl
            subst hd
            go_wp2
            go_roundw
            case rel => exact ⟨j + 1, f1, by omega, by go_num, J3⟩
            case measure => simp [intOf]; omega
          | false =>
            go_wp2
            go_roundw
            case rel => exact ⟨j + 1, f1, by omega, by go_num, J3⟩
            case measure => simp [intOf]; omega
    · have LL := Lib.hid (lines_any wr b s f I.out.q)
      have hLN : lnum f s.S ≤ s.S * s.W := lnum_le I.out.q.len s.S
      have hDL : dirts (lrows f s.S) ≤ lnum f s.S := by rw [lnum_rows]; exact dirts_le _
      obtain ⟨p, hp⟩ : ∃ p, p = s.S * s.W := ⟨_, rfl⟩
      have hpi : (s.S : Int) * (s.W : Int) = (p : Int) := by rw [hp]; push_cast; rfl
      have hpm : p ≤ 256 * 8 := by rw [hp]; exact Nat.mul_le_mul s.Sle.2 s.hW.2
      have hSs := s.Sle
      have hw1 := wrap_small (x := (p : Int)) (by omega) (by omega)
      rw [← hp] at hLN
      have HPp := Lib.hid hp
      clear hp
      go_wp2_with fail
      refine LL.out.mono ?_
      rintro e w21 ⟨v, rfl, hown, hC⟩
      obtain ⟨A1, c1, rfl⟩ := own_shape hown
      have I1 := Lib.hid (I.out.grow hC)
      clear hown hC LL
      have FA := Lib.hid (flush_any w21 b s f I1.out.q)
      generalize dirts (lrows f s.S) = d at *
      generalize lnum f s.S = n at *
      go_wp2_with fail
      refine FA.out.mono ?_
      rintro e w22 ⟨rfl, hq, hC⟩
      have I3 := Lib.hid (I1.out.next hC hq)
      have LL := Lib.hid (lines_any w22 b s _ hq)
      clear hC hq FA
      go_wp2_with fail
      refine LL.out.mono ?_
      rw [lnum_nil]
      rintro e w23 ⟨v3, rfl, hown, hC⟩
      obtain ⟨A3, c3, rfl⟩ := own_shape hown
      have I4 := Lib.hid (I3.out.grow hC)
      have d0 : w23.cell? ⟨w.heap.size, 0, none⟩ = some (.int .i64 s.S) := by rw [cell_of_row _ _ _ _ _ _ I4.out.box]; rfl
      have d1 : w23.cell? ⟨w.heap.size, 1, none⟩ = some (.int .i64 s.W) := by rw [cell_of_row _ _ _ _ _ _ I4.out.box]; rfl
      have q1 : decide (((s.S + d * 8 : Nat) : Int) ≤ ((s.S + s.S * s.W * 8 : Nat) : Int)) = true := by rw [← HPp.out]; simp only [decide_eq_true_eq]; omega
      have q2 : decide (d ≤ n) = true := by simp only [decide_eq_true_eq]; omega
      have q3 : decide (n ≤ p) = true := by simp only [decide_eq_true_eq]; omega
      clear hown hC LL
      go_wp2
      go_ret
      exact ⟨rfl, I4.out.chg⟩
end Go.Proofs.YtlmgiejemdifkaaDoor.Ca
