/- CacheWider: the walk. -/
import Derived.Test.YtlmgiejemdifkaaDoorShape
import Derived.Test.YtlmgiejemdifkaaDoorUses
namespace Go.Proofs.YtlmgiejemdifkaaDoor.Ca
open Go.RowKit Go.Proofs.YtlmgiejemdifkaaDoor.Kit
set_option linter.unusedSimpArgs false
set_option linter.unusedVariables false

/-- A shape with more ways. -/
def Shp.wide (s : Shp) (r : Nat) (h : s.W + r ≤ 8) : Shp := ⟨s.S, s.W + r, s.L, s.i, s.j, s.hS, s.hL, s.hi, s.hj, s.hj4, ⟨by have := s.hW; omega, h⟩⟩
/-- Two caches in memory of the call's own. -/
structure Pair (w wr : World) (b c : Nat) (s t : Shp) (f g : Nat → List Ln) : Prop where
  p : CacheIs wr b s f
  q : CacheIs wr c t g
  ne : b ≠ c
  hb : w.heap.size ≤ b
  hc : w.heap.size ≤ c
  chg : Chg w wr none
  tab : TabAt wr
  one : 1 < w.heap.size
theorem Pair.grow {w wr w2 : World} {b c : Nat} {s t : Shp} {f g : Nat → List Ln} (h : Pair w wr b c s t f g) (hC : Chg wr w2 none) : Pair w w2 b c s t f g :=
  ⟨h.p.kept hC (by simp), h.q.kept hC (by simp), h.ne, h.hb, h.hc, h.chg.trans hC, h.tab.kept hC (by simp), h.one⟩
theorem Pair.onP {w wr w2 : World} {b c : Nat} {s t : Shp} {f g f1 : Nat → List Ln} (h : Pair w wr b c s t f g) (hC : Chg wr w2 (some b)) (hc : CacheIs w2 b s f1) : Pair w w2 b c s t f1 g :=
  ⟨hc, h.q.kept hC (fun e => h.ne (by injection e)), h.ne, h.hb, h.hc, h.chg.trans_new hC h.hb, h.tab.kept hC (fun e => by injection e with e; have := h.hb; have := h.one; omega), h.one⟩
theorem Pair.onQ {w wr w2 : World} {b c : Nat} {s t : Shp} {f g g1 : Nat → List Ln} (h : Pair w wr b c s t f g) (hC : Chg wr w2 (some c)) (hc : CacheIs w2 c t g1) : Pair w w2 b c s t f g1 :=
  ⟨h.p.kept hC (fun e => h.ne (by injection e with e; exact e.symm)), hc, h.ne, h.hb, h.hc, h.chg.trans_new hC h.hc, h.tab.kept hC (fun e => by injection e with e; have := h.hc; have := h.one; omega), h.one⟩
theorem Pair.onNew {w wr w2 : World} {b c q : Nat} {s t : Shp} {f g : Nat → List Ln} (h : Pair w wr b c s t f g) (hC : Chg wr w2 (some q)) (hq : w.heap.size ≤ q) (h1 : q ≠ b) (h2 : q ≠ c) : Pair w w2 b c s t f g :=
  ⟨h.p.kept hC (fun e => h1 (by injection e)), h.q.kept hC (fun e => h2 (by injection e)), h.ne, h.hb, h.hc, h.chg.trans_new hC hq, h.tab.kept hC (fun e => by injection e with e; have := h.one; omega), h.one⟩
/-- What the first one has is the beginning of what the second one has. -/
def Sub (s : Shp) (f g : Nat → List Ln) : Prop := ∀ k, tags (f k) = (tags (g k)).take s.W
theorem sub_next {w wr : World} {b c : Nat} {s t : Shp} {f g : Nat → List Ln} (h : Pair w wr b c s t f g) (hs : Sub s f g) (hW : s.W ≤ t.W) (hS : t.S = s.S) (hL : t.L = s.L) (a : Nat) (x : Bool) :
    Sub s (put f (setOf s.S s.L a) (accV s.W (f (setOf s.S s.L a)) (tagOf s.S s.L a) x)) (put g (setOf t.S t.L a) (accV t.W (g (setOf t.S t.L a)) (tagOf t.S t.L a) x)) := by
  rw [hS, hL]
  intro k
  by_cases e : k = setOf s.S s.L a
  · subst e
    rw [put_same, put_same]
    exact wider_acc _ x x (h.p.len _) (h.q.len _) s.hW.1 hW (hs _)
  · rw [put_other _ _ e, put_other _ _ e]; exact hs k
theorem sub_hit {s t : Shp} {f g : Nat → List Ln} (hs : Sub s f g) (hS : t.S = s.S) (hL : t.L = s.L) (a : Nat) (h : (accT s.W (f (setOf s.S s.L a)) (tagOf s.S s.L a)).hit = true) : (accT t.W (g (setOf t.S t.L a)) (tagOf t.S t.L a)).hit = true := by
  rw [hS, hL]; exact wider_hit _ (hs _) h
set_option maxRecDepth 4000 in
set_option maxHeartbeats 8000000 in
theorem wider_walk (w : World) (hT : TabAt w) (S W L : Int) (hS : i64ok S) (hW : i64ok W) (hL : i64ok L) (v1 : Value) (us : List Us) (h1 : Ru w v1 us) (m : Int) (hm : i64ok m) :
    Calls Tryd.prog 4 #[.agg #[.int .i64 S, .int .i64 W, .int .i64 L], v1, .int .i64 m] w fun e w' => e = .returned (.bool true) ∧ Chg w w' none := by
  have H1 := Lib.hid (fun w' (h : Chg w w' none) => h1.kept h)
  have OK := Lib.hid h1.okay
  have H10 := Lib.hid h1
  obtain ⟨⟨A, cap, rfl, _⟩, hfew, _⟩ := h1
  have HT := Lib.hid hT
  have SH := Lib.hid (fun X => shape_any X S W L hS hW hL)
  have HM := Lib.hid hm
  have C0 := Lib.hid ((Chg.refl w none).alloc (.cells #[.int .i64 S, .int .i64 W, .int .i64 L] 23))
  have R0 := Lib.hid (heap_alloc_last w (.cells #[.int .i64 S, .int .i64 W, .int .i64 L] 23))
  have T0 := Lib.hid (hT.kept C0.out (by simp))
  have h1w := World.block_lt_of_cell? w _ (hT 0 (by decide))
  clear hT hS hW hL hm
  go_enter Tryd.func4, Tryd.ntmps4
  go_wp2_with fail
  refine (awake_any _ T0.out).mono ?_
  rintro e w1 ⟨rfl, hC⟩
  have R1 := (hC.block w.heap.size (by simp) (by simp)).trans R0.out
  have d0 : w1.cell? ⟨w.heap.size, 0, none⟩ = some (.int .i64 S) := by rw [cell_of_row _ _ _ _ _ _ R1]; rfl
  have d1 : w1.cell? ⟨w.heap.size, 1, none⟩ = some (.int .i64 W) := by rw [cell_of_row _ _ _ _ _ _ R1]; rfl
  have d2 : w1.cell? ⟨w.heap.size, 2, none⟩ = some (.int .i64 L) := by rw [cell_of_row _ _ _ _ _ _ R1]; rfl
  have C1 := Lib.hid (C0.out.trans hC)
  have R1' := Lib.hid R1
  clear hC R1
  go_wp2_with fail
  refine (SH.out w1).mono ?_
  rintro e w2 ⟨s, rfl, hC⟩
  have R2 := Lib.hid ((hC.block w.heap.size (Array.getElem?_eq_some_iff.1 R1'.out).1 (by simp)).trans R1'.out)
  have d0 : w2.cell? ⟨w.heap.size, 0, none⟩ = some (.int .i64 S) := by rw [cell_of_row _ _ _ _ _ _ R2.out]; rfl
  have d1 : w2.cell? ⟨w.heap.size, 1, none⟩ = some (.int .i64 W) := by rw [cell_of_row _ _ _ _ _ _ R2.out]; rfl
  have d2 : w2.cell? ⟨w.heap.size, 2, none⟩ = some (.int .i64 L) := by rw [cell_of_row _ _ _ _ _ _ R2.out]; rfl
  have f0 := frozen_of_row w2 w.heap.size 0 _ _ R2.out
  have f1 := frozen_of_row w2 w.heap.size 1 _ _ R2.out
  have f2 := frozen_of_row w2 w.heap.size 2 _ _ R2.out
  have C2 := Lib.hid (C1.out.trans hC)
  have hz := zero23
  clear hC
  go_wp2_with fail
  have C3 := Lib.hid ((((C2.out.set_new 0 (.int .i64 s.S) (Nat.le_refl _)).set_new 1 (.int .i64 s.W) (Nat.le_refl _)).set_new 2 (.int .i64 s.L) (Nat.le_refl _)).alloc (.cells #[.int .i64 s.S, .int .i64 s.W, .int .i64 s.L] 23))
  have hsz : (((w2.setCell ⟨w.heap.size, 0, none⟩ (.int .i64 s.S)).setCell ⟨w.heap.size, 1, none⟩ (.int .i64 s.W)).setCell ⟨w.heap.size, 2, none⟩ (.int .i64 s.L)).heap.size = w2.heap.size := by simp
  have hlt2 : w.heap.size < w2.heap.size := (Array.getElem?_eq_some_iff.1 R2.out).1
  have RA := Lib.hid (Eq.trans (heap_alloc_old (((w2.setCell ⟨w.heap.size, 0, none⟩ (.int .i64 s.S)).setCell ⟨w.heap.size, 1, none⟩ (.int .i64 s.W)).setCell ⟨w.heap.size, 2, none⟩ (.int .i64 s.L)) (.cells #[.int .i64 s.S, .int .i64 s.W, .int .i64 s.L] 23) (r := w.heap.size) (by rw [hsz]; exact hlt2))
    (heap_setCell_same _ w.heap.size 2 _ _ (.int .i64 s.L) (heap_setCell_same _ w.heap.size 1 _ _ (.int .i64 s.W) (heap_setCell_same w2 w.heap.size 0 _ _ (.int .i64 s.S) R2.out))))
  have RB := heap_alloc_last (((w2.setCell ⟨w.heap.size, 0, none⟩ (.int .i64 s.S)).setCell ⟨w.heap.size, 1, none⟩ (.int .i64 s.W)).setCell ⟨w.heap.size, 2, none⟩ (.int .i64 s.L)) (.cells #[.int .i64 s.S, .int .i64 s.W, .int .i64 s.L] 23)
  rw [hsz] at RB
  have RB' := Lib.hid RB
  clear RB hsz f0 f1 f2 d0 d1 d2 hz
  generalize (((w2.setCell ⟨w.heap.size, 0, none⟩ (.int .i64 s.S)).setCell ⟨w.heap.size, 1, none⟩ (.int .i64 s.W)).setCell ⟨w.heap.size, 2, none⟩ (.int .i64 s.L)).alloc (.cells #[.int .i64 s.S, .int .i64 s.W, .int .i64 s.L] 23) = w3 at *
  have hW8 := s.hW
  obtain ⟨n9, hn9⟩ : ∃ n9, n9 = 9 - s.W := ⟨_, rfl⟩
  have P9 := Lib.hid (fun X => pick_any X m n9 HM.out (by omega) (by omega))
  have hr9 := pickN_lt m n9 (by omega)
  generalize pickN m n9 = r at *
  obtain ⟨t, ht⟩ : ∃ t, t = s.wide r (by omega) := ⟨_, rfl⟩
  have hwr : IntKind.i64.wrap (9 - (s.W : Int)) = (n9 : Int) := by rw [wrap_small (by omega) (by omega)]; omega
  have tW : t.W = s.W + r := by rw [ht]; rfl
  have tS : t.S = s.S := by rw [ht]; rfl
  have tL : t.L = s.L := by rw [ht]; rfl
  have hwa : IntKind.i64.wrap ((s.W : Int) + (r : Int)) = (t.W : Int) := by rw [wrap_small (by omega) (by omega), tW]; omega
  have TT := Lib.hid (And.intro tW (And.intro tS tL))
  clear ht tW tS tL hn9
  have c1 : w3.cell? ⟨w2.heap.size, 1, none⟩ = some (.int .i64 s.W) := by rw [cell_of_row _ _ _ _ _ _ RB'.out]; rfl
  have f1 := frozen_of_row w3 w2.heap.size 1 _ _ RB'.out
  refine wp_region_tail 9 (by kernel_rfl) (by kernel_rfl) ?_
  simp only [List.take_succ_cons, List.take_zero, List.drop_succ_cons, List.drop_zero]
  iterate 6 still_step
  still_call ((P9.out w3.drew).mono (fun e w' h => ⟨h.1, h.2.symm⟩))
  iterate 2 still_step
  refine wpStill_nil ?_
  have d0 : w3.cell? ⟨w.heap.size, 0, none⟩ = some (.int .i64 s.S) := by rw [cell_of_row _ _ _ _ _ _ RA.out]; rfl
  have d1 : w3.cell? ⟨w.heap.size, 1, none⟩ = some (.int .i64 s.W) := by rw [cell_of_row _ _ _ _ _ _ RA.out]; rfl
  have d2 : w3.cell? ⟨w.heap.size, 2, none⟩ = some (.int .i64 s.L) := by rw [cell_of_row _ _ _ _ _ _ RA.out]; rfl
  go_wp2_with fail
  have RB4 := Lib.hid (heap_setCell_same w3 w2.heap.size 1 _ _ (.int .i64 t.W) RB'.out)
  have K4 := (Chg.refl w3 (some w2.heap.size)).set 1 (.int .i64 t.W)
  have C4 := Lib.hid (show Chg w (w3.setCell ⟨w2.heap.size, 1, none⟩ (.int .i64 t.W)).drew none from (C3.out.trans_new K4 (by omega)).drewN 1)
  clear c1 f1 K4 hwa hwr d0 d1 d2
  have RB5 := Lib.hid (show (w3.setCell ⟨w2.heap.size, 1, none⟩ (.int .i64 t.W)).drew.heap[w2.heap.size]? = some (.cells #[.int .i64 s.S, .int .i64 t.W, .int .i64 s.L] 23 (0, 0)) from RB4.out)
  generalize (w3.setCell ⟨w2.heap.size, 1, none⟩ (.int .i64 t.W)).drew = w4 at *
  refine (new_ok w4 s).mono ?_
  rintro e w5 ⟨b, rfl, hb, hbs, hC⟩
  have HB := Lib.hid hb
  have C5 := Lib.hid (C4.out.trans hC)
  have RB6 := Lib.hid ((hC.block w2.heap.size (Array.getElem?_eq_some_iff.1 RB5.out).1 (by simp)).trans RB5.out)
  have e0 : w5.cell? ⟨w2.heap.size, 0, none⟩ = some (.int .i64 s.S) := by rw [cell_of_row _ _ _ _ _ _ RB6.out]; rfl
  have e1 : w5.cell? ⟨w2.heap.size, 1, none⟩ = some (.int .i64 t.W) := by rw [cell_of_row _ _ _ _ _ _ RB6.out]; rfl
  have e2 : w5.cell? ⟨w2.heap.size, 2, none⟩ = some (.int .i64 s.L) := by rw [cell_of_row _ _ _ _ _ _ RB6.out]; rfl
  have NT := Lib.hid (new_ok w5 t)
  rw [← TT.out.2.1] at e0
  rw [← TT.out.2.2] at e2
  clear hb hC
  go_wp2_with fail
  refine NT.out.mono ?_
  rintro e w6 ⟨c, rfl, hc, hcs, hC⟩
  have I2 := Lib.hid (show Pair w w6 b c s t (fun _ => []) (fun _ => []) ∧ Sub s (fun _ => []) (fun _ => []) from
    ⟨⟨HB.out.kept hC (by simp), hc, by have := HB.out.lt; omega, Nat.le_trans C4.out.size hbs, Nat.le_trans C5.out.size hcs, C5.out.trans hC, HT.out.kept (C5.out.trans hC) (by simp), h1w⟩, fun k => by simp [tags]⟩)
  clear hc hC HB e0 e1 e2 NT C0 C1 C2 C3 C4 C5 RA RB' RB4 RB5 RB6 R0 R1' R2 T0 SH HM P9
  go_wp2_with fail
  go_loopw [13, 14, 15] (fun i _ _ wr => ∃ (k : Nat) (f g : Nat → List Ln), k ≤ us.length ∧ i = .int .i64 k ∧ Hid (Pair w wr b c s t f g ∧ Sub s f g)) (fun i _ _ _ => us.length - (intOf i).toNat)
  case atStart => exact ⟨0, _, _, by omega, rfl, I2⟩
  case round =>
    obtain ⟨k, f, g, hk, rfl, I⟩ := hrel
    clear I2
    by_cases hlt : k < us.length
    · obtain ⟨ab, ao, hA, hc0, hc1⟩ := (H1.out _ I.out.1.chg).at_ k hlt
      subst hA
      have HAB := Lib.hid (fun (h : k < us.length) => (by obtain ⟨b', o', e, h', _⟩ := H10.out.at_ k h; cases e; exact World.block_lt_of_cell? w _ h' : ab < w.heap.size))
      have HA := Lib.hid (OK.out k)
      obtain ⟨a, ha⟩ : ∃ a, a = (unth us k).1 := ⟨_, rfl⟩
      obtain ⟨x, hx⟩ : ∃ x, x = (unth us k).2 := ⟨_, rfl⟩
      rw [← ha] at hc0 HA
      rw [← hx] at hc1
      have HX' := Lib.hid (And.intro hc0 hc1)
      clear ha hx
      have hz := zero38
      obtain ⟨T1, hT1⟩ : ∃ T, T = accT s.W (f (setOf s.S s.L a)) (tagOf s.S s.L a) := ⟨_, rfl⟩
      obtain ⟨f1, hf1⟩ : ∃ f1, f1 = put f (setOf s.S s.L a) (accV s.W (f (setOf s.S s.L a)) (tagOf s.S s.L a) x) := ⟨_, rfl⟩
      obtain ⟨T2, hT2⟩ : ∃ T, T = accT t.W (g (setOf t.S t.L a)) (tagOf t.S t.L a) := ⟨_, rfl⟩
      obtain ⟨g1, hg1⟩ : ∃ g1, g1 = put g (setOf t.S t.L a) (accV t.W (g (setOf t.S t.L a)) (tagOf t.S t.L a) x) := ⟨_, rfl⟩
      have AC1 := Lib.hid (fun X (h1 : TabAt X) (h2 : CacheIs X b s f) => (by have := access_any X h1 b s f h2 a HA.out x; rw [← hT1, ← hf1] at this; exact this : Calls Tryd.prog 15 #[.pointer (some ⟨b, 0, none⟩), .int .u32 a, .bool x] X fun e w' => e = .returned (.agg #[.bool T1.hit, .bool T1.back, .int .i64 T1.cyc]) ∧ Chg X w' (some b) ∧ CacheIs w' b s f1))
      have AC2 := Lib.hid (fun X (h1 : TabAt X) (h2 : CacheIs X c t g) => (by have := access_any X h1 c t g h2 a HA.out x; rw [← hT2, ← hg1] at this; exact this : Calls Tryd.prog 15 #[.pointer (some ⟨c, 0, none⟩), .int .u32 a, .bool x] X fun e w' => e = .returned (.agg #[.bool T2.hit, .bool T2.back, .int .i64 T2.cyc]) ∧ Chg X w' (some c) ∧ CacheIs w' c t g1))
      have D := Lib.hid (And.intro hT1 (And.intro hf1 (And.intro hT2 hg1)))
      clear hT1 hf1 hT2 hg1
      have hol : b < wr.heap.size := I.out.1.p.lt
      have hol2 : c < wr.heap.size := I.out.1.q.lt
      have hws := I.out.1.chg.size
      have hab := World.block_lt_of_cell? wr _ hc0
      have hba : ab ≠ b := by have := HAB.out hlt; have := I.out.1.hb; simp only at *; omega
      have hca : ab ≠ c := by have := HAB.out hlt; have := I.out.1.hc; simp only at *; omega
      have PR0 := Lib.hid I.out.1
      have A01 := Lib.hid (show Chg wr wr.drew none from (Chg.refl wr none).drewN 1)
      have A11 := Lib.hid (show Chg wr (wr.alloc (.cells #[.bool false, .bool false, .int .i64 0] 38)).drew none from ((Chg.refl wr none).alloc _).drewN 1)
      have U1 := Lib.hid (And.intro hc0 hc1)
      go_wp2_with fail
      go_region_held (fun w' => w'.cell? ⟨ab, ao + k * 2, none⟩ = some (.int .u32 a) ∧ w'.cell? ⟨ab, ao + k * 2 + 1, none⟩ = some (.bool x)) (go_keep) (first
        | (go_at_call 15; refine (AC1.out wr.drew (PR0.out.tab.kept A01.out (by simp)) (PR0.out.p.kept A01.out (by simp))).mono ?_; rintro e wa ⟨rfl, hC, hc⟩
           have hc0 : wa.cell? ⟨ab, ao + k * 2, none⟩ = some (.int .u32 a) := cell_kept (cell_kept U1.out.1 A01.out (by simp)) hC (by intro e; injection e with e; exact hba e.symm)
           have hc1 : wa.cell? ⟨ab, ao + k * 2 + 1, none⟩ = some (.bool x) := cell_kept (cell_kept U1.out.2 A01.out (by simp)) hC (by intro e; injection e with e; exact hba e.symm)
           have HC1 := Lib.hid hc; have C1 := Lib.hid hC; clear hc hC)
        | (go_at_call 15; refine (AC1.out (wr.alloc (.cells #[.bool false, .bool false, .int .i64 0] 38)).drew (PR0.out.tab.kept A11.out (by simp)) (PR0.out.p.kept A11.out (by simp))).mono ?_; rintro e wa ⟨rfl, hC, hc⟩
           have hc0 : wa.cell? ⟨ab, ao + k * 2, none⟩ = some (.int .u32 a) := cell_kept (cell_kept U1.out.1 A11.out (by simp)) hC (by intro e; injection e with e; exact hba e.symm)
           have hc1 : wa.cell? ⟨ab, ao + k * 2 + 1, none⟩ = some (.bool x) := cell_kept (cell_kept U1.out.2 A11.out (by simp)) hC (by intro e; injection e with e; exact hba e.symm)
           have RZ := (hC.block wr.heap.size (by simp) (fun e => by injection e; omega)).trans (show (wr.alloc (.cells #[.bool false, .bool false, .int .i64 0] 38)).drew.heap[wr.heap.size]? = _ from heap_alloc_last wr _)
           have z0 : wa.cell? ⟨wr.heap.size, 0, none⟩ = some (.bool false) := (by rw [cell_of_row _ _ _ _ _ _ RZ]; rfl)
           have z1 : wa.cell? ⟨wr.heap.size, 1, none⟩ = some (.bool false) := (by rw [cell_of_row _ _ _ _ _ _ RZ]; rfl)
           have z2 : wa.cell? ⟨wr.heap.size, 2, none⟩ = some (.int .i64 0) := (by rw [cell_of_row _ _ _ _ _ _ RZ]; rfl)
           have y0 := frozen_of_row wa wr.heap.size 0 _ _ RZ
           have y1 := frozen_of_row wa wr.heap.size 1 _ _ RZ
           have y2 := frozen_of_row wa wr.heap.size 2 _ _ RZ
           have hne : wr.heap.size ≠ ab := (by omega)
           have RZ1 := Lib.hid RZ
           have HC1 := Lib.hid hc; have C1 := Lib.hid hC; clear hc hC RZ))
      · have PRa := (PR0.out.grow A01.out).onP C1.out HC1.out
        have PR1 := Lib.hid (PRa.grow ((Chg.refl _ none).alloc (.cells #[.bool T1.hit, .bool T1.back, .int .i64 T1.cyc] 38)))
        have K1 := Lib.hid (((A01.out.any (some b)).trans C1.out).trans (((Chg.refl _ none).alloc (.cells #[.bool T1.hit, .bool T1.back, .int .i64 T1.cyc] 38)).any _))
        have Q1 := Lib.hid (heap_alloc_last wa (.cells #[.bool T1.hit, .bool T1.back, .int .i64 T1.cyc] 38))
        have hc0' := cell_kept hc0 ((Chg.refl _ none).alloc (.cells #[.bool T1.hit, .bool T1.back, .int .i64 T1.cyc] 38)) (by simp)
        have hc1' := cell_kept hc1 ((Chg.refl _ none).alloc (.cells #[.bool T1.hit, .bool T1.back, .int .i64 T1.cyc] 38)) (by simp)
        have hq1 : wr.heap.size ≤ wa.heap.size := C1.out.size
        clear PRa hc0 hc1
        generalize wa.alloc (.cells #[.bool T1.hit, .bool T1.back, .int .i64 T1.cyc] 38) = w16 at *
        generalize hqq : wa.heap.size = q1 at *
        clear hqq
        have hc0 := hc0'
        have hc1 := hc1'
        clear hc0' hc1'
        have hs16 := K1.out.size
        have A02 := Lib.hid (show Chg w16 w16.drew none from (Chg.refl w16 none).drewN 1)
        have A12 := Lib.hid (show Chg w16 (w16.alloc (.cells #[.bool false, .bool false, .int .i64 0] 38)).drew none from ((Chg.refl w16 none).alloc _).drewN 1)
        have U2 := Lib.hid (And.intro hc0 hc1)
        go_wp2_with fail
        go_region_held (fun w' => w'.cell? ⟨ab, ao + k * 2, none⟩ = some (.int .u32 a) ∧ w'.cell? ⟨ab, ao + k * 2 + 1, none⟩ = some (.bool x)) (go_keep) (first
          | (go_at_call 15; refine (AC2.out w16.drew (PR1.out.tab.kept A02.out (by simp)) (PR1.out.q.kept A02.out (by simp))).mono ?_; rintro e wb ⟨rfl, hC, hc⟩
             have hc0 : wb.cell? ⟨ab, ao + k * 2, none⟩ = some (.int .u32 a) := cell_kept (cell_kept U2.out.1 A02.out (by simp)) hC (by intro e; injection e with e; exact hca e.symm)
             have hc1 : wb.cell? ⟨ab, ao + k * 2 + 1, none⟩ = some (.bool x) := cell_kept (cell_kept U2.out.2 A02.out (by simp)) hC (by intro e; injection e with e; exact hca e.symm)
             have HC2 := Lib.hid hc; have C2 := Lib.hid hC; clear hc hC)
          | (go_at_call 15; refine (AC2.out (w16.alloc (.cells #[.bool false, .bool false, .int .i64 0] 38)).drew (PR1.out.tab.kept A12.out (by simp)) (PR1.out.q.kept A12.out (by simp))).mono ?_; rintro e wb ⟨rfl, hC, hc⟩
             have hc0 : wb.cell? ⟨ab, ao + k * 2, none⟩ = some (.int .u32 a) := cell_kept (cell_kept U2.out.1 A12.out (by simp)) hC (by intro e; injection e with e; exact hca e.symm)
             have hc1 : wb.cell? ⟨ab, ao + k * 2 + 1, none⟩ = some (.bool x) := cell_kept (cell_kept U2.out.2 A12.out (by simp)) hC (by intro e; injection e with e; exact hca e.symm)
             have RZ := (hC.block w16.heap.size (by simp) (fun e => by injection e; omega)).trans (show (w16.alloc (.cells #[.bool false, .bool false, .int .i64 0] 38)).drew.heap[w16.heap.size]? = _ from heap_alloc_last w16 _)
             have z0 : wb.cell? ⟨w16.heap.size, 0, none⟩ = some (.bool false) := (by rw [cell_of_row _ _ _ _ _ _ RZ]; rfl)
             have z1 : wb.cell? ⟨w16.heap.size, 1, none⟩ = some (.bool false) := (by rw [cell_of_row _ _ _ _ _ _ RZ]; rfl)
             have z2 : wb.cell? ⟨w16.heap.size, 2, none⟩ = some (.int .i64 0) := (by rw [cell_of_row _ _ _ _ _ _ RZ]; rfl)
             have y0 := frozen_of_row wb w16.heap.size 0 _ _ RZ
             have y1 := frozen_of_row wb w16.heap.size 1 _ _ RZ
             have y2 := frozen_of_row wb w16.heap.size 2 _ _ RZ
             have hne : w16.heap.size ≠ ab := (by omega)
             have RZ2 := Lib.hid RZ
             have HC2 := Lib.hid hc; have C2 := Lib.hid hC; clear hc hC RZ))
        · have PRa := (PR1.out.grow A02.out).onQ C2.out HC2.out
          have PR2 := Lib.hid (PRa.grow ((Chg.refl _ none).alloc (.cells #[.bool T2.hit, .bool T2.back, .int .i64 T2.cyc] 38)))
          have K2 := Lib.hid (((A02.out.any (some c)).trans C2.out).trans (((Chg.refl _ none).alloc (.cells #[.bool T2.hit, .bool T2.back, .int .i64 T2.cyc] 38)).any _))
          have Q2 := Lib.hid (heap_alloc_last wb (.cells #[.bool T2.hit, .bool T2.back, .int .i64 T2.cyc] 38))
          have hc0' := cell_kept hc0 ((Chg.refl _ none).alloc (.cells #[.bool T2.hit, .bool T2.back, .int .i64 T2.cyc] 38)) (by simp)
          have hc1' := cell_kept hc1 ((Chg.refl _ none).alloc (.cells #[.bool T2.hit, .bool T2.back, .int .i64 T2.cyc] 38)) (by simp)
          have hq2 : w16.heap.size ≤ wb.heap.size := C2.out.size
          clear PRa hc0 hc1
          generalize wb.alloc (.cells #[.bool T2.hit, .bool T2.back, .int .i64 T2.cyc] 38) = w26 at *
          generalize hqq : wb.heap.size = q2 at *
          clear hqq
          have hc0 := hc0'
          have hc1 := hc1'
          have R1 := Lib.hid ((K2.out.block q1 (Array.getElem?_eq_some_iff.1 Q1.out).1 (fun e => by injection e; omega)).trans Q1.out)
          have m0 : w26.cell? ⟨q1, 0, none⟩ = some (.bool T1.hit) := by rw [cell_of_row _ _ _ _ _ _ R1.out]; rfl
          have m1 : w26.cell? ⟨q2, 0, none⟩ = some (.bool T2.hit) := by rw [cell_of_row _ _ _ _ _ _ Q2.out]; rfl
          have FIN := Lib.hid (show Pair w w26 b c s t f1 g1 ∧ Sub s f1 g1 from ⟨PR2.out, by rw [D.out.2.1, D.out.2.2.2]; exact sub_next I.out.1 I.out.2 (by have := TT.out.1; omega) TT.out.2.1 TT.out.2.2 a x⟩)
          have HIT := Lib.hid (show T1.hit = true → T2.hit = true by rw [D.out.1, D.out.2.2.1]; exact sub_hit I.out.2 TT.out.2.1 TT.out.2.2 a)
          clear hc0 hc1 hc0' hc1'
          cases hh : T1.hit with
          | true =>
            have h2 := HIT.out hh
            rw [hh] at m0
            rw [h2] at m1
            clear hh h2
            go_wp2
            go_roundw
            case rel => exact ⟨k + 1, f1, g1, by omega, by go_num, FIN⟩
            case measure => simp [intOf]; omega
          | false =>
            rw [hh] at m0
            clear hh
            go_wp2
            go_roundw
            case rel => exact ⟨k + 1, f1, g1, by omega, by go_num, FIN⟩
            case measure => simp [intOf]; omega
        · have X6 : Chg wb (((wb.setCell ⟨w16.heap.size, 0, none⟩ (.bool T2.hit)).setCell ⟨w16.heap.size, 1, none⟩ (.bool T2.back)).setCell ⟨w16.heap.size, 2, none⟩ (.int .i64 T2.cyc)) (some w16.heap.size) := (((Chg.refl _ _).set 0 _).set 1 _).set 2 _
          have PRa := (PR1.out.grow A12.out).onQ C2.out HC2.out
          have PR2 := Lib.hid (PRa.onNew X6 (by omega) (by omega) (by omega))
          have K2 := Lib.hid (((A12.out.any (some c)).trans C2.out).trans_new X6 (Nat.le_refl _))
          have Q2 := Lib.hid (heap_setCell_same _ w16.heap.size 2 _ _ (.int .i64 T2.cyc) (heap_setCell_same _ w16.heap.size 1 _ _ (.bool T2.back) (heap_setCell_same wb w16.heap.size 0 _ _ (.bool T2.hit) RZ2.out)))
          have hc0' := cell_kept hc0 X6 (by intro e; injection e; omega)
          have hc1' := cell_kept hc1 X6 (by intro e; injection e; omega)
          have hq2 : w16.heap.size ≤ w16.heap.size := Nat.le_refl _
          clear PRa hc0 hc1 X6 z0 z1 z2 y0 y1 y2 hne
          generalize ((wb.setCell ⟨w16.heap.size, 0, none⟩ (.bool T2.hit)).setCell ⟨w16.heap.size, 1, none⟩ (.bool T2.back)).setCell ⟨w16.heap.size, 2, none⟩ (.int .i64 T2.cyc) = w26 at *
          generalize hqq : w16.heap.size = q2 at *
          have hc0 := hc0'
          have hc1 := hc1'
          have R1 := Lib.hid ((K2.out.block q1 (Array.getElem?_eq_some_iff.1 Q1.out).1 (fun e => by injection e; omega)).trans Q1.out)
          have m0 : w26.cell? ⟨q1, 0, none⟩ = some (.bool T1.hit) := by rw [cell_of_row _ _ _ _ _ _ R1.out]; rfl
          have m1 : w26.cell? ⟨q2, 0, none⟩ = some (.bool T2.hit) := by rw [cell_of_row _ _ _ _ _ _ Q2.out]; rfl
          have FIN := Lib.hid (show Pair w w26 b c s t f1 g1 ∧ Sub s f1 g1 from ⟨PR2.out, by rw [D.out.2.1, D.out.2.2.2]; exact sub_next I.out.1 I.out.2 (by have := TT.out.1; omega) TT.out.2.1 TT.out.2.2 a x⟩)
          have HIT := Lib.hid (show T1.hit = true → T2.hit = true by rw [D.out.1, D.out.2.2.1]; exact sub_hit I.out.2 TT.out.2.1 TT.out.2.2 a)
          clear hc0 hc1 hc0' hc1'
          cases hh : T1.hit with
          | true =>
            have h2 := HIT.out hh
            rw [hh] at m0
            rw [h2] at m1
            clear hh h2
            go_wp2
            go_roundw
            case rel => exact ⟨k + 1, f1, g1, by omega, by go_num, FIN⟩
            case measure => simp [intOf]; omega
          | false =>
            rw [hh] at m0
            clear hh
            go_wp2
            go_roundw
            case rel => exact ⟨k + 1, f1, g1, by omega, by go_num, FIN⟩
            case measure => simp [intOf]; omega
      · have X6 : Chg wa (((wa.setCell ⟨wr.heap.size, 0, none⟩ (.bool T1.hit)).setCell ⟨wr.heap.size, 1, none⟩ (.bool T1.back)).setCell ⟨wr.heap.size, 2, none⟩ (.int .i64 T1.cyc)) (some wr.heap.size) := (((Chg.refl _ _).set 0 _).set 1 _).set 2 _
        have PRa := (PR0.out.grow A11.out).onP C1.out HC1.out
        have PR1 := Lib.hid (PRa.onNew X6 (by omega) (by omega) (by omega))
        have K1 := Lib.hid (((A11.out.any (some b)).trans C1.out).trans_new X6 (Nat.le_refl _))
        have Q1 := Lib.hid (heap_setCell_same _ wr.heap.size 2 _ _ (.int .i64 T1.cyc) (heap_setCell_same _ wr.heap.size 1 _ _ (.bool T1.back) (heap_setCell_same wa wr.heap.size 0 _ _ (.bool T1.hit) RZ1.out)))
        have hc0' := cell_kept hc0 X6 (by intro e; injection e; omega)
        have hc1' := cell_kept hc1 X6 (by intro e; injection e; omega)
        have hq1 : wr.heap.size ≤ wr.heap.size := Nat.le_refl _
        clear PRa hc0 hc1 X6 z0 z1 z2 y0 y1 y2 hne
        generalize ((wa.setCell ⟨wr.heap.size, 0, none⟩ (.bool T1.hit)).setCell ⟨wr.heap.size, 1, none⟩ (.bool T1.back)).setCell ⟨wr.heap.size, 2, none⟩ (.int .i64 T1.cyc) = w16 at *
        generalize hqq : wr.heap.size = q1 at *
        have hc0 := hc0'
        have hc1 := hc1'
        clear hc0' hc1'
        have hs16 := K1.out.size
        have A02 := Lib.hid (show Chg w16 w16.drew none from (Chg.refl w16 none).drewN 1)
        have A12 := Lib.hid (show Chg w16 (w16.alloc (.cells #[.bool false, .bool false, .int .i64 0] 38)).drew none from ((Chg.refl w16 none).alloc _).drewN 1)
        have U2 := Lib.hid (And.intro hc0 hc1)
        go_wp2_with fail
        go_region_held (fun w' => w'.cell? ⟨ab, ao + k * 2, none⟩ = some (.int .u32 a) ∧ w'.cell? ⟨ab, ao + k * 2 + 1, none⟩ = some (.bool x)) (go_keep) (first
          | (go_at_call 15; refine (AC2.out w16.drew (PR1.out.tab.kept A02.out (by simp)) (PR1.out.q.kept A02.out (by simp))).mono ?_; rintro e wb ⟨rfl, hC, hc⟩
             have hc0 : wb.cell? ⟨ab, ao + k * 2, none⟩ = some (.int .u32 a) := cell_kept (cell_kept U2.out.1 A02.out (by simp)) hC (by intro e; injection e with e; exact hca e.symm)
             have hc1 : wb.cell? ⟨ab, ao + k * 2 + 1, none⟩ = some (.bool x) := cell_kept (cell_kept U2.out.2 A02.out (by simp)) hC (by intro e; injection e with e; exact hca e.symm)
             have HC2 := Lib.hid hc; have C2 := Lib.hid hC; clear hc hC)
          | (go_at_call 15; refine (AC2.out (w16.alloc (.cells #[.bool false, .bool false, .int .i64 0] 38)).drew (PR1.out.tab.kept A12.out (by simp)) (PR1.out.q.kept A12.out (by simp))).mono ?_; rintro e wb ⟨rfl, hC, hc⟩
             have hc0 : wb.cell? ⟨ab, ao + k * 2, none⟩ = some (.int .u32 a) := cell_kept (cell_kept U2.out.1 A12.out (by simp)) hC (by intro e; injection e with e; exact hca e.symm)
             have hc1 : wb.cell? ⟨ab, ao + k * 2 + 1, none⟩ = some (.bool x) := cell_kept (cell_kept U2.out.2 A12.out (by simp)) hC (by intro e; injection e with e; exact hca e.symm)
             have RZ := (hC.block w16.heap.size (by simp) (fun e => by injection e; omega)).trans (show (w16.alloc (.cells #[.bool false, .bool false, .int .i64 0] 38)).drew.heap[w16.heap.size]? = _ from heap_alloc_last w16 _)
             have z0 : wb.cell? ⟨w16.heap.size, 0, none⟩ = some (.bool false) := (by rw [cell_of_row _ _ _ _ _ _ RZ]; rfl)
             have z1 : wb.cell? ⟨w16.heap.size, 1, none⟩ = some (.bool false) := (by rw [cell_of_row _ _ _ _ _ _ RZ]; rfl)
             have z2 : wb.cell? ⟨w16.heap.size, 2, none⟩ = some (.int .i64 0) := (by rw [cell_of_row _ _ _ _ _ _ RZ]; rfl)
             have y0 := frozen_of_row wb w16.heap.size 0 _ _ RZ
             have y1 := frozen_of_row wb w16.heap.size 1 _ _ RZ
             have y2 := frozen_of_row wb w16.heap.size 2 _ _ RZ
             have hne : w16.heap.size ≠ ab := (by omega)
             have RZ2 := Lib.hid RZ
             have HC2 := Lib.hid hc; have C2 := Lib.hid hC; clear hc hC RZ))
        · have PRa := (PR1.out.grow A02.out).onQ C2.out HC2.out
          have PR2 := Lib.hid (PRa.grow ((Chg.refl _ none).alloc (.cells #[.bool T2.hit, .bool T2.back, .int .i64 T2.cyc] 38)))
          have K2 := Lib.hid (((A02.out.any (some c)).trans C2.out).trans (((Chg.refl _ none).alloc (.cells #[.bool T2.hit, .bool T2.back, .int .i64 T2.cyc] 38)).any _))
          have Q2 := Lib.hid (heap_alloc_last wb (.cells #[.bool T2.hit, .bool T2.back, .int .i64 T2.cyc] 38))
          have hc0' := cell_kept hc0 ((Chg.refl _ none).alloc (.cells #[.bool T2.hit, .bool T2.back, .int .i64 T2.cyc] 38)) (by simp)
          have hc1' := cell_kept hc1 ((Chg.refl _ none).alloc (.cells #[.bool T2.hit, .bool T2.back, .int .i64 T2.cyc] 38)) (by simp)
          have hq2 : w16.heap.size ≤ wb.heap.size := C2.out.size
          clear PRa hc0 hc1
          generalize wb.alloc (.cells #[.bool T2.hit, .bool T2.back, .int .i64 T2.cyc] 38) = w26 at *
          generalize hqq : wb.heap.size = q2 at *
          clear hqq
          have hc0 := hc0'
          have hc1 := hc1'
          have R1 := Lib.hid ((K2.out.block q1 (Array.getElem?_eq_some_iff.1 Q1.out).1 (fun e => by injection e; omega)).trans Q1.out)
          have m0 : w26.cell? ⟨q1, 0, none⟩ = some (.bool T1.hit) := by rw [cell_of_row _ _ _ _ _ _ R1.out]; rfl
          have m1 : w26.cell? ⟨q2, 0, none⟩ = some (.bool T2.hit) := by rw [cell_of_row _ _ _ _ _ _ Q2.out]; rfl
          have FIN := Lib.hid (show Pair w w26 b c s t f1 g1 ∧ Sub s f1 g1 from ⟨PR2.out, by rw [D.out.2.1, D.out.2.2.2]; exact sub_next I.out.1 I.out.2 (by have := TT.out.1; omega) TT.out.2.1 TT.out.2.2 a x⟩)
          have HIT := Lib.hid (show T1.hit = true → T2.hit = true by rw [D.out.1, D.out.2.2.1]; exact sub_hit I.out.2 TT.out.2.1 TT.out.2.2 a)
          clear hc0 hc1 hc0' hc1'
          cases hh : T1.hit with
          | true =>
            have h2 := HIT.out hh
            rw [hh] at m0
            rw [h2] at m1
            clear hh h2
            go_wp2
            go_roundw
            case rel => exact ⟨k + 1, f1, g1, by omega, by go_num, FIN⟩
            case measure => simp [intOf]; omega
          | false =>
            rw [hh] at m0
            clear hh
            go_wp2
            go_roundw
            case rel => exact ⟨k + 1, f1, g1, by omega, by go_num, FIN⟩
            case measure => simp [intOf]; omega
        · have X6 : Chg wb (((wb.setCell ⟨w16.heap.size, 0, none⟩ (.bool T2.hit)).setCell ⟨w16.heap.size, 1, none⟩ (.bool T2.back)).setCell ⟨w16.heap.size, 2, none⟩ (.int .i64 T2.cyc)) (some w16.heap.size) := (((Chg.refl _ _).set 0 _).set 1 _).set 2 _
          have PRa := (PR1.out.grow A12.out).onQ C2.out HC2.out
          have PR2 := Lib.hid (PRa.onNew X6 (by omega) (by omega) (by omega))
          have K2 := Lib.hid (((A12.out.any (some c)).trans C2.out).trans_new X6 (Nat.le_refl _))
          have Q2 := Lib.hid (heap_setCell_same _ w16.heap.size 2 _ _ (.int .i64 T2.cyc) (heap_setCell_same _ w16.heap.size 1 _ _ (.bool T2.back) (heap_setCell_same wb w16.heap.size 0 _ _ (.bool T2.hit) RZ2.out)))
          have hc0' := cell_kept hc0 X6 (by intro e; injection e; omega)
          have hc1' := cell_kept hc1 X6 (by intro e; injection e; omega)
          have hq2 : w16.heap.size ≤ w16.heap.size := Nat.le_refl _
          clear PRa hc0 hc1 X6 z0 z1 z2 y0 y1 y2 hne
          generalize ((wb.setCell ⟨w16.heap.size, 0, none⟩ (.bool T2.hit)).setCell ⟨w16.heap.size, 1, none⟩ (.bool T2.back)).setCell ⟨w16.heap.size, 2, none⟩ (.int .i64 T2.cyc) = w26 at *
          generalize hqq : w16.heap.size = q2 at *
          have hc0 := hc0'
          have hc1 := hc1'
          have R1 := Lib.hid ((K2.out.block q1 (Array.getElem?_eq_some_iff.1 Q1.out).1 (fun e => by injection e; omega)).trans Q1.out)
          have m0 : w26.cell? ⟨q1, 0, none⟩ = some (.bool T1.hit) := by rw [cell_of_row _ _ _ _ _ _ R1.out]; rfl
          have m1 : w26.cell? ⟨q2, 0, none⟩ = some (.bool T2.hit) := by rw [cell_of_row _ _ _ _ _ _ Q2.out]; rfl
          have FIN := Lib.hid (show Pair w w26 b c s t f1 g1 ∧ Sub s f1 g1 from ⟨PR2.out, by rw [D.out.2.1, D.out.2.2.2]; exact sub_next I.out.1 I.out.2 (by have := TT.out.1; omega) TT.out.2.1 TT.out.2.2 a x⟩)
          have HIT := Lib.hid (show T1.hit = true → T2.hit = true by rw [D.out.1, D.out.2.2.1]; exact sub_hit I.out.2 TT.out.2.1 TT.out.2.2 a)
          clear hc0 hc1 hc0' hc1'
          cases hh : T1.hit with
          | true =>
            have h2 := HIT.out hh
            rw [hh] at m0
            rw [h2] at m1
            clear hh h2
            go_wp2
            go_roundw
            case rel => exact ⟨k + 1, f1, g1, by omega, by go_num, FIN⟩
            case measure => simp [intOf]; omega
          | false =>
            rw [hh] at m0
            clear hh
            go_wp2
            go_roundw
            case rel => exact ⟨k + 1, f1, g1, by omega, by go_num, FIN⟩
            case measure => simp [intOf]; omega
    · go_wp2
      go_ret
      exact ⟨rfl, I.out.1.chg⟩
end Go.Proofs.YtlmgiejemdifkaaDoor.Ca
