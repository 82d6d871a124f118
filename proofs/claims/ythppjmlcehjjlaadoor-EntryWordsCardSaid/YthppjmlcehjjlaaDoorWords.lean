/- The document's Decode: its contract; EntryWords: the walk. -/
import Derived.Test.YthppjmlcehjjlaaDoorLaws
namespace Go.Proofs.YthppjmlcehjjlaaDoor.En
open Go.RowKit Go.Proofs.YthppjmlcehjjlaaDoor.Kit
set_option linter.unusedSimpArgs false
set_option linter.unusedVariables false

theorem pageT (w : World) (p : Nat) (h : p = 1 ∨ p = 3 ∨ p = 4 ∨ p = 5 ∨ p = 7) : Calls Tryd.prog 10 #[.int .u8 p] w fun e w' => e = .returned (.bool true) ∧ w = w' := by
  rcases h with rfl | rfl | rfl | rfl | rfl
  all_goals
    go_enter Tryd.func10, Tryd.ntmps10
    go_wp2
    go_ret
    exact ⟨rfl, rfl⟩
theorem pageF (w : World) (p : Nat) (h1 : ((p : Int) == 1) = false) (h3 : ((p : Int) == 3) = false) (h4 : ((p : Int) == 4) = false) (h5 : ((p : Int) == 5) = false) (h7 : ((p : Int) == 7) = false) : Calls Tryd.prog 10 #[.int .u8 p] w fun e w' => e = .returned (.bool false) ∧ w = w' := by
  go_enter Tryd.func10, Tryd.ntmps10
  go_wp2
  go_ret
  exact ⟨rfl, rfl⟩
theorem rpage_any (w : World) (p : Nat) : Calls Tryd.prog 10 #[.int .u8 p] w fun e w' => e = .returned (.bool (pagep p)) ∧ w = w' := by
  cases hq : pagep p with
  | true => exact pageT w p (pagep_cases hq)
  | false =>
    unfold pagep at hq
    simp only [Bool.or_eq_false_iff, beq_eq_false_iff_ne] at hq
    obtain ⟨⟨⟨⟨a, b⟩, c⟩, d⟩, e⟩ := hq
    exact pageF w p (by simp; omega) (by simp; omega) (by simp; omega) (by simp; omega) (by simp; omega)
theorem decW_spell (a : Nat) (h0 : ¬ a = 0) : decW a = if a % 2 = 0 ∨ 32 ≤ a % 4096 then (zeroE, 43) else if 16 ≤ a % 4096 then (if a / 2 % 8 ≠ 0 then (zeroE, 41) else if 4095 < a / 4096 then (zeroE, 42) else (⟨2, 0, a / 4096⟩, 0)) else (if pagep (a / 2 % 8) = false then (zeroE, 41) else if 4095 < a / 4096 then (zeroE, 42) else (⟨1, a / 2 % 8, a / 4096⟩, 0)) := by
  unfold decW; rw [if_neg h0]
set_option maxHeartbeats 4000000 in
theorem rdec_any (w : World) (a : Nat) (ha : a < 4294967296) :
    Calls Tryd.prog 6 #[.int .u32 a] w fun e w' => e = .returned (.tuple #[.agg #[.int .i64 (decW a).1.k, .int .u8 (decW a).1.p, .int .u32 (decW a).1.f], .int .i64 (decW a).2]) ∧ Chg w w' none := by
  have hz := zero26
  have C0 := Lib.hid ((Chg.refl w none).alloc (.cells #[.int .i64 0, .int .u8 0, .int .u32 0] 27))
  have G0 := Lib.hid (heap_alloc_last w (.cells #[.int .i64 0, .int .u8 0, .int .u32 0] 27))
  by_cases h0 : a = 0
  · subst h0
    go_enter Tryd.func6, Tryd.ntmps6
    go_wp2
    refine bodyPost_ret (results_cell_tmp (p := 2) (q := 3) (ty := 27) rfl _ _ w.heap.size 27 #[.int .i64 0, .int .u8 0, .int .u32 0] (0, 0) _ rfl G0.out Tryd.underlying27 rfl info26 (.int .i64 0) rfl) rfl ?_
    exact ⟨rfl, C0.out⟩
  · have x0 : ((a : Int) == 0) = false := by simp; omega
    have E := decW_spell a h0
    obtain ⟨m, hm⟩ : ∃ m, m = a % 4096 := ⟨_, rfl⟩
    obtain ⟨q, hq⟩ : ∃ q, q = a / 4096 := ⟨_, rfl⟩
    have hm4 : m < 4096 := by omega
    have hq4 : q < 1048576 := by omega
    have q1 : (a : Int) % 4096 = (m : Int) := by omega
    have q2 : (a : Int) / 4096 = (q : Int) := by omega
    obtain ⟨r, hr⟩ : ∃ r, r = m % 2 := ⟨_, rfl⟩
    obtain ⟨p, hp⟩ : ∃ p, p = m / 2 % 8 := ⟨_, rfl⟩
    have q3 : (m : Int) % 2 = (r : Int) := by omega
    have q4 : (m : Int) / 2 % 8 = (p : Int) := by omega
    have hp8 : p < 8 := by omega
    rw [show a % 2 = r by omega, show a / 2 % 8 = p by omega, ← hm, ← hq] at E
    have PG := Lib.hid (fun X => rpage_any X p)
    clear hm hq hr hp h0
    by_cases h1 : r = 0
    · have y1 : ((r : Int) == 0) = true := by simp; omega
      have RR := Lib.hid (show decW a = (zeroE, 43) by rw [E, if_pos (.inl h1)])
      have K := Lib.hid G0.out
      have C4 := Lib.hid C0.out
      clear E h1
      go_enter Tryd.func6, Tryd.ntmps6
      go_wp2
      refine bodyPost_ret (results_cell_tmp (p := 2) (q := 3) (ty := 27) rfl _ _ w.heap.size 27 #[.int .i64 0, .int .u8 0, .int .u32 0] (0, 0) _ rfl K.out Tryd.underlying27 rfl info26 (.int .i64 43) rfl) rfl ?_
      exact ⟨by first | (rw [RR.out]; done) | (rw [RR.out]; rfl), C4.out⟩
    · have y1 : ((r : Int) == 0) = false := by simp; omega
      by_cases h2 : 32 ≤ m
      · have y2 : (32 : Int) ≤ (m : Int) := by omega
        have RR := Lib.hid (show decW a = (zeroE, 43) by rw [E, if_pos (.inr h2)])
        have K := Lib.hid G0.out
        have C4 := Lib.hid C0.out
        clear E h1 h2
        go_enter Tryd.func6, Tryd.ntmps6
        go_wp2
        refine bodyPost_ret (results_cell_tmp (p := 2) (q := 3) (ty := 27) rfl _ _ w.heap.size 27 #[.int .i64 0, .int .u8 0, .int .u32 0] (0, 0) _ rfl K.out Tryd.underlying27 rfl info26 (.int .i64 43) rfl) rfl ?_
        exact ⟨by first | (rw [RR.out]; done) | (rw [RR.out]; rfl), C4.out⟩
      · have y2 : (m : Int) < 32 := by omega
        rw [if_neg (by omega)] at E
        by_cases h3 : 16 ≤ m
        · have y3 : (16 : Int) ≤ (m : Int) := by omega
          rw [if_pos h3] at E
          by_cases h4 : p = 0
          · have y4 : ((p : Int) != 0) = false := by simp; omega
            by_cases h5 : 4095 < q
            · have y5 : (4095 : Int) < (q : Int) := by omega
              have RR := Lib.hid (show decW a = (zeroE, 42) by rw [E, if_neg (by omega), if_pos h5])
              have K := Lib.hid G0.out
              have C4 := Lib.hid C0.out
              clear E h1 h2 h3 h4 h5
              go_enter Tryd.func6, Tryd.ntmps6
              go_wp2_with fail
              refine (PG.out _).mono ?_
              rintro e w1 ⟨rfl, rfl⟩
              go_wp2
              refine bodyPost_ret (results_cell_tmp (p := 2) (q := 3) (ty := 27) rfl _ _ w.heap.size 27 #[.int .i64 0, .int .u8 0, .int .u32 0] (0, 0) _ rfl K.out Tryd.underlying27 rfl info26 (.int .i64 42) rfl) rfl ?_
              exact ⟨by first | (rw [RR.out]; done) | (rw [RR.out]; rfl), C4.out⟩
            · have y5 : (q : Int) ≤ 4095 := by omega
              have RR := Lib.hid (show decW a = (⟨2, 0, q⟩, 0) by rw [E, if_neg (by omega), if_neg h5])
              have K := Lib.hid (show (w.alloc (.cells #[.int .i64 2, .int .u8 0, .int .u32 q] 27)).heap[w.heap.size]? = some (.cells #[.int .i64 2, .int .u8 0, .int .u32 q] 27 (0, 0)) from heap_alloc_last w _)
              have C4 := Lib.hid ((Chg.refl w none).alloc (.cells #[.int .i64 2, .int .u8 0, .int .u32 q] 27))
              clear E h1 h2 h3 h4 h5
              go_enter Tryd.func6, Tryd.ntmps6
              go_wp2_with fail
              refine (PG.out _).mono ?_
              rintro e w1 ⟨rfl, rfl⟩
              go_wp2
              refine bodyPost_ret (results_cell_tmp (p := 2) (q := 3) (ty := 27) rfl _ _ w.heap.size 27 #[.int .i64 2, .int .u8 0, .int .u32 q] (0, 0) _ rfl K.out Tryd.underlying27 rfl info26 (.int .i64 0) rfl) rfl ?_
              exact ⟨by first | (rw [RR.out]; done) | (rw [RR.out]; rfl), C4.out⟩
          · have y4 : ((p : Int) != 0) = true := by simp; omega
            have RR := Lib.hid (show decW a = (zeroE, 41) by rw [E, if_pos h4])
            have K := Lib.hid G0.out
            have C4 := Lib.hid C0.out
            clear E h1 h2 h3 h4
            go_enter Tryd.func6, Tryd.ntmps6
            go_wp2_with fail
            refine (PG.out _).mono ?_
            rintro e w1 ⟨rfl, rfl⟩
            go_wp2
            refine bodyPost_ret (results_cell_tmp (p := 2) (q := 3) (ty := 27) rfl _ _ w.heap.size 27 #[.int .i64 0, .int .u8 0, .int .u32 0] (0, 0) _ rfl K.out Tryd.underlying27 rfl info26 (.int .i64 41) rfl) rfl ?_
            exact ⟨by first | (rw [RR.out]; done) | (rw [RR.out]; rfl), C4.out⟩
        · have y3 : (m : Int) < 16 := by omega
          rw [if_neg h3] at E
          cases hg : pagep p with
          | false =>
            rw [hg] at PG
            have RR := Lib.hid (show decW a = (zeroE, 41) by rw [E, if_pos hg])
            have K := Lib.hid G0.out
            have C4 := Lib.hid C0.out
            clear E h1 h2 h3 hg
            go_enter Tryd.func6, Tryd.ntmps6
            go_wp2_with fail
            refine (PG.out _).mono ?_
            rintro e w1 ⟨rfl, rfl⟩
            go_wp2
            refine bodyPost_ret (results_cell_tmp (p := 2) (q := 3) (ty := 27) rfl _ _ w.heap.size 27 #[.int .i64 0, .int .u8 0, .int .u32 0] (0, 0) _ rfl K.out Tryd.underlying27 rfl info26 (.int .i64 41) rfl) rfl ?_
            exact ⟨by first | (rw [RR.out]; done) | (rw [RR.out]; rfl), C4.out⟩
          | true =>
            rw [hg] at PG
            by_cases h5 : 4095 < q
            · have y5 : (4095 : Int) < (q : Int) := by omega
              have RR := Lib.hid (show decW a = (zeroE, 42) by rw [E, if_neg (by rw [hg]; decide), if_pos h5])
              have K := Lib.hid G0.out
              have C4 := Lib.hid C0.out
              clear E h1 h2 h3 hg h5
              go_enter Tryd.func6, Tryd.ntmps6
              go_wp2_with fail
              refine (PG.out _).mono ?_
              rintro e w1 ⟨rfl, rfl⟩
              go_wp2
              refine bodyPost_ret (results_cell_tmp (p := 2) (q := 3) (ty := 27) rfl _ _ w.heap.size 27 #[.int .i64 0, .int .u8 0, .int .u32 0] (0, 0) _ rfl K.out Tryd.underlying27 rfl info26 (.int .i64 42) rfl) rfl ?_
              exact ⟨by first | (rw [RR.out]; done) | (rw [RR.out]; rfl), C4.out⟩
            · have y5 : (q : Int) ≤ 4095 := by omega
              have RR := Lib.hid (show decW a = (⟨1, p, q⟩, 0) by rw [E, if_neg (by rw [hg]; decide), if_neg h5])
              have K := Lib.hid (show (w.alloc (.cells #[.int .i64 1, .int .u8 p, .int .u32 q] 27)).heap[w.heap.size]? = some (.cells #[.int .i64 1, .int .u8 p, .int .u32 q] 27 (0, 0)) from heap_alloc_last w _)
              have C4 := Lib.hid ((Chg.refl w none).alloc (.cells #[.int .i64 1, .int .u8 p, .int .u32 q] 27))
              clear E h1 h2 h3 hg h5
              go_enter Tryd.func6, Tryd.ntmps6
              go_wp2_with fail
              refine (PG.out _).mono ?_
              rintro e w1 ⟨rfl, rfl⟩
              go_wp2
              refine bodyPost_ret (results_cell_tmp (p := 2) (q := 3) (ty := 27) rfl _ _ w.heap.size 27 #[.int .i64 1, .int .u8 p, .int .u32 q] (0, 0) _ rfl K.out Tryd.underlying27 rfl info26 (.int .i64 0) rfl) rfl ?_
              exact ⟨by first | (rw [RR.out]; done) | (rw [RR.out]; rfl), C4.out⟩

/-! ### EntryWords -/
set_option maxRecDepth 100000 in
set_option maxHeartbeats 4000000 in
theorem words_walk (w : World) (hL : Lb w) (a : Nat) (ha : a < 4294967296) : Calls Tryd.prog 3 #[.int .u32 a] w fun e w' => e = .returned (.bool true) ∧ Chg w w' none := by
  have KN := Lib.hid (known_any w hL)
  have RD := Lib.hid (fun X => dec_any X a ha)
  have RR := Lib.hid (fun X => rdec_any X a ha)
  generalize decW a = x at *
  obtain ⟨⟨k, p, f⟩, n⟩ := x
  clear hL
  go_enter Tryd.func3, Tryd.ntmps3
  go_wp2_with fail
  refine KN.out.mono ?_
  rintro e w1 ⟨rfl, hC⟩
  have C1 := Lib.hid hC
  clear hC
  go_wp2_with fail
  refine (RD.out _).mono ?_
  rintro e w2 ⟨rfl, hC⟩
  have C2 := Lib.hid ((C1.out.trans hC).alloc (ent ⟨k, p, f⟩))
  have G2 := Lib.hid (heap_alloc_last w2 (ent ⟨k, p, f⟩))
  clear hC
  go_wp2_with fail
  refine (RR.out _).mono ?_
  rintro e w3 ⟨rfl, hC⟩
  have C3 := Lib.hid ((C2.out.trans hC).alloc (ent ⟨k, p, f⟩))
  obtain ⟨c0, c1, c2, _, _, _⟩ := row3 (row_kept G2.out hC)
  have hl := (Array.getElem?_eq_some_iff.1 (row_kept G2.out hC)).1
  clear hC
  go_wp2
  go_ret
  exact ⟨rfl, C3.out⟩
end Go.Proofs.YthppjmlcehjjlaaDoor.En
