/- Predict, Worst, and the document's, of any shape: contracts. No statement of the seat is proved here. -/
import Derived.Test.YtlmgiejemdifkaaDoorRpred
import Derived.Test.YtlmgiejemdifkaaDoorPredict
import Derived.Test.YtlmgiejemdifkaaDoorHolds
namespace Go.Proofs.YtlmgiejemdifkaaDoor.Ca
open Go.RowKit Go.Proofs.YtlmgiejemdifkaaDoor.Kit
set_option linter.unusedSimpArgs false
set_option linter.unusedVariables false

set_option maxRecDepth 100000 in
set_option maxHeartbeats 4000000 in
theorem predict_no (w : World) (S W L : Int) (hS : i64ok S) (hL : i64ok L) (h : mayB S W L = false) (v1 : Value) :
    Calls Tryd.prog 28 #[.agg #[.int .i64 S, .int .i64 W, .int .i64 L], v1] w fun e w' => e = .returned (.tuple #[.slice none 0 0, .int .i64 30]) ∧ Chg w w' none := by
  have MY := Lib.hid (fun X => may_any X S W L hS hL)
  have C1 := Lib.hid ((Chg.refl w none).alloc (.cells #[.int .i64 S, .int .i64 W, .int .i64 L] 23))
  rw [h] at MY
  clear h
  go_enter Tryd.func28, Tryd.ntmps28
  go_wp2_with fail
  refine (MY.out _).mono ?_
  rintro e w2 ⟨rfl, hC⟩
  have C2 := Lib.hid (C1.out.trans hC)
  clear hC
  go_wp2
  go_ret2
  exact ⟨rfl, C2.out⟩
theorem worst_no (w : World) (S W L : Int) (hS : i64ok S) (hL : i64ok L) (h : mayB S W L = false) :
    Calls Tryd.prog 16 #[.agg #[.int .i64 S, .int .i64 W, .int .i64 L]] w fun e w' => e = .returned (.tuple #[.int .i64 0, .int .i64 0]) ∧ Chg w w' none := by
  have MY := Lib.hid (fun X => may_any X S W L hS hL)
  have C1 := Lib.hid ((Chg.refl w none).alloc (.cells #[.int .i64 S, .int .i64 W, .int .i64 L] 23))
  rw [h] at MY
  clear h
  go_enter Tryd.func16, Tryd.ntmps16
  go_wp2_with fail
  refine (MY.out _).mono ?_
  rintro e w2 ⟨rfl, hC⟩
  have C2 := Lib.hid (C1.out.trans hC)
  clear hC
  go_wp2
  go_ret2
  exact ⟨rfl, C2.out⟩
theorem rworst_no (w : World) (S W L : Int) (hS : i64ok S) (hL : i64ok L) (h : mayB S W L = false) :
    Calls Tryd.prog 30 #[.agg #[.int .i64 S, .int .i64 W, .int .i64 L]] w fun e w' => e = .returned (.tuple #[.int .i64 0, .int .i64 0]) ∧ Chg w w' none := by
  have MY := Lib.hid (fun X => rmay_any X S W L hS hL)
  have C1 := Lib.hid ((Chg.refl w none).alloc (.cells #[.int .i64 S, .int .i64 W, .int .i64 L] 23))
  rw [h] at MY
  clear h
  go_enter Tryd.func30, Tryd.ntmps30
  go_wp2_with fail
  refine (MY.out _).mono ?_
  rintro e w2 ⟨rfl, hC⟩
  have C2 := Lib.hid (C1.out.trans hC)
  clear hC
  go_wp2
  go_ret2
  exact ⟨rfl, C2.out⟩
theorem rworst_any (w : World) (s : Shp) (h : mayB s.S s.W s.L = true) : Calls Tryd.prog 30 #[.agg #[.int .i64 s.S, .int .i64 s.W, .int .i64 s.L]] w fun e w' => e = .returned (.tuple #[.int .i64 20, .int .i64 (s.S + s.S * s.W * 8 : Nat)]) ∧ Chg w w' none := by
  have hS := s.Sle
  have hL := s.Lle
  have MY := Lib.hid (fun X => rmay_any X s.S s.W s.L (by unfold i64ok; omega) (by unfold i64ok; omega))
  rw [h] at MY
  clear h
  have C1 := Lib.hid ((Chg.refl w none).alloc (.cells #[.int .i64 s.S, .int .i64 s.W, .int .i64 s.L] 23))
  have hr := heap_alloc_last w (.cells #[.int .i64 s.S, .int .i64 s.W, .int .i64 s.L] 23)
  have hW := s.hW
  have hm : s.S * s.W ≤ 256 * 8 := Nat.mul_le_mul hS.2 hW.2
  obtain ⟨p, hp⟩ : ∃ p, p = s.S * s.W := ⟨_, rfl⟩
  have hpi : (s.S : Int) * (s.W : Int) = (p : Int) := by rw [hp]; push_cast; rfl
  rw [← hp] at hm ⊢
  have hw1 := wrap_small (x := (s.S : Int)) (by omega) (by omega)
  have hw2 := wrap_small (x := (p : Int)) (by omega) (by omega)
  have hw3 := wrap_small (x := (p : Int) * 8) (by omega) (by omega)
  have hw4 := wrap_small (x := (s.S : Int) + (p : Int) * 8) (by omega) (by omega)
  clear hp
  go_enter Tryd.func30, Tryd.ntmps30
  go_wp2_with fail
  refine (MY.out _).mono ?_
  rintro e w2 ⟨rfl, hC⟩
  have hr2 := (hC.block w.heap.size (by simp) (by simp)).trans hr
  have c0 : w2.cell? ⟨w.heap.size, 0, none⟩ = some (.int .i64 s.S) := by rw [cell_of_row _ _ _ _ _ _ hr2]; rfl
  have c1 : w2.cell? ⟨w.heap.size, 1, none⟩ = some (.int .i64 s.W) := by rw [cell_of_row _ _ _ _ _ _ hr2]; rfl
  have C2 := Lib.hid (C1.out.trans hC)
  clear hC hr2 MY hr
  go_wp2_with fail
  go_quiet (fail)
  go_wp2
  go_ret2
  exact ⟨by simp, C2.out.drewN _⟩

/-! ### whether the shape may be or not: one contract each -/
/-- How many costs are told of n uses, and which. -/
structure Tl (mb : Bool) (S W L : Int) (us : List Us) (n : Nat) (ts : List Value) : Prop where
  len : n = cond mb us.length 0
  is : mb = true → ∃ s : Shp, S = s.S ∧ W = s.W ∧ L = s.L ∧ ts = costs s (fun _ => []) us us.length
  no : mb = false → ts = []
theorem Tl.ex (S W L : Int) (us : List Us) : ∃ n ts, Tl (mayB S W L) S W L us n ts := by
  cases h : mayB S W L with
  | false => exact ⟨0, [], rfl, by simp, fun _ => rfl⟩
  | true =>
    obtain ⟨s, h1, h2, h3⟩ := may_shp h
    exact ⟨us.length, _, rfl, fun _ => ⟨s, h1, h2, h3, rfl⟩, by simp⟩
theorem Tl.one {mb : Bool} {S W L : Int} {us : List Us} {n n2 : Nat} {ts ts2 : List Value} (h : Tl mb S W L us n ts) (k : Tl mb S W L us n2 ts2) : n = n2 ∧ ts = ts2 := by
  refine ⟨h.len.trans k.len.symm, ?_⟩
  cases mb with
  | false => rw [h.no rfl, k.no rfl]
  | true =>
    obtain ⟨s, a1, a2, a3, a4⟩ := h.is rfl
    obtain ⟨s2, b1, b2, b3, b4⟩ := k.is rfl
    have e1 : s.S = s2.S := by omega
    have e2 : s.W = s2.W := by omega
    have e3 : s.L = s2.L := by omega
    obtain rfl : s = s2 := by
      obtain ⟨S1, W1, L1, i, j, p1, p2, p3, p4, p5, p6⟩ := s
      obtain ⟨S2, W2, L2, i2, j2, q1, q2, q3, q4, q5, q6⟩ := s2
      simp only at e1 e2 e3
      subst e1 e2 e3
      obtain rfl : i = i2 := (Nat.pow_right_inj (by decide)).1 (p1.symm.trans q1)
      obtain rfl : j = j2 := (Nat.pow_right_inj (by decide)).1 (p2.symm.trans q2)
      rfl
    rw [a4, b4]
theorem predict_all (w : World) (hT : TabAt w) (S W L : Int) (hS : i64ok S) (hL : i64ok L) (v1 : Value) (us : List Us) (h1 : Ru w v1 us) (hbig : us.length * 16 ≤ 140737488355328) {n : Nat} {ts : List Value} (ht : Tl (mayB S W L) S W L us n ts) :
    Calls Tryd.prog 28 #[.agg #[.int .i64 S, .int .i64 W, .int .i64 L], v1] w fun e w' => ∃ v', e = .returned (.tuple #[v', .int .i64 (cond (mayB S W L) 0 30)]) ∧ w'.ownsRow w.heap.size 38 3 v' n ts ∧ Chg w w' none := by
  cases h : mayB S W L with
  | false =>
    rw [h] at ht
    refine (predict_no w S W L hS hL h v1).mono ?_
    rintro e w' ⟨rfl, hC⟩
    obtain rfl := ht.len
    obtain rfl := ht.no rfl
    exact ⟨_, rfl, World.ownsRow_nil _ _ _ _, hC⟩
  | true =>
    rw [h] at ht
    obtain ⟨s, rfl, rfl, rfl, hts⟩ := ht.is rfl
    obtain rfl := ht.len
    subst hts
    exact predict_any w hT s v1 us h1 hbig
theorem rpredict_all (w : World) (S W L : Int) (hS : i64ok S) (hL : i64ok L) (A1 : Option Addr) (cap : Nat) (us : List Us) (h1 : Ru w (.slice A1 us.length cap) us) (hbig : us.length * 16 ≤ 140737488355328) (hcap : us.length ≤ cap) {n : Nat} {ts : List Value} (ht : Tl (mayB S W L) S W L us n ts) :
    Calls Tryd.prog 29 #[.agg #[.int .i64 S, .int .i64 W, .int .i64 L], .slice A1 us.length cap] w fun e w' => ∃ v', e = .returned (.tuple #[v', .bool (mayB S W L)]) ∧ w'.ownsRow w.heap.size 38 3 v' n ts ∧ Chg w w' none := by
  cases h : mayB S W L with
  | false =>
    rw [h] at ht
    refine (rpredict_no w S W L hS hL h _).mono ?_
    rintro e w' ⟨rfl, hC⟩
    obtain rfl := ht.len
    obtain rfl := ht.no rfl
    exact ⟨_, rfl, World.ownsRow_nil _ _ _ _, hC⟩
  | true =>
    rw [h] at ht
    obtain ⟨s, rfl, rfl, rfl, hts⟩ := ht.is rfl
    obtain rfl := ht.len
    subst hts
    exact rpredict_any w s h A1 cap us h1 hbig hcap
theorem worst_all (S W L : Int) (hS : i64ok S) (hL : i64ok L) : ∃ a b : Int, (∀ w, Calls Tryd.prog 16 #[.agg #[.int .i64 S, .int .i64 W, .int .i64 L]] w fun e w' => e = .returned (.tuple #[.int .i64 a, .int .i64 b]) ∧ Chg w w' none) ∧
    ∀ w, Calls Tryd.prog 30 #[.agg #[.int .i64 S, .int .i64 W, .int .i64 L]] w fun e w' => e = .returned (.tuple #[.int .i64 a, .int .i64 b]) ∧ Chg w w' none := by
  cases h : mayB S W L with
  | false => exact ⟨0, 0, fun w => worst_no w S W L hS hL h, fun w => rworst_no w S W L hS hL h⟩
  | true =>
    obtain ⟨s, rfl, rfl, rfl⟩ := may_shp h
    exact ⟨20, _, fun w => worst_any w s, fun w => rworst_any w s h⟩
end Go.Proofs.YtlmgiejemdifkaaDoor.Ca
