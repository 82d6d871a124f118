/- Holds, Worst: contracts. No statement of the seat is proved here. -/
import Derived.Test.YtlmgiejemdifkaaDoorShape
namespace Go.Proofs.YtlmgiejemdifkaaDoor.Ca
open Go.RowKit Go.Proofs.YtlmgiejemdifkaaDoor.Kit
set_option linter.unusedSimpArgs false
set_option linter.unusedVariables false

/-! ### Holds -/
def holdsT (V : List Ln) (t : Nat) : Bool := decide (seek V t < V.length)
def holdsD (V : List Ln) (t : Nat) : Bool := holdsT V t && dirtyAt V (seek V t)
set_option maxRecDepth 4000 in
set_option maxHeartbeats 1000000 in
theorem holds_core (w : World) (hT : TabAt w) (b : Nat) (s : Shp) (f : Nat → List Ln) (h : CacheIs w b s f) (a : Nat) (ha : a < 4294967296) (k t : Nat) (hkk : setOf s.S s.L a = k) (htt : tagOf s.S s.L a = t) :
    Calls Tryd.prog 17 #[.pointer (some ⟨b, 0, none⟩), .int .u32 a] w fun e w' => e = .returned (.tuple #[.bool (holdsT (f k) t), .bool (holdsD (f k) t)]) ∧ Chg w w' none := by
  have hk : k < 256 := by rw [← hkk]; exact setOf_lt s a
  have HP := Lib.hid (fun W (hT : TabAt W) => (by have := place_any W hT s a ha; rw [hkk, htt] at this; exact this : Calls Tryd.prog 33 #[.agg #[.int .i64 s.S, .int .i64 s.W, .int .i64 s.L], .int .u32 a] W fun e w' => e = .returned (.tuple #[.int .i64 k, .int .u32 t]) ∧ Chg W w' none))
  clear hkk htt
  have hbl := h.lt
  have d0 := h.c0
  have d1 := h.c1
  have d2 := h.c2
  have HH := Lib.hid h
  have HT := Lib.hid hT
  have hW8 := s.hW
  clear h hT
  go_enter Tryd.func17, Tryd.ntmps17
  go_wp2_with fail
  refine (HP.out _ HT.out).mono ?_
  rintro e w2 ⟨rfl, hC⟩
  have H2 := Lib.hid (HH.out.kept hC (by simp))
  have C2 := Lib.hid hC
  clear hC d0 d1 d2
  obtain ⟨L, h8, hrg, hmc, hV⟩ := H2.out.sets k hk
  have hml := H2.out.len k
  have HRG := Lib.hid hrg
  have HV := Lib.hid hV
  have HMC := Lib.hid hmc
  clear hV hrg hmc
  go_wp2_with fail
  refine (find_any w2 b (3 + k * 17) t L (f k).length HRG.out h8 (by omega) HMC.out).mono ?_
  rw [← HV.out]
  rintro e w3 ⟨rfl, hC⟩
  have RG := Lib.hid (range_kept' HRG.out hC (by simp))
  have C3 := Lib.hid (C2.out.trans hC)
  clear hC
  by_cases hs : seek (f k) t < (f k).length
  · obtain ⟨i, hi⟩ : ∃ i, i = seek (f k) t := ⟨_, rfl⟩
    have e1 : seekI (f k) t = i := by unfold seekI; rw [if_pos hs, hi]
    have him : i < (f k).length := by rw [hi]; exact hs
    have e2 : holdsT (f k) t = true := by unfold holdsT; exact decide_eq_true hs
    have e3 : holdsD (f k) t = (lnth L i).2 := by
      unfold holdsD; rw [e2, Bool.true_and, ← hi, HV.out]; show (lnth _ i).2 = _; rw [lnth_take him]
    rw [e1]
    have HE := Lib.hid (And.intro e2 e3)
    clear e1 e2 e3 hs hi
    have hc := (range_at RG.out i (by omega)).2
    go_wp2_with fail
    go_quiet (fail)
    go_wp2
    go_ret2
    exact ⟨by rw [HE.out.1, HE.out.2]; rfl, C3.out.drewN _⟩
  · have e1 : seekI (f k) t = -1 := by unfold seekI; rw [if_neg hs]
    have e2 : holdsT (f k) t = false := by unfold holdsT; exact decide_eq_false hs
    have HE := Lib.hid (show holdsT (f k) t = false ∧ holdsD (f k) t = false from ⟨e2, by unfold holdsD; rw [e2]; rfl⟩)
    rw [e1]
    clear e1 e2 hs
    go_wp2_with fail
    go_quiet (fail)
    go_wp2
    go_ret2
    exact ⟨by rw [HE.out.1, HE.out.2]; rfl, C3.out.drewN _⟩
theorem holds_any (w : World) (hT : TabAt w) (b : Nat) (s : Shp) (f : Nat → List Ln) (h : CacheIs w b s f) (a : Nat) (ha : a < 4294967296) :
    Calls Tryd.prog 17 #[.pointer (some ⟨b, 0, none⟩), .int .u32 a] w fun e w' => e = .returned (.tuple #[.bool (holdsT (f (setOf s.S s.L a)) (tagOf s.S s.L a)), .bool (holdsD (f (setOf s.S s.L a)) (tagOf s.S s.L a))]) ∧ Chg w w' none :=
  holds_core w hT b s f h a ha _ _ rfl rfl

/-! ### Worst -/
set_option maxRecDepth 4000 in
theorem worst_any (w : World) (s : Shp) : Calls Tryd.prog 16 #[.agg #[.int .i64 s.S, .int .i64 s.W, .int .i64 s.L]] w fun e w' => e = .returned (.tuple #[.int .i64 20, .int .i64 (s.S + s.S * s.W * 8 : Nat)]) ∧ Chg w w' none := by
  have C1 := Lib.hid ((Chg.refl w none).alloc (.cells #[.int .i64 s.S, .int .i64 s.W, .int .i64 s.L] 23))
  have hr := heap_alloc_last w (.cells #[.int .i64 s.S, .int .i64 s.W, .int .i64 s.L] 23)
  have hS := s.Sle
  have hW := s.hW
  have hm : s.S * s.W ≤ 256 * 8 := Nat.mul_le_mul hS.2 hW.2
  obtain ⟨p, hp⟩ : ∃ p, p = s.S * s.W := ⟨_, rfl⟩
  have hpi : (s.S : Int) * (s.W : Int) = (p : Int) := by rw [hp]; push_cast; rfl
  rw [← hp] at hm ⊢
  have hw1 := wrap_small (x := (s.S : Int)) (by omega) (by omega)
  have hw2 := wrap_small (x := (p : Int)) (by omega) (by omega)
  have hw3 := wrap_small (x := (p : Int) * 8) (by omega) (by omega)
  have hw4 := wrap_small (x := (s.S : Int) + (p : Int) * 8) (by omega) (by omega)
  clear hp
  go_enter Tryd.func16, Tryd.ntmps16
  go_wp2_with fail
  refine (may_yes _ s).mono ?_
  rintro e w2 ⟨rfl, hC⟩
  have hr2 := (hC.block w.heap.size (by simp) (by simp)).trans hr
  have c0 : w2.cell? ⟨w.heap.size, 0, none⟩ = some (.int .i64 s.S) := by rw [cell_of_row _ _ _ _ _ _ hr2]; rfl
  have c1 : w2.cell? ⟨w.heap.size, 1, none⟩ = some (.int .i64 s.W) := by rw [cell_of_row _ _ _ _ _ _ hr2]; rfl
  have C2 := Lib.hid (C1.out.trans hC)
  clear hC hr hr2
  go_wp2_with fail
  go_quiet (fail)
  go_wp2
  go_ret2
  exact ⟨by simp, C2.out.drewN _⟩
end Go.Proofs.YtlmgiejemdifkaaDoor.Ca
