/- step: Turn. No statement of the seat is proved here. -/
import Derived.Test.YtfoofipkbijajaaStepA
namespace Go.Proofs.Ytfoofipkbijajaa.Sa
open Go.RowKit Go.Proofs.Ytfoofipkbijajaa.Kit
set_option linter.unusedSimpArgs false
set_option linter.unusedVariables false
set_option maxRecDepth 8000 in
set_option maxHeartbeats 8000000 in
theorem step_turn (w : World) (bx by_ b t c : Nat) (T : Nat → Nat) (P : PA) (d : OpD) (ls : List En) (hs fs : List Fr) (pr : Pr w T bx by_ t P P) (bk : BkIs w b T c ls hs fs) (ar : Oa w T d) (ht : 20 ≤ t ∧ t ≤ 900) (hk : d.kind = 3) (hfl : fs.length ≤ 990) :
    Calls Try.prog 19 #[.pointer (some ⟨bx, 0, none⟩), .pointer (some ⟨by_, 0, none⟩), .agg (opCells d).toArray, .pointer (some ⟨b, 0, none⟩)] w (StepPost w T bx by_ b t c ls hs fs []) := by
  have S0 := St.start pr bk ar ht
  obtain ⟨kind, cell, tick, dv, data, there, waits, lv, ld, lt, nv, nd, nt⟩ := d
  simp only at hk
  subst hk
  obtain ⟨w1, hw1⟩ : ∃ x, x = w.alloc (.cells (opCells ⟨3, cell, tick, dv, data, there, waits, lv, ld, lt, nv, nd, nt⟩).toArray 46) := ⟨_, rfl⟩
  rw [← hw1] at S0
  have S1 := Lib.hid S0
  have W1 := Lib.hid (show w1 = w.alloc (.cells #[.int .i64 3, .int .i64 cell, .int .u64 tick, dv, .bool there, .bool waits, lv, .int .u64 lt, nv, .int .u64 nt] 46) from hw1)
  obtain ⟨q, hq⟩ : ∃ q, q = w.heap.size := ⟨_, rfl⟩
  rw [← hq] at S1
  have HQ := Lib.hid hq
  clear pr bk S0 hw1 hq
  go_enter Try.func19, Try.ntmps19
  simp only [opCells]
  go_wp2_with fail
  rw [← W1.out, ← HQ.out]
  refine (S1.out.turnx cell).mono ?_
  rintro e w2 ⟨rfl, T2, S2⟩
  have S2H := Lib.hid S2
  have r1 : w2.cell? ⟨q, 1, none⟩ = some (.int .i64 cell) := S2.cells rfl
  clear S2
  go_wp2_with fail
  refine (S2H.out.turny cell).mono ?_
  rintro e w3 ⟨rfl, T3, S3⟩
  have S3H := Lib.hid S3
  clear r1 S3
  go_wp2
  go_ret
  exact S3H.out.done (by omega)
set_option maxRecDepth 8000 in
set_option maxHeartbeats 8000000 in
theorem step_none (w : World) (bx by_ b t c : Nat) (T : Nat → Nat) (P : PA) (d : OpD) (ls : List En) (hs fs : List Fr) (pr : Pr w T bx by_ t P P) (bk : BkIs w b T c ls hs fs) (ar : Oa w T d) (ht : 20 ≤ t ∧ t ≤ 900) (hk : d.kind ≠ 1 ∧ d.kind ≠ 2 ∧ d.kind ≠ 3 ∧ d.kind ≠ 4 ∧ d.kind ≠ 5 ∧ d.kind ≠ 6) (hfl : fs.length ≤ 990) :
    Calls Try.prog 19 #[.pointer (some ⟨bx, 0, none⟩), .pointer (some ⟨by_, 0, none⟩), .agg (opCells d).toArray, .pointer (some ⟨b, 0, none⟩)] w (StepPost w T bx by_ b t c ls hs fs []) := by
  have S0 := St.start pr bk ar ht
  obtain ⟨kind, cell, tick, dv, data, there, waits, lv, ld, lt, nv, nd, nt⟩ := d
  simp only at hk
  obtain ⟨w1, hw1⟩ : ∃ x, x = w.alloc (.cells (opCells ⟨kind, cell, tick, dv, data, there, waits, lv, ld, lt, nv, nd, nt⟩).toArray 46) := ⟨_, rfl⟩
  rw [← hw1] at S0
  have S1 := Lib.hid S0
  have W1 := Lib.hid (show w1 = w.alloc (.cells #[.int .i64 kind, .int .i64 cell, .int .u64 tick, dv, .bool there, .bool waits, lv, .int .u64 lt, nv, .int .u64 nt] 46) from hw1)
  obtain ⟨q, hq⟩ : ∃ q, q = w.heap.size := ⟨_, rfl⟩
  rw [← hq] at S1
  have HQ := Lib.hid hq
  obtain ⟨k1, k2, k3, k4, k5, k6⟩ := hk
  have b1 : (kind == 1) = false := by simpa using k1
  have b2 : (kind == 2) = false := by simpa using k2
  have b3 : (kind == 3) = false := by simpa using k3
  have b4 : (kind == 4) = false := by simpa using k4
  have b5 : (kind == 5) = false := by simpa using k5
  have b6 : (kind == 6) = false := by simpa using k6
  clear k1 k2 k3 k4 k5 k6
  clear pr bk S0 hw1 hq
  go_enter Try.func19, Try.ntmps19
  simp only [opCells]
  go_wp2
  rw [← W1.out]
  go_ret
  exact S1.out.done (by omega)
end Go.Proofs.Ytfoofipkbijajaa.Sa
