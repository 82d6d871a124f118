/- step: Many. No statement of the seat is proved here. -/
import Derived.Test.YtfoofipkbijajaaStepA
namespace Go.Proofs.Ytfoofipkbijajaa.Sa
open Go.RowKit Go.Proofs.Ytfoofipkbijajaa.Kit
set_option linter.unusedSimpArgs false
set_option linter.unusedVariables false
set_option maxRecDepth 8000 in
set_option maxHeartbeats 8000000 in
theorem step_many (w : World) (bx by_ b t c : Nat) (T : Nat → Nat) (P : PA) (d : OpD) (ls : List En) (hs fs : List Fr) (pr : Pr w T bx by_ t P P) (bk : BkIs w b T c ls hs fs) (ar : Oa w T d) (ht : 20 ≤ t ∧ t ≤ 900) (hk : d.kind = 6) (hfl : fs.length ≤ 990) :
    Calls Try.prog 19 #[.pointer (some ⟨bx, 0, none⟩), .pointer (some ⟨by_, 0, none⟩), .agg (opCells d).toArray, .pointer (some ⟨b, 0, none⟩)] w (StepPost w T bx by_ b t c ls hs fs []) := by
  have S0 := St.start pr bk ar ht
  obtain ⟨kind, cell, tick, dv, data, there, waits, lv, ld, lt, nv, nd, nt⟩ := d
  simp only at hk
  subst hk
  obtain ⟨w1, hw1⟩ : ∃ x, x = w.alloc (.cells (opCells ⟨6, cell, tick, dv, data, there, waits, lv, ld, lt, nv, nd, nt⟩).toArray 46) := ⟨_, rfl⟩
  rw [← hw1] at S0
  have S1 := Lib.hid S0
  have W1 := Lib.hid (show w1 = w.alloc (.cells #[.int .i64 6, .int .i64 cell, .int .u64 tick, dv, .bool there, .bool waits, lv, .int .u64 lt, nv, .int .u64 nt] 46) from hw1)
  obtain ⟨q, hq⟩ : ∃ q, q = w.heap.size := ⟨_, rfl⟩
  rw [← hq] at S1
  have HQ := Lib.hid hq
  have hd := ar.data.1
  simp only at hd
  have hdl : data.length ≤ 140737488351232 := by have := hd.few; omega
  obtain ⟨⟨A, capd, e, hcd, _⟩, _⟩ := hd
  subst e
  have htk : tick < 18446744073709551616 := ar.tick
  clear pr bk S0 hw1 hq
  go_enter Try.func19, Try.ntmps19
  simp only [opCells]
  go_upto_region 10 with (fail)
  rw [← W1.out, ← HQ.out]
  obtain ⟨M, hM⟩ : ∃ M : Nat, (tick : Int) % 300 = M := ⟨tick % 300, by omega⟩
  have hM3 : M < 300 := by omega
  rw [hM]
  clear hM
  have L0 := Lib.hid (⟨_, P, S1.out⟩ : ∃ Tk Pk, St w w1 T Tk bx by_ b q t c Pk Pk ⟨6, cell, tick, (.slice A data.length capd), data, there, waits, lv, ld, lt, nv, nd, nt⟩ ls hs fs)
  clear W1 S1
  go_loopw [13] (fun i wr => ∃ k : Nat, k ≤ M ∧ i = .int .i64 k ∧ Hid (∃ Tk Pk, St w wr T Tk bx by_ b q t c Pk Pk ⟨6, cell, tick, (.slice A data.length capd), data, there, waits, lv, ld, lt, nv, nd, nt⟩ ls hs fs)) (fun i _ => M - (intOf i).toNat)
  case atStart => exact ⟨0, by omega, rfl, L0⟩
  case round =>
    obtain ⟨k, hk, rfl, I⟩ := hrel
    clear L0
    obtain ⟨Tk, Pk, SK⟩ := I.out
    have S1 := Lib.hid SK
    clear I
    by_cases hlt : k < M
    · have r3 : wr.cell? ⟨q, 3, none⟩ = some (.slice A data.length capd) := SK.cells rfl
      clear SK
      go_wp2_with fail
      refine (S1.out.giv (.slice A data.length capd) data S1.out.arg.1).mono ?_
      rintro e w2 ⟨g, cap, N, T2, rfl, hLen, hRow, hN, hg8, S2⟩
      have S2H := Lib.hid S2
      have LEN := Lib.hid hLen
      have ROWG := Lib.hid hRow
      have hcapg := hLen.cap
      clear r3
      have r1 : w2.cell? ⟨q, 1, none⟩ = some (.int .i64 cell) := S2.cells rfl
      have r2 : w2.cell? ⟨q, 2, none⟩ = some (.int .u64 tick) := S2.cells rfl
      have r3 : w2.cell? ⟨q, 3, none⟩ = some (.slice A data.length capd) := S2.cells rfl
      obtain ⟨tk, htk2⟩ : ∃ tk : Nat, IntKind.u64.wrap ((tick : Int) + (k : Int)) = (tk : Int) := ⟨(tick + k) % 18446744073709551616, by simp [IntKind.wrap, IntKind.signed, IntKind.bits]⟩
      have hkw : IntKind.u64.wrap (k : Int) = (k : Int) := by simp [IntKind.wrap, IntKind.signed, IntKind.bits]; omega
      have DR := Lib.hid (show Chg w2 w2.drew none from ⟨rfl, rfl, rfl, Nat.le_refl _, fun _ _ _ => rfl⟩)
      have WX := Lib.hid ((S2.grow DR.out (fun _ _ => rfl)).writex cell tk (.slice (some ⟨g, 0, none⟩) data.length cap) data (Chg.sl hLen.data DR.out))
      have GB := Lib.hid (show g ≠ bx from fun e => by have h1 := S2.pr.tx; have h2 := ht.1; rw [← e] at h1; omega)
      have GL := Lib.hid (show g < w2.heap.size from (Array.getElem?_eq_some_iff.1 hRow.choose_spec.1).1)
      clear S2 hLen hRow
      go_wp2
      go_region_held (fun w' => w'.cell? ⟨q, 1, none⟩ = some (.int .i64 cell) ∧ w'.cell? ⟨q, 2, none⟩ = some (.int .u64 tick) ∧ w'.cell? ⟨q, 3, none⟩ = some (.slice A data.length capd)) (go_keep) (first | (go_at_call 14; refine WX.out.mono ?_; rintro e w3 ⟨rfl, hc3, T3, S3, hT3⟩; have s1 : w3.cell? ⟨q, 1, none⟩ = some (.int .i64 cell) := S3.cells rfl; have s2 : w3.cell? ⟨q, 2, none⟩ = some (.int .u64 tick) := S3.cells rfl; have s3 : w3.cell? ⟨q, 3, none⟩ = some (.slice A data.length capd) := S3.cells rfl; have S3H := Lib.hid S3; have C3 := Lib.hid hc3; have HT3 := Lib.hid hT3; clear S3 hc3 hT3))
      have L3 := Lib.hid (LEN.out.kept (w' := w3) ((C3.out.block g GL.out (fun e => GB.out (by injection e))).trans rfl))
      have R3 := Lib.hid (ROWG.out.kept (w' := w3) ((C3.out.block g GL.out (fun e => GB.out (by injection e))).trans rfl))
      have G3 := Lib.hid (show T3 g = 8 from (HT3.out g GL.out).trans hg8)
      clear r1 r2 r3 s1 s2
      go_wp2_with fail
      refine (S3H.out.kep g cap N (.slice A data.length capd) data L3.out hN R3.out (by have := G3.out; omega) S3H.out.arg.1.1).mono ?_
      rintro e w4 ⟨rfl, hc4, S4⟩
      have r1 : w4.cell? ⟨q, 1, none⟩ = some (.int .i64 cell) := S4.cells rfl
      have r2 : w4.cell? ⟨q, 2, none⟩ = some (.int .u64 tick) := S4.cells rfl
      have r3 : w4.cell? ⟨q, 3, none⟩ = some (.slice A data.length capd) := S4.cells rfl
      have S4H := Lib.hid S4
      clear S4 hc4 s3
      go_wp2_with fail
      refine (S4H.out.writey cell tk (.slice A data.length capd) data S4H.out.arg.1).mono ?_
      rintro e w5 ⟨rfl, T5, S5⟩
      have S5H := Lib.hid S5
      have r5 : w5.cell? ⟨q, 1, none⟩ = some (.int .i64 cell) := S5.cells rfl
      clear S5 r1 r2 r3 htk2 hkw
      go_wp2_with fail
      refine (S5H.out.turnx cell).mono ?_
      rintro e w6 ⟨rfl, T6, S6⟩
      have S6H := Lib.hid S6
      have r6 : w6.cell? ⟨q, 1, none⟩ = some (.int .i64 cell) := S6.cells rfl
      clear S6 r5
      go_wp2_with fail
      refine (S6H.out.turny cell).mono ?_
      rintro e w7 ⟨rfl, T7, S7⟩
      have J := Lib.hid (⟨_, _, S7⟩ : ∃ Tk Pk, St w w7 T Tk bx by_ b q t c Pk Pk ⟨6, cell, tick, (.slice A data.length capd), data, there, waits, lv, ld, lt, nv, nd, nt⟩ ls hs fs)
      clear S7 r6
      have hne1 : (wres Pk.W Pk.S cell data.length != wres Pk.W Pk.S cell data.length) = false := by simp
      go_wp2
      go_roundw
      case rel => exact ⟨k + 1, by omega, by go_num, J⟩
      case measure => simp [intOf]; omega
    · obtain rfl : k = M := by omega
      clear SK
      go_wp2
      go_ret
      exact S1.out.done (by omega)
end Go.Proofs.Ytfoofipkbijajaa.Sa
