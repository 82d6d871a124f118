/- step: Read. No statement of the seat is proved here. -/
import Derived.Test.YtfoofipkbijajaaStepA
namespace Go.Proofs.Ytfoofipkbijajaa.Sa
open Go.RowKit Go.Proofs.Ytfoofipkbijajaa.Kit
set_option linter.unusedSimpArgs false
set_option linter.unusedVariables false
set_option maxRecDepth 8000 in
set_option maxHeartbeats 8000000 in
theorem step_read (w : World) (bx by_ b t c : Nat) (T : Nat → Nat) (P : PA) (d : OpD) (ls : List En) (hs fs : List Fr) (pr : Pr w T bx by_ t P P) (bk : BkIs w b T c ls hs fs) (ar : Oa w T d) (ht : 20 ≤ t ∧ t ≤ 900) (hk : d.kind = 2) (hfl : fs.length ≤ 990) :
    Calls Try.prog 19 #[.pointer (some ⟨bx, 0, none⟩), .pointer (some ⟨by_, 0, none⟩), .agg (opCells d).toArray, .pointer (some ⟨b, 0, none⟩)] w (StepPost w T bx by_ b t c ls hs fs []) := by
  have S0 := St.start pr bk ar ht
  obtain ⟨kind, cell, tick, dv, data, there, waits, lv, ld, lt, nv, nd, nt⟩ := d
  simp only at hk
  subst hk
  obtain ⟨w1, hw1⟩ : ∃ x, x = w.alloc (.cells (opCells ⟨2, cell, tick, dv, data, there, waits, lv, ld, lt, nv, nd, nt⟩).toArray 46) := ⟨_, rfl⟩
  rw [← hw1] at S0
  have S1 := Lib.hid S0
  have W1 := Lib.hid (show w1 = w.alloc (.cells #[.int .i64 2, .int .i64 cell, .int .u64 tick, dv, .bool there, .bool waits, lv, .int .u64 lt, nv, .int .u64 nt] 46) from hw1)
  obtain ⟨q, hq⟩ : ∃ q, q = w.heap.size := ⟨_, rfl⟩
  rw [← hq] at S1
  have HQ := Lib.hid hq
  clear pr bk S0 hw1 hq
  go_enter Try.func19, Try.ntmps19
  simp only [opCells]
  go_wp2_with fail
  rw [← W1.out, ← HQ.out]
  refine (S1.out.readx cell (1000 + c + hs.length + fs.length)).mono ?_
  rintro e w2 ⟨v2, rfl, hc2, S2, O2⟩
  obtain ⟨X2, x2, hv2⟩ := own_slice O2.1
  subst hv2
  have S2H := Lib.hid S2
  have O2H := Lib.hid O2
  have r1 : w2.cell? ⟨q, 1, none⟩ = some (.int .i64 cell) := S2.cells rfl
  clear S2 O2 hc2
  go_wp2_with fail
  refine (S2H.out.ready cell).mono ?_
  rintro e w3 ⟨v3, rfl, hc3, S3, O3⟩
  obtain ⟨X3, x3, hv3⟩ := own_slice O3
  subst hv3
  have S3H := Lib.hid S3
  have O2I := Lib.hid (O2H.out.fz (S := fun _ => False) (Fz.of_chg hc3 (fun _ e => by cases e)) (fun h => h) (fun _ _ => rfl))
  have O3H := Lib.hid O3
  have r2 : w3.cell? ⟨q, 1, none⟩ = some (.int .i64 cell) := S3.cells rfl
  clear S3 O3 hc3 r1 O2H
  go_wp2_with fail
  refine (S3H.out.readx cell (1000 + c + hs.length + fs.length + 1)).mono ?_
  rintro e w4 ⟨v4, rfl, hc4, S4, O4⟩
  obtain ⟨X4, x4, hv4⟩ := own_slice O4.1
  subst hv4
  have S4H := Lib.hid S4
  have O2J := Lib.hid (O2I.out.fz (S := fun _ => False) (Fz.of_chg hc4 (fun _ e => by cases e)) (fun h => h) (fun x hx => tagN_old (t := 1000 + c + hs.length + fs.length + 1) hx))
  have O3J := Lib.hid (World.ownsRow.kept O3H.out hc4 (Classical.em _))
  have O4H := Lib.hid O4
  clear S4 O4 hc4 r2 O2I O3H
  go_wp2_with fail
  refine (same_any w4 _ _ (rdata P cell) (rdata P cell) O2J.out.rb (own_sl O3J.out (by have := rdata_len (c := cell) S4H.out.pr.len.1; omega))).mono ?_
  rw [decide_eq_true rfl]
  rintro e w5 ⟨rfl, n5, hw5⟩
  have C5 := Lib.hid (show Chg w4 w5 none from by rw [hw5]; exact (Chg.refl w4 none).drewN n5)
  have S5H := Lib.hid (S4H.out.grow C5.out (fun _ _ => rfl))
  have O2K := Lib.hid (O2J.out.fz (S := fun _ => False) (Fz.of_chg C5.out (fun _ e => by cases e)) (fun h => h) (fun _ _ => rfl))
  have O4K := Lib.hid (O4H.out.fz (S := fun _ => False) (Fz.of_chg C5.out (fun _ e => by cases e)) (fun h => h) (fun _ _ => rfl))
  have O3K := Lib.hid (World.ownsRow.kept O3J.out C5.out (Classical.em _))
  clear hw5 S4H O2J O4H O3J
  go_wp2_with fail
  refine (same_any w5 _ _ (rdata P cell) (rdata P cell) O4K.out.rb (own_sl O3K.out (by have := rdata_len (c := cell) S5H.out.pr.len.1; omega))).mono ?_
  rw [decide_eq_true rfl]
  rintro e w6 ⟨rfl, n6, hw6⟩
  have C6 := Lib.hid (show Chg w5 w6 none from by rw [hw6]; exact (Chg.refl w5 none).drewN n6)
  have S6H := Lib.hid (S5H.out.grow C6.out (fun _ _ => rfl))
  have O2L := Lib.hid (O2K.out.fz (S := fun _ => False) (Fz.of_chg C6.out (fun _ e => by cases e)) (fun h => h) (fun _ _ => rfl))
  have O4L := Lib.hid (O4K.out.fz (S := fun _ => False) (Fz.of_chg C6.out (fun _ e => by cases e)) (fun h => h) (fun _ _ => rfl))
  clear hw6 S5H O2K O4K O3K
  go_wp2_with fail
  refine (S6H.out.own (by omega) _ _ O2L.out).mono ?_
  rintro e w7 ⟨⟨r7, rfl⟩, T7, u7, S7, hT7, hF7⟩
  have S7H := Lib.hid S7
  have O4M := Lib.hid (O4L.out.fz hF7 (by omega) hT7)
  clear S7 hT7 hF7 O2L O4L S6H
  go_wp2_with fail
  refine (S7H.out.own (by simp; omega) _ _ (by have := O4M.out; simpa [Nat.add_assoc] using this)).mono ?_
  rintro e w8 ⟨⟨r8, rfl⟩, T8, u8, S8, hT8, hF8⟩
  have S8H := Lib.hid S8
  clear S8 hT8 hF8 O4M S7H
  go_wp2
  go_ret
  have h8 := S8H.out
  exact h8.done (by simp)
end Go.Proofs.Ytfoofipkbijajaa.Sa
