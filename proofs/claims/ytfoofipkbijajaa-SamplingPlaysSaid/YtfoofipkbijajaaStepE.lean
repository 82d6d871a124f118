/- step: State. No statement of the seat is proved here. -/
import Derived.Test.YtfoofipkbijajaaStepA
namespace Go.Proofs.Ytfoofipkbijajaa.Sa
open Go.RowKit Go.Proofs.Ytfoofipkbijajaa.Kit
set_option linter.unusedSimpArgs false
set_option linter.unusedVariables false
/-- A state in a box. -/
def Bx (w : World) (T : Nat → Nat) (p : Nat) (cs : List Value) : Prop := w.heap[p]? = some (.cells cs.toArray 44 (0, 0)) ∧ T p = 0
theorem Bx.fz {w w' : World} {T T' : Nat → Nat} {p : Nat} {cs : List Value} {S : Nat → Prop} (h : Bx w T p cs) (hf : Fz w w' T S) (hS : ¬ S 0) (hT : ∀ x, x < w.heap.size → T' x = T x) : Bx w' T' p cs := by
  have hp : p < w.heap.size := (Array.getElem?_eq_some_iff.1 h.1).1
  exact ⟨(hf.block p hp (by rw [h.2]; exact hS)).trans h.1, (hT p hp).trans h.2⟩
theorem Bx.cell {w : World} {T : Nat → Nat} {p : Nat} {cs : List Value} (h : Bx w T p cs) {k : Nat} {v : Value} (hv : cs[k]? = some v) : w.cell? ⟨p, k, none⟩ = some v := by
  rw [cell_of_row _ _ _ _ _ _ h.1, List.getElem?_toArray]; exact hv
theorem Bx.new (w : World) (T : Nat → Nat) (cs : List Value) : Bx (w.alloc (.cells cs.toArray 44)) (tagN T w.heap.size 0) w.heap.size cs := ⟨heap_alloc_last w _, tagN_new (Nat.le_refl _)⟩
theorem chg_alloc (w : World) (o : Obj) : Chg w (w.alloc o) none := (Chg.refl w none).alloc o
theorem Rb.chg {w w' : World} {v : Value} {xs : List Int} (h : Rb w v xs) (hc : Chg w w' none) : Rb w' v xs := Chg.sl h hc
set_option maxRecDepth 8000 in
set_option maxHeartbeats 8000000 in
theorem step_state (w : World) (bx by_ b t c : Nat) (T : Nat → Nat) (P : PA) (d : OpD) (ls : List En) (hs fs : List Fr) (pr : Pr w T bx by_ t P P) (bk : BkIs w b T c ls hs fs) (ar : Oa w T d) (ht : 20 ≤ t ∧ t ≤ 900) (hk : d.kind = 4) (hfl : fs.length ≤ 990) :
    Calls Try.prog 19 #[.pointer (some ⟨bx, 0, none⟩), .pointer (some ⟨by_, 0, none⟩), .agg (opCells d).toArray, .pointer (some ⟨b, 0, none⟩)] w (StepPost w T bx by_ b t c ls hs fs []) := by
  have S0 := St.start pr bk ar ht
  obtain ⟨kind, cell, tick, dv, data, there, waits, lv, ld, lt, nv, nd, nt⟩ := d
  simp only at hk
  subst hk
  obtain ⟨w1, hw1⟩ : ∃ x, x = w.alloc (.cells (opCells ⟨4, cell, tick, dv, data, there, waits, lv, ld, lt, nv, nd, nt⟩).toArray 46) := ⟨_, rfl⟩
  rw [← hw1] at S0
  have S1 := Lib.hid S0
  have W1 := Lib.hid (show w1 = w.alloc (.cells #[.int .i64 4, .int .i64 cell, .int .u64 tick, dv, .bool there, .bool waits, lv, .int .u64 lt, nv, .int .u64 nt] 46) from hw1)
  obtain ⟨q, hq⟩ : ∃ q, q = w.heap.size := ⟨_, rfl⟩
  rw [← hq] at S1
  have HQ := Lib.hid hq
  clear pr bk S0 hw1 hq
  go_enter Try.func19, Try.ntmps19
  simp only [opCells]
  go_wp2_with fail
  rw [← W1.out, ← HQ.out]
  have hz := zero44
  refine (S1.out.statex (1000 + c + hs.length + fs.length) (1000 + c + hs.length + fs.length + 1)).mono ?_
  rintro e w2 ⟨d1, d2, T2, rfl, hc2, S2, hT2, O1, O2⟩
  obtain ⟨X1, x1, hv1⟩ := own_slice O1.1
  obtain ⟨X2, x2, hv2⟩ := own_slice O2.1
  subst hv1 hv2
  obtain ⟨n1, hn1⟩ : ∃ n, n = P.A.data.length := ⟨_, rfl⟩
  obtain ⟨n2, hn2⟩ : ∃ n, n = P.B.data.length := ⟨_, rfl⟩
  rw [← hn1] at O1 ⊢
  rw [← hn2] at O2 ⊢
  have HN1 := Lib.hid hn1
  have HN2 := Lib.hid hn2
  have CA := Lib.hid (chg_alloc w2 (.cells #[.bool P.A.there, .bool P.B.there, .slice X1 n1 x1, .int .u64 P.A.tick, .slice X2 n2 x2, .int .u64 P.B.tick] 44))
  have S3 := Lib.hid (S2.grow (T' := tagN T2 w2.heap.size 0) CA.out (fun x hx => tagN_old hx))
  have B3 := Lib.hid (Bx.new w2 T2 [.bool P.A.there, .bool P.B.there, .slice X1 n1 x1, .int .u64 P.A.tick, .slice X2 n2 x2, .int .u64 P.B.tick])
  have O13 := Lib.hid (O1.fz (S := fun _ => False) (T' := tagN T2 w2.heap.size 0) (Fz.of_chg CA.out (fun _ e => by cases e)) (fun h => h) (fun x hx => tagN_old hx))
  have O23 := Lib.hid (O2.fz (S := fun _ => False) (T' := tagN T2 w2.heap.size 0) (Fz.of_chg CA.out (fun _ e => by cases e)) (fun h => h) (fun x hx => tagN_old hx))
  clear S2 O1 O2 hT2 hc2 CA hn1 hn2
  obtain ⟨p1, hp1⟩ : ∃ p, p = w2.heap.size := ⟨_, rfl⟩
  have HP1 := Lib.hid hp1
  rw [← hp1] at S3 B3 O13 O23
  go_wp2_with fail
  rw [← hp1]
  clear hp1
  generalize w2.alloc (.cells #[.bool P.A.there, .bool P.B.there, .slice X1 n1 x1, .int .u64 P.A.tick, .slice X2 n2 x2, .int .u64 P.B.tick] 44) = w3 at *
  refine (S3.out.statex (1000 + c + hs.length + fs.length + 2) (1000 + c + hs.length + fs.length + 3)).mono ?_
  rintro e w4 ⟨d3, d4, T4, rfl, hc4, S4, hT4, O3, O4⟩
  obtain ⟨X3, x3, hv3⟩ := own_slice O3.1
  obtain ⟨X4, x4, hv4⟩ := own_slice O4.1
  subst hv3 hv4
  rw [← HN1.out] at O3 ⊢
  rw [← HN2.out] at O4 ⊢
  have F4 : Fz w3 w4 (tagN T2 p1 0) (fun _ => False) := Fz.of_chg hc4 (fun _ e => by cases e)
  have B34 := B3.out.fz F4 (fun h => h) hT4
  have O14 := O13.out.fz F4 (fun h => h) hT4
  have O24 := O23.out.fz F4 (fun h => h) hT4
  have CA := Lib.hid (chg_alloc w4 (.cells #[.bool P.A.there, .bool P.B.there, .slice X3 n1 x3, .int .u64 P.A.tick, .slice X4 n2 x4, .int .u64 P.B.tick] 44))
  have hT5 : ∀ x, x < w4.heap.size → tagN T4 w4.heap.size 0 x = T4 x := fun x hx => tagN_old hx
  have F5 : Fz w4 _ T4 (fun _ => False) := Fz.of_chg CA.out (fun _ e => by cases e)
  have S5 := Lib.hid (S4.grow (T' := tagN T4 w4.heap.size 0) CA.out hT5)
  have B5 := Lib.hid (Bx.new w4 T4 [.bool P.A.there, .bool P.B.there, .slice X3 n1 x3, .int .u64 P.A.tick, .slice X4 n2 x4, .int .u64 P.B.tick])
  have B35 := Lib.hid (B34.fz F5 (fun h => h) hT5)
  have O15 := Lib.hid (O14.fz F5 (fun h => h) hT5)
  have O25 := Lib.hid (O24.fz F5 (fun h => h) hT5)
  have O35 := Lib.hid (O3.fz F5 (fun h => h) hT5)
  have O45 := Lib.hid (O4.fz F5 (fun h => h) hT5)
  clear S4 O3 O4 hT4 hc4 CA hT5 F4 F5 B34 O14 O24 B3 O13 O23 S3
  obtain ⟨p2, hp2⟩ : ∃ p, p = w4.heap.size := ⟨_, rfl⟩
  have HP2 := Lib.hid hp2
  rw [← hp2] at S5 B5 B35 O15 O25 O35 O45
  go_wp2_with fail
  rw [← hp2]
  clear hp2
  generalize w4.alloc (.cells #[.bool P.A.there, .bool P.B.there, .slice X3 n1 x3, .int .u64 P.A.tick, .slice X4 n2 x4, .int .u64 P.B.tick] 44) = w5 at *
  refine S5.out.statey.mono ?_
  rintro e w6 ⟨e5, e6, rfl, hc6, S6, R5, R6⟩
  obtain ⟨Y5, y5, hv5, _⟩ := sl_src R5
  obtain ⟨Y6, y6, hv6, _⟩ := sl_src R6
  subst hv5 hv6
  rw [← HN1.out] at R5 ⊢
  rw [← HN2.out] at R6 ⊢
  have F6 : Fz w5 w6 (tagN T4 p2 0) (fun _ => False) := Fz.of_chg hc6 (fun _ e => by cases e)
  have CA := Lib.hid (chg_alloc w6 (.cells #[.bool P.A.there, .bool P.B.there, .slice Y5 n1 y5, .int .u64 P.A.tick, .slice Y6 n2 y6, .int .u64 P.B.tick] 44))
  have F7 : Fz w6 _ (tagN T4 p2 0) (fun _ => False) := Fz.of_chg CA.out (fun _ e => by cases e)
  have hT7 : ∀ x, x < w6.heap.size → tagN (tagN T4 p2 0) w6.heap.size 0 x = tagN T4 p2 0 x := fun x hx => tagN_old hx
  have S7 := Lib.hid (S6.grow (T' := tagN (tagN T4 p2 0) w6.heap.size 0) CA.out hT7)
  have B7 := Lib.hid (Bx.new w6 (tagN T4 p2 0) [.bool P.A.there, .bool P.B.there, .slice Y5 n1 y5, .int .u64 P.A.tick, .slice Y6 n2 y6, .int .u64 P.B.tick])
  have B37 := Lib.hid ((B35.out.fz F6 (fun h => h) (fun _ _ => rfl)).fz F7 (fun h => h) hT7)
  have B57 := Lib.hid ((B5.out.fz F6 (fun h => h) (fun _ _ => rfl)).fz F7 (fun h => h) hT7)
  have O17 := Lib.hid ((O15.out.fz F6 (fun h => h) (fun _ _ => rfl)).fz F7 (fun h => h) hT7)
  have O27 := Lib.hid ((O25.out.fz F6 (fun h => h) (fun _ _ => rfl)).fz F7 (fun h => h) hT7)
  have O37 := Lib.hid ((O35.out.fz F6 (fun h => h) (fun _ _ => rfl)).fz F7 (fun h => h) hT7)
  have O47 := Lib.hid ((O45.out.fz F6 (fun h => h) (fun _ _ => rfl)).fz F7 (fun h => h) hT7)
  have R57 := Lib.hid (R5.chg CA.out)
  have R67 := Lib.hid (R6.chg CA.out)
  clear S6 R5 R6 hc6 CA hT7 F6 F7 B35 B5 O15 O25 O35 O45 S5
  obtain ⟨p3, hp3⟩ : ∃ p, p = w6.heap.size := ⟨_, rfl⟩
  have HP3 := Lib.hid hp3
  rw [← hp3] at S7 B7 B37 B57 O17 O27 O37 O47
  obtain ⟨T7, hT7e⟩ : ∃ T, T = tagN (tagN T4 p2 0) p3 0 := ⟨_, rfl⟩
  rw [← hT7e] at S7 B7 B37 B57 O17 O27 O37 O47
  clear hT7e
  go_upto_region 36 with (fail)
  rw [← hp3]
  clear hp3
  generalize w6.alloc (.cells #[.bool P.A.there, .bool P.B.there, .slice Y5 n1 y5, .int .u64 P.A.tick, .slice Y6 n2 y6, .int .u64 P.B.tick] 44) = w7 at *
  have a0 : w7.cell? ⟨p1, 0, none⟩ = some (.bool P.A.there) := B37.out.cell rfl
  have a1 : w7.cell? ⟨p1, 1, none⟩ = some (.bool P.B.there) := B37.out.cell rfl
  have a2 : w7.cell? ⟨p1, 2, none⟩ = some (.slice X1 n1 x1) := B37.out.cell rfl
  have a3 : w7.cell? ⟨p1, 3, none⟩ = some (.int .u64 P.A.tick) := B37.out.cell rfl
  have a4 : w7.cell? ⟨p1, 4, none⟩ = some (.slice X2 n2 x2) := B37.out.cell rfl
  have a5 : w7.cell? ⟨p1, 5, none⟩ = some (.int .u64 P.B.tick) := B37.out.cell rfl
  have g0 : w7.cell? ⟨p3, 0, none⟩ = some (.bool P.A.there) := B7.out.cell rfl
  have g1 : w7.cell? ⟨p3, 1, none⟩ = some (.bool P.B.there) := B7.out.cell rfl
  have g2 : w7.cell? ⟨p3, 2, none⟩ = some (.slice Y5 n1 y5) := B7.out.cell rfl
  have g3 : w7.cell? ⟨p3, 3, none⟩ = some (.int .u64 P.A.tick) := B7.out.cell rfl
  have g4 : w7.cell? ⟨p3, 4, none⟩ = some (.slice Y6 n2 y6) := B7.out.cell rfl
  have g5 : w7.cell? ⟨p3, 5, none⟩ = some (.int .u64 P.B.tick) := B7.out.cell rfl
  go_wp2_with fail
  refine (sameState_yes w7 P.A.there P.B.there P.A.tick P.B.tick P.A.data P.B.data _ _ _ _ O17.out.rb R57.out O27.out.rb R67.out).mono ?_
  rintro e w8 ⟨rfl, hc8⟩
  have F8 : Fz w7 w8 T7 (fun _ => False) := Fz.of_chg hc8 (fun _ e => by cases e)
  have S8 := Lib.hid (S7.out.grow hc8 (fun _ _ => rfl))
  have B38 := Lib.hid (B37.out.fz F8 (fun h => h) (fun _ _ => rfl))
  have B58 := Lib.hid (B57.out.fz F8 (fun h => h) (fun _ _ => rfl))
  have B78 := Lib.hid (B7.out.fz F8 (fun h => h) (fun _ _ => rfl))
  have O18 := Lib.hid (O17.out.fz F8 (fun h => h) (fun _ _ => rfl))
  have O28 := Lib.hid (O27.out.fz F8 (fun h => h) (fun _ _ => rfl))
  have O38 := Lib.hid (O37.out.fz F8 (fun h => h) (fun _ _ => rfl))
  have O48 := Lib.hid (O47.out.fz F8 (fun h => h) (fun _ _ => rfl))
  have R58 := Lib.hid (R57.out.chg hc8)
  have R68 := Lib.hid (R67.out.chg hc8)
  clear hc8 F8 B37 B57 B7 O17 O27 O37 O47 R57 R67 S7 a0 a1 a2 a3 a4 a5 g0 g1 g2 g3 g4 g5
  have a0 : w8.cell? ⟨p2, 0, none⟩ = some (.bool P.A.there) := B58.out.cell rfl
  have a1 : w8.cell? ⟨p2, 1, none⟩ = some (.bool P.B.there) := B58.out.cell rfl
  have a2 : w8.cell? ⟨p2, 2, none⟩ = some (.slice X3 n1 x3) := B58.out.cell rfl
  have a3 : w8.cell? ⟨p2, 3, none⟩ = some (.int .u64 P.A.tick) := B58.out.cell rfl
  have a4 : w8.cell? ⟨p2, 4, none⟩ = some (.slice X4 n2 x4) := B58.out.cell rfl
  have a5 : w8.cell? ⟨p2, 5, none⟩ = some (.int .u64 P.B.tick) := B58.out.cell rfl
  have g0 : w8.cell? ⟨p3, 0, none⟩ = some (.bool P.A.there) := B78.out.cell rfl
  have g1 : w8.cell? ⟨p3, 1, none⟩ = some (.bool P.B.there) := B78.out.cell rfl
  have g2 : w8.cell? ⟨p3, 2, none⟩ = some (.slice Y5 n1 y5) := B78.out.cell rfl
  have g3 : w8.cell? ⟨p3, 3, none⟩ = some (.int .u64 P.A.tick) := B78.out.cell rfl
  have g4 : w8.cell? ⟨p3, 4, none⟩ = some (.slice Y6 n2 y6) := B78.out.cell rfl
  have g5 : w8.cell? ⟨p3, 5, none⟩ = some (.int .u64 P.B.tick) := B78.out.cell rfl
  go_wp2_with fail
  refine (sameState_yes w8 P.A.there P.B.there P.A.tick P.B.tick P.A.data P.B.data _ _ _ _ O38.out.rb R58.out O48.out.rb R68.out).mono ?_
  rintro e w9 ⟨rfl, hc9⟩
  have F9 : Fz w8 w9 T7 (fun _ => False) := Fz.of_chg hc9 (fun _ e => by cases e)
  have S9 := Lib.hid (S8.out.grow hc9 (fun _ _ => rfl))
  have B39 := Lib.hid (B38.out.fz F9 (fun h => h) (fun _ _ => rfl))
  have B59 := Lib.hid (B58.out.fz F9 (fun h => h) (fun _ _ => rfl))
  have O19 := Lib.hid (O18.out.fz F9 (fun h => h) (fun _ _ => rfl))
  have O29 := Lib.hid (O28.out.fz F9 (fun h => h) (fun _ _ => rfl))
  have O39 := Lib.hid (O38.out.fz F9 (fun h => h) (fun _ _ => rfl))
  have O49 := Lib.hid (O48.out.fz F9 (fun h => h) (fun _ _ => rfl))
  clear hc9 F9 B38 B58 B78 O18 O28 O38 O48 R58 R68 S8 a0 a1 a2 a3 a4 a5 g0 g1 g2 g3 g4 g5
  have l1 : w9.cell? ⟨p1, 2, none⟩ = some (.slice X1 n1 x1) := B39.out.cell rfl
  go_wp2_with fail
  refine (S9.out.own (by omega) _ _ O19.out).mono ?_
  rintro e v1 ⟨⟨_, rfl⟩, Ta, ua, Sa, hTa, hFa⟩
  have SaH := Lib.hid Sa
  have Ba1 := Lib.hid (B39.out.fz hFa (by omega) hTa)
  have Ba2 := Lib.hid (B59.out.fz hFa (by omega) hTa)
  have Oa2 := Lib.hid (O29.out.fz hFa (by omega) hTa)
  have Oa3 := Lib.hid (O39.out.fz hFa (by omega) hTa)
  have Oa4 := Lib.hid (O49.out.fz hFa (by omega) hTa)
  clear Sa hTa hFa S9 B39 B59 O19 O29 O39 O49 l1
  have l1 : v1.cell? ⟨p1, 4, none⟩ = some (.slice X2 n2 x2) := Ba1.out.cell rfl
  go_wp2_with fail
  refine (SaH.out.own (by simp; omega) _ _ (by have := Oa2.out; simpa [Nat.add_assoc] using this)).mono ?_
  rintro e v2 ⟨⟨_, rfl⟩, Tb, ub, Sb, hTb, hFb⟩
  have SbH := Lib.hid Sb
  have Bb2 := Lib.hid (Ba2.out.fz hFb (by omega) hTb)
  have Ob3 := Lib.hid (Oa3.out.fz hFb (by omega) hTb)
  have Ob4 := Lib.hid (Oa4.out.fz hFb (by omega) hTb)
  clear Sb hTb hFb SaH Ba1 Ba2 Oa2 Oa3 Oa4 l1
  have l1 : v2.cell? ⟨p2, 2, none⟩ = some (.slice X3 n1 x3) := Bb2.out.cell rfl
  go_wp2_with fail
  refine (SbH.out.own (by simp; omega) _ _ (by have := Ob3.out; simpa [Nat.add_assoc] using this)).mono ?_
  rintro e v3 ⟨⟨_, rfl⟩, Tc, uc, Sc, hTc, hFc⟩
  have ScH := Lib.hid Sc
  have Bc2 := Lib.hid (Bb2.out.fz hFc (by omega) hTc)
  have Oc4 := Lib.hid (Ob4.out.fz hFc (by omega) hTc)
  clear Sc hTc hFc SbH Bb2 Ob3 Ob4 l1
  have l1 : v3.cell? ⟨p2, 4, none⟩ = some (.slice X4 n2 x4) := Bc2.out.cell rfl
  go_wp2_with fail
  refine (ScH.out.own (by simp; omega) _ _ (by have := Oc4.out; simpa [Nat.add_assoc] using this)).mono ?_
  rintro e v4 ⟨⟨_, rfl⟩, Td, ud, Sd, hTd, hFd⟩
  have SdH := Lib.hid Sd
  clear Sd hTd hFd ScH Bc2 Oc4 l1
  go_wp2
  go_ret
  have h8 := SdH.out
  exact h8.done (by simp)
end Go.Proofs.Ytfoofipkbijajaa.Sa
