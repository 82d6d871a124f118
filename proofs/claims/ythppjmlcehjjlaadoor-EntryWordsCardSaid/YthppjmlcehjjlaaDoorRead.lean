/- Read: its contract. No statement of the seat is proved here. -/
import Derived.Test.YthppjmlcehjjlaaDoorShow
import Derived.Test.YthppjmlcehjjlaaDoorCut
import Derived.StillTailTactics
import Derived.Deep.CutRange
import Derived.Outline
namespace Go.Proofs.YthppjmlcehjjlaaDoor.En
open Go.RowKit Go.Proofs.YthppjmlcehjjlaaDoor.Kit
set_option linter.unusedSimpArgs false
set_option linter.unusedVariables false

/-! ### which entry a text is tried as -/
def pBit (l : List UInt8) (k : Nat) (c : UInt8) (v : Nat) : Nat := if l[k]? = some c then v else 0
def pOf (l : List UInt8) : Nat → Nat
  | 0 => 0
  | k + 1 => pOf l k + (if l[k]? = rwx.data.toList[k]? then 2 ^ k else 0)
def tryE (l : List UInt8) (n : Nat) : Ent := if l = [45] then zeroE else if l = [116, 97, 98] then ⟨2, 0, n⟩ else ⟨1, pOf l (min l.length 3), n⟩
theorem pOf_lt (l : List UInt8) : ∀ k, pOf l k < 2 ^ k
  | 0 => by simp [pOf]
  | k + 1 => by
    have := pOf_lt l k
    rw [pOf, Nat.pow_succ]
    split <;> omega
theorem perm_back {p : Nat} (h : pagep p = true) : tryE (permB p) = fun n => ⟨1, p, n⟩ := by
  funext n
  rcases pagep_cases h with rfl | rfl | rfl | rfl | rfl <;> rfl
theorem perm_no {p : Nat} (h : pagep p = true) : (32 : UInt8) ∉ permB p := by
  rcases pagep_cases h with rfl | rfl | rfl | rfl | rfl <;> decide
/-- The text is an entry's just if it is that of the one it is tried as. -/
theorem read_try {l : List UInt8} {n : Nat} (hn : ∀ f, f < 4096 → (cutL l).2 = hex3 f → n = f) :
    readE l = if l ≠ [] ∧ showE (tryE (cutL l).1 n) = l then (tryE (cutL l).1 n, 0) else (zeroE, 44) := by
  by_cases h : l ≠ [] ∧ showE (tryE (cutL l).1 n) = l
  · rw [if_pos h]
    refine read_of ?_ h.2
    by_cases hk : okE (tryE (cutL l).1 n)
    · exact hk
    · rw [show_not hk] at h; exact absurd h.2.symm h.1
  · rw [if_neg h]
    refine read_none (fun e he hs => h ⟨fun e0 => show_ne he (hs.trans e0), ?_⟩)
    obtain ⟨k, p, f⟩ := e
    rcases okE_cases he with e | ⟨e1, e2, e3⟩ | ⟨e1, e2, e3⟩ <;> (try simp only at *)
    · rw [e, show_zero] at hs
      subst hs
      rw [cut_none (by decide)]
      rfl
    · subst e1
      rw [show_page e2 e3, List.append_assoc] at hs
      have hc : cutL l = (permB p, hex3 f) := by rw [← hs]; exact cut_at (perm_no e2)
      rw [hc] at hn ⊢
      obtain rfl := hn f (by omega) rfl
      rw [perm_back e2, show_page e2 e3, ← hs, List.append_assoc]
    · subst e1 e2
      rw [show_table e3] at hs
      have hc : cutL l = ([116, 97, 98], hex3 f) := by rw [← hs]; exact cut_at (a := [116, 97, 98]) (b := hex3 f) (by decide)
      rw [hc] at hn ⊢
      obtain rfl := hn f (by omega) rfl
      rw [← hs]
      exact show_table e3
theorem try_ok (l : List UInt8) (n : Nat) (hn : n ≤ 4294967295) : (tryE l n).p < 256 ∧ (tryE l n).f < 4294967296 ∧ -9223372036854775808 ≤ (tryE l n).k ∧ (tryE l n).k ≤ 9223372036854775807 := by
  unfold tryE
  split
  · simp [zeroE]
  · split
    · simp; omega
    · have h1 := pOf_lt l (min l.length 3)
      have h2 : (2 : Nat) ^ (min l.length 3) ≤ 2 ^ 3 := Nat.pow_le_pow_right (by decide) (Nat.min_le_right _ _)
      refine ⟨by simp only; omega, by simp only; omega, by simp only; omega, by simp only; omega⟩
/-- What holds ahead of the last test: both entries in their boxes. -/
structure Tl (w z : World) (E : Nat) (e : Ent) : Prop where
  chg : Chg w z none
  res : z.heap[w.heap.size]? = some (.cells #[.int .i64 0, .int .u8 0, .int .u32 0] 27 (0, 0))
  ent : z.heap[E]? = some (.cells #[.int .i64 e.k, .int .u8 e.p, .int .u32 e.f] 27 (0, 0))
  lt : w.heap.size < E
theorem Tl.grow {w z z' : World} {E : Nat} {e : Ent} (h : Tl w z E e) (hC : Chg z z' none) : Tl w z' E e :=
  ⟨h.chg.trans hC, (hC.block _ (Array.getElem?_eq_some_iff.1 h.res).1 (by simp)).trans h.res, (hC.block _ (Array.getElem?_eq_some_iff.1 h.ent).1 (by simp)).trans h.ent, h.lt⟩
theorem Tl.set {w z : World} {E : Nat} {e : Ent} (h : Tl w z E e) (j : Nat) (v x y u : Value) (hv : (#[.int .i64 e.k, .int .u8 e.p, .int .u32 e.f] : Array Value).setIfInBounds j v = #[x, y, u]) (e' : Ent) (he : (#[x, y, u] : Array Value) = #[.int .i64 e'.k, .int .u8 e'.p, .int .u32 e'.f]) : Tl w (z.setCell ⟨E, j, none⟩ v) E e' := by
  have hl := h.lt
  refine ⟨h.chg.set_new j _ (Nat.le_of_lt hl), ?_, ?_, hl⟩
  · rw [heap_setCell_other z ⟨E, j, none⟩ w.heap.size _ (by show w.heap.size ≠ E; omega)]; exact h.res
  · rw [heap_setCell_same z E j _ _ _ h.ent, hv, he]
theorem str_ne {a b : ByteArray} (h : a ≠ b) : (a.toList == b.toList) = false := by
  rw [ByteArray.toList_eq, ByteArray.toList_eq]
  simp only [beq_eq_false_iff_ne]
  exact fun e => h (by rw [str_of a _ e])
set_option maxRecDepth 100000 in
set_option maxHeartbeats 8000000 in
theorem read_any (w : World) (hL : Lb w) (s : ByteArray) (hs : s.size ≤ 140737488355328) :
    Calls Tryd.prog 9 #[.string s] w fun e w' => e = .returned (.tuple #[.agg #[.int .i64 (readE s.data.toList).1.k, .int .u8 (readE s.data.toList).1.p, .int .u32 (readE s.data.toList).1.f], .int .i64 (readE s.data.toList).2]) ∧ Chg w w' none := by
  have hz := zero26
  have C0 := Lib.hid ((Chg.refl w none).alloc (.cells #[.int .i64 0, .int .u8 0, .int .u32 0] 27))
  have G0 := Lib.hid (heap_alloc_last w (.cells #[.int .i64 0, .int .u8 0, .int .u32 0] 27))
  have LL := Lib.hid hL
  have CU := Lib.hid (fun X => cut_any X s (by omega))
  have hcl := cut_len s.data.toList
  rw [← Lib.size_eq] at hcl
  have hA1 : (⟨(cutL s.data.toList).1.toArray⟩ : ByteArray).data.toList = (cutL s.data.toList).1 := rfl
  have hA2 : (⟨(cutL s.data.toList).2.toArray⟩ : ByteArray).data.toList = (cutL s.data.toList).2 := rfl
  obtain ⟨A, hAx⟩ : ∃ A, A = (⟨(cutL s.data.toList).1.toArray⟩ : ByteArray) := ⟨_, rfl⟩
  obtain ⟨A2, hAy⟩ : ∃ A2, A2 = (⟨(cutL s.data.toList).2.toArray⟩ : ByteArray) := ⟨_, rfl⟩
  rw [← hAx] at hA1 CU
  rw [← hAy] at hA2 CU
  have HA1 := Lib.hid hA1
  have HA2 := Lib.hid hA2
  have hsa : A2.size ≤ 281474976710656 := by rw [Lib.size_eq, HA2.out]; omega
  have PU := Lib.hid (fun X (hX : Lb X) => pup_any X hX A2 hsa)
  have hsA : A.size ≤ 140737488355328 := by rw [Lib.size_eq, HA1.out]; omega
  clear hL hA1 hA2 hAx hAy hcl
  by_cases h45 : A = ⟨#[45]⟩
  · subst h45
    go_enter Tryd.func9, Tryd.ntmps9
    go_wp2_with fail
    refine (CU.out _).mono ?_
    rintro e w1 ⟨⟨b, rfl⟩, nd, rfl⟩
    have C1 := Lib.hid (C0.out.trans ((Chg.refl _ none).drewN nd))
    go_wp2_with fail
    refine (PU.out _ (LL.out.kept C1.out)).mono ?_
    rintro e w2 ⟨n, v, rfl, hn, hnf, hC⟩
    have h3 : w.heap.size < w2.heap.size := Nat.lt_of_lt_of_le (show w.heap.size < ((w.alloc (.cells #[.int .i64 0, .int .u8 0, .int .u32 0] 27)).drewN nd).heap.size by simp [World.drewN]) hC.size
    have T0 := Lib.hid (show Tl w (w2.alloc (.cells #[.int .i64 0, .int .u8 0, .int .u32 0] 27)) w2.heap.size ⟨0, 0, 0⟩ from
      ⟨(C1.out.trans hC).alloc _, (heap_alloc_old w2 _ h3).trans ((hC.block w.heap.size (show w.heap.size < ((w.alloc (.cells #[.int .i64 0, .int .u8 0, .int .u32 0] 27)).drewN nd).heap.size by simp [World.drewN]) (by simp)).trans G0.out), heap_alloc_last w2 _, h3⟩)
    have RT := Lib.hid (read_try (l := s.data.toList) (n := n) (by rw [← HA2.out]; exact hnf))
    have wn : IntKind.u32.wrap (n : Int) = (n : Int) := by rw [IntKind.wrap_u32']; omega
    have TO := Lib.hid (try_ok (cutL s.data.toList).1 n hn)
    rw [← HA1.out] at RT TO
    clear hC hnf C0 C1 G0 CU PU
    have TT := Lib.hid (show tryE (⟨#[45]⟩ : ByteArray).data.toList n = ⟨0, 0, 0⟩ from rfl)
    have T := T0
    go_upto_region 15 with (fail)
    clear T0 wn hn
    generalize w2.alloc (.cells #[.int .i64 0, .int .u8 0, .int .u32 0] 27) = z at *
    obtain ⟨c0, c1, c2, _, _, _⟩ := row3 T.out.ent
    obtain ⟨d0, d1, d2, f0, f1, f2⟩ := row3 T.out.res
    by_cases hs0 : s = ⟨#[]⟩
    · subst hs0
      have RR := Lib.hid (show readE (⟨#[]⟩ : ByteArray).data.toList = (zeroE, 44) by rw [RT.out, if_neg (fun h => h.1 rfl)])
      have K := Lib.hid (heap_setCell_same _ w.heap.size 2 _ _ (.int .u32 0) (heap_setCell_same _ w.heap.size 1 _ _ (.int .u8 0) (heap_setCell_same z w.heap.size 0 _ _ (.int .i64 0) T.out.res)))
      have C4 := Lib.hid (((T.out.chg.set_new 0 (.int .i64 0) (Nat.le_refl _)).set_new 1 (.int .u8 0) (Nat.le_refl _)).set_new 2 (.int .u32 0) (Nat.le_refl _))
      go_wp2
      refine bodyPost_ret (results_cell_tmp (p := 2) (q := 3) (ty := 27) rfl _ _ w.heap.size 27 #[.int .i64 0, .int .u8 0, .int .u32 0] (0, 0) _ rfl K.out Tryd.underlying27 rfl info26 (.int .i64 44) rfl) rfl ?_
      exact ⟨by first | (rw [RR.out]; done) | (rw [RR.out]; rfl), C4.out⟩
    · have hs1 : s.toList.isEmpty = false := by
        rw [← decide_eq_emptyBytes]
        exact decide_eq_false hs0
      have hs2 : (!s.toList.isEmpty) = true := by rw [hs1]; rfl
      have hls : s.data.toList ≠ [] := fun h => hs0 (str_of s [] h)
      have SH := Lib.hid (show_any z (LL.out.kept T.out.chg) 0 0 0 TO.out.1 TO.out.2.1 TO.out.2.2)
      by_cases hq : showE ⟨0, 0, 0⟩ = s.data.toList
      · have RR := Lib.hid (show readE s.data.toList = (⟨0, 0, 0⟩, 0) by rw [RT.out, TT.out, if_pos ⟨hls, hq⟩])
        have ex : (⟨(showE ⟨0, 0, 0⟩).toArray⟩ : ByteArray) = s := (str_of s _ hq.symm).symm
        rw [ex] at SH
        clear hq ex hs0 hls
        go_wp2_with fail
        refine SH.out.mono ?_
        rintro e z2 ⟨rfl, hC⟩
        have T2 := Lib.hid (T.out.grow hC)
        obtain ⟨c0, c1, c2, _, _, _⟩ := row3 T2.out.ent
        obtain ⟨d0, d1, d2, f0, f1, f2⟩ := row3 T2.out.res
        clear hC
        have K := Lib.hid (heap_setCell_same _ w.heap.size 2 _ _ (.int .u32 0) (heap_setCell_same _ w.heap.size 1 _ _ (.int .u8 0) (heap_setCell_same z2 w.heap.size 0 _ _ (.int .i64 0) T2.out.res)))
        have C4 := Lib.hid (((T2.out.chg.set_new 0 (.int .i64 0) (Nat.le_refl _)).set_new 1 (.int .u8 0) (Nat.le_refl _)).set_new 2 (.int .u32 0) (Nat.le_refl _))
        go_wp2
        refine bodyPost_ret (results_cell_tmp (p := 2) (q := 3) (ty := 27) rfl _ _ w.heap.size 27 #[.int .i64 0, .int .u8 0, .int .u32 0] (0, 0) _ rfl K.out Tryd.underlying27 rfl info26 (.int .i64 0) rfl) rfl ?_
        exact ⟨by first | (rw [RR.out]; done) | (rw [RR.out]; rfl), C4.out⟩
      · have RR := Lib.hid (show readE s.data.toList = (zeroE, 44) by rw [RT.out, TT.out, if_neg (fun h => hq h.2)])
        have ex : (⟨(showE ⟨0, 0, 0⟩).toArray⟩ : ByteArray) ≠ s := fun h => hq (congrArg (fun x : ByteArray => x.data.toList) h)
        generalize (⟨(showE ⟨0, 0, 0⟩).toArray⟩ : ByteArray) = X at *
        have hb1 : (X.toList == s.toList) = false := str_ne ex
        have hb2 : (!X.toList == s.toList) = true := by rw [hb1]; rfl
        clear hq ex hs0 hls
        go_wp2_with fail
        refine SH.out.mono ?_
        rintro e z2 ⟨rfl, hC⟩
        have T2 := Lib.hid (T.out.grow hC)
        obtain ⟨c0, c1, c2, _, _, _⟩ := row3 T2.out.ent
        obtain ⟨d0, d1, d2, f0, f1, f2⟩ := row3 T2.out.res
        clear hC
        have K := Lib.hid (heap_setCell_same _ w.heap.size 2 _ _ (.int .u32 0) (heap_setCell_same _ w.heap.size 1 _ _ (.int .u8 0) (heap_setCell_same z2 w.heap.size 0 _ _ (.int .i64 0) T2.out.res)))
        have C4 := Lib.hid (((T2.out.chg.set_new 0 (.int .i64 0) (Nat.le_refl _)).set_new 1 (.int .u8 0) (Nat.le_refl _)).set_new 2 (.int .u32 0) (Nat.le_refl _))
        go_wp2
        refine bodyPost_ret (results_cell_tmp (p := 2) (q := 3) (ty := 27) rfl _ _ w.heap.size 27 #[.int .i64 0, .int .u8 0, .int .u32 0] (0, 0) _ rfl K.out Tryd.underlying27 rfl info26 (.int .i64 44) rfl) rfl ?_
        exact ⟨by first | (rw [RR.out]; done) | (rw [RR.out]; rfl), C4.out⟩
  · by_cases h3c : A = ⟨#[116, 97, 98]⟩
    · subst h3c
      go_enter Tryd.func9, Tryd.ntmps9
      go_wp2_with fail
      refine (CU.out _).mono ?_
      rintro e w1 ⟨⟨b, rfl⟩, nd, rfl⟩
      have C1 := Lib.hid (C0.out.trans ((Chg.refl _ none).drewN nd))
      go_wp2_with fail
      refine (PU.out _ (LL.out.kept C1.out)).mono ?_
      rintro e w2 ⟨n, v, rfl, hn, hnf, hC⟩
      have h3 : w.heap.size < w2.heap.size := Nat.lt_of_lt_of_le (show w.heap.size < ((w.alloc (.cells #[.int .i64 0, .int .u8 0, .int .u32 0] 27)).drewN nd).heap.size by simp [World.drewN]) hC.size
      have T0 := Lib.hid (show Tl w (w2.alloc (.cells #[.int .i64 2, .int .u8 0, .int .u32 n] 27)) w2.heap.size ⟨2, 0, n⟩ from
        ⟨(C1.out.trans hC).alloc _, (heap_alloc_old w2 _ h3).trans ((hC.block w.heap.size (show w.heap.size < ((w.alloc (.cells #[.int .i64 0, .int .u8 0, .int .u32 0] 27)).drewN nd).heap.size by simp [World.drewN]) (by simp)).trans G0.out), heap_alloc_last w2 _, h3⟩)
      have RT := Lib.hid (read_try (l := s.data.toList) (n := n) (by rw [← HA2.out]; exact hnf))
      have wn : IntKind.u32.wrap (n : Int) = (n : Int) := by rw [IntKind.wrap_u32']; omega
      have TO := Lib.hid (try_ok (cutL s.data.toList).1 n hn)
      rw [← HA1.out] at RT TO
      clear hC hnf C0 C1 G0 CU PU
      have TT := Lib.hid (show tryE (⟨#[116, 97, 98]⟩ : ByteArray).data.toList n = ⟨2, 0, n⟩ from rfl)
      have T := T0
      go_upto_region 15 with (fail)
      clear T0 wn
      generalize w2.alloc (.cells #[.int .i64 2, .int .u8 0, .int .u32 n] 27) = z at *
      obtain ⟨c0, c1, c2, _, _, _⟩ := row3 T.out.ent
      obtain ⟨d0, d1, d2, f0, f1, f2⟩ := row3 T.out.res
      by_cases hs0 : s = ⟨#[]⟩
      · subst hs0
        have RR := Lib.hid (show readE (⟨#[]⟩ : ByteArray).data.toList = (zeroE, 44) by rw [RT.out, if_neg (fun h => h.1 rfl)])
        have K := Lib.hid (heap_setCell_same _ w.heap.size 2 _ _ (.int .u32 0) (heap_setCell_same _ w.heap.size 1 _ _ (.int .u8 0) (heap_setCell_same z w.heap.size 0 _ _ (.int .i64 0) T.out.res)))
        have C4 := Lib.hid (((T.out.chg.set_new 0 (.int .i64 0) (Nat.le_refl _)).set_new 1 (.int .u8 0) (Nat.le_refl _)).set_new 2 (.int .u32 0) (Nat.le_refl _))
        go_wp2
        refine bodyPost_ret (results_cell_tmp (p := 2) (q := 3) (ty := 27) rfl _ _ w.heap.size 27 #[.int .i64 0, .int .u8 0, .int .u32 0] (0, 0) _ rfl K.out Tryd.underlying27 rfl info26 (.int .i64 44) rfl) rfl ?_
        exact ⟨by first | (rw [RR.out]; done) | (rw [RR.out]; rfl), C4.out⟩
      · have hs1 : s.toList.isEmpty = false := by
          rw [← decide_eq_emptyBytes]
          exact decide_eq_false hs0
        have hs2 : (!s.toList.isEmpty) = true := by rw [hs1]; rfl
        have hls : s.data.toList ≠ [] := fun h => hs0 (str_of s [] h)
        have SH := Lib.hid (show_any z (LL.out.kept T.out.chg) 2 0 n TO.out.1 TO.out.2.1 TO.out.2.2)
        by_cases hq : showE ⟨2, 0, n⟩ = s.data.toList
        · have RR := Lib.hid (show readE s.data.toList = (⟨2, 0, n⟩, 0) by rw [RT.out, TT.out, if_pos ⟨hls, hq⟩])
          have ex : (⟨(showE ⟨2, 0, n⟩).toArray⟩ : ByteArray) = s := (str_of s _ hq.symm).symm
          rw [ex] at SH
          clear hq ex hs0 hls
          go_wp2_with fail
          refine SH.out.mono ?_
          rintro e z2 ⟨rfl, hC⟩
          have T2 := Lib.hid (T.out.grow hC)
          obtain ⟨c0, c1, c2, _, _, _⟩ := row3 T2.out.ent
          obtain ⟨d0, d1, d2, f0, f1, f2⟩ := row3 T2.out.res
          clear hC
          have K := Lib.hid (heap_setCell_same _ w.heap.size 2 _ _ (.int .u32 n) (heap_setCell_same _ w.heap.size 1 _ _ (.int .u8 0) (heap_setCell_same z2 w.heap.size 0 _ _ (.int .i64 2) T2.out.res)))
          have C4 := Lib.hid (((T2.out.chg.set_new 0 (.int .i64 2) (Nat.le_refl _)).set_new 1 (.int .u8 0) (Nat.le_refl _)).set_new 2 (.int .u32 n) (Nat.le_refl _))
          go_wp2
          refine bodyPost_ret (results_cell_tmp (p := 2) (q := 3) (ty := 27) rfl _ _ w.heap.size 27 #[.int .i64 2, .int .u8 0, .int .u32 n] (0, 0) _ rfl K.out Tryd.underlying27 rfl info26 (.int .i64 0) rfl) rfl ?_
          exact ⟨by first | (rw [RR.out]; done) | (rw [RR.out]; rfl), C4.out⟩
        · have RR := Lib.hid (show readE s.data.toList = (zeroE, 44) by rw [RT.out, TT.out, if_neg (fun h => hq h.2)])
          have ex : (⟨(showE ⟨2, 0, n⟩).toArray⟩ : ByteArray) ≠ s := fun h => hq (congrArg (fun x : ByteArray => x.data.toList) h)
          generalize (⟨(showE ⟨2, 0, n⟩).toArray⟩ : ByteArray) = X at *
          have hb1 : (X.toList == s.toList) = false := str_ne ex
          have hb2 : (!X.toList == s.toList) = true := by rw [hb1]; rfl
          clear hq ex hs0 hls
          go_wp2_with fail
          refine SH.out.mono ?_
          rintro e z2 ⟨rfl, hC⟩
          have T2 := Lib.hid (T.out.grow hC)
          obtain ⟨c0, c1, c2, _, _, _⟩ := row3 T2.out.ent
          obtain ⟨d0, d1, d2, f0, f1, f2⟩ := row3 T2.out.res
          clear hC
          have K := Lib.hid (heap_setCell_same _ w.heap.size 2 _ _ (.int .u32 0) (heap_setCell_same _ w.heap.size 1 _ _ (.int .u8 0) (heap_setCell_same z2 w.heap.size 0 _ _ (.int .i64 0) T2.out.res)))
          have C4 := Lib.hid (((T2.out.chg.set_new 0 (.int .i64 0) (Nat.le_refl _)).set_new 1 (.int .u8 0) (Nat.le_refl _)).set_new 2 (.int .u32 0) (Nat.le_refl _))
          go_wp2
          refine bodyPost_ret (results_cell_tmp (p := 2) (q := 3) (ty := 27) rfl _ _ w.heap.size 27 #[.int .i64 0, .int .u8 0, .int .u32 0] (0, 0) _ rfl K.out Tryd.underlying27 rfl info26 (.int .i64 44) rfl) rfl ?_
          exact ⟨by first | (rw [RR.out]; done) | (rw [RR.out]; rfl), C4.out⟩
    · have hb1 : (A.toList == (⟨#[45]⟩ : ByteArray).toList) = false := str_ne h45
      have hb2 : (A.toList == (⟨#[116, 97, 98]⟩ : ByteArray).toList) = false := str_ne h3c
      have hb3 : (A.toList == [45]) = false := by have := hb1; rw [ByteArray.toList_eq ⟨#[45]⟩] at this; exact this
      have hb4 : (A.toList == [116, 97, 98]) = false := by have := hb2; rw [ByteArray.toList_eq ⟨#[116, 97, 98]⟩] at this; exact this
      go_enter Tryd.func9, Tryd.ntmps9
      go_wp2_with fail
      refine (CU.out _).mono ?_
      rintro e w1 ⟨⟨b, rfl⟩, nd, rfl⟩
      have C1 := Lib.hid (C0.out.trans ((Chg.refl _ none).drewN nd))
      go_wp2_with fail
      refine (PU.out _ (LL.out.kept C1.out)).mono ?_
      rintro e w2 ⟨n, v, rfl, hn, hnf, hC⟩
      have h3 : w.heap.size < w2.heap.size := Nat.lt_of_lt_of_le (show w.heap.size < ((w.alloc (.cells #[.int .i64 0, .int .u8 0, .int .u32 0] 27)).drewN nd).heap.size by simp [World.drewN]) hC.size
      have T0 := Lib.hid (show Tl w (w2.alloc (.cells #[.int .i64 1, .int .u8 0, .int .u32 n] 27)) w2.heap.size ⟨1, 0, n⟩ from
        ⟨(C1.out.trans hC).alloc _, (heap_alloc_old w2 _ h3).trans ((hC.block w.heap.size (show w.heap.size < ((w.alloc (.cells #[.int .i64 0, .int .u8 0, .int .u32 0] 27)).drewN nd).heap.size by simp [World.drewN]) (by simp)).trans G0.out), heap_alloc_last w2 _, h3⟩)
      have RT := Lib.hid (read_try (l := s.data.toList) (n := n) (by rw [← HA2.out]; exact hnf))
      have wn : IntKind.u32.wrap (n : Int) = (n : Int) := by rw [IntKind.wrap_u32']; omega
      have TO := Lib.hid (try_ok (cutL s.data.toList).1 n hn)
      rw [← HA1.out] at RT TO
      clear hC hnf C0 C1 G0 CU PU
      have hm3 : A.size < 3 ∨ 3 ≤ A.size := by omega
      obtain ⟨m, hm⟩ : ∃ m, m = min A.size 3 := ⟨_, rfl⟩
      have hmin : min (A.size : Int) 3 = (m : Int) := by omega
      have hmA : m ≤ A.size := by omega
      have hm3 : m ≤ 3 := by omega
      have HM := Lib.hid hm
      have I0 := Lib.hid (show Tl w (w2.alloc (.cells #[.int .i64 1, .int .u8 0, .int .u32 n] 27)) w2.heap.size ⟨1, pOf A.data.toList 0, n⟩ from T0.out)
      clear hm T0 wn
      go_wp2_with fail
      generalize w2.alloc (.cells #[.int .i64 1, .int .u8 0, .int .u32 n] 27) = z0 at *
      go_loopw [10, 29] (fun _ i wr => ∃ k : Nat, k ≤ m ∧ i = .int .i64 k ∧ Hid (Tl w wr w2.heap.size ⟨1, pOf A.data.toList k, n⟩)) (fun _ i _ => m - (intOf i).toNat)
      case atStart => exact ⟨0, by omega, rfl, I0⟩
      case round =>
        obtain ⟨k, hk, rfl, I⟩ := hrel
        clear I0
        by_cases hlt : k < m
        · rcases (show k = 0 ∨ k = 1 ∨ k = 2 by omega) with rfl | rfl | rfl
          · have hA0 : 0 < A.size := by omega
            have hg : A.data.toList[0]? = some (A[0]'hA0) := by
              rw [List.getElem?_eq_getElem (by rw [← Lib.size_eq]; exact hA0)]
              rfl
            have hA0i : (0 : Int) < (A.size : Int) := by omega
            have b0 : (⟨#[114, 119, 120]⟩ : ByteArray)[0]'(by decide) = 114 := rfl
            have hpn : pOf A.data.toList 1 = pOf A.data.toList 0 + (if A[0]'hA0 = 114 then 1 else 0) := by
              show pOf A.data.toList 0 + (if A.data.toList[0]? = some 114 then 2 ^ 0 else 0) = _
              rw [hg]
              simp only [Option.some.injEq]
            have hpl := pOf_lt A.data.toList 0
            have TS := Lib.hid (fun (z : World) (P : Nat) (h : Tl w z w2.heap.size ⟨1, P, n⟩) => (by have := h.set 1 (.int .u8 ((P + 1 : Nat) : Int)) _ _ _ rfl ⟨1, P + 1, n⟩ rfl; rw [show ((P + 1 : Nat) : Int) = (P : Int) + 1 by omega] at this; exact this.grow ((Chg.refl _ none).drewN 1) : Tl w (z.setCell ⟨w2.heap.size, 1, none⟩ (.int .u8 ((P : Int) + 1))).drew w2.heap.size ⟨1, P + 1, n⟩))
            have HPN := Lib.hid hpn
            generalize pOf A.data.toList 0 = P at *
            obtain ⟨c0, c1, c2, f0, f1, f2⟩ := row3 I.out.ent
            by_cases hc : A[0]'hA0 = 114
            · have hb : (((A[0]'hA0).toNat : Int) == 114) = true := by rw [hc]; rfl
              have FN := Lib.hid (show pOf A.data.toList 1 = P + 1 by rw [HPN.out, if_pos hc])
              have hor : bits BinOp.or IntKind.u8 (P : Int) 1 = ((P + 1 : Nat) : Int) := by
                have key : ∀ x : Fin 1, bits BinOp.or IntKind.u8 (x.val : Int) 1 = ((x.val + 1 : Nat) : Int) := by decide
                exact key ⟨P, by simpa using hpl⟩
              clear hg hpn hc
              go_wp2_with fail
              go_quiet (fail)
              go_wp2_with fail
              have N1 := Lib.hid ((Chg.refl wr none).drewN nq)
              have I2 := Lib.hid (I.out.grow N1.out)
              clear c0 c1 c2 f0 f1 f2
              generalize wr.drewN nq = z1 at *
              obtain ⟨c0, c1, c2, f0, f1, f2⟩ := row3 I2.out.ent
              have F := Lib.hid (show Tl w _ w2.heap.size ⟨1, pOf A.data.toList 1, n⟩ from by rw [FN.out]; exact TS.out z1 P I2.out)
              go_still_tail 6, (by kernel_rfl)
              go_wp2_with fail
              go_roundw
              case rel => exact ⟨1, by omega, rfl, F⟩
              case measure => simp [intOf]; omega
            · have hb : (((A[0]'hA0).toNat : Int) == 114) = false := by
                simp only [beq_eq_false_iff_ne]
                intro e
                exact hc (UInt8.toNat_inj.1 (by show (A[0]'hA0).toNat = 114; omega))
              have FN := Lib.hid (show pOf A.data.toList 1 = P by rw [HPN.out, if_neg hc, Nat.add_zero])
              have F := Lib.hid (show ∀ nq, Tl w (wr.drewN nq) w2.heap.size ⟨1, pOf A.data.toList 1, n⟩ from fun nq => by rw [FN.out]; exact I.out.grow ((Chg.refl wr none).drewN nq))
              clear hg hpn hc
              go_wp2_with fail
              go_quiet (fail)
              go_wp2_with fail
              go_roundw
              case rel => exact ⟨1, by omega, rfl, F.out _⟩
              case measure => simp [intOf]; omega
          · have hA0 : 1 < A.size := by omega
            have hg : A.data.toList[1]? = some (A[1]'hA0) := by
              rw [List.getElem?_eq_getElem (by rw [← Lib.size_eq]; exact hA0)]
              rfl
            have hA0i : (1 : Int) < (A.size : Int) := by omega
            have b0 : (⟨#[114, 119, 120]⟩ : ByteArray)[1]'(by decide) = 119 := rfl
            have hpn : pOf A.data.toList 2 = pOf A.data.toList 1 + (if A[1]'hA0 = 119 then 2 else 0) := by
              show pOf A.data.toList 1 + (if A.data.toList[1]? = some 119 then 2 ^ 1 else 0) = _
              rw [hg]
              simp only [Option.some.injEq]
            have hpl := pOf_lt A.data.toList 1
            have TS := Lib.hid (fun (z : World) (P : Nat) (h : Tl w z w2.heap.size ⟨1, P, n⟩) => (by have := h.set 1 (.int .u8 ((P + 2 : Nat) : Int)) _ _ _ rfl ⟨1, P + 2, n⟩ rfl; rw [show ((P + 2 : Nat) : Int) = (P : Int) + 2 by omega] at this; exact this.grow ((Chg.refl _ none).drewN 1) : Tl w (z.setCell ⟨w2.heap.size, 1, none⟩ (.int .u8 ((P : Int) + 2))).drew w2.heap.size ⟨1, P + 2, n⟩))
            have HPN := Lib.hid hpn
            generalize pOf A.data.toList 1 = P at *
            obtain ⟨c0, c1, c2, f0, f1, f2⟩ := row3 I.out.ent
            by_cases hc : A[1]'hA0 = 119
            · have hb : (((A[1]'hA0).toNat : Int) == 119) = true := by rw [hc]; rfl
              have FN := Lib.hid (show pOf A.data.toList 2 = P + 2 by rw [HPN.out, if_pos hc])
              have hor : bits BinOp.or IntKind.u8 (P : Int) 2 = ((P + 2 : Nat) : Int) := by
                have key : ∀ x : Fin 2, bits BinOp.or IntKind.u8 (x.val : Int) 2 = ((x.val + 2 : Nat) : Int) := by decide
                exact key ⟨P, by simpa using hpl⟩
              clear hg hpn hc
              go_wp2_with fail
              go_quiet (fail)
              go_wp2_with fail
              have N1 := Lib.hid ((Chg.refl wr none).drewN nq)
              have I2 := Lib.hid (I.out.grow N1.out)
              clear c0 c1 c2 f0 f1 f2
              generalize wr.drewN nq = z1 at *
              obtain ⟨c0, c1, c2, f0, f1, f2⟩ := row3 I2.out.ent
              have F := Lib.hid (show Tl w _ w2.heap.size ⟨1, pOf A.data.toList 2, n⟩ from by rw [FN.out]; exact TS.out z1 P I2.out)
              go_still_tail 6, (by kernel_rfl)
              go_wp2_with fail
              go_roundw
              case rel => exact ⟨2, by omega, rfl, F⟩
              case measure => simp [intOf]; omega
            · have hb : (((A[1]'hA0).toNat : Int) == 119) = false := by
                simp only [beq_eq_false_iff_ne]
                intro e
                exact hc (UInt8.toNat_inj.1 (by show (A[1]'hA0).toNat = 119; omega))
              have FN := Lib.hid (show pOf A.data.toList 2 = P by rw [HPN.out, if_neg hc, Nat.add_zero])
              have F := Lib.hid (show ∀ nq, Tl w (wr.drewN nq) w2.heap.size ⟨1, pOf A.data.toList 2, n⟩ from fun nq => by rw [FN.out]; exact I.out.grow ((Chg.refl wr none).drewN nq))
              clear hg hpn hc
              go_wp2_with fail
              go_quiet (fail)
              go_wp2_with fail
              go_roundw
              case rel => exact ⟨2, by omega, rfl, F.out _⟩
              case measure => simp [intOf]; omega
          · have hA0 : 2 < A.size := by omega
            have hg : A.data.toList[2]? = some (A[2]'hA0) := by
              rw [List.getElem?_eq_getElem (by rw [← Lib.size_eq]; exact hA0)]
              rfl
            have hA0i : (2 : Int) < (A.size : Int) := by omega
            have b0 : (⟨#[114, 119, 120]⟩ : ByteArray)[2]'(by decide) = 120 := rfl
            have hpn : pOf A.data.toList 3 = pOf A.data.toList 2 + (if A[2]'hA0 = 120 then 4 else 0) := by
              show pOf A.data.toList 2 + (if A.data.toList[2]? = some 120 then 2 ^ 2 else 0) = _
              rw [hg]
              simp only [Option.some.injEq]
            have hpl := pOf_lt A.data.toList 2
            have TS := Lib.hid (fun (z : World) (P : Nat) (h : Tl w z w2.heap.size ⟨1, P, n⟩) => (by have := h.set 1 (.int .u8 ((P + 4 : Nat) : Int)) _ _ _ rfl ⟨1, P + 4, n⟩ rfl; rw [show ((P + 4 : Nat) : Int) = (P : Int) + 4 by omega] at this; exact this.grow ((Chg.refl _ none).drewN 1) : Tl w (z.setCell ⟨w2.heap.size, 1, none⟩ (.int .u8 ((P : Int) + 4))).drew w2.heap.size ⟨1, P + 4, n⟩))
            have HPN := Lib.hid hpn
            generalize pOf A.data.toList 2 = P at *
            obtain ⟨c0, c1, c2, f0, f1, f2⟩ := row3 I.out.ent
            by_cases hc : A[2]'hA0 = 120
            · have hb : (((A[2]'hA0).toNat : Int) == 120) = true := by rw [hc]; rfl
              have FN := Lib.hid (show pOf A.data.toList 3 = P + 4 by rw [HPN.out, if_pos hc])
              have hor : bits BinOp.or IntKind.u8 (P : Int) 4 = ((P + 4 : Nat) : Int) := by
                have key : ∀ x : Fin 4, bits BinOp.or IntKind.u8 (x.val : Int) 4 = ((x.val + 4 : Nat) : Int) := by decide
                exact key ⟨P, by simpa using hpl⟩
              clear hg hpn hc
              go_wp2_with fail
              go_quiet (fail)
              go_wp2_with fail
              have N1 := Lib.hid ((Chg.refl wr none).drewN nq)
              have I2 := Lib.hid (I.out.grow N1.out)
              clear c0 c1 c2 f0 f1 f2
              generalize wr.drewN nq = z1 at *
              obtain ⟨c0, c1, c2, f0, f1, f2⟩ := row3 I2.out.ent
              have F := Lib.hid (show Tl w _ w2.heap.size ⟨1, pOf A.data.toList 3, n⟩ from by rw [FN.out]; exact TS.out z1 P I2.out)
              go_still_tail 6, (by kernel_rfl)
              go_wp2_with fail
              go_roundw
              case rel => exact ⟨3, by omega, rfl, F⟩
              case measure => simp [intOf]; omega
            · have hb : (((A[2]'hA0).toNat : Int) == 120) = false := by
                simp only [beq_eq_false_iff_ne]
                intro e
                exact hc (UInt8.toNat_inj.1 (by show (A[2]'hA0).toNat = 120; omega))
              have FN := Lib.hid (show pOf A.data.toList 3 = P by rw [HPN.out, if_neg hc, Nat.add_zero])
              have F := Lib.hid (show ∀ nq, Tl w (wr.drewN nq) w2.heap.size ⟨1, pOf A.data.toList 3, n⟩ from fun nq => by rw [FN.out]; exact I.out.grow ((Chg.refl wr none).drewN nq))
              clear hg hpn hc
              go_wp2_with fail
              go_quiet (fail)
              go_wp2_with fail
              go_roundw
              case rel => exact ⟨3, by omega, rfl, F.out _⟩
              case measure => simp [intOf]; omega
        · obtain rfl : k = m := by omega
          have hlf : decide (k < k) = false := by simp
          have TT := Lib.hid (show tryE A.data.toList n = ⟨1, pOf A.data.toList k, n⟩ by
            unfold tryE
            rw [if_neg (fun h => h45 (str_of A _ h)), if_neg (fun h => h3c (str_of A _ h)), HM.out, Lib.size_eq])
          have T := I
          rw [TT.out] at TO
          clear hlt h45 h3c
          go_upto_region 15 with (fail)
          generalize pOf A.data.toList k = P at *
          clear hlf hmin hm3 hmA HM I hb1 hb2 hb3 hb4
          obtain ⟨z, ez⟩ : ∃ z, z = wr := ⟨_, rfl⟩
          subst ez
          obtain ⟨c0, c1, c2, _, _, _⟩ := row3 T.out.ent
          obtain ⟨d0, d1, d2, f0, f1, f2⟩ := row3 T.out.res
          by_cases hs0 : s = ⟨#[]⟩
          · subst hs0
            have RR := Lib.hid (show readE (⟨#[]⟩ : ByteArray).data.toList = (zeroE, 44) by rw [RT.out, if_neg (fun h => h.1 rfl)])
            have K := Lib.hid (heap_setCell_same _ w.heap.size 2 _ _ (.int .u32 0) (heap_setCell_same _ w.heap.size 1 _ _ (.int .u8 0) (heap_setCell_same z w.heap.size 0 _ _ (.int .i64 0) T.out.res)))
            have C4 := Lib.hid (((T.out.chg.set_new 0 (.int .i64 0) (Nat.le_refl _)).set_new 1 (.int .u8 0) (Nat.le_refl _)).set_new 2 (.int .u32 0) (Nat.le_refl _))
            go_wp2
            refine bodyPost_ret (results_cell_tmp (p := 2) (q := 3) (ty := 27) rfl _ _ w.heap.size 27 #[.int .i64 0, .int .u8 0, .int .u32 0] (0, 0) _ rfl K.out Tryd.underlying27 rfl info26 (.int .i64 44) rfl) rfl ?_
            exact ⟨by first | (rw [RR.out]; done) | (rw [RR.out]; rfl), C4.out⟩
          · have hs1 : s.toList.isEmpty = false := by
              rw [← decide_eq_emptyBytes]
              exact decide_eq_false hs0
            have hs2 : (!s.toList.isEmpty) = true := by rw [hs1]; rfl
            have hls : s.data.toList ≠ [] := fun h => hs0 (str_of s [] h)
            have SH := Lib.hid (show_any z (LL.out.kept T.out.chg) 1 P n TO.out.1 TO.out.2.1 TO.out.2.2)
            by_cases hq : showE ⟨1, P, n⟩ = s.data.toList
            · have RR := Lib.hid (show readE s.data.toList = (⟨1, P, n⟩, 0) by rw [RT.out, TT.out, if_pos ⟨hls, hq⟩])
              have ex : (⟨(showE ⟨1, P, n⟩).toArray⟩ : ByteArray) = s := (str_of s _ hq.symm).symm
              rw [ex] at SH
              clear hq ex hs0 hls
              go_wp2_with fail
              refine SH.out.mono ?_
              rintro e z2 ⟨rfl, hC⟩
              have T2 := Lib.hid (T.out.grow hC)
              obtain ⟨c0, c1, c2, _, _, _⟩ := row3 T2.out.ent
              obtain ⟨d0, d1, d2, f0, f1, f2⟩ := row3 T2.out.res
              clear hC
              have K := Lib.hid (heap_setCell_same _ w.heap.size 2 _ _ (.int .u32 n) (heap_setCell_same _ w.heap.size 1 _ _ (.int .u8 P) (heap_setCell_same z2 w.heap.size 0 _ _ (.int .i64 1) T2.out.res)))
              have C4 := Lib.hid (((T2.out.chg.set_new 0 (.int .i64 1) (Nat.le_refl _)).set_new 1 (.int .u8 P) (Nat.le_refl _)).set_new 2 (.int .u32 n) (Nat.le_refl _))
              go_wp2
              refine bodyPost_ret (results_cell_tmp (p := 2) (q := 3) (ty := 27) rfl _ _ w.heap.size 27 #[.int .i64 1, .int .u8 P, .int .u32 n] (0, 0) _ rfl K.out Tryd.underlying27 rfl info26 (.int .i64 0) rfl) rfl ?_
              exact ⟨by first | (rw [RR.out]; done) | (rw [RR.out]; rfl), C4.out⟩
            · have RR := Lib.hid (show readE s.data.toList = (zeroE, 44) by rw [RT.out, TT.out, if_neg (fun h => hq h.2)])
              have ex : (⟨(showE ⟨1, P, n⟩).toArray⟩ : ByteArray) ≠ s := fun h => hq (congrArg (fun x : ByteArray => x.data.toList) h)
              generalize (⟨(showE ⟨1, P, n⟩).toArray⟩ : ByteArray) = X at *
              have hb1 : (X.toList == s.toList) = false := str_ne ex
              have hb2 : (!X.toList == s.toList) = true := by rw [hb1]; rfl
              clear hq ex hs0 hls
              go_wp2_with fail
              refine SH.out.mono ?_
              rintro e z2 ⟨rfl, hC⟩
              have T2 := Lib.hid (T.out.grow hC)
              obtain ⟨c0, c1, c2, _, _, _⟩ := row3 T2.out.ent
              obtain ⟨d0, d1, d2, f0, f1, f2⟩ := row3 T2.out.res
              clear hC
              have K := Lib.hid (heap_setCell_same _ w.heap.size 2 _ _ (.int .u32 0) (heap_setCell_same _ w.heap.size 1 _ _ (.int .u8 0) (heap_setCell_same z2 w.heap.size 0 _ _ (.int .i64 0) T2.out.res)))
              have C4 := Lib.hid (((T2.out.chg.set_new 0 (.int .i64 0) (Nat.le_refl _)).set_new 1 (.int .u8 0) (Nat.le_refl _)).set_new 2 (.int .u32 0) (Nat.le_refl _))
              go_wp2
              refine bodyPost_ret (results_cell_tmp (p := 2) (q := 3) (ty := 27) rfl _ _ w.heap.size 27 #[.int .i64 0, .int .u8 0, .int .u32 0] (0, 0) _ rfl K.out Tryd.underlying27 rfl info26 (.int .i64 44) rfl) rfl ?_
              exact ⟨by first | (rw [RR.out]; done) | (rw [RR.out]; rfl), C4.out⟩
end Go.Proofs.YthppjmlcehjjlaaDoor.En
