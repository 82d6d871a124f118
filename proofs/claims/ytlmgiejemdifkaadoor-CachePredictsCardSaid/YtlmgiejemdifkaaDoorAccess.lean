/- A cache in memory; Access: its contract. No statement of the seat is proved here. -/
import Derived.Test.YtlmgiejemdifkaaDoorFront
namespace Go.Proofs.YtlmgiejemdifkaaDoor.Ca
open Go.RowKit Go.Proofs.YtlmgiejemdifkaaDoor.Kit
set_option linter.unusedSimpArgs false
set_option linter.unusedVariables false

/-! ### a cache in memory -/
/-- A set: its lines lie there, those of V first. -/
def SetAt (w : World) (b o : Nat) (V : List Ln) : Prop := ∃ L : List Ln, L.length = 8 ∧ w.rangeAt b o (flat L) ∧ w.cell? ⟨b, o + 16, none⟩ = some (.int .i64 V.length) ∧ V = L.take V.length
structure CacheIs (w : World) (b : Nat) (s : Shp) (f : Nat → List Ln) : Prop where
  row : Row w b 86 4355
  c0 : w.cell? ⟨b, 0, none⟩ = some (.int .i64 s.S)
  c1 : w.cell? ⟨b, 1, none⟩ = some (.int .i64 s.W)
  c2 : w.cell? ⟨b, 2, none⟩ = some (.int .i64 s.L)
  sets : ∀ k, k < 256 → SetAt w b (3 + k * 17) (f k)
  len : ∀ k, (f k).length ≤ s.W
theorem cell_kept {w w' : World} {b x : Nat} {v : Value} {r : Option Nat} (h : w.cell? ⟨b, x, none⟩ = some v) (hC : Chg w w' r) (hn : r ≠ some b) : w'.cell? ⟨b, x, none⟩ = some v := by
  rw [World.cell?_of_block (hC.block b (World.block_lt_of_cell? w _ h) (fun e => hn e.symm))]; exact h
theorem range_kept' {w w' : World} {b o : Nat} {cs : List Value} {r : Option Nat} (h : w.rangeAt b o cs) (hC : Chg w w' r) (hn : r ≠ some b) : w'.rangeAt b o cs := fun j v hv => cell_kept (h j v hv) hC hn
theorem SetAt.kept {w w' : World} {b o : Nat} {V : List Ln} {r : Option Nat} (h : SetAt w b o V) (hC : Chg w w' r) (hn : r ≠ some b) : SetAt w' b o V := by
  obtain ⟨L, h8, hr, hc, hV⟩ := h
  exact ⟨L, h8, range_kept' hr hC hn, cell_kept hc hC hn, hV⟩
theorem CacheIs.kept {w w' : World} {b : Nat} {s : Shp} {f : Nat → List Ln} {r : Option Nat} (h : CacheIs w b s f) (hC : Chg w w' r) (hn : r ≠ some b) : CacheIs w' b s f :=
  ⟨h.row.kept hC hn, cell_kept h.c0 hC hn, cell_kept h.c1 hC hn, cell_kept h.c2 hC hn, fun k hk => (h.sets k hk).kept hC hn, h.len⟩
theorem CacheIs.lt {w : World} {b : Nat} {s : Shp} {f : Nat → List Ln} (h : CacheIs w b s f) : b < w.heap.size := h.row.lt
/-- One set has turned. -/
theorem CacheIs.upd {w w' : World} {b k : Nat} {s : Shp} {f : Nat → List Ln} {V : List Ln} (h : CacheIs w b s f) (hk : k < 256) (hr : Row w' b 86 4355) (ho : ∀ x, x < 3 + k * 17 ∨ 3 + k * 17 + 17 ≤ x → w'.cell? ⟨b, x, none⟩ = w.cell? ⟨b, x, none⟩)
    (hV : SetAt w' b (3 + k * 17) V) (hl : V.length ≤ s.W) : CacheIs w' b s (put f k V) := by
  refine ⟨hr, by rw [ho 0 (by omega)]; exact h.c0, by rw [ho 1 (by omega)]; exact h.c1, by rw [ho 2 (by omega)]; exact h.c2, fun j hj => ?_, fun j => ?_⟩
  · by_cases e : j = k
    · subst e; rw [put_same]; exact hV
    · rw [put_other f V e]
      obtain ⟨L, h8, hrg, hc, hVV⟩ := h.sets j hj
      have hne : j * 17 + 17 ≤ k * 17 ∨ k * 17 + 17 ≤ j * 17 := by omega
      refine ⟨L, h8, fun i v hv => ?_, ?_, hVV⟩
      · have hi : i < 16 := by have := (List.getElem?_eq_some_iff.1 hv).1; rw [flat_length, h8] at this; omega
        rw [ho _ (by omega)]; exact hrg i v hv
      · rw [ho _ (by omega)]; exact hc
  · by_cases e : j = k
    · subst e; rw [put_same]; exact hl
    · rw [put_other f V e]; exact h.len j

/-! ### lists -/
theorem hit_list {L : List Ln} {l : Ln} {i m : Nat} (hi : i < m) (hm : m ≤ L.length) : (l :: (L.take i ++ L.drop (i + 1))).take m = l :: (L.take m).eraseIdx i := by
  obtain ⟨n, rfl⟩ : ∃ n, m = n + 1 := ⟨m - 1, by omega⟩
  rw [List.take_succ_cons, List.take_append]
  simp only [List.length_take, Nat.min_eq_left (show i ≤ L.length by omega)]
  rw [List.take_of_length_le (by simp; omega), List.eraseIdx_eq_take_drop_succ, List.take_take, Nat.min_eq_left (by omega), List.drop_take]
  rw [show n - i = n + 1 - (i + 1) by omega]
theorem miss_list {L : List Ln} {l : Ln} {n : Nat} (hn : n ≤ L.length) : (l :: (L.take n ++ L.drop (n + 1))).take (n + 1) = l :: L.take n := by
  rw [List.take_succ_cons, List.take_append_of_le_length (by simp; omega), List.take_take, Nat.min_self]
theorem front_len {L : List Ln} {l : Ln} {n : Nat} (hn : n < L.length) : (l :: (L.take n ++ L.drop (n + 1))).length = L.length := by
  simp; omega
theorem lnth_take {L : List Ln} {i m : Nat} (h : i < m) : lnth (L.take m) i = lnth L i := by
  simp [lnth, List.getD_eq_getElem?_getD, List.getElem?_take, h]
theorem hit_set {w : World} {b o i : Nat} {L V : List Ln} {l : Ln} (h8 : L.length = 8) (hi : i < V.length) (hV : V = L.take V.length) (hl : V.length ≤ 8) (hrg : w.rangeAt b o (flat (l :: (L.take i ++ L.drop (i + 1))))) (hc : w.cell? ⟨b, o + 16, none⟩ = some (.int .i64 V.length)) :
    SetAt w b o (l :: V.eraseIdx i) ∧ (l :: V.eraseIdx i).length = V.length := by
  have e : (l :: V.eraseIdx i).length = V.length := by simp only [List.length_cons, List.length_eraseIdx, if_pos hi]; omega
  refine ⟨⟨_, by rw [front_len (by omega), h8], hrg, by rw [e]; exact hc, ?_⟩, e⟩
  rw [e, hit_list hi (by omega), ← hV]
theorem miss_set {w : World} {b o n : Nat} {L : List Ln} {l : Ln} (h8 : L.length = 8) (hn : n ≤ 7) (hrg : w.rangeAt b o (flat (l :: (L.take n ++ L.drop (n + 1))))) (hc : w.cell? ⟨b, o + 16, none⟩ = some (.int .i64 ((n : Int) + 1))) :
    SetAt w b o (l :: L.take n) ∧ (l :: L.take n).length = n + 1 := by
  have e : (l :: L.take n).length = n + 1 := by simp; omega
  refine ⟨⟨_, by rw [front_len (by omega), h8], hrg, by rw [e]; exact_mod_cast hc, ?_⟩, e⟩
  rw [e, miss_list (by omega)]
theorem range_apart {w : World} {b o x : Nat} {L : List Ln} {v : Value} (h : w.rangeAt b o (flat L)) (hx : o + (flat L).length ≤ x) : (w.setCell ⟨b, x, none⟩ v).rangeAt b o (flat L) := fun j u hu => by
  have hj := (List.getElem?_eq_some_iff.1 hu).1
  rw [World.cell?_setCell_other _ _ _ _ (fun e => by injection e; omega)]
  exact h j u hu
def touch (t : Tch) : Value := .agg #[.bool t.hit, .bool t.back, .int .i64 t.cyc]
theorem zero38 : ∀ w, (zeroValue 38).run Tryd.prog w = .ok (.agg #[.bool false, .bool false, .int .i64 0]) w := fun _ => by kernel_rfl
theorem info38 : (Tryd.prog.info? 38).map (·.size) = some 3 := by kernel_rfl
theorem setOf_lt (s : Shp) (a : Nat) : setOf s.S s.L a < 256 := by
  have h := s.Sle
  have := Nat.mod_lt (a / s.L) (show 0 < s.S by omega)
  unfold setOf; omega
set_option maxRecDepth 4000 in
set_option maxHeartbeats 4000000 in
theorem access_core (w : World) (hT : TabAt w) (b : Nat) (s : Shp) (f : Nat → List Ln) (h : CacheIs w b s f) (a : Nat) (ha : a < 4294967296) (wr : Bool) (k t : Nat) (hkk : setOf s.S s.L a = k) (htt : tagOf s.S s.L a = t) :
    Calls Tryd.prog 15 #[.pointer (some ⟨b, 0, none⟩), .int .u32 a, .bool wr] w fun e w' =>
      e = .returned (touch (accT s.W (f k) t)) ∧ Chg w w' (some b) ∧ CacheIs w' b s (put f k (accV s.W (f k) t wr)) := by
  have hz := zero38
  have hk : k < 256 := by rw [← hkk]; exact setOf_lt s a
  have HP := Lib.hid (fun W (hT : TabAt W) => (by have := place_any W hT s a ha; rw [hkk, htt] at this; exact this : Calls Tryd.prog 33 #[.agg #[.int .i64 s.S, .int .i64 s.W, .int .i64 s.L], .int .u32 a] W fun e w' => e = .returned (.tuple #[.int .i64 k, .int .u32 t]) ∧ Chg W w' none))
  clear hkk htt
  have hR0 := heap_alloc_last w (.cells #[.bool false, .bool false, .int .i64 0] 38)
  have C1 := Lib.hid ((Chg.refl w none).alloc (.cells #[.bool false, .bool false, .int .i64 0] 38))
  have H1 := h.kept C1.out (by simp)
  have T1 := Lib.hid (hT.kept C1.out (by simp))
  have hbl := h.lt
  have hs1 : (w.alloc (.cells #[.bool false, .bool false, .int .i64 0] 38)).heap.size = w.heap.size + 1 := by simp
  have R1 := Lib.hid hR0
  have HS1 := Lib.hid hs1
  have d0 := H1.c0
  have d1 := H1.c1
  have d2 := H1.c2
  have HH := Lib.hid H1
  clear hR0 h hT H1 hs1
  go_enter Tryd.func15, Tryd.ntmps15
  go_wp2_with fail
  refine (HP.out _ T1.out).mono ?_
  rintro e w2 ⟨rfl, hC⟩
  have R2 := Lib.hid ((hC.block w.heap.size (by have := HS1.out; omega) (by simp)).trans R1.out)
  have H2 := Lib.hid (HH.out.kept hC (by simp))
  have C2 := Lib.hid (C1.out.trans hC)
  clear hC d0 d1 d2 T1
  obtain ⟨L, h8, hrg, hmc, hV⟩ := H2.out.sets k hk
  have hml := H2.out.len k
  have hW8 := s.hW
  have HRG := Lib.hid hrg
  have HV := Lib.hid hV
  have HMC := Lib.hid hmc
  clear hV hrg hmc
  go_wp2_with fail
  refine (find_any w2 b (3 + k * 17) t L (f k).length HRG.out h8 (by omega) HMC.out).mono ?_
  rw [← HV.out]
  rintro e w3 ⟨rfl, hC⟩
  have H3 := Lib.hid (H2.out.kept hC (by simp))
  have RG := Lib.hid (range_kept' HRG.out hC (by simp))
  have MC := Lib.hid (cell_kept HMC.out hC (by simp))
  have C3 := Lib.hid (C2.out.trans hC)
  have R3 := Lib.hid ((hC.block w.heap.size (by have := C2.out.size; have := HS1.out; have := (Array.getElem?_eq_some_iff.1 R2.out).1; omega) (by simp)).trans R2.out)
  clear hC
  by_cases hs : seek (f k) t < (f k).length
  · obtain ⟨i, hi⟩ : ∃ i, i = seek (f k) t := ⟨_, rfl⟩
    have e1 : seekI (f k) t = i := by unfold seekI; rw [if_pos hs, hi]
    have e2 : accT s.W (f k) t = ⟨true, false, 1⟩ := by unfold accT; rw [if_pos hs]
    have e3 : accV s.W (f k) t wr = (t, dirtyAt (f k) i || wr) :: (f k).eraseIdx i := by unfold accV; rw [if_pos hs, ← hi]
    have him : i < (f k).length := by rw [hi]; exact hs
    have e4 : dirtyAt (f k) i = (lnth L i).2 := by rw [HV.out]; show (lnth _ i).2 = _; rw [lnth_take him]
    rw [e1]
    have HE := Lib.hid (And.intro e2 (And.intro e3 e4))
    have HI := Lib.hid him
    clear e1 e2 e3 e4 hs hi
    have hc := (range_at RG.out i (by omega)).2
    have F0 := fun d => front_any w3 b (3 + k * 17) i 86 4355 L (t, d) H3.out.row (by omega) RG.out h8 (by omega)
    have HF := Lib.hid F0
    clear F0
    cases hD : (lnth L i).2 with
    | true =>
      rw [hD] at hc
      go_wp2_with fail
      refine (HF.out true).mono ?_
      rintro e w4 ⟨rfl, hI, hrg⟩
      have R4 := Lib.hid ((hI.chg.block w.heap.size (Array.getElem?_eq_some_iff.1 R3.out).1 (fun e => by injection e; omega)).trans R3.out)
      have II := Lib.hid hI
      have RG4 := Lib.hid hrg
      have g0 : w4.cell? ⟨w.heap.size, 0, none⟩ = some (.bool false) := by rw [cell_of_row _ _ _ _ _ _ R4.out]; rfl
      have g1 : w4.cell? ⟨w.heap.size, 1, none⟩ = some (.bool false) := by rw [cell_of_row _ _ _ _ _ _ R4.out]; rfl
      have g2 : w4.cell? ⟨w.heap.size, 2, none⟩ = some (.int .i64 0) := by rw [cell_of_row _ _ _ _ _ _ R4.out]; rfl
      have f0 := frozen_of_row w4 w.heap.size 0 _ _ R4.out
      have f1 := frozen_of_row w4 w.heap.size 1 _ _ R4.out
      have f2 := frozen_of_row w4 w.heap.size 2 _ _ R4.out
      clear hI hrg hc
      go_wp2
      have hg := heap_setCell_same _ w.heap.size 2 _ _ (.int .i64 1) (heap_setCell_same _ w.heap.size 1 _ _ (.bool false) (heap_setCell_same _ w.heap.size 0 _ _ (.bool true) R4.out))
      refine bodyPost_ret (results_cell_row (p := 6) (ty := 38) rfl _ _ w.heap.size 38 #[.bool true, .bool false, .int .i64 1] (0, 0) _ rfl hg Tryd.underlying38 rfl info38) rfl ?_
      obtain ⟨x1, x2, x3⟩ := HE.out
      rw [x1, x2, x3, hD]
      have K4 : Chg w4 _ (some w.heap.size) := (((Chg.refl w4 _).set 0 (.bool true)).set 1 (.bool false)).set 2 (.int .i64 1)
      obtain ⟨y1, y2⟩ := hit_set (l := (t, true || wr)) h8 HI.out HV.out (by omega) RG4.out ((II.out.out _ (.inr (by omega))).trans MC.out)
      refine ⟨rfl, (((C3.out.any (some b)).trans II.out.chg).trans_new K4 (Nat.le_refl _)), ?_⟩
      exact (H3.out.upd hk II.out.row (fun x hx => II.out.out x (by omega)) y1 (by rw [y2]; exact hml)).kept K4 (by intro e; injection e; omega)
    | false =>
      rw [hD] at hc
      go_wp2_with fail
      refine (HF.out wr).mono ?_
      rintro e w4 ⟨rfl, hI, hrg⟩
      have R4 := Lib.hid ((hI.chg.block w.heap.size (Array.getElem?_eq_some_iff.1 R3.out).1 (fun e => by injection e; omega)).trans R3.out)
      have II := Lib.hid hI
      have RG4 := Lib.hid hrg
      have g0 : w4.cell? ⟨w.heap.size, 0, none⟩ = some (.bool false) := by rw [cell_of_row _ _ _ _ _ _ R4.out]; rfl
      have g1 : w4.cell? ⟨w.heap.size, 1, none⟩ = some (.bool false) := by rw [cell_of_row _ _ _ _ _ _ R4.out]; rfl
      have g2 : w4.cell? ⟨w.heap.size, 2, none⟩ = some (.int .i64 0) := by rw [cell_of_row _ _ _ _ _ _ R4.out]; rfl
      have f0 := frozen_of_row w4 w.heap.size 0 _ _ R4.out
      have f1 := frozen_of_row w4 w.heap.size 1 _ _ R4.out
      have f2 := frozen_of_row w4 w.heap.size 2 _ _ R4.out
      clear hI hrg hc
      go_wp2
      have hg := heap_setCell_same _ w.heap.size 2 _ _ (.int .i64 1) (heap_setCell_same _ w.heap.size 1 _ _ (.bool false) (heap_setCell_same _ w.heap.size 0 _ _ (.bool true) R4.out))
      refine bodyPost_ret (results_cell_row (p := 6) (ty := 38) rfl _ _ w.heap.size 38 #[.bool true, .bool false, .int .i64 1] (0, 0) _ rfl hg Tryd.underlying38 rfl info38) rfl ?_
      obtain ⟨x1, x2, x3⟩ := HE.out
      rw [x1, x2, x3, hD]
      have K4 : Chg w4 _ (some w.heap.size) := (((Chg.refl w4 _).set 0 (.bool true)).set 1 (.bool false)).set 2 (.int .i64 1)
      obtain ⟨y1, y2⟩ := hit_set (l := (t, false || wr)) h8 HI.out HV.out (by omega) RG4.out ((II.out.out _ (.inr (by omega))).trans MC.out)
      refine ⟨rfl, (((C3.out.any (some b)).trans II.out.chg).trans_new K4 (Nat.le_refl _)), ?_⟩
      exact (H3.out.upd hk II.out.row (fun x hx => II.out.out x (by omega)) y1 (by rw [y2]; exact hml)).kept K4 (by intro e; injection e; omega)
  · have e1 : seekI (f k) t = -1 := by unfold seekI; rw [if_neg hs]
    rw [e1]
    clear e1
    have C4 := Lib.hid (C3.out.alloc (.cells #[.bool false, .bool false, .int .i64 12] 38))
    have A4 := Lib.hid ((Chg.refl w3 none).alloc (.cells #[.bool false, .bool false, .int .i64 12] 38))
    have H4 := Lib.hid (H3.out.kept A4.out (by simp))
    have RG4 := Lib.hid (range_kept' RG.out A4.out (by simp))
    have MC4 := Lib.hid (cell_kept MC.out A4.out (by simp))
    have R4 := Lib.hid ((A4.out.block w.heap.size (Array.getElem?_eq_some_iff.1 R3.out).1 (by simp)).trans R3.out)
    have Q4 := Lib.hid (heap_alloc_last w3 (.cells #[.bool false, .bool false, .int .i64 12] 38))
    have hwq := (Array.getElem?_eq_some_iff.1 R3.out).1
    have hb3 := H3.out.lt
    go_wp2_with fail
    generalize w3.alloc (.cells #[.bool false, .bool false, .int .i64 12] 38) = w4 at *
    have d1 := H4.out.c1
    by_cases hf : (f k).length = s.W
    · obtain ⟨n, hn⟩ : ∃ n, (f k).length = n + 1 := ⟨s.W - 1, by omega⟩
      have e3 : accV s.W (f k) t wr = (t, wr) :: L.take n := by
        unfold accV; rw [if_neg hs, if_pos hf, ← hf, hn, HV.out, List.take_take]; congr 2; omega
      have e4 : dirtyAt (f k) (s.W - 1) = (lnth L n).2 := by rw [HV.out]; show (lnth _ _).2 = _; rw [← hf, hn, Nat.add_sub_cancel, lnth_take (by omega)]
      have hq : (((n : Int) + 1) == (s.W : Int)) = true := by simp; omega
      have hmc := MC4.out
      rw [hn] at hmc
      have hmc' : w4.cell? ⟨b, 3 + k * 17 + 16, none⟩ = some (.int .i64 ((n : Int) + 1)) := by rw [hmc]; simp
      have hfz := (H4.out.row.there (3 + k * 17) 17 (by omega) 16 (by omega)).2
      have hws := wrap_small (x := (n : Int)) (by omega) (by omega)
      have hn7 : n ≤ 7 := by omega
      have hwa := wrap_small (x := (n : Int) + 1) (by omega) (by omega)
      have HN := Lib.hid (show n + 1 ≤ s.W by omega)
      have HB := Lib.hid (show accT s.W (f k) t = if (lnth L n).2 = true then ⟨false, true, 20⟩ else ⟨false, false, 12⟩ by unfold accT; rw [if_neg hs, ← e4]; simp [hf])
      have HE := Lib.hid e3
      clear hmc e3 e4 hf hs hn
      go_quiet (fail)
      go_wp2_with fail
      have K5 := Lib.hid (show Chg w4 ((w4.drewN nq).setCell ⟨b, 3 + k * 17 + 16, none⟩ (.int .i64 n)) (some b) from ((Chg.refl w4 (some b)).drewN nq).set (3 + k * 17 + 16) (.int .i64 n))
      have ROW5 := Lib.hid (show Row ((w4.drewN nq).setCell ⟨b, 3 + k * 17 + 16, none⟩ (.int .i64 n)) b 86 4355 from Row.set (w := w4.drewN nq) H4.out.row _ _)
      have M5 : ((w4.drewN nq).setCell ⟨b, 3 + k * 17 + 16, none⟩ (.int .i64 n)).cell? ⟨b, 3 + k * 17 + 16, none⟩ = some (.int .i64 n) := World.cell?_setCell_same _ _ _ (show (w4.drewN nq).cell? _ = _ from hmc')
      have RG5 := Lib.hid (range_apart (v := .int .i64 n) (show (w4.drewN nq).rangeAt b (3 + k * 17) (flat L) from RG4.out) (x := 3 + k * 17 + 16) (by rw [flat_length, h8]; omega))
      have O5 := Lib.hid (fun x (hx : x < 3 + k * 17 ∨ 3 + k * 17 + 17 ≤ x) => show ((w4.drewN nq).setCell ⟨b, 3 + k * 17 + 16, none⟩ (.int .i64 n)).cell? ⟨b, x, none⟩ = w3.cell? ⟨b, x, none⟩ by
        rw [World.cell?_setCell_other _ _ _ _ (fun e => by injection e; omega)]
        show w4.cell? ⟨b, x, none⟩ = _
        rw [World.cell?_of_block (A4.out.block b hb3 (by simp))])
      clear hmc' hfz d1 hq
      generalize (w4.drewN nq).setCell ⟨b, 3 + k * 17 + 16, none⟩ (.int .i64 n) = w5 at *
      have hc := (range_at RG5.out n (by omega)).2
      have R5 := Lib.hid ((K5.out.block w.heap.size (Array.getElem?_eq_some_iff.1 R4.out).1 (fun e => by injection e; omega)).trans R4.out)
      have Q5 := Lib.hid ((K5.out.block w3.heap.size (Array.getElem?_eq_some_iff.1 Q4.out).1 (fun e => by injection e; omega)).trans Q4.out)
      have hne1 : b ≠ w3.heap.size := by omega
      have hne2 : b ≠ w.heap.size := by omega
      cases hD : (lnth L n).2 with
      | true =>
        rw [hD] at hc
        have HT2 := Lib.hid (show accT s.W (f k) t = ⟨false, true, 20⟩ by rw [HB.out, if_pos hD])
        have q1 : w5.cell? ⟨w3.heap.size, 1, none⟩ = some (.bool false) := by rw [cell_of_row _ _ _ _ _ _ Q5.out]; rfl
        have q2 : w5.cell? ⟨w3.heap.size, 2, none⟩ = some (.int .i64 12) := by rw [cell_of_row _ _ _ _ _ _ Q5.out]; rfl
        have z1 := frozen_of_row w5 w3.heap.size 1 _ _ Q5.out
        have z2 := frozen_of_row w5 w3.heap.size 2 _ _ Q5.out
        have hw20 : IntKind.i64.wrap (12 + 8) = 20 := by decide
        go_quiet (fail)
        go_wp2_with fail
        have X6 : Chg w5 (((w5.drewN nq).setCell ⟨w3.heap.size, 1, none⟩ (.bool true)).setCell ⟨w3.heap.size, 2, none⟩ (.int .i64 20)) (some w3.heap.size) := (((Chg.refl w5 _).drewN nq).set 1 _).set 2 _
        have Q6 := Lib.hid (heap_setCell_same _ w3.heap.size 2 _ _ (.int .i64 20) (heap_setCell_same (w5.drewN nq) w3.heap.size 1 _ _ (.bool true) Q5.out))
        have ROW6 := Lib.hid (ROW5.out.kept X6 (by intro e; injection e; omega))
        have RG6 := Lib.hid (range_kept' RG5.out X6 (by intro e; injection e; omega))
        have M6 := Lib.hid (cell_kept M5 X6 (by intro e; injection e; omega))
        have R6 := Lib.hid ((X6.block w.heap.size (Array.getElem?_eq_some_iff.1 R5.out).1 (fun e => by injection e; omega)).trans R5.out)
        have K6 := Lib.hid ((((C4.out.any (some b)).trans K5.out)).trans_new X6 (by omega))
        have O6 := Lib.hid (fun x hx => (World.cell?_of_block (X6.block b ROW5.out.lt (by intro e; injection e; omega))).trans (O5.out x hx))
        clear X6 hc q1 q2 z1 z2 M5 hne1 hne2 hw20
        generalize ((w5.drewN nq).setCell ⟨w3.heap.size, 1, none⟩ (.bool true)).setCell ⟨w3.heap.size, 2, none⟩ (.int .i64 20) = w6 at *
        have m6 := M6.out
        go_wp2_with fail
        refine (front_any w6 b (3 + k * 17) n 86 4355 L (t, wr) ROW6.out (by omega) RG6.out h8 hn7).mono ?_
        rintro e w7 ⟨rfl, hI, hrg⟩
        have II := Lib.hid hI
        have RG7 := Lib.hid hrg
        have m7 := (hI.out (3 + k * 17 + 16) (.inr (by omega))).trans M6.out
        have fz7 := (hI.row.there (3 + k * 17) 17 (by omega) 16 (by omega)).2
        have R7 := Lib.hid ((hI.chg.block w.heap.size (Array.getElem?_eq_some_iff.1 R6.out).1 (fun e => by injection e; omega)).trans R6.out)
        have Q7 := Lib.hid ((hI.chg.block w3.heap.size (Array.getElem?_eq_some_iff.1 Q6.out).1 (fun e => by injection e; omega)).trans Q6.out)
        have g0 : w7.cell? ⟨w.heap.size, 0, none⟩ = some (.bool false) := by rw [cell_of_row _ _ _ _ _ _ R7.out]; rfl
        have g1 : w7.cell? ⟨w.heap.size, 1, none⟩ = some (.bool false) := by rw [cell_of_row _ _ _ _ _ _ R7.out]; rfl
        have g2 : w7.cell? ⟨w.heap.size, 2, none⟩ = some (.int .i64 0) := by rw [cell_of_row _ _ _ _ _ _ R7.out]; rfl
        have f0 := frozen_of_row w7 w.heap.size 0 _ _ R7.out
        have f1 := frozen_of_row w7 w.heap.size 1 _ _ R7.out
        have f2 := frozen_of_row w7 w.heap.size 2 _ _ R7.out
        have q0 : w7.cell? ⟨w3.heap.size, 0, none⟩ = some (.bool false) := by rw [cell_of_row _ _ _ _ _ _ Q7.out]; rfl
        have q1 : w7.cell? ⟨w3.heap.size, 1, none⟩ = some (.bool true) := by rw [cell_of_row _ _ _ _ _ _ Q7.out]; rfl
        have q2 : w7.cell? ⟨w3.heap.size, 2, none⟩ = some (.int .i64 20) := by rw [cell_of_row _ _ _ _ _ _ Q7.out]; rfl
        have hne1 : b ≠ w3.heap.size := by omega
        have hne2 : b ≠ w.heap.size := by omega
        have hne3 : w.heap.size ≠ w3.heap.size := by omega
        clear hI hrg
        go_wp2
        have K8 : Chg w7 (w7.setCell ⟨b, 3 + k * 17 + 16, none⟩ (.int .i64 ((n : Int) + 1))) (some b) := (Chg.refl w7 _).set _ _
        have R8 := (K8.block w.heap.size (Array.getElem?_eq_some_iff.1 R7.out).1 (fun e => by injection e; omega)).trans R7.out
        have hg := heap_setCell_same _ w.heap.size 2 _ _ (.int .i64 20) (heap_setCell_same _ w.heap.size 1 _ _ (.bool true) (heap_setCell_same _ w.heap.size 0 _ _ (.bool false) R8))
        refine bodyPost_ret (results_cell_row (p := 6) (ty := 38) rfl _ _ w.heap.size 38 #[.bool false, .bool true, .int .i64 20] (0, 0) _ rfl hg Tryd.underlying38 rfl info38) rfl ?_
        have K9 : Chg (w7.setCell ⟨b, 3 + k * 17 + 16, none⟩ (.int .i64 ((n : Int) + 1))) _ (some w.heap.size) := (((Chg.refl _ _).set 0 (.bool false)).set 1 (.bool true)).set 2 (.int .i64 20)
        obtain ⟨y1, y2⟩ := miss_set (w := w7.setCell ⟨b, 3 + k * 17 + 16, none⟩ (.int .i64 ((n : Int) + 1))) (l := (t, wr)) h8 hn7 (range_apart RG7.out (by rw [flat_length, front_len (by omega), h8]; omega)) (World.cell?_setCell_same _ _ _ m7)
        rw [HT2.out, HE.out]
        refine ⟨rfl, ((K6.out.trans II.out.chg).trans K8).trans_new K9 (Nat.le_refl _), ?_⟩
        exact (H3.out.upd hk (II.out.row.set _ _) (fun x hx => by
          rw [World.cell?_setCell_other _ _ _ _ (fun e => by injection e; omega), II.out.out x (by omega)]; exact O6.out x hx) y1 (by rw [y2]; have := HN.out; omega)).kept K9 (by intro e; injection e; omega)
      | false =>
        rw [hD] at hc
        have HT2 := Lib.hid (show accT s.W (f k) t = ⟨false, false, 12⟩ by rw [HB.out, hD]; rfl)
        go_quiet (fail)
        go_wp2_with fail
        have X6 : Chg w5 (w5.drewN nq) none := (Chg.refl w5 _).drewN nq
        have Q6 := Lib.hid (show (w5.drewN nq).heap[w3.heap.size]? = _ from Q5.out)
        have ROW6 := Lib.hid (ROW5.out.kept X6 (by simp))
        have RG6 := Lib.hid (range_kept' RG5.out X6 (by simp))
        have M6 := Lib.hid (cell_kept M5 X6 (by simp))
        have R6 := Lib.hid (show (w5.drewN nq).heap[w.heap.size]? = _ from R5.out)
        have K6 := Lib.hid (((C4.out.any (some b)).trans K5.out).trans (X6.any _))
        have O6 := Lib.hid (fun x hx => show (w5.drewN nq).cell? ⟨b, x, none⟩ = _ from O5.out x hx)
        clear X6 hc M5 hne1 hne2
        generalize w5.drewN nq = w6 at *
        have m6 := M6.out
        go_wp2_with fail
        refine (front_any w6 b (3 + k * 17) n 86 4355 L (t, wr) ROW6.out (by omega) RG6.out h8 hn7).mono ?_
        rintro e w7 ⟨rfl, hI, hrg⟩
        have II := Lib.hid hI
        have RG7 := Lib.hid hrg
        have m7 := (hI.out (3 + k * 17 + 16) (.inr (by omega))).trans M6.out
        have fz7 := (hI.row.there (3 + k * 17) 17 (by omega) 16 (by omega)).2
        have R7 := Lib.hid ((hI.chg.block w.heap.size (Array.getElem?_eq_some_iff.1 R6.out).1 (fun e => by injection e; omega)).trans R6.out)
        have Q7 := Lib.hid ((hI.chg.block w3.heap.size (Array.getElem?_eq_some_iff.1 Q6.out).1 (fun e => by injection e; omega)).trans Q6.out)
        have g0 : w7.cell? ⟨w.heap.size, 0, none⟩ = some (.bool false) := by rw [cell_of_row _ _ _ _ _ _ R7.out]; rfl
        have g1 : w7.cell? ⟨w.heap.size, 1, none⟩ = some (.bool false) := by rw [cell_of_row _ _ _ _ _ _ R7.out]; rfl
        have g2 : w7.cell? ⟨w.heap.size, 2, none⟩ = some (.int .i64 0) := by rw [cell_of_row _ _ _ _ _ _ R7.out]; rfl
        have f0 := frozen_of_row w7 w.heap.size 0 _ _ R7.out
        have f1 := frozen_of_row w7 w.heap.size 1 _ _ R7.out
        have f2 := frozen_of_row w7 w.heap.size 2 _ _ R7.out
        have q0 : w7.cell? ⟨w3.heap.size, 0, none⟩ = some (.bool false) := by rw [cell_of_row _ _ _ _ _ _ Q7.out]; rfl
        have q1 : w7.cell? ⟨w3.heap.size, 1, none⟩ = some (.bool false) := by rw [cell_of_row _ _ _ _ _ _ Q7.out]; rfl
        have q2 : w7.cell? ⟨w3.heap.size, 2, none⟩ = some (.int .i64 12) := by rw [cell_of_row _ _ _ _ _ _ Q7.out]; rfl
        have hne1 : b ≠ w3.heap.size := by omega
        have hne2 : b ≠ w.heap.size := by omega
        have hne3 : w.heap.size ≠ w3.heap.size := by omega
        clear hI hrg
        go_wp2
        have K8 : Chg w7 (w7.setCell ⟨b, 3 + k * 17 + 16, none⟩ (.int .i64 ((n : Int) + 1))) (some b) := (Chg.refl w7 _).set _ _
        have R8 := (K8.block w.heap.size (Array.getElem?_eq_some_iff.1 R7.out).1 (fun e => by injection e; omega)).trans R7.out
        have hg := heap_setCell_same _ w.heap.size 2 _ _ (.int .i64 12) (heap_setCell_same _ w.heap.size 1 _ _ (.bool false) (heap_setCell_same _ w.heap.size 0 _ _ (.bool false) R8))
        refine bodyPost_ret (results_cell_row (p := 6) (ty := 38) rfl _ _ w.heap.size 38 #[.bool false, .bool false, .int .i64 12] (0, 0) _ rfl hg Tryd.underlying38 rfl info38) rfl ?_
        have K9 : Chg (w7.setCell ⟨b, 3 + k * 17 + 16, none⟩ (.int .i64 ((n : Int) + 1))) _ (some w.heap.size) := (((Chg.refl _ _).set 0 (.bool false)).set 1 (.bool false)).set 2 (.int .i64 12)
        obtain ⟨y1, y2⟩ := miss_set (w := w7.setCell ⟨b, 3 + k * 17 + 16, none⟩ (.int .i64 ((n : Int) + 1))) (l := (t, wr)) h8 hn7 (range_apart RG7.out (by rw [flat_length, front_len (by omega), h8]; omega)) (World.cell?_setCell_same _ _ _ m7)
        rw [HT2.out, HE.out]
        refine ⟨rfl, ((K6.out.trans II.out.chg).trans K8).trans_new K9 (Nat.le_refl _), ?_⟩
        exact (H3.out.upd hk (II.out.row.set _ _) (fun x hx => by
          rw [World.cell?_setCell_other _ _ _ _ (fun e => by injection e; omega), II.out.out x (by omega)]; exact O6.out x hx) y1 (by rw [y2]; have := HN.out; omega)).kept K9 (by intro e; injection e; omega)
    · obtain ⟨n, hn⟩ : ∃ n, (f k).length = n := ⟨_, rfl⟩
      have e3 : accV s.W (f k) t wr = (t, wr) :: L.take n := by
        unfold accV; rw [if_neg hs, if_neg hf, ← hn, ← HV.out]
      have HT2 := Lib.hid (show accT s.W (f k) t = ⟨false, false, 12⟩ by unfold accT; rw [if_neg hs]; simp [hf])
      have hq : ((n : Int) == (s.W : Int)) = false := by simp; omega
      have hmc := MC4.out
      rw [hn] at hmc
      have hn7 : n ≤ 7 := by omega
      have hwa := wrap_small (x := (n : Int) + 1) (by omega) (by omega)
      have HN := Lib.hid (show n + 1 ≤ s.W by omega)
      have HE := Lib.hid e3
      clear e3 hf hs hn
      go_quiet (fail)
      go_wp2_with fail
      have X6 : Chg w4 (w4.drewN nq) none := (Chg.refl w4 _).drewN nq
      have Q6 := Lib.hid (show (w4.drewN nq).heap[w3.heap.size]? = _ from Q4.out)
      have ROW6 := Lib.hid (H4.out.row.kept X6 (by simp))
      have RG6 := Lib.hid (range_kept' RG4.out X6 (by simp))
      have M6 := Lib.hid (cell_kept hmc X6 (by simp))
      have R6 := Lib.hid (show (w4.drewN nq).heap[w.heap.size]? = _ from R4.out)
      have K6 := Lib.hid ((C4.out.trans X6).any (some b))
      have O6 := Lib.hid (fun x (hx : x < 3 + k * 17 ∨ 3 + k * 17 + 17 ≤ x) => show (w4.drewN nq).cell? ⟨b, x, none⟩ = w3.cell? ⟨b, x, none⟩ by
        show w4.cell? ⟨b, x, none⟩ = _
        rw [World.cell?_of_block (A4.out.block b hb3 (by simp))])
      clear X6 hmc hq d1
      generalize w4.drewN nq = w6 at *
      have m6 := M6.out
      go_wp2_with fail
      refine (front_any w6 b (3 + k * 17) n 86 4355 L (t, wr) ROW6.out (by omega) RG6.out h8 hn7).mono ?_
      rintro e w7 ⟨rfl, hI, hrg⟩
      have II := Lib.hid hI
      have RG7 := Lib.hid hrg
      have m7 := (hI.out (3 + k * 17 + 16) (.inr (by omega))).trans M6.out
      have fz7 := (hI.row.there (3 + k * 17) 17 (by omega) 16 (by omega)).2
      have R7 := Lib.hid ((hI.chg.block w.heap.size (Array.getElem?_eq_some_iff.1 R6.out).1 (fun e => by injection e; omega)).trans R6.out)
      have Q7 := Lib.hid ((hI.chg.block w3.heap.size (Array.getElem?_eq_some_iff.1 Q6.out).1 (fun e => by injection e; omega)).trans Q6.out)
      have g0 : w7.cell? ⟨w.heap.size, 0, none⟩ = some (.bool false) := by rw [cell_of_row _ _ _ _ _ _ R7.out]; rfl
      have g1 : w7.cell? ⟨w.heap.size, 1, none⟩ = some (.bool false) := by rw [cell_of_row _ _ _ _ _ _ R7.out]; rfl
      have g2 : w7.cell? ⟨w.heap.size, 2, none⟩ = some (.int .i64 0) := by rw [cell_of_row _ _ _ _ _ _ R7.out]; rfl
      have f0 := frozen_of_row w7 w.heap.size 0 _ _ R7.out
      have f1 := frozen_of_row w7 w.heap.size 1 _ _ R7.out
      have f2 := frozen_of_row w7 w.heap.size 2 _ _ R7.out
      have q0 : w7.cell? ⟨w3.heap.size, 0, none⟩ = some (.bool false) := by rw [cell_of_row _ _ _ _ _ _ Q7.out]; rfl
      have q1 : w7.cell? ⟨w3.heap.size, 1, none⟩ = some (.bool false) := by rw [cell_of_row _ _ _ _ _ _ Q7.out]; rfl
      have q2 : w7.cell? ⟨w3.heap.size, 2, none⟩ = some (.int .i64 12) := by rw [cell_of_row _ _ _ _ _ _ Q7.out]; rfl
      have hne1 : b ≠ w3.heap.size := by omega
      have hne2 : b ≠ w.heap.size := by omega
      have hne3 : w.heap.size ≠ w3.heap.size := by omega
      clear hI hrg
      go_wp2
      have K8 : Chg w7 (w7.setCell ⟨b, 3 + k * 17 + 16, none⟩ (.int .i64 ((n : Int) + 1))) (some b) := (Chg.refl w7 _).set _ _
      have R8 := (K8.block w.heap.size (Array.getElem?_eq_some_iff.1 R7.out).1 (fun e => by injection e; omega)).trans R7.out
      have hg := heap_setCell_same _ w.heap.size 2 _ _ (.int .i64 12) (heap_setCell_same _ w.heap.size 1 _ _ (.bool false) (heap_setCell_same _ w.heap.size 0 _ _ (.bool false) R8))
      refine bodyPost_ret (results_cell_row (p := 6) (ty := 38) rfl _ _ w.heap.size 38 #[.bool false, .bool false, .int .i64 12] (0, 0) _ rfl hg Tryd.underlying38 rfl info38) rfl ?_
      have K9 : Chg (w7.setCell ⟨b, 3 + k * 17 + 16, none⟩ (.int .i64 ((n : Int) + 1))) _ (some w.heap.size) := (((Chg.refl _ _).set 0 (.bool false)).set 1 (.bool false)).set 2 (.int .i64 12)
      obtain ⟨y1, y2⟩ := miss_set (w := w7.setCell ⟨b, 3 + k * 17 + 16, none⟩ (.int .i64 ((n : Int) + 1))) (l := (t, wr)) h8 hn7 (range_apart RG7.out (by rw [flat_length, front_len (by omega), h8]; omega)) (World.cell?_setCell_same _ _ _ m7)
      rw [HT2.out, HE.out]
      refine ⟨rfl, ((K6.out.trans II.out.chg).trans K8).trans_new K9 (Nat.le_refl _), ?_⟩
      exact (H3.out.upd hk (II.out.row.set _ _) (fun x hx => by
        rw [World.cell?_setCell_other _ _ _ _ (fun e => by injection e; omega), II.out.out x (by omega)]; exact O6.out x hx) y1 (by rw [y2]; have := HN.out; omega)).kept K9 (by intro e; injection e; omega)
theorem access_any (w : World) (hT : TabAt w) (b : Nat) (s : Shp) (f : Nat → List Ln) (h : CacheIs w b s f) (a : Nat) (ha : a < 4294967296) (wr : Bool) :
    Calls Tryd.prog 15 #[.pointer (some ⟨b, 0, none⟩), .int .u32 a, .bool wr] w fun e w' =>
      e = .returned (touch (accT s.W (f (setOf s.S s.L a)) (tagOf s.S s.L a))) ∧ Chg w w' (some b) ∧ CacheIs w' b s (put f (setOf s.S s.L a) (accV s.W (f (setOf s.S s.L a)) (tagOf s.S s.L a) wr)) :=
  access_core w hT b s f h a ha wr _ _ rfl rfl
end Go.Proofs.YtlmgiejemdifkaaDoor.Ca
