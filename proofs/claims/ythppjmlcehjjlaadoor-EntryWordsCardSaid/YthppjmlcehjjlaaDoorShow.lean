/- Show: its contract. No statement of the seat is proved here. -/
import Derived.Test.YthppjmlcehjjlaaDoorDec
import Derived.Test.YthppjmlcehjjlaaDoorDigits
import Derived.LoopN
import Derived.Lib.SlBytesConst
namespace Go.Proofs.YthppjmlcehjjlaaDoor.En
open Go.RowKit Go.Proofs.YthppjmlcehjjlaaDoor.Kit
set_option linter.unusedSimpArgs false
set_option linter.unusedVariables false

/-- Three cells of a block of one's own. -/
theorem row3 {w : World} {b : Nat} {x y z : Value} {t : TypeId} (h : w.heap[b]? = some (.cells #[x, y, z] t (0, 0))) : w.cell? ⟨b, 0, none⟩ = some x ∧ w.cell? ⟨b, 1, none⟩ = some y ∧ w.cell? ⟨b, 2, none⟩ = some z ∧ w.frozen? ⟨b, 0, none⟩ = false ∧ w.frozen? ⟨b, 1, none⟩ = false ∧ w.frozen? ⟨b, 2, none⟩ = false :=
  ⟨by rw [cell_of_row _ _ _ _ _ _ h]; rfl, by rw [cell_of_row _ _ _ _ _ _ h]; rfl, by rw [cell_of_row _ _ _ _ _ _ h]; rfl, frozen_of_row _ _ _ _ _ h, frozen_of_row _ _ _ _ _ h, frozen_of_row _ _ _ _ _ h⟩
set_option maxHeartbeats 2000000 in
theorem show_no (w : World) (k : Int) (p f : Nat) (hp : p < 256) (hf : f < 4294967296) (hk : -9223372036854775808 ≤ k ∧ k ≤ 9223372036854775807) (hn : ¬ okE ⟨k, p, f⟩) :
    Calls Tryd.prog 8 #[.agg #[.int .i64 k, .int .u8 p, .int .u32 f]] w fun e w' => e = .returned (.string ⟨#[]⟩) ∧ Chg w w' none := by
  have EN := Lib.hid (fun X => enc_any X k p f hp hf hk)
  have hx : ((encW ⟨k, p, f⟩).2 != 0) = true := by simpa [okE] using hn
  generalize encW ⟨k, p, f⟩ = x at *
  obtain ⟨W, n⟩ := x
  have C1 := Lib.hid ((Chg.refl w none).alloc (.cells #[.int .i64 k, .int .u8 p, .int .u32 f] 27))
  clear hn
  go_enter Tryd.func8, Tryd.ntmps8
  go_wp2_with fail
  refine (EN.out _).mono ?_
  rintro e w1 ⟨rfl, hC⟩
  have C2 := Lib.hid (C1.out.trans hC)
  clear hC
  go_wp2
  go_ret
  exact ⟨rfl, C2.out⟩
theorem show_z (w : World) : Calls Tryd.prog 8 #[.agg #[.int .i64 0, .int .u8 0, .int .u32 0]] w fun e w' => e = .returned (.string ⟨#[45]⟩) ∧ Chg w w' none := by
  have EN := Lib.hid (fun X => enc_any X 0 0 0 (by decide) (by decide) (by decide))
  rw [show encW ⟨0, 0, 0⟩ = (0, 0) from rfl] at EN
  have C1 := Lib.hid ((Chg.refl w none).alloc (.cells #[.int .i64 0, .int .u8 0, .int .u32 0] 27))
  have G1 := Lib.hid (heap_alloc_last w (.cells #[.int .i64 0, .int .u8 0, .int .u32 0] 27))
  go_enter Tryd.func8, Tryd.ntmps8
  go_wp2_with fail
  refine (EN.out _).mono ?_
  rintro e w1 ⟨rfl, hC⟩
  obtain ⟨c0, c1, c2, _, _, _⟩ := row3 ((hC.block w.heap.size (by simp) (by simp)).trans G1.out)
  have C2 := Lib.hid (C1.out.trans hC)
  clear hC
  go_wp2
  go_ret
  exact ⟨rfl, C2.out⟩
set_option maxHeartbeats 2000000 in
theorem show_t (w : World) (hL : Lb w) (f : Nat) (hf : f ≤ 4095) : Calls Tryd.prog 8 #[.agg #[.int .i64 2, .int .u8 0, .int .u32 f]] w fun e w' => e = .returned (.string ⟨([116, 97, 98, 32] ++ hex3 f : List UInt8).toArray⟩) ∧ Chg w w' none := by
  have EN := Lib.hid (fun X => enc_any X 2 0 f (by decide) (by omega) (by decide))
  have e0 : (encW ⟨2, 0, f⟩).2 = 0 := okE_table hf
  generalize encW ⟨2, 0, f⟩ = x at *
  obtain ⟨W, n⟩ := x
  obtain rfl : n = 0 := e0
  have C1 := Lib.hid ((Chg.refl w none).alloc (.cells #[.int .i64 2, .int .u8 0, .int .u32 f] 27))
  have G1 := Lib.hid (heap_alloc_last w (.cells #[.int .i64 2, .int .u8 0, .int .u32 f] 27))
  have LL := Lib.hid hL
  clear hL
  go_enter Tryd.func8, Tryd.ntmps8
  go_wp2_with fail
  refine (EN.out _).mono ?_
  rintro e w1 ⟨rfl, hC⟩
  obtain ⟨c0, c1, c2, _, _, _⟩ := row3 ((hC.block w.heap.size (by simp) (by simp)).trans G1.out)
  have C2 := Lib.hid (C1.out.trans hC)
  clear hC
  go_wp2_with fail
  refine (dig_any w1 (LL.out.kept C2.out) f (by omega)).mono ?_
  rintro e w2 ⟨rfl, hC⟩
  have C3 := Lib.hid (C2.out.trans hC)
  clear hC
  go_wp2
  go_ret
  exact ⟨rfl, C3.out⟩
/-! ### a page: three rounds over "rwx" -/
abbrev rwx : ByteArray := ⟨#[114, 119, 120]⟩
theorem rowm {w : World} {b : Nat} {x y z : Value} {t : TypeId} (h : w.heap[b]? = some (.cells #[x, y, z] t (3, 4))) : w.cell? ⟨b, 0, none⟩ = some x ∧ w.cell? ⟨b, 1, none⟩ = some y ∧ w.cell? ⟨b, 2, none⟩ = some z ∧ w.frozen? ⟨b, 0, none⟩ = false ∧ w.frozen? ⟨b, 1, none⟩ = false ∧ w.frozen? ⟨b, 2, none⟩ = false :=
  ⟨by rw [cell_of_row _ _ _ _ _ _ h]; rfl, by rw [cell_of_row _ _ _ _ _ _ h]; rfl, by rw [cell_of_row _ _ _ _ _ _ h]; rfl, by simp [World.frozen?, h], by simp [World.frozen?, h], by simp [World.frozen?, h]⟩
/-- What stands between the rounds: the entry in its box, three bytes, the place in the text. -/
structure Sh (w z : World) (a q p f i : Nat) (x y u : Int) : Prop where
  chg : Chg w z none
  box : z.heap[w.heap.size]? = some (.cells #[.int .i64 1, .int .u8 p, .int .u32 f] 27 (0, 0))
  row : z.heap[a]? = some (.cells #[.int .u8 x, .int .u8 y, .int .u8 u] 5 (3, 4))
  it : z.heap[q]? = some (.stringIter rwx i)
  ha : w.heap.size < a
  hq : a < q
def nextW (z : World) (q i : Nat) : World := { z with heap := z.heap.setIfInBounds q (.stringIter rwx i) }
theorem nextW_same {z : World} {q i j : Nat} (h : z.heap[q]? = some (.stringIter rwx i)) : (nextW z q j).heap[q]? = some (.stringIter rwx j) := by
  show (z.heap.setIfInBounds q _)[q]? = _
  rw [Array.getElem?_setIfInBounds_self_of_lt (Array.getElem?_eq_some_iff.1 h).1]
theorem nextW_other (z : World) {q k : Nat} (j : Nat) (h : k ≠ q) : (nextW z q j).heap[k]? = z.heap[k]? := by
  show (z.heap.setIfInBounds q _)[k]? = _
  rw [Array.getElem?_setIfInBounds_ne (fun e => h e.symm)]
theorem Sh.next {w z : World} {a q p f i : Nat} {x y u : Int} (h : Sh w z a q p f i x y u) (hi : i < 3) :
    ∃ z', (∀ ty, (Instr.next (.pointer (some ⟨q, 0, none⟩)) true ty).run Tryd.prog z = .ok (.tuple #[.bool true, .int .i64 i, .int .i32 (rwx.data.getD i 0).toNat]) z') ∧ Sh w z' a q p f (i + 1) x y u := by
  have hd : Utf8.decode rwx i = ((rwx.data.getD i 0).toNat, 1) := by
    rcases (show i = 0 ∨ i = 1 ∨ i = 2 by omega) with rfl | rfl | rfl <;> kernel_rfl
  have ha := h.ha
  have hq := h.hq
  refine ⟨nextW z q (i + 1), fun ty => ?_, ⟨⟨h.chg.os, h.chg.tape, h.chg.output, by show _ ≤ (z.heap.setIfInBounds _ _).size; rw [Array.size_setIfInBounds]; exact h.chg.size, fun k hk hn => by rw [nextW_other z _ (by omega)]; exact h.chg.block k hk hn⟩,
    by rw [nextW_other z _ (by omega)]; exact h.box, by rw [nextW_other z _ (by omega)]; exact h.row, nextW_same h.it, h.ha, h.hq⟩⟩
  simp only [Instr.next, getObj, setObj, Sem.run_bind, Sem.run, h.it, Result.andThen, show i < rwx.size from hi, if_true, hd]
  rfl
theorem Sh.stop {w z : World} {a q p f : Nat} {x y u : Int} (h : Sh w z a q p f 3 x y u) : ∀ ty, (Instr.next (.pointer (some ⟨q, 0, none⟩)) true ty).run Tryd.prog z = .ok (.tuple #[.bool false]) z := fun ty => by
  simp [Instr.next, getObj, Sem.run, h.it, show ¬ (3 : Nat) < rwx.size by decide]
theorem Sh.set {w z : World} {a q p f i : Nat} {x y u : Int} (h : Sh w z a q p f i x y u) (j : Nat) (v x' y' u' : Int) (hv : (#[.int .u8 x, .int .u8 y, .int .u8 u] : Array Value).setIfInBounds j (.int .u8 v) = #[.int .u8 x', .int .u8 y', .int .u8 u']) :
    Sh w (z.setCell ⟨a, j, none⟩ (.int .u8 v)) a q p f i x' y' u' := by
  have ha := h.ha
  have hq := h.hq
  refine ⟨h.chg.set_new j _ (by omega), ?_, ?_, ?_, h.ha, h.hq⟩
  · rw [heap_setCell_other z ⟨a, j, none⟩ w.heap.size _ (by show w.heap.size ≠ a; omega)]; exact h.box
  · have : (z.setCell ⟨a, j, none⟩ (.int .u8 v)).heap[a]? = some (.cells ((#[.int .u8 x, .int .u8 y, .int .u8 u] : Array Value).setIfInBounds j (.int .u8 v)) 5 (3, 4)) := by
      simp [World.setCell, Array.getElem?_modify, h.row]
    rw [this, hv]
  · rw [heap_setCell_other z ⟨a, j, none⟩ q _ (by show q ≠ a; omega)]; exact h.it
theorem Sh.set0 {w z : World} {a q p f i : Nat} {x y u : Int} (h : Sh w z a q p f i x y u) (v : Int) : Sh w (z.setCell ⟨a, 0, none⟩ (.int .u8 v)) a q p f i v y u := h.set 0 v _ _ _ rfl
theorem Sh.set1 {w z : World} {a q p f i : Nat} {x y u : Int} (h : Sh w z a q p f i x y u) (v : Int) : Sh w (z.setCell ⟨a, 1, none⟩ (.int .u8 v)) a q p f i x v u := h.set 1 v _ _ _ rfl
theorem Sh.set2 {w z : World} {a q p f i : Nat} {x y u : Int} (h : Sh w z a q p f i x y u) (v : Int) : Sh w (z.setCell ⟨a, 2, none⟩ (.int .u8 v)) a q p f i x y v := h.set 2 v _ _ _ rfl
theorem Sh.conv {w z : World} {a q p f i : Nat} {x y u : UInt8} (h : Sh w z a q p f i x.toNat y.toNat u.toNat) (W : World) (hC : Chg z W none) :
    (convert 41 9 (.slice (some ⟨a, 0, none⟩) 3 3)).run Tryd.prog W = .ok (.string ⟨([x, y, u] : List UInt8).toArray⟩) W := by
  have hr := (hC.block a (Array.getElem?_eq_some_iff.1 h.row).1 (by simp)).trans h.row
  obtain ⟨r0, r1, r2, _, _, _⟩ := rowm hr
  exact run_convert_bytes_back (P := Tryd.prog) W 41 9 5 ⟨a, 0, none⟩ 3 [x, y, u] Tryd.underlying41 Tryd.underlying5 Tryd.underlying9 (fun j hj => by
    rw [Addr.add_mid, Nat.zero_add]
    rcases (show j = 0 ∨ j = 1 ∨ j = 2 by simp at hj; omega) with rfl | rfl | rfl
    · exact r0
    · exact r1
    · exact r2)
theorem sh_start {w w1 : World} {p f : Nat} (hC : Chg w w1 none) (hB : w1.heap[w.heap.size]? = some (.cells #[.int .i64 1, .int .u8 p, .int .u32 f] 27 (0, 0))) (hb : w.heap.size < w1.heap.size) :
    Sh w ((w1.alloc (.cells #[.int .u8 45, .int .u8 45, .int .u8 45] 5 (3, 4))).iter ⟨#[114, 119, 120]⟩ 0) w1.heap.size (w1.heap.size + 1) p f 0 45 45 45 := by
  have h1 : (w1.alloc (.cells #[.int .u8 45, .int .u8 45, .int .u8 45] 5 (3, 4))).heap.size = w1.heap.size + 1 := by simp
  refine ⟨(hC.alloc _).alloc _, ?_, ?_, ?_, hb, by omega⟩
  · show ((w1.alloc _).alloc _).heap[_]? = _
    rw [heap_alloc_old (h := by rw [h1]; omega), heap_alloc_old (h := hb)]; exact hB
  · show ((w1.alloc _).alloc _).heap[_]? = _
    rw [heap_alloc_old (h := by rw [h1]; omega)]; exact heap_alloc_last w1 _
  · have := World.iter_heap (w1.alloc (.cells #[.int .u8 45, .int .u8 45, .int .u8 45] 5 (3, 4))) ⟨#[114, 119, 120]⟩ 0
    rw [h1] at this; exact this
set_option maxRecDepth 100000 in
set_option maxHeartbeats 4000000 in
theorem show_p1 (w : World) (hL : Lb w) (f : Nat) (hf : f ≤ 4095) : Calls Tryd.prog 8 #[.agg #[.int .i64 1, .int .u8 1, .int .u32 f]] w fun e w' => e = .returned (.string ⟨(permB 1 ++ [32] ++ hex3 f : List UInt8).toArray⟩) ∧ Chg w w' none := by
  have EN := Lib.hid (fun X => enc_any X 1 1 f (by decide) (by omega) (by decide))
  have e0 : (encW ⟨1, 1, f⟩).2 = 0 := okE_page rfl hf
  generalize encW ⟨1, 1, f⟩ = x at *
  obtain ⟨W, n⟩ := x
  obtain rfl : n = 0 := e0
  have kc := fun (w : World) (C : Array Value) (n c : Nat) => Lib.run_convert_bytes_const (P := Tryd.prog) w 41 5 C n c Tryd.underlying41 Tryd.underlying5
  have C1 := Lib.hid ((Chg.refl w none).alloc (.cells #[.int .i64 1, .int .u8 1, .int .u32 f] 27))
  have G1 := Lib.hid (heap_alloc_last w (.cells #[.int .i64 1, .int .u8 1, .int .u32 f] 27))
  have LL := Lib.hid hL
  clear hL
  go_enter Tryd.func8, Tryd.ntmps8
  go_wp2_with fail
  refine (EN.out _).mono ?_
  rintro e w1 ⟨rfl, hC⟩
  have B1 := Lib.hid ((hC.block w.heap.size (by simp) (by simp)).trans G1.out)
  obtain ⟨c0, c1, c2, _, _, _⟩ := row3 B1.out
  have C2 := Lib.hid (C1.out.trans hC)
  have hb1 := World.block_lt_of_cell? w1 _ c0
  clear hC
  go_wp2_with fail
  have b0 : (⟨#[114, 119, 120]⟩ : ByteArray)[0]'(by decide) = 114 := rfl
  have b1 : (⟨#[114, 119, 120]⟩ : ByteArray)[1]'(by decide) = 119 := rfl
  have b2 : (⟨#[114, 119, 120]⟩ : ByteArray)[2]'(by decide) = 120 := rfl
  have S := Lib.hid (sh_start (p := 1) (f := f) C2.out B1.out hb1)
  obtain ⟨z1, hn0, S1⟩ := S.out.next (by decide)
  have T1 := Lib.hid S1
  clear kc c0 c1 c2 S1 S
  generalize (w1.alloc (.cells #[.int .u8 45, .int .u8 45, .int .u8 45] 5 (3, 4))).iter ⟨#[114, 119, 120]⟩ 0 = z0 at *
  obtain ⟨_, d0, _, _, _, _⟩ := row3 T1.out.box
  obtain ⟨r0, _, _, g0, _, _⟩ := rowm T1.out.row
  have U1 := Lib.hid (T1.out.set0 114)
  obtain ⟨z2, hn1, S2⟩ := U1.out.next (by decide)
  have T2 := Lib.hid S2
  clear S2
  obtain ⟨_, d1, _, _, _, _⟩ := row3 T2.out.box
  obtain ⟨_, r1, _, _, g1, _⟩ := rowm T2.out.row
  have U2 := T2
  obtain ⟨z3, hn2, S3⟩ := U2.out.next (by decide)
  have T3 := Lib.hid S3
  clear S3
  obtain ⟨_, d2, _, _, _, _⟩ := row3 T3.out.box
  obtain ⟨_, _, r2, _, _, g2⟩ := rowm T3.out.row
  have U3 := T3
  have hn3 := U3.out.stop
  refine wp_loop_rounds 4 ?_
  rw [rounds_succ]
  go_wp2_with fail
  rw [rounds_succ]
  go_wp2_with fail
  rw [rounds_succ]
  go_wp2_with fail
  rw [rounds_succ]
  go_wp2_with fail
  have U4 := Lib.hid (show Sh w z3 w1.heap.size (w1.heap.size + 1) 1 f 3 114 45 45 from U3.out)
  clear d0 d1 d2 r0 g0 hn0 r1 g1 hn1 r2 g2 hn2 hn3 b0 b1 b2 U1 U2 U3 T1 T2 T3
  generalize z3 = z4 at *
  have D0 := Lib.hid ((Chg.refl z4 none).drewN 1)
  have LD := Lib.hid ((LL.out.kept U4.out.chg).kept D0.out)
  have hcv0 := Sh.conv (x := 114) (y := 45) (u := 45) U4.out z4.drew D0.out
  obtain ⟨_, _, d2, _, _, _⟩ := row3 U4.out.box
  have M2 := Lib.hid d2
  go_region_with ((go_at_call 12; refine (dig_any z4.drew LD.out f (by omega)).mono ?_; rintro e wa ⟨rfl, hC⟩; have C5 := Lib.hid (D0.out.trans hC); have hcv1 := Sh.conv (x := 114) (y := 45) (u := 45) U4.out wa C5.out; have d2' := cell_kept M2.out C5.out (by simp); clear hC))
  all_goals
    go_wp2
    go_ret
    exact ⟨rfl, U4.out.chg.trans C5.out⟩
set_option maxRecDepth 100000 in
set_option maxHeartbeats 4000000 in
theorem show_p3 (w : World) (hL : Lb w) (f : Nat) (hf : f ≤ 4095) : Calls Tryd.prog 8 #[.agg #[.int .i64 1, .int .u8 3, .int .u32 f]] w fun e w' => e = .returned (.string ⟨(permB 3 ++ [32] ++ hex3 f : List UInt8).toArray⟩) ∧ Chg w w' none := by
  have EN := Lib.hid (fun X => enc_any X 1 3 f (by decide) (by omega) (by decide))
  have e0 : (encW ⟨1, 3, f⟩).2 = 0 := okE_page rfl hf
  generalize encW ⟨1, 3, f⟩ = x at *
  obtain ⟨W, n⟩ := x
  obtain rfl : n = 0 := e0
  have kc := fun (w : World) (C : Array Value) (n c : Nat) => Lib.run_convert_bytes_const (P := Tryd.prog) w 41 5 C n c Tryd.underlying41 Tryd.underlying5
  have C1 := Lib.hid ((Chg.refl w none).alloc (.cells #[.int .i64 1, .int .u8 3, .int .u32 f] 27))
  have G1 := Lib.hid (heap_alloc_last w (.cells #[.int .i64 1, .int .u8 3, .int .u32 f] 27))
  have LL := Lib.hid hL
  clear hL
  go_enter Tryd.func8, Tryd.ntmps8
  go_wp2_with fail
  refine (EN.out _).mono ?_
  rintro e w1 ⟨rfl, hC⟩
  have B1 := Lib.hid ((hC.block w.heap.size (by simp) (by simp)).trans G1.out)
  obtain ⟨c0, c1, c2, _, _, _⟩ := row3 B1.out
  have C2 := Lib.hid (C1.out.trans hC)
  have hb1 := World.block_lt_of_cell? w1 _ c0
  clear hC
  go_wp2_with fail
  have b0 : (⟨#[114, 119, 120]⟩ : ByteArray)[0]'(by decide) = 114 := rfl
  have b1 : (⟨#[114, 119, 120]⟩ : ByteArray)[1]'(by decide) = 119 := rfl
  have b2 : (⟨#[114, 119, 120]⟩ : ByteArray)[2]'(by decide) = 120 := rfl
  have S := Lib.hid (sh_start (p := 3) (f := f) C2.out B1.out hb1)
  obtain ⟨z1, hn0, S1⟩ := S.out.next (by decide)
  have T1 := Lib.hid S1
  clear kc c0 c1 c2 S1 S
  generalize (w1.alloc (.cells #[.int .u8 45, .int .u8 45, .int .u8 45] 5 (3, 4))).iter ⟨#[114, 119, 120]⟩ 0 = z0 at *
  obtain ⟨_, d0, _, _, _, _⟩ := row3 T1.out.box
  obtain ⟨r0, _, _, g0, _, _⟩ := rowm T1.out.row
  have U1 := Lib.hid (T1.out.set0 114)
  obtain ⟨z2, hn1, S2⟩ := U1.out.next (by decide)
  have T2 := Lib.hid S2
  clear S2
  obtain ⟨_, d1, _, _, _, _⟩ := row3 T2.out.box
  obtain ⟨_, r1, _, _, g1, _⟩ := rowm T2.out.row
  have U2 := Lib.hid (T2.out.set1 119)
  obtain ⟨z3, hn2, S3⟩ := U2.out.next (by decide)
  have T3 := Lib.hid S3
  clear S3
  obtain ⟨_, d2, _, _, _, _⟩ := row3 T3.out.box
  obtain ⟨_, _, r2, _, _, g2⟩ := rowm T3.out.row
  have U3 := T3
  have hn3 := U3.out.stop
  refine wp_loop_rounds 4 ?_
  rw [rounds_succ]
  go_wp2_with fail
  rw [rounds_succ]
  go_wp2_with fail
  rw [rounds_succ]
  go_wp2_with fail
  rw [rounds_succ]
  go_wp2_with fail
  have U4 := Lib.hid (show Sh w z3 w1.heap.size (w1.heap.size + 1) 3 f 3 114 119 45 from U3.out)
  clear d0 d1 d2 r0 g0 hn0 r1 g1 hn1 r2 g2 hn2 hn3 b0 b1 b2 U1 U2 U3 T1 T2 T3
  generalize z3 = z4 at *
  have D0 := Lib.hid ((Chg.refl z4 none).drewN 1)
  have LD := Lib.hid ((LL.out.kept U4.out.chg).kept D0.out)
  have hcv0 := Sh.conv (x := 114) (y := 119) (u := 45) U4.out z4.drew D0.out
  obtain ⟨_, _, d2, _, _, _⟩ := row3 U4.out.box
  have M2 := Lib.hid d2
  go_region_with ((go_at_call 12; refine (dig_any z4.drew LD.out f (by omega)).mono ?_; rintro e wa ⟨rfl, hC⟩; have C5 := Lib.hid (D0.out.trans hC); have hcv1 := Sh.conv (x := 114) (y := 119) (u := 45) U4.out wa C5.out; have d2' := cell_kept M2.out C5.out (by simp); clear hC))
  all_goals
    go_wp2
    go_ret
    exact ⟨rfl, U4.out.chg.trans C5.out⟩
set_option maxRecDepth 100000 in
set_option maxHeartbeats 4000000 in
theorem show_p4 (w : World) (hL : Lb w) (f : Nat) (hf : f ≤ 4095) : Calls Tryd.prog 8 #[.agg #[.int .i64 1, .int .u8 4, .int .u32 f]] w fun e w' => e = .returned (.string ⟨(permB 4 ++ [32] ++ hex3 f : List UInt8).toArray⟩) ∧ Chg w w' none := by
  have EN := Lib.hid (fun X => enc_any X 1 4 f (by decide) (by omega) (by decide))
  have e0 : (encW ⟨1, 4, f⟩).2 = 0 := okE_page rfl hf
  generalize encW ⟨1, 4, f⟩ = x at *
  obtain ⟨W, n⟩ := x
  obtain rfl : n = 0 := e0
  have kc := fun (w : World) (C : Array Value) (n c : Nat) => Lib.run_convert_bytes_const (P := Tryd.prog) w 41 5 C n c Tryd.underlying41 Tryd.underlying5
  have C1 := Lib.hid ((Chg.refl w none).alloc (.cells #[.int .i64 1, .int .u8 4, .int .u32 f] 27))
  have G1 := Lib.hid (heap_alloc_last w (.cells #[.int .i64 1, .int .u8 4, .int .u32 f] 27))
  have LL := Lib.hid hL
  clear hL
  go_enter Tryd.func8, Tryd.ntmps8
  go_wp2_with fail
  refine (EN.out _).mono ?_
  rintro e w1 ⟨rfl, hC⟩
  have B1 := Lib.hid ((hC.block w.heap.size (by simp) (by simp)).trans G1.out)
  obtain ⟨c0, c1, c2, _, _, _⟩ := row3 B1.out
  have C2 := Lib.hid (C1.out.trans hC)
  have hb1 := World.block_lt_of_cell? w1 _ c0
  clear hC
  go_wp2_with fail
  have b0 : (⟨#[114, 119, 120]⟩ : ByteArray)[0]'(by decide) = 114 := rfl
  have b1 : (⟨#[114, 119, 120]⟩ : ByteArray)[1]'(by decide) = 119 := rfl
  have b2 : (⟨#[114, 119, 120]⟩ : ByteArray)[2]'(by decide) = 120 := rfl
  have S := Lib.hid (sh_start (p := 4) (f := f) C2.out B1.out hb1)
  obtain ⟨z1, hn0, S1⟩ := S.out.next (by decide)
  have T1 := Lib.hid S1
  clear kc c0 c1 c2 S1 S
  generalize (w1.alloc (.cells #[.int .u8 45, .int .u8 45, .int .u8 45] 5 (3, 4))).iter ⟨#[114, 119, 120]⟩ 0 = z0 at *
  obtain ⟨_, d0, _, _, _, _⟩ := row3 T1.out.box
  obtain ⟨r0, _, _, g0, _, _⟩ := rowm T1.out.row
  have U1 := T1
  obtain ⟨z2, hn1, S2⟩ := U1.out.next (by decide)
  have T2 := Lib.hid S2
  clear S2
  obtain ⟨_, d1, _, _, _, _⟩ := row3 T2.out.box
  obtain ⟨_, r1, _, _, g1, _⟩ := rowm T2.out.row
  have U2 := T2
  obtain ⟨z3, hn2, S3⟩ := U2.out.next (by decide)
  have T3 := Lib.hid S3
  clear S3
  obtain ⟨_, d2, _, _, _, _⟩ := row3 T3.out.box
  obtain ⟨_, _, r2, _, _, g2⟩ := rowm T3.out.row
  have U3 := Lib.hid (T3.out.set2 120)
  have hn3 := U3.out.stop
  refine wp_loop_rounds 4 ?_
  rw [rounds_succ]
  go_wp2_with fail
  rw [rounds_succ]
  go_wp2_with fail
  rw [rounds_succ]
  go_wp2_with fail
  rw [rounds_succ]
  go_wp2_with fail
  have U4 := Lib.hid (show Sh w (z3.setCell ⟨w1.heap.size, 2, none⟩ (.int .u8 120)) w1.heap.size (w1.heap.size + 1) 4 f 3 45 45 120 from U3.out)
  clear d0 d1 d2 r0 g0 hn0 r1 g1 hn1 r2 g2 hn2 hn3 b0 b1 b2 U1 U2 U3 T1 T2 T3
  generalize (z3.setCell ⟨w1.heap.size, 2, none⟩ (.int .u8 120)) = z4 at *
  have D0 := Lib.hid ((Chg.refl z4 none).drewN 1)
  have LD := Lib.hid ((LL.out.kept U4.out.chg).kept D0.out)
  have hcv0 := Sh.conv (x := 45) (y := 45) (u := 120) U4.out z4.drew D0.out
  obtain ⟨_, _, d2, _, _, _⟩ := row3 U4.out.box
  have M2 := Lib.hid d2
  go_region_with ((go_at_call 12; refine (dig_any z4.drew LD.out f (by omega)).mono ?_; rintro e wa ⟨rfl, hC⟩; have C5 := Lib.hid (D0.out.trans hC); have hcv1 := Sh.conv (x := 45) (y := 45) (u := 120) U4.out wa C5.out; have d2' := cell_kept M2.out C5.out (by simp); clear hC))
  all_goals
    go_wp2
    go_ret
    exact ⟨rfl, U4.out.chg.trans C5.out⟩
set_option maxRecDepth 100000 in
set_option maxHeartbeats 4000000 in
theorem show_p5 (w : World) (hL : Lb w) (f : Nat) (hf : f ≤ 4095) : Calls Tryd.prog 8 #[.agg #[.int .i64 1, .int .u8 5, .int .u32 f]] w fun e w' => e = .returned (.string ⟨(permB 5 ++ [32] ++ hex3 f : List UInt8).toArray⟩) ∧ Chg w w' none := by
  have EN := Lib.hid (fun X => enc_any X 1 5 f (by decide) (by omega) (by decide))
  have e0 : (encW ⟨1, 5, f⟩).2 = 0 := okE_page rfl hf
  generalize encW ⟨1, 5, f⟩ = x at *
  obtain ⟨W, n⟩ := x
  obtain rfl : n = 0 := e0
  have kc := fun (w : World) (C : Array Value) (n c : Nat) => Lib.run_convert_bytes_const (P := Tryd.prog) w 41 5 C n c Tryd.underlying41 Tryd.underlying5
  have C1 := Lib.hid ((Chg.refl w none).alloc (.cells #[.int .i64 1, .int .u8 5, .int .u32 f] 27))
  have G1 := Lib.hid (heap_alloc_last w (.cells #[.int .i64 1, .int .u8 5, .int .u32 f] 27))
  have LL := Lib.hid hL
  clear hL
  go_enter Tryd.func8, Tryd.ntmps8
  go_wp2_with fail
  refine (EN.out _).mono ?_
  rintro e w1 ⟨rfl, hC⟩
  have B1 := Lib.hid ((hC.block w.heap.size (by simp) (by simp)).trans G1.out)
  obtain ⟨c0, c1, c2, _, _, _⟩ := row3 B1.out
  have C2 := Lib.hid (C1.out.trans hC)
  have hb1 := World.block_lt_of_cell? w1 _ c0
  clear hC
  go_wp2_with fail
  have b0 : (⟨#[114, 119, 120]⟩ : ByteArray)[0]'(by decide) = 114 := rfl
  have b1 : (⟨#[114, 119, 120]⟩ : ByteArray)[1]'(by decide) = 119 := rfl
  have b2 : (⟨#[114, 119, 120]⟩ : ByteArray)[2]'(by decide) = 120 := rfl
  have S := Lib.hid (sh_start (p := 5) (f := f) C2.out B1.out hb1)
  obtain ⟨z1, hn0, S1⟩ := S.out.next (by decide)
  have T1 := Lib.hid S1
  clear kc c0 c1 c2 S1 S
  generalize (w1.alloc (.cells #[.int .u8 45, .int .u8 45, .int .u8 45] 5 (3, 4))).iter ⟨#[114, 119, 120]⟩ 0 = z0 at *
  obtain ⟨_, d0, _, _, _, _⟩ := row3 T1.out.box
  obtain ⟨r0, _, _, g0, _, _⟩ := rowm T1.out.row
  have U1 := Lib.hid (T1.out.set0 114)
  obtain ⟨z2, hn1, S2⟩ := U1.out.next (by decide)
  have T2 := Lib.hid S2
  clear S2
  obtain ⟨_, d1, _, _, _, _⟩ := row3 T2.out.box
  obtain ⟨_, r1, _, _, g1, _⟩ := rowm T2.out.row
  have U2 := T2
  obtain ⟨z3, hn2, S3⟩ := U2.out.next (by decide)
  have T3 := Lib.hid S3
  clear S3
  obtain ⟨_, d2, _, _, _, _⟩ := row3 T3.out.box
  obtain ⟨_, _, r2, _, _, g2⟩ := rowm T3.out.row
  have U3 := Lib.hid (T3.out.set2 120)
  have hn3 := U3.out.stop
  refine wp_loop_rounds 4 ?_
  rw [rounds_succ]
  go_wp2_with fail
  rw [rounds_succ]
  go_wp2_with fail
  rw [rounds_succ]
  go_wp2_with fail
  rw [rounds_succ]
  go_wp2_with fail
  have U4 := Lib.hid (show Sh w (z3.setCell ⟨w1.heap.size, 2, none⟩ (.int .u8 120)) w1.heap.size (w1.heap.size + 1) 5 f 3 114 45 120 from U3.out)
  clear d0 d1 d2 r0 g0 hn0 r1 g1 hn1 r2 g2 hn2 hn3 b0 b1 b2 U1 U2 U3 T1 T2 T3
  generalize (z3.setCell ⟨w1.heap.size, 2, none⟩ (.int .u8 120)) = z4 at *
  have D0 := Lib.hid ((Chg.refl z4 none).drewN 1)
  have LD := Lib.hid ((LL.out.kept U4.out.chg).kept D0.out)
  have hcv0 := Sh.conv (x := 114) (y := 45) (u := 120) U4.out z4.drew D0.out
  obtain ⟨_, _, d2, _, _, _⟩ := row3 U4.out.box
  have M2 := Lib.hid d2
  go_region_with ((go_at_call 12; refine (dig_any z4.drew LD.out f (by omega)).mono ?_; rintro e wa ⟨rfl, hC⟩; have C5 := Lib.hid (D0.out.trans hC); have hcv1 := Sh.conv (x := 114) (y := 45) (u := 120) U4.out wa C5.out; have d2' := cell_kept M2.out C5.out (by simp); clear hC))
  all_goals
    go_wp2
    go_ret
    exact ⟨rfl, U4.out.chg.trans C5.out⟩
set_option maxRecDepth 100000 in
set_option maxHeartbeats 4000000 in
theorem show_p7 (w : World) (hL : Lb w) (f : Nat) (hf : f ≤ 4095) : Calls Tryd.prog 8 #[.agg #[.int .i64 1, .int .u8 7, .int .u32 f]] w fun e w' => e = .returned (.string ⟨(permB 7 ++ [32] ++ hex3 f : List UInt8).toArray⟩) ∧ Chg w w' none := by
  have EN := Lib.hid (fun X => enc_any X 1 7 f (by decide) (by omega) (by decide))
  have e0 : (encW ⟨1, 7, f⟩).2 = 0 := okE_page rfl hf
  generalize encW ⟨1, 7, f⟩ = x at *
  obtain ⟨W, n⟩ := x
  obtain rfl : n = 0 := e0
  have kc := fun (w : World) (C : Array Value) (n c : Nat) => Lib.run_convert_bytes_const (P := Tryd.prog) w 41 5 C n c Tryd.underlying41 Tryd.underlying5
  have C1 := Lib.hid ((Chg.refl w none).alloc (.cells #[.int .i64 1, .int .u8 7, .int .u32 f] 27))
  have G1 := Lib.hid (heap_alloc_last w (.cells #[.int .i64 1, .int .u8 7, .int .u32 f] 27))
  have LL := Lib.hid hL
  clear hL
  go_enter Tryd.func8, Tryd.ntmps8
  go_wp2_with fail
  refine (EN.out _).mono ?_
  rintro e w1 ⟨rfl, hC⟩
  have B1 := Lib.hid ((hC.block w.heap.size (by simp) (by simp)).trans G1.out)
  obtain ⟨c0, c1, c2, _, _, _⟩ := row3 B1.out
  have C2 := Lib.hid (C1.out.trans hC)
  have hb1 := World.block_lt_of_cell? w1 _ c0
  clear hC
  go_wp2_with fail
  have b0 : (⟨#[114, 119, 120]⟩ : ByteArray)[0]'(by decide) = 114 := rfl
  have b1 : (⟨#[114, 119, 120]⟩ : ByteArray)[1]'(by decide) = 119 := rfl
  have b2 : (⟨#[114, 119, 120]⟩ : ByteArray)[2]'(by decide) = 120 := rfl
  have S := Lib.hid (sh_start (p := 7) (f := f) C2.out B1.out hb1)
  obtain ⟨z1, hn0, S1⟩ := S.out.next (by decide)
  have T1 := Lib.hid S1
  clear kc c0 c1 c2 S1 S
  generalize (w1.alloc (.cells #[.int .u8 45, .int .u8 45, .int .u8 45] 5 (3, 4))).iter ⟨#[114, 119, 120]⟩ 0 = z0 at *
  obtain ⟨_, d0, _, _, _, _⟩ := row3 T1.out.box
  obtain ⟨r0, _, _, g0, _, _⟩ := rowm T1.out.row
  have U1 := Lib.hid (T1.out.set0 114)
  obtain ⟨z2, hn1, S2⟩ := U1.out.next (by decide)
  have T2 := Lib.hid S2
  clear S2
  obtain ⟨_, d1, _, _, _, _⟩ := row3 T2.out.box
  obtain ⟨_, r1, _, _, g1, _⟩ := rowm T2.out.row
  have U2 := Lib.hid (T2.out.set1 119)
  obtain ⟨z3, hn2, S3⟩ := U2.out.next (by decide)
  have T3 := Lib.hid S3
  clear S3
  obtain ⟨_, d2, _, _, _, _⟩ := row3 T3.out.box
  obtain ⟨_, _, r2, _, _, g2⟩ := rowm T3.out.row
  have U3 := Lib.hid (T3.out.set2 120)
  have hn3 := U3.out.stop
  refine wp_loop_rounds 4 ?_
  rw [rounds_succ]
  go_wp2_with fail
  rw [rounds_succ]
  go_wp2_with fail
  rw [rounds_succ]
  go_wp2_with fail
  rw [rounds_succ]
  go_wp2_with fail
  have U4 := Lib.hid (show Sh w (z3.setCell ⟨w1.heap.size, 2, none⟩ (.int .u8 120)) w1.heap.size (w1.heap.size + 1) 7 f 3 114 119 120 from U3.out)
  clear d0 d1 d2 r0 g0 hn0 r1 g1 hn1 r2 g2 hn2 hn3 b0 b1 b2 U1 U2 U3 T1 T2 T3
  generalize (z3.setCell ⟨w1.heap.size, 2, none⟩ (.int .u8 120)) = z4 at *
  have D0 := Lib.hid ((Chg.refl z4 none).drewN 1)
  have LD := Lib.hid ((LL.out.kept U4.out.chg).kept D0.out)
  have hcv0 := Sh.conv (x := 114) (y := 119) (u := 120) U4.out z4.drew D0.out
  obtain ⟨_, _, d2, _, _, _⟩ := row3 U4.out.box
  have M2 := Lib.hid d2
  go_region_with ((go_at_call 12; refine (dig_any z4.drew LD.out f (by omega)).mono ?_; rintro e wa ⟨rfl, hC⟩; have C5 := Lib.hid (D0.out.trans hC); have hcv1 := Sh.conv (x := 114) (y := 119) (u := 120) U4.out wa C5.out; have d2' := cell_kept M2.out C5.out (by simp); clear hC))
  all_goals
    go_wp2
    go_ret
    exact ⟨rfl, U4.out.chg.trans C5.out⟩
theorem show_any (w : World) (hL : Lb w) (k : Int) (p f : Nat) (hp : p < 256) (hf : f < 4294967296) (hk : -9223372036854775808 ≤ k ∧ k ≤ 9223372036854775807) :
    Calls Tryd.prog 8 #[.agg #[.int .i64 k, .int .u8 p, .int .u32 f]] w fun e w' => e = .returned (.string ⟨(showE ⟨k, p, f⟩).toArray⟩) ∧ Chg w w' none := by
  by_cases h : okE ⟨k, p, f⟩
  · rcases okE_cases h with e | ⟨rfl, e2, e3⟩ | ⟨rfl, e2, e3⟩
    · cases e
      exact show_z w
    · simp only at e2 e3
      rw [show_page e2 e3]
      rcases pagep_cases e2 with rfl | rfl | rfl | rfl | rfl
      · exact show_p1 w hL f e3
      · exact show_p3 w hL f e3
      · exact show_p4 w hL f e3
      · exact show_p5 w hL f e3
      · exact show_p7 w hL f e3
    · simp only at e2 e3
      subst e2
      rw [show_table e3]
      exact show_t w hL f e3
  · rw [show_not h]
    exact show_no w k p f hp hf hk h
end Go.Proofs.YthppjmlcehjjlaaDoor.En
