/- laid: contract. No statement of the seat is proved here. -/
import Derived.Test.YtfoofipkbijajaaBuf
import Derived.Test.YtfoofipkbijajaaGrow
namespace Go.Proofs.Ytfoofipkbijajaa.Sa
open Go.RowKit Go.Proofs.Ytfoofipkbijajaa.Kit
set_option linter.unusedSimpArgs false
set_option linter.unusedVariables false
/-- A list of 310 bytes, or none yet. -/
def BufV (w : World) (v : Value) : Prop := v = .slice none 0 0 ∨ ∃ g, v = .slice (some ⟨g, 0, none⟩) 310 310 ∧ RowN w g 310
theorem info5s : (Try.prog.info? 5).map (·.size) = some 1 := by kernel_rfl
theorem sl_src {k : IntKind} {m : Nat} {w : World} {v : Value} {xs : List Int} (h : Sl k m w v xs) : ∃ A cap, v = .slice A xs.length cap ∧ (0 < xs.length → ∃ a, A = some a ∧ ∀ j u, (xs.map (Value.int k))[j]? = some u → w.cell? (a.add j) = some u) := by
  have h' := h
  obtain ⟨⟨A, cap, rfl, hcap, hcc⟩, hf⟩ := h
  refine ⟨A, cap, rfl, fun h0 => ?_⟩
  obtain ⟨b, off, hA, _⟩ := hcc h0
  subst hA
  exact ⟨_, rfl, sl_cells h'⟩
def z310 : Array Value := Array.replicate 310 (.int .u8 0)
theorem z310_size : z310.size = 310 := by simp [z310]
theorem make310 : ∀ w, (Instr.makeSlice 33 (.int .i64 310) (.int .i64 310)).run Try.prog w = .ok (.slice (some ⟨w.heap.size, 0, none⟩) 310 310) (w.alloc (.cells z310 5)) := fun _ => by kernel_rfl
/-- Behind the copy and the mark. -/
theorem laid_row {w1 : World} {g : Nat} {cs : Array Value} {xs : List Int} (hsz : cs.size = 310) (hl : xs.length ≤ 300) (hrow : w1.heap[g]? = some (.cells (xs.map (Value.int .u8) ++ cs.toList.drop (xs.map (Value.int .u8)).length).toArray 5 (0, 0))) :
    RowN (w1.setCell ⟨g, xs.length, none⟩ (.int .u8 90)) g 310 ∧ Rb (w1.setCell ⟨g, xs.length, none⟩ (.int .u8 90)) (.slice (some ⟨g, 0, none⟩) (xs.length + 1) 310) (xs ++ [90]) := by
  have hs : ((xs.map (Value.int .u8) ++ cs.toList.drop (xs.map (Value.int .u8)).length).toArray).size = 310 := by simp; omega
  have hr2 := heap_setCell_same w1 g xs.length _ _ (.int .u8 90) hrow
  refine ⟨⟨_, hr2, by simpa using hs⟩, ⟨some ⟨g, 0, none⟩, 310, by simp, by simp; omega, fun _ => ⟨g, 0, rfl, fun j hj => ?_⟩⟩, by simp; omega⟩
  rw [Nat.zero_add, cell_of_row _ _ _ _ _ _ hr2]
  have hj2 : j < xs.length + 1 := by simpa using hj
  rw [Array.getElem?_setIfInBounds]
  by_cases e : xs.length = j
  · subst e
    rw [if_pos rfl, if_pos (by rw [hs]; omega), nth_append_end]
  · have hj3 : j < xs.length := by omega
    rw [if_neg e, nth_append_left hj3]
    simp [nth, List.getElem?_append_left (show j < (xs.map (Value.int .u8)).length by simpa using hj3), List.getD_eq_getElem?_getD, List.getElem?_eq_getElem hj3]
set_option maxRecDepth 8000 in
set_option maxHeartbeats 2000000 in
theorem laid_old (w : World) (g : Nat) (hr : RowN w g 310) (v : Value) (xs : List Int) (hv : Rb w v xs) (hl : xs.length ≤ 300) :
    Calls Try.prog 37 #[.slice (some ⟨g, 0, none⟩) 310 310, v] w fun e w' => e = .returned (.slice (some ⟨g, 0, none⟩) 310 310) ∧ Chg w w' (some g) ∧ RowN w' g 310 ∧ Rb w' (.slice (some ⟨g, 0, none⟩) (xs.length + 1) 310) (xs ++ [90]) := by
  obtain ⟨cs, hrow, hsz⟩ := hr
  obtain ⟨A, cap, rfl, hsrc⟩ := sl_src hv
  have HS := Lib.hid hsrc
  have HROW := Lib.hid hrow
  have LR := Lib.hid (fun w1 hrow => laid_row (w1 := w1) (g := g) hsz hl hrow)
  have HC := Lib.hid (show cs.toList.length = 310 from by simpa using hsz)
  have ML := Lib.hid (show (xs.map (Value.int .u8)).length = xs.length * 1 from by simp)
  have MO := Lib.hid (map_one .u8 xs)
  obtain ⟨n, hn⟩ : ∃ n, n = xs.length := ⟨_, rfl⟩
  rw [← hn] at hl HS LR ML ⊢
  clear hsrc hrow hv hn hsz
  go_enter Try.func37, Try.ntmps37
  go_wp2_with (refine wpList_copy_any _ rfl (.tmp 9) (.tmp 10) 33 33 rfl 5 1 Try.underlying33 info5s g 310 310 A n cap rfl rfl cs.toList 5 HROW.out (by omega) (xs.map (Value.int .u8)) ML.out HS.out (by rw [ML.out, HC.out]; omega) MO.out ?_)
  intro w1 hrow0 hch
  have hrow : w1.heap[g]? = some (.cells (xs.map (Value.int .u8) ++ cs.toList.drop (xs.map (Value.int .u8)).length).toArray 5 (0, 0)) := by rw [List.length_map]; exact hrow0
  clear hrow0
  have h2 := LR.out w1 hrow
  have F := Lib.hid h2
  have C1 := Lib.hid hch
  obtain ⟨cu, hcu⟩ : ∃ u, w1.cell? ⟨g, n, none⟩ = some u := by
    rw [cell_of_row _ _ _ _ _ _ hrow]
    have : n < ((xs.map (Value.int .u8) ++ cs.toList.drop (xs.map (Value.int .u8)).length).toArray).size := by
      have h1 := ML.out; have h3 := HC.out
      simp only [List.size_toArray, List.length_append, List.length_drop]; omega
    exact ⟨_, Array.getElem?_eq_getElem this⟩
  have hf := frozen_of_row w1 g n _ _ hrow
  clear hrow hch h2 LR HS
  go_wp2
  go_ret
  exact ⟨rfl, Chg.set C1.out _ _, F.out⟩
set_option maxRecDepth 8000 in
set_option maxHeartbeats 2000000 in
theorem laid_new (w : World) (v : Value) (xs : List Int) (hv : Rb w v xs) (hl : xs.length ≤ 300) :
    Calls Try.prog 37 #[.slice none 0 0, v] w fun e w' => e = .returned (.slice (some ⟨w.heap.size, 0, none⟩) 310 310) ∧ Chg w w' none ∧ RowN w' w.heap.size 310 ∧ Rb w' (.slice (some ⟨w.heap.size, 0, none⟩) (xs.length + 1) 310) (xs ++ [90]) := by
  have hmk := make310
  have C0 := Lib.hid ((Chg.refl w none).alloc (.cells z310 5))
  have HROW := Lib.hid (heap_alloc_last w (.cells z310 5))
  have hv1 := Chg.sl hv C0.out
  have hs0 : w.heap.size < (w.alloc (.cells z310 5)).heap.size := by simp
  obtain ⟨A, cap, rfl, hsrc⟩ := sl_src hv1
  have HS := Lib.hid hsrc
  have LR := Lib.hid (fun w1 hrow => laid_row (w1 := w1) (g := w.heap.size) z310_size hl hrow)
  have HC := Lib.hid (show z310.toList.length = 310 from by simpa using z310_size)
  have ML := Lib.hid (show (xs.map (Value.int .u8)).length = xs.length * 1 from by simp)
  have MO := Lib.hid (map_one .u8 xs)
  obtain ⟨n, hn⟩ : ∃ n, n = xs.length := ⟨_, rfl⟩
  rw [← hn] at hl HS LR ML ⊢
  clear hv hv1 hsrc hn
  go_enter Try.func37, Try.ntmps37
  go_upto_region 3 with (fail)
  obtain ⟨g, hg⟩ : ∃ g, g = w.heap.size := ⟨_, rfl⟩
  rw [← hg] at hs0 HROW LR ⊢
  have HG := Lib.hid hg
  clear hg
  generalize w.alloc (.cells z310 5) = w0 at *
  go_wp2_with (refine wpList_copy_any _ rfl (.tmp 9) (.tmp 10) 33 33 rfl 5 1 Try.underlying33 info5s g 310 310 A n cap rfl rfl z310.toList 5 HROW.out (by omega) (xs.map (Value.int .u8)) ML.out HS.out (by rw [ML.out, HC.out]; omega) MO.out ?_)
  intro w1 hrow0 hch
  have hrow : w1.heap[g]? = some (.cells (xs.map (Value.int .u8) ++ z310.toList.drop (xs.map (Value.int .u8)).length).toArray 5 (0, 0)) := by rw [List.length_map]; exact hrow0
  clear hrow0
  have h2 := LR.out w1 hrow
  have F := Lib.hid h2
  have C1 := Lib.hid (show Chg w w1 none from C0.out.trans_new hch (by rw [HG.out]; exact Nat.le_refl _))
  obtain ⟨cu, hcu⟩ : ∃ u, w1.cell? ⟨g, n, none⟩ = some u := by
    rw [cell_of_row _ _ _ _ _ _ hrow]
    have : n < ((xs.map (Value.int .u8) ++ z310.toList.drop (xs.map (Value.int .u8)).length).toArray).size := by
      have h1 := ML.out; have h3 := HC.out
      simp only [List.size_toArray, List.length_append, List.length_drop]; omega
    exact ⟨_, Array.getElem?_eq_getElem this⟩
  have hf := frozen_of_row w1 g n _ _ hrow
  clear hrow hch h2 LR HS
  go_wp2
  go_ret
  have hg2 := HG.out
  subst hg2
  exact ⟨rfl, Chg.set_new C1.out _ _ (Nat.le_refl _), F.out⟩
/-- laid: its contract. -/
theorem laid_any (w : World) (vl : Value) (hb : BufV w vl) (v : Value) (xs : List Int) (hv : Rb w v xs) (hl : xs.length ≤ 300) :
    Calls Try.prog 37 #[vl, v] w fun e w' => ∃ g, e = .returned (.slice (some ⟨g, 0, none⟩) 310 310) ∧ (vl.ownBlock = some g ∨ (vl.ownBlock = none ∧ g = w.heap.size)) ∧ Chg w w' vl.ownBlock ∧ RowN w' g 310 ∧
      Rb w' (.slice (some ⟨g, 0, none⟩) (xs.length + 1) 310) (xs ++ [90]) := by
  rcases hb with rfl | ⟨g, rfl, hr⟩
  · refine (laid_new w v xs hv hl).mono ?_
    rintro e w' ⟨h1, h2, h3⟩
    exact ⟨_, h1, .inr ⟨rfl, rfl⟩, h2, h3⟩
  · refine (laid_old w g hr v xs hv hl).mono ?_
    rintro e w' ⟨h1, h2, h3⟩
    exact ⟨_, h1, .inl rfl, h2, h3⟩
end Go.Proofs.Ytfoofipkbijajaa.Sa
