/- known, EntryBack, EntryMade, EntryTurned: the walks. -/
import Derived.Test.YtjijejeeejjplaaDoorRead
namespace Go.Proofs.YtjijejeeejjplaaDoor.En
open Go.RowKit Go.Proofs.YtjijejeeejjplaaDoor.Kit
set_option linter.unusedSimpArgs false
set_option linter.unusedVariables false

theorem row_kept {w w' : World} {b : Nat} {o : Obj} (h : w.heap[b]? = some o) (hC : Chg w w' none) : w'.heap[b]? = some o := (hC.block b (Array.getElem?_eq_some_iff.1 h).1 (by simp)).trans h
abbrev ent (e : Ent) : Obj := .cells #[.int .i64 e.k, .int .u8 e.p, .int .u32 e.f] 26 (0, 0)
def txt : ByteArray := ⟨#[114, 119, 45, 32, 48, 49, 50]⟩
theorem read_txt : readE [114, 119, 45, 32, 48, 49, 50] = (⟨1, 3, 18⟩, 0) := read_of (e := ⟨1, 3, 18⟩) (by decide) (by decide)
set_option maxRecDepth 100000 in
set_option maxHeartbeats 4000000 in
theorem known_any (w : World) (hL : Lb w) : Calls Tryd.prog 8 #[] w fun e w' => e = .returned (.bool true) ∧ Chg w w' none := by
  have LL := Lib.hid hL
  have EN := Lib.hid (fun X => (enc_any X 1 3 18 (by decide) (by decide) (by decide) : Calls Tryd.prog 9 #[.agg #[.int .i64 1, .int .u8 3, .int .u32 18]] X fun e w' => e = .returned (.tuple #[.int .u32 73735, .int .i64 0]) ∧ Chg X w' none))
  have DE := Lib.hid (fun X => (dec_any X 73735 (by decide) : Calls Tryd.prog 15 #[.int .u32 73735] X fun e w' => e = .returned (.tuple #[.agg #[.int .i64 1, .int .u8 3, .int .u32 18], .int .i64 0]) ∧ Chg X w' none))
  have SH := Lib.hid (fun X (h : Lb X) => (by have := show_any X h 1 3 18 (by decide) (by decide) (by decide); rw [show showE ⟨1, 3, 18⟩ = [114, 119, 45, 32, 48, 49, 50] by decide] at this; exact this : Calls Tryd.prog 11 #[.agg #[.int .i64 1, .int .u8 3, .int .u32 18]] X fun e w' => e = .returned (.string ⟨#[114, 119, 45, 32, 48, 49, 50]⟩) ∧ Chg X w' none))
  have RD := Lib.hid (fun X (h : Lb X) => (by have := read_any X h ⟨#[114, 119, 45, 32, 48, 49, 50]⟩ (by decide); rw [show (⟨#[114, 119, 45, 32, 48, 49, 50]⟩ : ByteArray).data.toList = [114, 119, 45, 32, 48, 49, 50] from rfl, read_txt] at this; exact this : Calls Tryd.prog 13 #[.string ⟨#[114, 119, 45, 32, 48, 49, 50]⟩] X fun e w' => e = .returned (.tuple #[.agg #[.int .i64 1, .int .u8 3, .int .u32 18], .int .i64 0]) ∧ Chg X w' none))
  have C0 := Lib.hid ((Chg.refl w none).alloc (ent ⟨1, 3, 18⟩))
  have G0 := Lib.hid (heap_alloc_last w (ent ⟨1, 3, 18⟩))
  clear hL
  go_enter Tryd.func8, Tryd.ntmps8
  go_wp2_with fail
  refine (EN.out _).mono ?_
  rintro e w1 ⟨rfl, hC⟩
  have C1 := Lib.hid (C0.out.trans hC)
  have G1 := Lib.hid (row_kept G0.out hC)
  clear hC
  go_wp2_with fail
  refine (DE.out _).mono ?_
  rintro e w2 ⟨rfl, hC⟩
  have C2 := Lib.hid ((C1.out.trans hC).alloc (ent ⟨1, 3, 18⟩))
  have hl : w.heap.size < w2.heap.size := (Array.getElem?_eq_some_iff.1 (row_kept G1.out hC)).1
  have G2 := Lib.hid ((heap_alloc_old w2 (ent ⟨1, 3, 18⟩) hl).trans (row_kept G1.out hC))
  have D2 := Lib.hid (heap_alloc_last w2 (ent ⟨1, 3, 18⟩))
  obtain ⟨c0, c1, c2, _, _, _⟩ := row3 (row_kept G1.out hC)
  clear hC
  go_wp2_with fail
  clear c0 c1 c2
  refine (SH.out _ (LL.out.kept C2.out)).mono ?_
  rintro e w3 ⟨rfl, hC⟩
  have C3 := Lib.hid (C2.out.trans hC)
  have G3 := Lib.hid (row_kept G2.out hC)
  have D3 := Lib.hid (row_kept D2.out hC)
  clear hC
  go_wp2_with fail
  refine (RD.out _ (LL.out.kept C3.out)).mono ?_
  rintro e w4 ⟨rfl, hC⟩
  have C4 := Lib.hid ((C3.out.trans hC).alloc (ent ⟨1, 3, 18⟩))
  obtain ⟨c0, c1, c2, _, _, _⟩ := row3 (row_kept G3.out hC)
  obtain ⟨d0, d1, d2, _, _, _⟩ := row3 (row_kept D3.out hC)
  have hl4 : w.heap.size < w4.heap.size := (Array.getElem?_eq_some_iff.1 (row_kept G3.out hC)).1
  have hl5 : w2.heap.size < w4.heap.size := (Array.getElem?_eq_some_iff.1 (row_kept D3.out hC)).1
  clear hC
  go_wp2
  go_ret
  exact ⟨rfl, C4.out⟩

/-! ### EntryBack -/
theorem str_ok (l : List UInt8) (h : l ≠ []) : (⟨l.toArray⟩ : ByteArray).toList.isEmpty = false := by
  rw [ByteArray.toList_eq]
  cases l with
  | nil => exact absurd rfl h
  | cons x r => rfl
theorem show_len (e : Ent) : (showE e).length ≤ 7 := by
  unfold showE
  split
  · split
    · simp
    · split <;> simp [hex3, permB]
  · simp
set_option maxRecDepth 100000 in
set_option maxHeartbeats 4000000 in
theorem back_walk (w : World) (hL : Lb w) (a : Nat) (ha : a < 4294967296) : Calls Tryd.prog 5 #[.int .u32 a] w fun e w' => e = .returned (.bool true) ∧ Chg w w' none := by
  have LL := Lib.hid hL
  have KN := Lib.hid (known_any w hL)
  have DE := Lib.hid (fun X => dec_any X a ha)
  by_cases h : (decW a).2 = 0
  · obtain ⟨h1, h2⟩ := dec_ok ha h
    have SN := Lib.hid (str_ok _ (show_ne h1))
    have RS := Lib.hid (read_show h1)
    have SL := show_len (decW a).1
    rcases hd : decW a with ⟨⟨k, p, f⟩, n⟩
    rw [hd] at DE h h1 h2 SN RS SL
    simp only at h h1 h2
    subst h
    have hb : p < 256 ∧ f < 4294967296 ∧ -9223372036854775808 ≤ k ∧ k ≤ 9223372036854775807 := by
      rcases okE_cases h1 with e | ⟨e1, e2, e3⟩ | ⟨e1, e2, e3⟩
      · cases e; decide
      · simp only at e1 e2 e3
        subst e1
        rcases pagep_cases e2 with rfl | rfl | rfl | rfl | rfl <;> (refine ⟨by decide, by omega, by decide, by decide⟩)
      · simp only at e1 e2 e3
        subst e1 e2
        exact ⟨by decide, by omega, by decide, by decide⟩
    obtain ⟨hp, hf, hk⟩ := hb
    have EN := Lib.hid (fun X => enc_any X k p f hp hf hk)
    rw [h2] at EN
    have SH := Lib.hid (fun X (h : Lb X) => show_any X h k p f hp hf hk)
    have RD := Lib.hid (fun X (h : Lb X) => read_any X h ⟨(showE ⟨k, p, f⟩).toArray⟩ (by rw [Lib.size_eq]; show (showE _).length ≤ _; simp only at SL; omega))
    have e0 : (⟨(showE ⟨k, p, f⟩).toArray⟩ : ByteArray).data.toList = showE ⟨k, p, f⟩ := rfl
    rw [e0] at RD
    rw [RS.out] at RD
    simp only at SN
    generalize (⟨(showE ⟨k, p, f⟩).toArray⟩ : ByteArray) = X at *
    have hx1 := SN.out
    have hx2 : (!X.toList.isEmpty) = true := by rw [hx1]; rfl
    clear h1 h2 RS hd e0 hp hf hk hL SL
    go_enter Tryd.func5, Tryd.ntmps5
    go_wp2_with fail
    refine KN.out.mono ?_
    rintro e w1 ⟨rfl, hC⟩
    have C1 := Lib.hid hC
    clear hC
    go_wp2_with fail
    refine (DE.out _).mono ?_
    rintro e w2 ⟨rfl, hC⟩
    have C2 := Lib.hid ((C1.out.trans hC).alloc (ent ⟨k, p, f⟩))
    have G2 := Lib.hid (heap_alloc_last w2 (ent ⟨k, p, f⟩))
    clear hC
    go_wp2_with fail
    refine (EN.out _).mono ?_
    rintro e w3 ⟨rfl, hC⟩
    have C3 := Lib.hid (C2.out.trans hC)
    have G3 := Lib.hid (row_kept G2.out hC)
    obtain ⟨c0, c1, c2, _, _, _⟩ := row3 G3.out
    clear hC
    go_wp2_with fail
    clear c0 c1 c2
    refine (SH.out _ (LL.out.kept C3.out)).mono ?_
    rintro e w4 ⟨rfl, hC⟩
    have C4 := Lib.hid (C3.out.trans hC)
    have G4 := Lib.hid (row_kept G3.out hC)
    clear hC
    go_wp2_with fail
    refine (RD.out _ (LL.out.kept C4.out)).mono ?_
    rintro e w5 ⟨rfl, hC⟩
    have C5 := Lib.hid ((C4.out.trans hC).alloc (ent ⟨k, p, f⟩))
    obtain ⟨c0, c1, c2, _, _, _⟩ := row3 (row_kept G4.out hC)
    have hl4 : w2.heap.size < w5.heap.size := (Array.getElem?_eq_some_iff.1 (row_kept G4.out hC)).1
    clear hC
    go_wp2
    go_ret
    exact ⟨rfl, C5.out⟩
  · have hz := dec_not h
    rcases hd : decW a with ⟨e, n⟩
    rw [hd] at DE h hz
    simp only at h hz
    subst hz
    have xn : (n != 0) = true := by simpa using h
    have z26 := zero26
    clear hd h hL
    go_enter Tryd.func5, Tryd.ntmps5
    go_wp2_with fail
    refine KN.out.mono ?_
    rintro e w1 ⟨rfl, hC⟩
    have C1 := Lib.hid hC
    clear hC
    go_wp2_with fail
    refine (DE.out _).mono ?_
    rintro e w2 ⟨rfl, hC⟩
    have C2 := Lib.hid ((C1.out.trans hC).alloc (ent zeroE))
    clear hC
    unfold zeroE at *
    go_wp2
    go_ret
    exact ⟨rfl, C2.out⟩

/-! ### EntryMade -/
set_option maxRecDepth 100000 in
set_option maxHeartbeats 4000000 in
theorem made_walk (w : World) (hL : Lb w) (k : Int) (p f : Nat) (hp : p < 256) (hf : f < 4294967296) (hk : -9223372036854775808 ≤ k ∧ k ≤ 9223372036854775807) :
    Calls Tryd.prog 6 #[.agg #[.int .i64 k, .int .u8 p, .int .u32 f]] w fun e w' => e = .returned (.bool true) ∧ Chg w w' none := by
  have LL := Lib.hid hL
  have C0 := Lib.hid ((Chg.refl w none).alloc (ent ⟨k, p, f⟩))
  have G0 := Lib.hid (heap_alloc_last w (ent ⟨k, p, f⟩))
  have KN := Lib.hid (fun X (h : Lb X) => known_any X h)
  have EN := Lib.hid (fun X => enc_any X k p f hp hf hk)
  have SH := Lib.hid (fun X (h : Lb X) => show_any X h k p f hp hf hk)
  have SL := show_len ⟨k, p, f⟩
  by_cases h : okE ⟨k, p, f⟩
  · obtain ⟨h1, h1b⟩ := enc_dec h
    have h2 : (encW ⟨k, p, f⟩).2 = 0 := h
    have RS := Lib.hid (read_show h)
    rcases hd : encW ⟨k, p, f⟩ with ⟨W, n⟩
    rw [hd] at EN h1 h1b h2
    simp only at h1 h1b h2
    subst h2
    have DE := Lib.hid (fun X => dec_any X W h1b)
    rw [h1] at DE
    have RD := Lib.hid (fun X (h : Lb X) => read_any X h ⟨(showE ⟨k, p, f⟩).toArray⟩ (by rw [Lib.size_eq]; show (showE _).length ≤ _; omega))
    have e0 : (⟨(showE ⟨k, p, f⟩).toArray⟩ : ByteArray).data.toList = showE ⟨k, p, f⟩ := rfl
    rw [e0] at RD
    rw [RS.out] at RD
    generalize (⟨(showE ⟨k, p, f⟩).toArray⟩ : ByteArray) = X at *
    clear h1 h1b h RS hd e0 hp hf hk hL SL
    go_enter Tryd.func6, Tryd.ntmps6
    go_wp2_with fail
    refine (KN.out _ (LL.out.kept C0.out)).mono ?_
    rintro e w1 ⟨rfl, hC⟩
    have C1 := Lib.hid (C0.out.trans hC)
    have G1 := Lib.hid (row_kept G0.out hC)
    obtain ⟨c0, c1, c2, _, _, _⟩ := row3 G1.out
    clear hC
    go_wp2_with fail
    clear c0 c1 c2
    refine (EN.out _).mono ?_
    rintro e w2 ⟨rfl, hC⟩
    have C2 := Lib.hid (C1.out.trans hC)
    have G2 := Lib.hid (row_kept G1.out hC)
    obtain ⟨c0, c1, c2, _, _, _⟩ := row3 G2.out
    clear hC
    go_wp2_with fail
    clear c0 c1 c2
    refine (SH.out _ (LL.out.kept C2.out)).mono ?_
    rintro e w3 ⟨rfl, hC⟩
    have C3 := Lib.hid (C2.out.trans hC)
    have G3 := Lib.hid (row_kept G2.out hC)
    clear hC
    go_wp2_with fail
    refine (DE.out _).mono ?_
    rintro e w4 ⟨rfl, hC⟩
    have C4 := Lib.hid ((C3.out.trans hC).alloc (ent ⟨k, p, f⟩))
    have hl3 : w.heap.size < w4.heap.size := (Array.getElem?_eq_some_iff.1 (row_kept G3.out hC)).1
    have G4 := Lib.hid ((heap_alloc_old w4 (ent ⟨k, p, f⟩) hl3).trans (row_kept G3.out hC))
    have D4 := Lib.hid (heap_alloc_last w4 (ent ⟨k, p, f⟩))
    clear hC
    go_wp2_with fail
    refine (RD.out _ (LL.out.kept C4.out)).mono ?_
    rintro e w5 ⟨rfl, hC⟩
    have C5 := Lib.hid ((C4.out.trans hC).alloc (ent ⟨k, p, f⟩))
    obtain ⟨c0, c1, c2, _, _, _⟩ := row3 (row_kept G4.out hC)
    obtain ⟨d0, d1, d2, _, _, _⟩ := row3 (row_kept D4.out hC)
    have hl4 : w.heap.size < w5.heap.size := (Array.getElem?_eq_some_iff.1 (row_kept G4.out hC)).1
    have hl5 : w4.heap.size < w5.heap.size := (Array.getElem?_eq_some_iff.1 (row_kept D4.out hC)).1
    clear hC
    go_wp2
    go_ret
    exact ⟨rfl, C5.out⟩
  · have h2 := enc_not h
    have h3 : (encW ⟨k, p, f⟩).2 ≠ 0 := h
    rw [show_not h] at SH
    rcases hd : encW ⟨k, p, f⟩ with ⟨W, n⟩
    rw [hd] at EN h2 h3
    simp only at h2 h3
    subst h2
    have xn : (n != 0) = true := by simpa using h3
    clear hd h h3 hL hp hf hk SL
    go_enter Tryd.func6, Tryd.ntmps6
    go_wp2_with fail
    refine (KN.out _ (LL.out.kept C0.out)).mono ?_
    rintro e w1 ⟨rfl, hC⟩
    have C1 := Lib.hid (C0.out.trans hC)
    have G1 := Lib.hid (row_kept G0.out hC)
    obtain ⟨c0, c1, c2, _, _, _⟩ := row3 G1.out
    clear hC
    go_wp2_with fail
    clear c0 c1 c2
    refine (EN.out _).mono ?_
    rintro e w2 ⟨rfl, hC⟩
    have C2 := Lib.hid (C1.out.trans hC)
    have G2 := Lib.hid (row_kept G1.out hC)
    obtain ⟨c0, c1, c2, _, _, _⟩ := row3 G2.out
    clear hC
    go_wp2_with fail
    clear c0 c1 c2
    refine (SH.out _ (LL.out.kept C2.out)).mono ?_
    rintro e w3 ⟨rfl, hC⟩
    have C3 := Lib.hid (C2.out.trans hC)
    clear hC
    go_wp2
    go_ret
    exact ⟨rfl, C3.out⟩
end Go.Proofs.YtjijejeeejjplaaDoor.En
