/- known: its contract. No statement of the seat is proved here. -/
import Derived.Test.YthppjmlcehjjlaaDoorRead
namespace Go.Proofs.YthppjmlcehjjlaaDoor.En
open Go.RowKit Go.Proofs.YthppjmlcehjjlaaDoor.Kit
set_option linter.unusedSimpArgs false
set_option linter.unusedVariables false

theorem row_kept {w w' : World} {b : Nat} {o : Obj} (h : w.heap[b]? = some o) (hC : Chg w w' none) : w'.heap[b]? = some o := (hC.block b (Array.getElem?_eq_some_iff.1 h).1 (by simp)).trans h
abbrev ent (e : Ent) : Obj := .cells #[.int .i64 e.k, .int .u8 e.p, .int .u32 e.f] 27 (0, 0)
def txt : ByteArray := ⟨#[114, 119, 45, 32, 48, 49, 50]⟩
theorem read_txt : readE [114, 119, 45, 32, 48, 49, 50] = (⟨1, 3, 18⟩, 0) := read_of (e := ⟨1, 3, 18⟩) (by decide) (by decide)
set_option maxRecDepth 100000 in
set_option maxHeartbeats 4000000 in
theorem known_any (w : World) (hL : Lb w) : Calls Tryd.prog 4 #[] w fun e w' => e = .returned (.bool true) ∧ Chg w w' none := by
  have LL := Lib.hid hL
  have EN := Lib.hid (fun X => (enc_any X 1 3 18 (by decide) (by decide) (by decide) : Calls Tryd.prog 7 #[.agg #[.int .i64 1, .int .u8 3, .int .u32 18]] X fun e w' => e = .returned (.tuple #[.int .u32 73735, .int .i64 0]) ∧ Chg X w' none))
  have DE := Lib.hid (fun X => (dec_any X 73735 (by decide) : Calls Tryd.prog 5 #[.int .u32 73735] X fun e w' => e = .returned (.tuple #[.agg #[.int .i64 1, .int .u8 3, .int .u32 18], .int .i64 0]) ∧ Chg X w' none))
  have SH := Lib.hid (fun X (h : Lb X) => (by have := show_any X h 1 3 18 (by decide) (by decide) (by decide); rw [show showE ⟨1, 3, 18⟩ = [114, 119, 45, 32, 48, 49, 50] by decide] at this; exact this : Calls Tryd.prog 8 #[.agg #[.int .i64 1, .int .u8 3, .int .u32 18]] X fun e w' => e = .returned (.string ⟨#[114, 119, 45, 32, 48, 49, 50]⟩) ∧ Chg X w' none))
  have RD := Lib.hid (fun X (h : Lb X) => (by have := read_any X h ⟨#[114, 119, 45, 32, 48, 49, 50]⟩ (by decide); rw [show (⟨#[114, 119, 45, 32, 48, 49, 50]⟩ : ByteArray).data.toList = [114, 119, 45, 32, 48, 49, 50] from rfl, read_txt] at this; exact this : Calls Tryd.prog 9 #[.string ⟨#[114, 119, 45, 32, 48, 49, 50]⟩] X fun e w' => e = .returned (.tuple #[.agg #[.int .i64 1, .int .u8 3, .int .u32 18], .int .i64 0]) ∧ Chg X w' none))
  have C0 := Lib.hid ((Chg.refl w none).alloc (ent ⟨1, 3, 18⟩))
  have G0 := Lib.hid (heap_alloc_last w (ent ⟨1, 3, 18⟩))
  clear hL
  go_enter Tryd.func4, Tryd.ntmps4
  go_wp2_with fail
  refine (EN.out _).mono ?_
  rintro e w1 ⟨rfl, hC⟩
  have C1 := Lib.hid (C0.out.trans hC)
  have G1 := Lib.hid (row_kept G0.out hC)
  clear hC
  go_wp2_with fail
  refine (DE.out _).mono ?_
  rintro e w2 ⟨rfl, hC⟩
  have C2 := Lib.hid ((C1.out.trans hC).alloc (ent ⟨1, 3, 18⟩))
  have hl : w.heap.size < w2.heap.size := (Array.getElem?_eq_some_iff.1 (row_kept G1.out hC)).1
  have G2 := Lib.hid ((heap_alloc_old w2 (ent ⟨1, 3, 18⟩) hl).trans (row_kept G1.out hC))
  have D2 := Lib.hid (heap_alloc_last w2 (ent ⟨1, 3, 18⟩))
  obtain ⟨c0, c1, c2, _, _, _⟩ := row3 (row_kept G1.out hC)
  clear hC
  go_wp2_with fail
  clear c0 c1 c2
  refine (SH.out _ (LL.out.kept C2.out)).mono ?_
  rintro e w3 ⟨rfl, hC⟩
  have C3 := Lib.hid (C2.out.trans hC)
  have G3 := Lib.hid (row_kept G2.out hC)
  have D3 := Lib.hid (row_kept D2.out hC)
  clear hC
  go_wp2_with fail
  refine (RD.out _ (LL.out.kept C3.out)).mono ?_
  rintro e w4 ⟨rfl, hC⟩
  have C4 := Lib.hid ((C3.out.trans hC).alloc (ent ⟨1, 3, 18⟩))
  obtain ⟨c0, c1, c2, _, _, _⟩ := row3 (row_kept G3.out hC)
  obtain ⟨d0, d1, d2, _, _, _⟩ := row3 (row_kept D3.out hC)
  have hl4 : w.heap.size < w4.heap.size := (Array.getElem?_eq_some_iff.1 (row_kept G3.out hC)).1
  have hl5 : w2.heap.size < w4.heap.size := (Array.getElem?_eq_some_iff.1 (row_kept D3.out hC)).1
  clear hC
  go_wp2
  go_ret
  exact ⟨rfl, C4.out⟩

end Go.Proofs.YthppjmlcehjjlaaDoor.En
