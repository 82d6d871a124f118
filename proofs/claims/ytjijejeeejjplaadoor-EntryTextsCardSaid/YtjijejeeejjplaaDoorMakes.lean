/- The document's Show: its contract; EntryMakes: the walk. -/
import Derived.Test.YtjijejeeejjplaaDoorRefA
import Derived.LoopN
import Derived.Outline
namespace Go.Proofs.YtjijejeeejjplaaDoor.En
open Go.RowKit Go.Proofs.YtjijejeeejjplaaDoor.Kit
set_option linter.unusedSimpArgs false
set_option linter.unusedVariables false

abbrev HX : ByteArray := ⟨#[48, 49, 50, 51, 52, 53, 54, 55, 56, 57, 97, 98, 99, 100, 101, 102]⟩
theorem hx_cut (c : Nat) (hc : c < 16) : (⟨#[48, 49, 50, 51, 52, 53, 54, 55, 56, 57, 97, 98, 99, 100, 101, 102]⟩ : ByteArray).extract c (c + 1) = ⟨#[hexd c]⟩ := by
  rcases (show c = 0 ∨ c = 1 ∨ c = 2 ∨ c = 3 ∨ c = 4 ∨ c = 5 ∨ c = 6 ∨ c = 7 ∨ c = 8 ∨ c = 9 ∨ c = 10 ∨ c = 11 ∨ c = 12 ∨ c = 13 ∨ c = 14 ∨ c = 15 by omega) with rfl | rfl | rfl | rfl | rfl | rfl | rfl | rfl | rfl | rfl | rfl | rfl | rfl | rfl | rfl | rfl <;> rfl
set_option maxHeartbeats 2000000 in
theorem rshow_no (w : World) (k : Int) (p f : Nat) (hp : p < 256) (hf : f < 4294967296) (hk : -9223372036854775808 ≤ k ∧ k ≤ 9223372036854775807) (hn : ¬ okE ⟨k, p, f⟩) :
    Calls Tryd.prog 12 #[.agg #[.int .i64 k, .int .u8 p, .int .u32 f]] w fun e w' => e = .returned (.string ⟨#[]⟩) ∧ Chg w w' none := by
  have EN := Lib.hid (fun X => renc_any X k p f hp hf hk)
  have hx : ((encW ⟨k, p, f⟩).2 != 0) = true := by simpa [okE] using hn
  generalize encW ⟨k, p, f⟩ = x at *
  obtain ⟨W, n⟩ := x
  have C1 := Lib.hid ((Chg.refl w none).alloc (.cells #[.int .i64 k, .int .u8 p, .int .u32 f] 26))
  clear hn
  go_enter Tryd.func12, Tryd.ntmps12
  go_wp2_with fail
  refine (EN.out _).mono ?_
  rintro e w1 ⟨rfl, hC⟩
  have C2 := Lib.hid (C1.out.trans hC)
  clear hC
  go_wp2
  go_ret
  exact ⟨rfl, C2.out⟩
set_option maxHeartbeats 2000000 in
theorem rshow_z (w : World) : Calls Tryd.prog 12 #[.agg #[.int .i64 0, .int .u8 0, .int .u32 0]] w fun e w' => e = .returned (.string ⟨#[45]⟩) ∧ Chg w w' none := by
  have f0 : (0 : Nat) ≤ 4095 := by decide
  obtain ⟨f, hfz⟩ : ∃ f : Nat, f = 0 := ⟨_, rfl⟩
  have hf : f ≤ 4095 := by omega
  have key : Calls Tryd.prog 12 #[.agg #[.int .i64 0, .int .u8 0, .int .u32 f]] w fun e w' => e = .returned (.string ⟨#[45]⟩) ∧ Chg w w' none := by
    have EN := Lib.hid (fun X => renc_any X 0 0 f (by decide) (by omega) (by decide))
    have e0 : (encW ⟨0, 0, f⟩).2 = 0 := by rw [hfz]; rfl
    generalize encW ⟨0, 0, f⟩ = x at *
    obtain ⟨W, n⟩ := x
    obtain rfl : n = 0 := e0
    obtain ⟨a, ha⟩ : ∃ a, a = f / 256 := ⟨_, rfl⟩
    obtain ⟨b, hb⟩ : ∃ b, b = f / 16 % 16 := ⟨_, rfl⟩
    obtain ⟨c, hc⟩ : ∃ c, c = f % 16 := ⟨_, rfl⟩
    have q1 : (f : Int) / 256 = (a : Int) := by omega
    have q2 : (f : Int) / 16 % 16 = (b : Int) := by omega
    have q3 : (f : Int) % 16 = (c : Int) := by omega
    have la : a < 16 := by omega
    have lb : b < 16 := by omega
    have lc : c < 16 := by omega
    have xa := hx_cut a la
    have xb := hx_cut b lb
    have xc := hx_cut c lc
    have H3 := Lib.hid (show hex3 f = [hexd a, hexd b, hexd c] by rw [ha, hb, hc]; rfl)
    have C1 := Lib.hid ((Chg.refl w none).alloc (.cells #[.int .i64 0, .int .u8 0, .int .u32 f] 26))
    have G1 := Lib.hid (heap_alloc_last w (.cells #[.int .i64 0, .int .u8 0, .int .u32 f] 26))
    clear ha hb hc hfz
    go_enter Tryd.func12, Tryd.ntmps12
    go_wp2_with fail
    refine (EN.out _).mono ?_
    rintro e w1 ⟨rfl, hC⟩
    obtain ⟨c0, c1, c2, _, _, _⟩ := row3 ((hC.block w.heap.size (by simp) (by simp)).trans G1.out)
    have C2 := Lib.hid (C1.out.trans hC)
    clear hC
    go_wp2_with fail
    go_quiet (fail)
    have C3 := Lib.hid (C2.out.drewN nq)
    go_wp2
    go_ret
    exact ⟨rfl, C3.out⟩
  rw [hfz] at key
  exact key
set_option maxHeartbeats 2000000 in
theorem rshow_t (w : World) (f : Nat) (hf : f ≤ 4095) : Calls Tryd.prog 12 #[.agg #[.int .i64 2, .int .u8 0, .int .u32 f]] w fun e w' => e = .returned (.string ⟨([116, 97, 98, 32] ++ hex3 f : List UInt8).toArray⟩) ∧ Chg w w' none := by
  have EN := Lib.hid (fun X => renc_any X 2 0 f (by decide) (by omega) (by decide))
  have e0 : (encW ⟨2, 0, f⟩).2 = 0 := okE_table hf
  generalize encW ⟨2, 0, f⟩ = x at *
  obtain ⟨W, n⟩ := x
  obtain rfl : n = 0 := e0
  obtain ⟨a, ha⟩ : ∃ a, a = f / 256 := ⟨_, rfl⟩
  obtain ⟨b, hb⟩ : ∃ b, b = f / 16 % 16 := ⟨_, rfl⟩
  obtain ⟨c, hc⟩ : ∃ c, c = f % 16 := ⟨_, rfl⟩
  have q1 : (f : Int) / 256 = (a : Int) := by omega
  have q2 : (f : Int) / 16 % 16 = (b : Int) := by omega
  have q3 : (f : Int) % 16 = (c : Int) := by omega
  have la : a < 16 := by omega
  have lb : b < 16 := by omega
  have lc : c < 16 := by omega
  have xa := hx_cut a la
  have xb := hx_cut b lb
  have xc := hx_cut c lc
  have H3 := Lib.hid (show hex3 f = [hexd a, hexd b, hexd c] by rw [ha, hb, hc]; rfl)
  have C1 := Lib.hid ((Chg.refl w none).alloc (.cells #[.int .i64 2, .int .u8 0, .int .u32 f] 26))
  have G1 := Lib.hid (heap_alloc_last w (.cells #[.int .i64 2, .int .u8 0, .int .u32 f] 26))
  rw [H3.out]
  clear ha hb hc
  go_enter Tryd.func12, Tryd.ntmps12
  go_wp2_with fail
  refine (EN.out _).mono ?_
  rintro e w1 ⟨rfl, hC⟩
  obtain ⟨c0, c1, c2, _, _, _⟩ := row3 ((hC.block w.heap.size (by simp) (by simp)).trans G1.out)
  have C2 := Lib.hid (C1.out.trans hC)
  clear hC
  go_wp2_with fail
  go_quiet (fail)
  have C3 := Lib.hid (C2.out.drewN nq)
  go_wp2
  go_ret
  exact ⟨rfl, C3.out⟩
set_option maxRecDepth 100000 in
set_option maxHeartbeats 4000000 in
theorem rshow_p1 (w : World) (f : Nat) (hf : f ≤ 4095) : Calls Tryd.prog 12 #[.agg #[.int .i64 1, .int .u8 1, .int .u32 f]] w fun e w' => e = .returned (.string ⟨(permB 1 ++ [32] ++ hex3 f : List UInt8).toArray⟩) ∧ Chg w w' none := by
  have EN := Lib.hid (fun X => renc_any X 1 1 f (by decide) (by omega) (by decide))
  have e0 : (encW ⟨1, 1, f⟩).2 = 0 := okE_page rfl hf
  generalize encW ⟨1, 1, f⟩ = x at *
  obtain ⟨W, n⟩ := x
  obtain rfl : n = 0 := e0
  obtain ⟨a, ha⟩ : ∃ a, a = f / 256 := ⟨_, rfl⟩
  obtain ⟨b, hb⟩ : ∃ b, b = f / 16 % 16 := ⟨_, rfl⟩
  obtain ⟨c, hc⟩ : ∃ c, c = f % 16 := ⟨_, rfl⟩
  have q1 : (f : Int) / 256 = (a : Int) := by omega
  have q2 : (f : Int) / 16 % 16 = (b : Int) := by omega
  have q3 : (f : Int) % 16 = (c : Int) := by omega
  have la : a < 16 := by omega
  have lb : b < 16 := by omega
  have lc : c < 16 := by omega
  have xa := hx_cut a la
  have xb := hx_cut b lb
  have xc := hx_cut c lc
  have H3 := Lib.hid (show hex3 f = [hexd a, hexd b, hexd c] by rw [ha, hb, hc]; rfl)
  have C1 := Lib.hid ((Chg.refl w none).alloc (.cells #[.int .i64 1, .int .u8 1, .int .u32 f] 26))
  have G1 := Lib.hid (heap_alloc_last w (.cells #[.int .i64 1, .int .u8 1, .int .u32 f] 26))
  rw [H3.out]
  clear ha hb hc
  go_enter Tryd.func12, Tryd.ntmps12
  go_wp2_with fail
  refine (EN.out _).mono ?_
  rintro e w1 ⟨rfl, hC⟩
  obtain ⟨c0, c1, c2, _, _, _⟩ := row3 ((hC.block w.heap.size (by simp) (by simp)).trans G1.out)
  have C2 := Lib.hid (C1.out.trans hC)
  clear hC
  go_wp2_with fail
  go_quiet (fail)
  have C3 := Lib.hid (C2.out.drewN nq)
  have e0 : (⟨#[114, 119, 120]⟩ : ByteArray).extract 0 1 = ⟨#[114]⟩ := rfl
  have e1 : (⟨#[114, 119, 120]⟩ : ByteArray).extract 1 2 = ⟨#[119]⟩ := rfl
  have e2 : (⟨#[114, 119, 120]⟩ : ByteArray).extract 2 3 = ⟨#[120]⟩ := rfl
  go_wp2_with fail
  refine wp_loop_rounds 4 ?_
  rw [rounds_succ]
  go_wp2_with fail
  rw [rounds_succ]
  go_wp2_with fail
  rw [rounds_succ]
  go_wp2_with fail
  rw [rounds_succ]
  go_wp2_with fail
  go_ret
  exact ⟨rfl, C3.out⟩
set_option maxRecDepth 100000 in
set_option maxHeartbeats 4000000 in
theorem rshow_p3 (w : World) (f : Nat) (hf : f ≤ 4095) : Calls Tryd.prog 12 #[.agg #[.int .i64 1, .int .u8 3, .int .u32 f]] w fun e w' => e = .returned (.string ⟨(permB 3 ++ [32] ++ hex3 f : List UInt8).toArray⟩) ∧ Chg w w' none := by
  have EN := Lib.hid (fun X => renc_any X 1 3 f (by decide) (by omega) (by decide))
  have e0 : (encW ⟨1, 3, f⟩).2 = 0 := okE_page rfl hf
  generalize encW ⟨1, 3, f⟩ = x at *
  obtain ⟨W, n⟩ := x
  obtain rfl : n = 0 := e0
  obtain ⟨a, ha⟩ : ∃ a, a = f / 256 := ⟨_, rfl⟩
  obtain ⟨b, hb⟩ : ∃ b, b = f / 16 % 16 := ⟨_, rfl⟩
  obtain ⟨c, hc⟩ : ∃ c, c = f % 16 := ⟨_, rfl⟩
  have q1 : (f : Int) / 256 = (a : Int) := by omega
  have q2 : (f : Int) / 16 % 16 = (b : Int) := by omega
  have q3 : (f : Int) % 16 = (c : Int) := by omega
  have la : a < 16 := by omega
  have lb : b < 16 := by omega
  have lc : c < 16 := by omega
  have xa := hx_cut a la
  have xb := hx_cut b lb
  have xc := hx_cut c lc
  have H3 := Lib.hid (show hex3 f = [hexd a, hexd b, hexd c] by rw [ha, hb, hc]; rfl)
  have C1 := Lib.hid ((Chg.refl w none).alloc (.cells #[.int .i64 1, .int .u8 3, .int .u32 f] 26))
  have G1 := Lib.hid (heap_alloc_last w (.cells #[.int .i64 1, .int .u8 3, .int .u32 f] 26))
  rw [H3.out]
  clear ha hb hc
  go_enter Tryd.func12, Tryd.ntmps12
  go_wp2_with fail
  refine (EN.out _).mono ?_
  rintro e w1 ⟨rfl, hC⟩
  obtain ⟨c0, c1, c2, _, _, _⟩ := row3 ((hC.block w.heap.size (by simp) (by simp)).trans G1.out)
  have C2 := Lib.hid (C1.out.trans hC)
  clear hC
  go_wp2_with fail
  go_quiet (fail)
  have C3 := Lib.hid (C2.out.drewN nq)
  have e0 : (⟨#[114, 119, 120]⟩ : ByteArray).extract 0 1 = ⟨#[114]⟩ := rfl
  have e1 : (⟨#[114, 119, 120]⟩ : ByteArray).extract 1 2 = ⟨#[119]⟩ := rfl
  have e2 : (⟨#[114, 119, 120]⟩ : ByteArray).extract 2 3 = ⟨#[120]⟩ := rfl
  go_wp2_with fail
  refine wp_loop_rounds 4 ?_
  rw [rounds_succ]
  go_wp2_with fail
  rw [rounds_succ]
  go_wp2_with fail
  rw [rounds_succ]
  go_wp2_with fail
  rw [rounds_succ]
  go_wp2_with fail
  go_ret
  exact ⟨rfl, C3.out⟩
set_option maxRecDepth 100000 in
set_option maxHeartbeats 4000000 in
theorem rshow_p4 (w : World) (f : Nat) (hf : f ≤ 4095) : Calls Tryd.prog 12 #[.agg #[.int .i64 1, .int .u8 4, .int .u32 f]] w fun e w' => e = .returned (.string ⟨(permB 4 ++ [32] ++ hex3 f : List UInt8).toArray⟩) ∧ Chg w w' none := by
  have EN := Lib.hid (fun X => renc_any X 1 4 f (by decide) (by omega) (by decide))
  have e0 : (encW ⟨1, 4, f⟩).2 = 0 := okE_page rfl hf
  generalize encW ⟨1, 4, f⟩ = x at *
  obtain ⟨W, n⟩ := x
  obtain rfl : n = 0 := e0
  obtain ⟨a, ha⟩ : ∃ a, a = f / 256 := ⟨_, rfl⟩
  obtain ⟨b, hb⟩ : ∃ b, b = f / 16 % 16 := ⟨_, rfl⟩
  obtain ⟨c, hc⟩ : ∃ c, c = f % 16 := ⟨_, rfl⟩
  have q1 : (f : Int) / 256 = (a : Int) := by omega
  have q2 : (f : Int) / 16 % 16 = (b : Int) := by omega
  have q3 : (f : Int) % 16 = (c : Int) := by omega
  have la : a < 16 := by omega
  have lb : b < 16 := by omega
  have lc : c < 16 := by omega
  have xa := hx_cut a la
  have xb := hx_cut b lb
  have xc := hx_cut c lc
  have H3 := Lib.hid (show hex3 f = [hexd a, hexd b, hexd c] by rw [ha, hb, hc]; rfl)
  have C1 := Lib.hid ((Chg.refl w none).alloc (.cells #[.int .i64 1, .int .u8 4, .int .u32 f] 26))
  have G1 := Lib.hid (heap_alloc_last w (.cells #[.int .i64 1, .int .u8 4, .int .u32 f] 26))
  rw [H3.out]
  clear ha hb hc
  go_enter Tryd.func12, Tryd.ntmps12
  go_wp2_with fail
  refine (EN.out _).mono ?_
  rintro e w1 ⟨rfl, hC⟩
  obtain ⟨c0, c1, c2, _, _, _⟩ := row3 ((hC.block w.heap.size (by simp) (by simp)).trans G1.out)
  have C2 := Lib.hid (C1.out.trans hC)
  clear hC
  go_wp2_with fail
  go_quiet (fail)
  have C3 := Lib.hid (C2.out.drewN nq)
  have e0 : (⟨#[114, 119, 120]⟩ : ByteArray).extract 0 1 = ⟨#[114]⟩ := rfl
  have e1 : (⟨#[114, 119, 120]⟩ : ByteArray).extract 1 2 = ⟨#[119]⟩ := rfl
  have e2 : (⟨#[114, 119, 120]⟩ : ByteArray).extract 2 3 = ⟨#[120]⟩ := rfl
  go_wp2_with fail
  refine wp_loop_rounds 4 ?_
  rw [rounds_succ]
  go_wp2_with fail
  rw [rounds_succ]
  go_wp2_with fail
  rw [rounds_succ]
  go_wp2_with fail
  rw [rounds_succ]
  go_wp2_with fail
  go_ret
  exact ⟨rfl, C3.out⟩
set_option maxRecDepth 100000 in
set_option maxHeartbeats 4000000 in
theorem rshow_p5 (w : World) (f : Nat) (hf : f ≤ 4095) : Calls Tryd.prog 12 #[.agg #[.int .i64 1, .int .u8 5, .int .u32 f]] w fun e w' => e = .returned (.string ⟨(permB 5 ++ [32] ++ hex3 f : List UInt8).toArray⟩) ∧ Chg w w' none := by
  have EN := Lib.hid (fun X => renc_any X 1 5 f (by decide) (by omega) (by decide))
  have e0 : (encW ⟨1, 5, f⟩).2 = 0 := okE_page rfl hf
  generalize encW ⟨1, 5, f⟩ = x at *
  obtain ⟨W, n⟩ := x
  obtain rfl : n = 0 := e0
  obtain ⟨a, ha⟩ : ∃ a, a = f / 256 := ⟨_, rfl⟩
  obtain ⟨b, hb⟩ : ∃ b, b = f / 16 % 16 := ⟨_, rfl⟩
  obtain ⟨c, hc⟩ : ∃ c, c = f % 16 := ⟨_, rfl⟩
  have q1 : (f : Int) / 256 = (a : Int) := by omega
  have q2 : (f : Int) / 16 % 16 = (b : Int) := by omega
  have q3 : (f : Int) % 16 = (c : Int) := by omega
  have la : a < 16 := by omega
  have lb : b < 16 := by omega
  have lc : c < 16 := by omega
  have xa := hx_cut a la
  have xb := hx_cut b lb
  have xc := hx_cut c lc
  have H3 := Lib.hid (show hex3 f = [hexd a, hexd b, hexd c] by rw [ha, hb, hc]; rfl)
  have C1 := Lib.hid ((Chg.refl w none).alloc (.cells #[.int .i64 1, .int .u8 5, .int .u32 f] 26))
  have G1 := Lib.hid (heap_alloc_last w (.cells #[.int .i64 1, .int .u8 5, .int .u32 f] 26))
  rw [H3.out]
  clear ha hb hc
  go_enter Tryd.func12, Tryd.ntmps12
  go_wp2_with fail
  refine (EN.out _).mono ?_
  rintro e w1 ⟨rfl, hC⟩
  obtain ⟨c0, c1, c2, _, _, _⟩ := row3 ((hC.block w.heap.size (by simp) (by simp)).trans G1.out)
  have C2 := Lib.hid (C1.out.trans hC)
  clear hC
  go_wp2_with fail
  go_quiet (fail)
  have C3 := Lib.hid (C2.out.drewN nq)
  have e0 : (⟨#[114, 119, 120]⟩ : ByteArray).extract 0 1 = ⟨#[114]⟩ := rfl
  have e1 : (⟨#[114, 119, 120]⟩ : ByteArray).extract 1 2 = ⟨#[119]⟩ := rfl
  have e2 : (⟨#[114, 119, 120]⟩ : ByteArray).extract 2 3 = ⟨#[120]⟩ := rfl
  go_wp2_with fail
  refine wp_loop_rounds 4 ?_
  rw [rounds_succ]
  go_wp2_with fail
  rw [rounds_succ]
  go_wp2_with fail
  rw [rounds_succ]
  go_wp2_with fail
  rw [rounds_succ]
  go_wp2_with fail
  go_ret
  exact ⟨rfl, C3.out⟩
set_option maxRecDepth 100000 in
set_option maxHeartbeats 4000000 in
theorem rshow_p7 (w : World) (f : Nat) (hf : f ≤ 4095) : Calls Tryd.prog 12 #[.agg #[.int .i64 1, .int .u8 7, .int .u32 f]] w fun e w' => e = .returned (.string ⟨(permB 7 ++ [32] ++ hex3 f : List UInt8).toArray⟩) ∧ Chg w w' none := by
  have EN := Lib.hid (fun X => renc_any X 1 7 f (by decide) (by omega) (by decide))
  have e0 : (encW ⟨1, 7, f⟩).2 = 0 := okE_page rfl hf
  generalize encW ⟨1, 7, f⟩ = x at *
  obtain ⟨W, n⟩ := x
  obtain rfl : n = 0 := e0
  obtain ⟨a, ha⟩ : ∃ a, a = f / 256 := ⟨_, rfl⟩
  obtain ⟨b, hb⟩ : ∃ b, b = f / 16 % 16 := ⟨_, rfl⟩
  obtain ⟨c, hc⟩ : ∃ c, c = f % 16 := ⟨_, rfl⟩
  have q1 : (f : Int) / 256 = (a : Int) := by omega
  have q2 : (f : Int) / 16 % 16 = (b : Int) := by omega
  have q3 : (f : Int) % 16 = (c : Int) := by omega
  have la : a < 16 := by omega
  have lb : b < 16 := by omega
  have lc : c < 16 := by omega
  have xa := hx_cut a la
  have xb := hx_cut b lb
  have xc := hx_cut c lc
  have H3 := Lib.hid (show hex3 f = [hexd a, hexd b, hexd c] by rw [ha, hb, hc]; rfl)
  have C1 := Lib.hid ((Chg.refl w none).alloc (.cells #[.int .i64 1, .int .u8 7, .int .u32 f] 26))
  have G1 := Lib.hid (heap_alloc_last w (.cells #[.int .i64 1, .int .u8 7, .int .u32 f] 26))
  rw [H3.out]
  clear ha hb hc
  go_enter Tryd.func12, Tryd.ntmps12
  go_wp2_with fail
  refine (EN.out _).mono ?_
  rintro e w1 ⟨rfl, hC⟩
  obtain ⟨c0, c1, c2, _, _, _⟩ := row3 ((hC.block w.heap.size (by simp) (by simp)).trans G1.out)
  have C2 := Lib.hid (C1.out.trans hC)
  clear hC
  go_wp2_with fail
  go_quiet (fail)
  have C3 := Lib.hid (C2.out.drewN nq)
  have e0 : (⟨#[114, 119, 120]⟩ : ByteArray).extract 0 1 = ⟨#[114]⟩ := rfl
  have e1 : (⟨#[114, 119, 120]⟩ : ByteArray).extract 1 2 = ⟨#[119]⟩ := rfl
  have e2 : (⟨#[114, 119, 120]⟩ : ByteArray).extract 2 3 = ⟨#[120]⟩ := rfl
  go_wp2_with fail
  refine wp_loop_rounds 4 ?_
  rw [rounds_succ]
  go_wp2_with fail
  rw [rounds_succ]
  go_wp2_with fail
  rw [rounds_succ]
  go_wp2_with fail
  rw [rounds_succ]
  go_wp2_with fail
  go_ret
  exact ⟨rfl, C3.out⟩
theorem rshow_any (w : World) (k : Int) (p f : Nat) (hp : p < 256) (hf : f < 4294967296) (hk : -9223372036854775808 ≤ k ∧ k ≤ 9223372036854775807) :
    Calls Tryd.prog 12 #[.agg #[.int .i64 k, .int .u8 p, .int .u32 f]] w fun e w' => e = .returned (.string ⟨(showE ⟨k, p, f⟩).toArray⟩) ∧ Chg w w' none := by
  by_cases h : okE ⟨k, p, f⟩
  · rcases okE_cases h with e | ⟨rfl, e2, e3⟩ | ⟨rfl, e2, e3⟩
    · cases e
      exact rshow_z w
    · simp only at e2 e3
      rw [show_page e2 e3]
      rcases pagep_cases e2 with rfl | rfl | rfl | rfl | rfl
      · exact rshow_p1 w f e3
      · exact rshow_p3 w f e3
      · exact rshow_p4 w f e3
      · exact rshow_p5 w f e3
      · exact rshow_p7 w f e3
    · simp only at e2 e3
      subst e2
      rw [show_table e3]
      exact rshow_t w f e3
  · rw [show_not h]
    exact rshow_no w k p f hp hf hk h
/-! ### EntryMakes -/
set_option maxRecDepth 100000 in
set_option maxHeartbeats 4000000 in
theorem makes_walk (w : World) (hL : Lb w) (k : Int) (p f : Nat) (hp : p < 256) (hf : f < 4294967296) (hk : -9223372036854775808 ≤ k ∧ k ≤ 9223372036854775807) :
    Calls Tryd.prog 3 #[.agg #[.int .i64 k, .int .u8 p, .int .u32 f]] w fun e w' => e = .returned (.bool true) ∧ Chg w w' none := by
  have LL := Lib.hid hL
  have C0 := Lib.hid ((Chg.refl w none).alloc (ent ⟨k, p, f⟩))
  have G0 := Lib.hid (heap_alloc_last w (ent ⟨k, p, f⟩))
  have KN := Lib.hid (fun X (h : Lb X) => known_any X h)
  have EN := Lib.hid (fun X => enc_any X k p f hp hf hk)
  have RE := Lib.hid (fun X => renc_any X k p f hp hf hk)
  have SH := Lib.hid (fun X (h : Lb X) => show_any X h k p f hp hf hk)
  have RS := Lib.hid (fun X => rshow_any X k p f hp hf hk)
  generalize encW ⟨k, p, f⟩ = x at *
  obtain ⟨W, n⟩ := x
  generalize (⟨(showE ⟨k, p, f⟩).toArray⟩ : ByteArray) = X at *
  clear hL hp hf hk
  go_enter Tryd.func3, Tryd.ntmps3
  go_wp2_with fail
  refine (KN.out _ (LL.out.kept C0.out)).mono ?_
  rintro e w1 ⟨rfl, hC⟩
  have C1 := Lib.hid (C0.out.trans hC)
  have G1 := Lib.hid (row_kept G0.out hC)
  obtain ⟨c0, c1, c2, _, _, _⟩ := row3 G1.out
  clear hC
  go_wp2_with fail
  clear c0 c1 c2
  refine (EN.out _).mono ?_
  rintro e w2 ⟨rfl, hC⟩
  have C2 := Lib.hid (C1.out.trans hC)
  have G2 := Lib.hid (row_kept G1.out hC)
  obtain ⟨c0, c1, c2, _, _, _⟩ := row3 G2.out
  clear hC
  go_wp2_with fail
  clear c0 c1 c2
  refine (RE.out _).mono ?_
  rintro e w3 ⟨rfl, hC⟩
  have C3 := Lib.hid (C2.out.trans hC)
  have G3 := Lib.hid (row_kept G2.out hC)
  obtain ⟨c0, c1, c2, _, _, _⟩ := row3 G3.out
  clear hC
  go_wp2_with fail
  clear c0 c1 c2
  refine (SH.out _ (LL.out.kept C3.out)).mono ?_
  rintro e w4 ⟨rfl, hC⟩
  have C4 := Lib.hid (C3.out.trans hC)
  have G4 := Lib.hid (row_kept G3.out hC)
  obtain ⟨c0, c1, c2, _, _, _⟩ := row3 G4.out
  clear hC
  go_wp2_with fail
  refine (RS.out _).mono ?_
  rintro e w5 ⟨rfl, hC⟩
  have C5 := Lib.hid (C4.out.trans hC)
  clear hC
  go_wp2
  go_ret
  exact ⟨rfl, C5.out⟩
end Go.Proofs.YtjijejeeejjplaaDoor.En
