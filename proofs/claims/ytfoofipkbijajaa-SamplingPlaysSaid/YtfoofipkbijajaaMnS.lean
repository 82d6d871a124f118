/- SamplingPlays: how it begins. No statement of the seat is proved here. -/
import Derived.Test.YtfoofipkbijajaaMn
namespace Go.Proofs.Ytfoofipkbijajaa.Sa
open Go.RowKit Go.Proofs.Ytfoofipkbijajaa.Kit
set_option linter.unusedSimpArgs false
set_option linter.unusedVariables false
theorem may_flip {W S : Int} {rs : List Int} (h : may W S rs = true) : may W (260 - S) rs = true ∧ 4 ≤ S ∧ S ≤ 256 := by
  unfold may at h ⊢
  simp only [Bool.and_eq_true] at h
  obtain ⟨⟨⟨h1, h2⟩, h3⟩, h4⟩ := h
  unfold sized at h2
  simp only [Bool.and_eq_true, decide_eq_true_eq, beq_iff_eq] at h2
  obtain ⟨⟨a, b⟩, c⟩ := h2
  refine ⟨?_, a, b⟩
  have h5 : sized (260 - S) = true := by
    unfold sized
    simp only [Bool.and_eq_true, decide_eq_true_eq, beq_iff_eq]
    omega
  rw [h1, h5, h3, h4]; rfl
def nil9 : Array Value := #[.slice none 0 0, .slice none 0 0, .slice none 0 0, .slice none 0 0, .slice none 0 0, .slice none 0 0, .slice none 0 0, .slice none 0 0, .slice none 0 0]
theorem mn_start {w w2 w3 w4 w5 w6 w7 : World} {bx by_ bz bw q : Nat} {F G F2 G2 : Nat → Prop} {P0 Q0 : PA} (hx : PortIs w3 bx F P0) (hxl : w2.heap.size ≤ bx) (hxF : ∀ x, F x → w2.heap.size ≤ x) (c3 : Chg w2 w3 none)
    (hy : RefIs w4 by_ G P0) (hyl : w3.heap.size ≤ by_) (hyG : ∀ x, G x → w3.heap.size ≤ x) (c4 : Chg w3 w4 none) (c5 : Chg w4 w5 (some q)) (hq : q < w2.heap.size) (hz : PortIs w6 bz F2 Q0) (hzl : w5.heap.size ≤ bz) (hzF : ∀ x, F2 x → w5.heap.size ≤ x) (c6 : Chg w5 w6 none)
    (hw : RefIs w7 bw G2 Q0) (hwl : w6.heap.size ≤ bw) (hwG : ∀ x, G2 x → w6.heap.size ≤ x) (c7 : Chg w6 w7 none) (h02 : w.heap.size ≤ w2.heap.size) (c : Chg w (w7.alloc (.cells nil9 55)) none)
    (hP : P0.A.data.length ≤ 256 ∧ P0.B.data.length ≤ 256) (hQ : Q0.A.data.length ≤ 256 ∧ Q0.B.data.length ≤ 256) (sP : 4 ≤ P0.S ∧ P0.S ≤ 256) (sQ : 4 ≤ Q0.S ∧ Q0.S ≤ 256) :
    ∃ T, Mn w (w7.alloc (.cells nil9 55)) T bx by_ bz bw w7.heap.size 0 P0 Q0 [] [] [] := by
  have s3 := c3.size
  have s4 := c4.size
  have s5 := c5.size
  have s6 := c6.size
  have s7 := c7.size
  have b1 := hx.blt
  have b2 := hy.blt
  have b3 := hz.blt
  have b4 := hw.blt
  have c8 : Chg w7 (w7.alloc (.cells nil9 55)) none := (Chg.refl w7 none).alloc _
  have s8 : (w7.alloc (.cells nil9 55)).heap.size = w7.heap.size + 1 := by simp
  have k7 : ∀ x, x < w7.heap.size → (w7.alloc (.cells nil9 55)).heap[x]? = w7.heap[x]? := fun x hx => c8.block x hx (by simp)
  have k6 : ∀ x, x < w6.heap.size → (w7.alloc (.cells nil9 55)).heap[x]? = w6.heap[x]? := fun x hx => (k7 x (by omega)).trans (c7.block x hx (by simp))
  have k5 : ∀ x, x < w5.heap.size → (w7.alloc (.cells nil9 55)).heap[x]? = w5.heap[x]? := fun x hx => (k6 x (by omega)).trans (c6.block x hx (by simp))
  have k4 : ∀ x, x < w4.heap.size → x ≠ q → (w7.alloc (.cells nil9 55)).heap[x]? = w4.heap[x]? := fun x hx hn => (k5 x (by omega)).trans (c5.block x hx (fun e => hn (by injection e)))
  have k3 : ∀ x, x < w3.heap.size → x ≠ q → (w7.alloc (.cells nil9 55)).heap[x]? = w3.heap[x]? := fun x hx hn => (k4 x (by omega) hn).trans (c4.block x hx (by simp))
  obtain ⟨T, hT⟩ : ∃ T : Nat → Nat, T = fun x => if x < w2.heap.size then 0 else if x < w3.heap.size then (if x = bx then 20 else 22) else if x < w4.heap.size then (if x = by_ then 21 else 23) else if x < w6.heap.size then (if x = bz then 30 else 32) else if x < w7.heap.size then (if x = bw then 31 else 33) else 1 := ⟨_, rfl⟩
  have t0 : ∀ x, x < w2.heap.size → T x = 0 := fun x hx => by rw [hT]; exact if_pos hx
  have t3 : ∀ x, w2.heap.size ≤ x → x < w3.heap.size → T x = if x = bx then 20 else 22 := fun x h1 h2 => by simp only [hT]; rw [if_neg (by omega), if_pos h2]
  have t4 : ∀ x, w3.heap.size ≤ x → x < w4.heap.size → T x = if x = by_ then 21 else 23 := fun x h1 h2 => by simp only [hT]; rw [if_neg (by omega), if_neg (by omega), if_pos h2]
  have t6 : ∀ x, w5.heap.size ≤ x → x < w6.heap.size → T x = if x = bz then 30 else 32 := fun x h1 h2 => by simp only [hT]; rw [if_neg (by omega), if_neg (by omega), if_neg (by omega), if_pos h2]
  have t7 : ∀ x, w6.heap.size ≤ x → x < w7.heap.size → T x = if x = bw then 31 else 33 := fun x h1 h2 => by simp only [hT]; rw [if_neg (by omega), if_neg (by omega), if_neg (by omega), if_neg (by omega), if_pos h2]
  have t8 : T w7.heap.size = 1 := by simp only [hT]; rw [if_neg (by omega), if_neg (by omega), if_neg (by omega), if_neg (by omega), if_neg (by omega)]
  clear hT
  refine ⟨T, ⟨⟨F, hx.same (by omega) (k3 bx b1 (by omega)) (fun g hg => k3 g (hx.lt g hg) (by have := hxF g hg; omega)), fun g hg => ?_⟩, ⟨G, hy.same (by omega) (k4 by_ b2 (by omega)) (fun g hg => k4 g (hy.lt g hg) (by have := hyG g hg; omega)), fun g hg => ?_⟩, ?_, ?_, hP, sP⟩,
    ⟨⟨F2, hz.same (by omega) (k6 bz b3) (fun g hg => k6 g (hz.lt g hg)), fun g hg => ?_⟩, ⟨G2, hw.same (by omega) (k7 bw b4) (fun g hg => k7 g (hw.lt g hg)), fun g hg => ?_⟩, ?_, ?_, hQ, sQ⟩, ?_, fun x hx => t0 x (by omega), c⟩
  · rw [t3 g (hxF g hg) (hx.lt g hg), if_neg (fun e => hx.off (by rw [← e]; exact hg))]
  · rw [t4 g (hyG g hg) (hy.lt g hg), if_neg (fun e => hy.off (by rw [← e]; exact hg))]
  · rw [t3 bx hxl b1, if_pos rfl]
  · rw [t4 by_ hyl b2, if_pos rfl]
  · rw [t6 g (hzF g hg) (hz.lt g hg), if_neg (fun e => hz.off (by rw [← e]; exact hg))]
  · rw [t7 g (hwG g hg) (hw.lt g hg), if_neg (fun e => hw.off (by rw [← e]; exact hg))]
  · rw [t6 bz hzl b3, if_pos rfl]
  · rw [t7 bw hwl b4, if_pos rfl]
  · have hr := heap_alloc_last w7 (.cells nil9 55)
    have rn : ∀ t e, RowT (w7.alloc (.cells nil9 55)) T t e (.slice none 0 0) [] := fun t e => ⟨World.ownsRow_nil _ _ _ _, fun g h => by cases h⟩
    have bn : ∀ t, BufT (w7.alloc (.cells nil9 55)) T t (.slice none 0 0) := fun t => ⟨.inl rfl, fun g h => by cases h⟩
    exact ⟨⟨_, _, _, _, _, _, _, _, _, hr, rn _ _, rn _ _, rn _ _, rn _ _, rn _ _, rn _ _, bn _, bn _, bn _⟩, t8, fun e he => (by cases he), fun j hj => absurd hj (Nat.not_lt_zero _), fun j hj => absurd hj (Nat.not_lt_zero _)⟩
end Go.Proofs.Ytfoofipkbijajaa.Sa
