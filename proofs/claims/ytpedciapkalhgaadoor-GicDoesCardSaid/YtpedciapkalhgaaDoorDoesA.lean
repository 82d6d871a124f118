/- What stands in GicDoes: two pairs, forty more. No statement of the seat is proved here. -/
import Derived.Test.YtpedciapkalhgaaDoorStep
namespace Go.Proofs.YtpedciapkalhgaaDoor.Gk
open Go.RowKit Go.Proofs.YtpedciapkalhgaaDoor.Kit
set_option linter.unusedSimpArgs false
set_option linter.unusedVariables false

/-! ### the forty more -/
def rk (k : Nat) : List Int := z0.set (k % 32) (1 + ((k % 8 : Nat) : Int))
def pk2 (k : Nat) : Nat := 2 ^ (k % 32)
theorem rk_len (k : Nat) : (rk k).length = 32 := by simp [rk, z0_len]
theorem rk_ok (k i : Nat) : i64ok (nth (rk k) i) := by
  unfold rk
  rw [nth_set _ _ _ _ (by rw [z0_len]; omega)]
  split
  · simp only [i64ok]; omega
  · rw [nth_z0]; exact ⟨by decide, by decide⟩
theorem pk2_lt (k : Nat) : pk2 k < 4294967296 := two_lt _ (by omega)
def ptrs (gs : List Nat) : List Value := gs.map fun g => Value.pointer (some ⟨g, 0, none⟩)
/-- n controllers, each as it was made, and the list of them; all in blocks from lo on, below hi. -/
structure Fy (w : World) (lo hi : Nat) (v : Value) (gs : List Nat) : Prop where
  own : w.ownsRow lo 24 1 v gs.length (ptrs gs)
  top : ∀ g, v.ownBlock = some g → g < hi
  each : ∀ k, k < gs.length → lo ≤ gs.getD k 0 ∧ gs.getD k 0 < hi ∧ GicAt w (gs.getD k 0) (rk k) (pk2 k) 0
theorem Fy.lt {w : World} {lo hi : Nat} {v : Value} {gs : List Nat} (h : Fy w lo hi v gs) (g : Nat) (e : v.ownBlock = some g) : lo ≤ g ∧ g < w.heap.size := by
  rcases h.own.2 with ⟨h1, _⟩ | ⟨g2, cap, cur, hv, hb, hrow, _⟩
  · rw [h1] at e; cases e
  · rw [hv] at e; cases e; exact ⟨hb, (Array.getElem?_eq_some_iff.1 hrow).1⟩
theorem Fy.ex {S : Nat → Prop} {w w' : World} {lo hi : Nat} {v : Value} {gs : List Nat} (h : Fy w lo hi v gs) (k : Ex S w w') (hS : ∀ i, S i → i < lo ∨ hi ≤ i) : Fy w' lo hi v gs := by
  refine ⟨?_, h.top, fun j hj => ?_⟩
  · rcases h.own with ⟨h1, h2⟩
    refine ⟨h1, ?_⟩
    rcases h2 with h2 | ⟨g, cap, cur, hv, hb, hrow, h3⟩
    · exact .inl h2
    · refine .inr ⟨g, cap, cur, hv, hb, (k.block g (Array.getElem?_eq_some_iff.1 hrow).1 (fun x => ?_)).trans hrow, h3⟩
      have := h.top g (by rw [hv]; rfl)
      have := hS g x
      omega
  · obtain ⟨h1, h2, h3⟩ := h.each j hj
    exact ⟨h1, h2, h3.ex k (fun x => by have := hS _ x; omega)⟩
theorem Fy.at_ {w : World} {lo hi : Nat} {v : Value} {gs : List Nat} (h : Fy w lo hi v gs) (h0 : 0 < gs.length) : ∃ g cap, v = .slice (some ⟨g, 0, none⟩) gs.length cap ∧ ∀ j, j < gs.length → w.cell? ⟨g, j, none⟩ = some (.pointer (some ⟨gs.getD j 0, 0, none⟩)) := by
  rcases h.own.2 with ⟨h1, h2⟩ | ⟨g, cap, cur, hv, hb, hrow, hn, hm, hs, htk⟩
  · omega
  · refine ⟨g, cap, hv, fun j hj => ?_⟩
    rw [cell_of_row _ _ _ _ _ _ hrow, ← Array.getElem?_toList]
    have hl : (ptrs gs)[j]? = some (.pointer (some ⟨gs.getD j 0, 0, none⟩)) := by simp [ptrs, List.getD_eq_getElem?_getD, List.getElem?_eq_getElem hj]
    rw [← htk, List.getElem?_take] at hl
    split at hl
    · exact hl
    · cases hl

/-! ### a pair by its blocks -/
structure Pd where
  q : Nat
  g : Nat
  b : Nat
  x : Nat
  y : Nat
  z : Nat
def Pd.S (D : Pd) (j : Nat) : Prop := F4 D.g D.x D.y D.z j
def PIs (w : World) (D : Pd) : Prop := ∃ r p m, PAt w D.q D.g D.b D.x D.y D.z r p m
/-- What one writes the other has not. -/
def Dis (D E : Pd) : Prop := ¬ D.S E.q ∧ ¬ D.S E.g ∧ ¬ D.S E.b ∧ ¬ D.S E.x ∧ ¬ D.S E.y ∧ ¬ D.S E.z
theorem PIs.ex {w w' : World} {D E : Pd} (h : PIs w E) (hd : Dis D E) (k : Ex D.S w w') : PIs w' E := by
  obtain ⟨r, p, m, h⟩ := h
  exact ⟨r, p, m, h.ex k hd.1 hd.2.1 hd.2.2.1 hd.2.2.2.1 hd.2.2.2.2.1 hd.2.2.2.2.2⟩
theorem PIs.below {w w' : World} {E : Pd} (h : PIs w E) (k : Below w.heap.size w w') : PIs w' E := by
  obtain ⟨r, p, m, h⟩ := h
  exact ⟨r, p, m, h.below k⟩
/-- All that stands between two steps: the pair that is at it, the other one, the forty. -/
structure In2 (w0 w : World) (D E : Pd) (lo hi : Nat) (v : Value) (gs : List Nat) : Prop where
  d : PIs w D
  e : PIs w E
  de : Dis D E
  ed : Dis E D
  od : ∀ i, D.S i → i < lo ∨ hi ≤ i
  oe : ∀ i, E.S i → i < lo ∨ hi ≤ i
  nd : ∀ i, D.S i → w0.heap.size ≤ i
  ne : ∀ i, E.S i → w0.heap.size ≤ i
  fy : Fy w lo hi v gs
  tab : TabAt w
  below : Below w0.heap.size w0 w
theorem In2.swap {w0 w : World} {D E : Pd} {lo hi : Nat} {v : Value} {gs : List Nat} (h : In2 w0 w D E lo hi v gs) : In2 w0 w E D lo hi v gs := ⟨h.e, h.d, h.ed, h.de, h.oe, h.od, h.ne, h.nd, h.fy, h.tab, h.below⟩
theorem In2.step {w0 w w' : World} {D E : Pd} {lo hi : Nat} {v : Value} {gs : List Nat} (h : In2 w0 w D E lo hi v gs) (hp : PIs w' D) (k : Ex D.S w w') : In2 w0 w' D E lo hi v gs := by
  obtain ⟨r, p, m, hq⟩ := h.d
  exact ⟨hp, h.e.ex h.de k, h.de, h.ed, h.od, h.oe, h.nd, h.ne, h.fy.ex k h.od, h.tab.f4 hq k, ⟨k.os.trans h.below.os, k.tape.trans h.below.tape, k.output.trans h.below.output, Nat.le_trans h.below.size k.size, fun i hi => (k.block i (by have := h.below.size; omega) (fun x => by have := h.nd i x; omega)).trans (h.below.block i hi)⟩⟩
theorem In2.quiet {w0 w w' : World} {D E : Pd} {lo hi : Nat} {v : Value} {gs : List Nat} (h : In2 w0 w D E lo hi v gs) (k : Below w.heap.size w w') : In2 w0 w' D E lo hi v gs := by
  have h0 : 0 < w.heap.size := World.block_lt_of_cell? w _ (h.tab 0 (by omega))
  exact ⟨h.d.below k, h.e.below k, h.de, h.ed, h.od, h.oe, h.nd, h.ne, h.fy.ex (Ex.of_below k (fun _ => False)) (fun _ x => x.elim), h.tab.below k h0, h.below.trans (k.mono h.below.size)⟩

/-! ### the first three steps -/
def s1 : OpD := ⟨1, 5, 2, 0, z0, 0, 0⟩
def s2 : OpD := ⟨2, 5, 0, 0, z0, 0, 0⟩
def s3 : OpD := ⟨4, 0, 2, 0, z0, 0, 0⟩
theorem s_ok (a b c : Int) (ha : i64ok a) (hb : i64ok b) (hc : i64ok c) : (⟨a, b, c, 0, z0, 0, 0⟩ : OpD).okay := ⟨ha, hb, hc, (by decide : (0 : Nat) < 4294967296), z0_len, (by decide : (0 : Nat) < 4294967296), (by decide : (0 : Nat) < 4294967296)⟩
theorem s1_ok : s1.okay := s_ok _ _ _ ⟨by decide, by decide⟩ ⟨by decide, by decide⟩ ⟨by decide, by decide⟩
theorem s2_ok : s2.okay := s_ok _ _ _ ⟨by decide, by decide⟩ ⟨by decide, by decide⟩ ⟨by decide, by decide⟩
theorem s3_ok : s3.okay := s_ok _ _ _ ⟨by decide, by decide⟩ ⟨by decide, by decide⟩ ⟨by decide, by decide⟩
theorem b41_1 : ∀ w, (Instr.build 41 #[(0, .int .i64 1), (1, .int .i64 5), (2, .int .i64 2)]).run Tryd.prog w = .ok (.agg (opArr s1)) w := fun _ => by kernel_rfl
theorem b41_2 : ∀ w, (Instr.build 41 #[(0, .int .i64 2), (1, .int .i64 5)]).run Tryd.prog w = .ok (.agg (opArr s2)) w := fun _ => by kernel_rfl
theorem b41_3 : ∀ w, (Instr.build 41 #[(0, .int .i64 4), (2, .int .i64 2)]).run Tryd.prog w = .ok (.agg (opArr s3)) w := fun _ => by kernel_rfl
theorem known_set : someOf (roR 5 2 z0) 2 (wait (rsd (roR 5 2 z0) (roP 5 2 z0 0) 5) (roP 5 2 z0 0)) = 32 := by decide +kernel
theorem known_nt : nt 32 = 5 := by decide +kernel
theorem known_tk : tk 32 = true := by decide +kernel

theorem fr_route (k : Nat) : roR ((k % 32 : Nat) : Int) (1 + ((k % 8 : Nat) : Int)) z0 = rk k ∧ roP ((k % 32 : Nat) : Int) (1 + ((k % 8 : Nat) : Int)) z0 0 = 0 := by
  have hl := isL_of (k % 32) (by omega)
  have hc : isC (1 + ((k % 8 : Nat) : Int)) = true := by simp [isC]; omega
  have hd : does3 ((k % 32 : Nat) : Int) (1 + ((k % 8 : Nat) : Int)) z0 := ⟨⟨hl, .inr hc⟩, by rw [nth_z0]; omega⟩
  unfold roR roP
  rw [if_pos hd, if_pos hd, drop_zero]
  exact ⟨rfl, rfl⟩
theorem fr_raise (k : Nat) : rsd (rk k) 0 ((k % 32 : Nat) : Int) = pk2 k := by
  unfold rsd
  rw [if_pos (isL_of (k % 32) (by omega))]
  have : nth (rk k) (k % 32) = 1 + ((k % 8 : Nat) : Int) := by unfold rk; rw [nth_set _ _ _ _ (by rw [z0_len]; omega), if_pos rfl]
  unfold raised
  rw [Int.toNat_natCast, if_neg (by rw [this]; omega)]
  simp [pk2]
end Go.Proofs.YtpedciapkalhgaaDoor.Gk
