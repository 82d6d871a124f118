/- GicOnce: the plain law of the counts. -/
import Derived.Test.YtpedciapkalhgaaDoorApartB
namespace Go.Proofs.YtpedciapkalhgaaDoor.Gk
open Go.RowKit Go.Proofs.YtpedciapkalhgaaDoor.Kit
set_option linter.unusedSimpArgs false
set_option linter.unusedVariables false

/-- How often a line was raised since it was taken: once if it is pending. -/
def rv (p i : Nat) : Int := if p.testBit i then 1 else 0
def rcells (p : Nat) : Array Value := ((List.range 32).map fun i => Value.int .i64 (rv p i)).toArray
structure RaAt (w : World) (b p : Nat) : Prop where
  heap : w.heap[b]? = some (.cells (rcells p) 3 (0, 0))
theorem rcells_at (p i : Nat) (hi : i < 32) : (rcells p)[i]? = some (.int .i64 (rv p i)) := by simp [rcells, hi]
theorem RaAt.cell {w : World} {b p : Nat} (h : RaAt w b p) (i : Nat) (hi : i < 32) : w.cell? ⟨b, i, none⟩ = some (.int .i64 (rv p i)) := by
  rw [cell_of_row w b i _ _ _ h.heap]; exact rcells_at p i hi
theorem RaAt.free {w : World} {b p : Nat} (h : RaAt w b p) (j : Nat) : w.frozen? ⟨b, j, none⟩ = false := frozen_of_row w b j _ _ h.heap
theorem RaAt.lt {w : World} {b p : Nat} (h : RaAt w b p) : b < w.heap.size := (Array.getElem?_eq_some_iff.1 h.heap).1
theorem RaAt.kept {w w' : World} {b p : Nat} (h : RaAt w b p) {row : Option Nat} (hg : w.grownBy w' row) (hn : row ≠ some b) : RaAt w' b p :=
  ⟨by rw [hg.block b h.lt (fun e => hn e.symm)]; exact h.heap⟩
theorem RaAt.same {w : World} {b p q : Nat} (h : RaAt w b p) (e : ∀ i, i < 32 → q.testBit i = p.testBit i) : RaAt w b q := by
  have : rcells q = rcells p := by
    unfold rcells
    congr 1
    refine List.map_congr_left fun i hi => ?_
    have := List.mem_range.1 hi
    simp [rv, e i this]
  exact ⟨by rw [this]; exact h.heap⟩
theorem RaAt.set {w : World} {b p q : Nat} (h : RaAt w b p) (l : Nat) (hl : l < 32) (e : ∀ i, i < 32 → i ≠ l → q.testBit i = p.testBit i) : RaAt (w.setCell ⟨b, l, none⟩ (.int .i64 (rv q l))) b q := by
  have : (rcells p).setIfInBounds l (.int .i64 (rv q l)) = rcells q := by
    apply Array.ext'
    apply List.ext_getElem
    · simp [rcells]
    · intro i h1 h2
      have hi : i < 32 := by simpa [rcells] using h2
      by_cases hil : i = l
      · subst hil; simp [rcells]
      · simp [rcells, Array.getElem_setIfInBounds, Ne.symm hil, rv, e i hi hil]
  exact ⟨by rw [heap_setCell_same w b l _ _ _ h.heap, this]⟩
theorem rv_le (p i : Nat) : rv p i = 0 ∨ rv p i = 1 := by unfold rv; split <;> simp

theorem bit_eq1 (x n : Nat) : ((((x : Nat) : Int) / 2 ^ n).tmod 2 == 1) = x.testBit n := by
  have e : ((x : Nat) : Int) / 2 ^ n = ((x / 2 ^ n : Nat) : Int) := by simp
  rw [e, Int.tmod_eq_emod_of_nonneg (Int.natCast_nonneg _), Nat.testBit_eq_decide_div_mod_eq]
  by_cases h : x / 2 ^ n % 2 = 1
  · have : (((x / 2 ^ n : Nat) : Int) % 2) = 1 := by omega
    rw [this]; simp [h]
  · have : (((x / 2 ^ n : Nat) : Int) % 2) = 0 := by omega
    rw [this]; simp [h]
theorem bit_eq0 (x n : Nat) : ((((x : Nat) : Int) / 2 ^ n).tmod 2 == 0) = !x.testBit n := by
  have e : ((x : Nat) : Int) / 2 ^ n = ((x / 2 ^ n : Nat) : Int) := by simp
  rw [e, Int.tmod_eq_emod_of_nonneg (Int.natCast_nonneg _), Nat.testBit_eq_decide_div_mod_eq]
  by_cases h : x / 2 ^ n % 2 = 1
  · have : (((x / 2 ^ n : Nat) : Int) % 2) = 1 := by omega
    rw [this]; simp [h]
  · have : (((x / 2 ^ n : Nat) : Int) % 2) = 0 := by omega
    rw [this]; simp [h]

/-! ### what a step that is not a Clear makes of the counts -/
theorem once_new {r : List Int} {p m : Nat} {d : OpD} (h0 : pk d.kind 4 = 0) (hb : doesB r p m d = true) :
    p.testBit (pk d.line 32).toNat = false ∧ (doesP r p m d).testBit (pk d.line 32).toNat = true ∧ ∀ i, i < 32 → i ≠ (pk d.line 32).toNat → (doesP r p m d).testBit i = p.testBit i := by
  unfold doesB at hb
  rw [if_pos h0] at hb
  simp only [isNew, Bool.and_eq_true, Bool.not_eq_true', decide_eq_false_iff_not] at hb
  refine ⟨hb.2, ?_, fun i hi hne => ?_⟩
  · unfold doesP; rw [if_pos h0, raised_bit]; simp [hb.1]
  · unfold doesP; rw [if_pos h0, raised_bit]; simp [Ne.symm hne]
theorem once_took {r : List Int} {p m : Nat} {d : OpD} (hm : m < 4294967296) (h2 : pk d.kind 4 = 2) (hb : doesB r p m d = true) :
    ∃ n : Nat, doesN r p m d = n ∧ n < 32 ∧ p.testBit n = true ∧ (someOf r (1 + pk d.cell 8) m).testBit n = false ∧ (doesP r p m d).testBit n = false ∧ ∀ i, i < 32 → i ≠ n → (doesP r p m d).testBit i = p.testBit i := by
  have hC := isC_pk d.cell
  have h0 : pk d.kind 4 ≠ 0 := by omega
  have h1 : pk d.kind 4 ≠ 1 := by omega
  unfold doesB at hb
  rw [if_neg h0, if_pos h2] at hb
  have hz : someOf r (1 + pk d.cell 8) (wait p m) ≠ 0 := by simpa using hb
  obtain ⟨hc1, hc2, hc3⟩ := ctz_bit _ hz (someOf_lt _ _ _)
  have hb1 := hc1
  rw [some_bit _ _ _ _ hC, wait_bit _ _ _ hm] at hb1
  simp only [Bool.and_eq_true, Bool.not_eq_true', decide_eq_true_eq] at hb1
  refine ⟨_, by unfold doesN; rw [if_pos ⟨h2, hz⟩], hc2, hb1.1.1, ?_, ?_, fun i hi hne => ?_⟩
  · rw [some_bit _ _ _ _ hC, hb1.1.2.2]; rfl
  · simp only [doesP, if_neg h0, if_neg h1, if_pos h2, if_neg hz, drop_bit _ _ _ hc2]; simp
  · simp only [doesP, if_neg h0, if_neg h1, if_pos h2, if_neg hz, drop_bit _ _ _ hc2]; simp [hi, Ne.symm hne]
theorem once_none {r : List Int} {p m : Nat} {d : OpD} (hr : pk d.kind 4 = 1 ∨ doesB r p m d = false) (h3 : pk d.kind 4 ≠ 3) : ∀ i, i < 32 → (doesP r p m d).testBit i = p.testBit i := by
  intro i hi
  have hk := pk_range d.kind 4 (by omega)
  by_cases h0 : pk d.kind 4 = 0
  · have hb : doesB r p m d = false := by rcases hr with h | h; · omega
                                          · exact h
    unfold doesB at hb
    rw [if_pos h0] at hb
    unfold doesP
    rw [if_pos h0, raised_bit]
    simp only [isNew, Bool.and_eq_false_iff, Bool.not_eq_false', decide_eq_true_eq] at hb
    rcases hb with hb | hb
    · simp [hb]
    · by_cases e : (pk d.line 32).toNat = i
      · rw [e] at hb; simp [hb]
      · simp [e]
  · by_cases h1 : pk d.kind 4 = 1
    · simp only [doesP, if_neg h0, if_pos h1]
    · have h2 : pk d.kind 4 = 2 := by omega
      have hb : doesB r p m d = false := by rcases hr with h | h; · omega
                                            · exact h
      unfold doesB at hb
      rw [if_neg h0, if_pos h2] at hb
      have hz : someOf r (1 + pk d.cell 8) (wait p m) = 0 := by simpa using hb
      simp only [doesP, if_neg h0, if_neg h1, if_pos h2, if_pos hz]

def oz : Array Value := opArr d0
theorem zero41 : ∀ w, (zeroValue 41).run Tryd.prog w = .ok (.agg oz) w := fun _ => by kernel_rfl
theorem opArr_size (d : OpD) (h : d.okay) : (opArr d).size = 38 := by simp [opArr, opCells_len d h.len]
theorem oz_size : oz.size = 38 := opArr_size d0 d0_okay
theorem opArr_one (d : OpD) : (opArr d).all (·.oneCell') = true := by
  have h := gcells_one d.r d.p d.m
  rw [Array.all_eq_true_iff_forall_mem] at h ⊢
  intro v hv
  simp only [opArr, opCells, List.mem_toArray, List.mem_append, List.mem_cons, List.not_mem_nil, or_false] at hv
  rcases hv with (rfl | rfl | rfl | rfl) | hv
  · rfl
  · rfl
  · rfl
  · rfl
  · exact h v (by simpa using hv)
theorem opBlockRange {w : World} {b : Nat} {d : OpD} {t : TypeId} {s : Nat × Nat} (h : w.heap[b]? = some (.cells (opArr d) t s)) : w.rangeAt b 0 (opCells d) := by
  intro j v hv
  rw [Nat.zero_add, cell_of_row w b j _ _ _ h]
  simpa [opArr] using hv
end Go.Proofs.YtpedciapkalhgaaDoor.Gk
