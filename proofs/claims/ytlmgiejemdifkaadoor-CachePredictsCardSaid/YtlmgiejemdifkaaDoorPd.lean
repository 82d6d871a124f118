/- What holds in memory between two rounds of Predict. No statement of the seat is proved here. -/
import Derived.Test.YtlmgiejemdifkaaDoorFar
import Derived.Deep.OwnRows
namespace Go.Proofs.YtlmgiejemdifkaaDoor.Ca
open Go.RowKit Go.Proofs.YtlmgiejemdifkaaDoor.Kit
set_option linter.unusedSimpArgs false
set_option linter.unusedVariables false

theorem put_put (F : Nat → List Ln) (k : Nat) (A B : List Ln) : put (put F k A) k B = put F k B := funext fun j => by
  unfold put; split <;> rfl
/-- Two own rows of two kinds of elements lie apart. -/
theorem kinds_apart {w : World} {b1 b2 e1 e2 s1 s2 n1 n2 : Nat} {v1 v2 : Value} {x1 x2 : List Value} (h1 : w.ownsRow b1 e1 s1 v1 n1 x1) (h2 : w.ownsRow b2 e2 s2 v2 n2 x2) (hne : e1 ≠ e2) (g : Nat) (e : v1.ownBlock = some g) : v2.ownBlock ≠ some g := by
  intro e'
  rcases h1.2 with ⟨rfl, _⟩ | ⟨g1, c1, u1, rfl, _, r1, _⟩
  · cases e
  rcases h2.2 with ⟨rfl, _⟩ | ⟨g2, c2, u2, rfl, _, r2, _⟩
  · cases e'
  simp only [Value.ownBlock, Option.some.injEq] at e e'
  subst e e'
  rw [r1] at r2
  injection r2 with r2
  injection r2 with _ r2 _
  exact hne r2
theorem own_or {v u : Value} (h : ∀ g, v.ownBlock = some g → u.ownBlock ≠ some g) : v.ownBlock = none ∨ v.ownBlock ≠ u.ownBlock := by
  cases hv : v.ownBlock with
  | none => exact .inl rfl
  | some g => exact .inr (fun e => h g hv e.symm)
structure Pd (w wr : World) (p : Nat) (s : Shp) (us : List Us) (n : Nat) (F : Nat → List Ln) (vo : Value) (vs : Nat → Value) : Prop where
  chg : Chg w wr none
  tab : TabAt wr
  one : 1 < w.heap.size
  pos : w.heap.size < p
  box : wr.heap[w.heap.size]? = some (.cells #[.int .i64 s.S, .int .i64 s.W, .int .i64 s.L] 23 (0, 0))
  sets : wr.rowIs p 101 256 vs
  own : ∀ j, j < 256 → Own wr (p + 1) (vs j) (F j)
  apart : ∀ i j, i < 256 → j < 256 → i ≠ j → ∀ g, (vs i).ownBlock = some g → (vs j).ownBlock ≠ some g
  out : wr.ownsRow (p + 1) 38 3 vo n (costs s (fun _ => []) us n)
variable {w wr : World} {p : Nat} {s : Shp} {us : List Us} {n : Nat} {F : Nat → List Ln} {vo : Value} {vs : Nat → Value}
theorem Pd.size (h : Pd w wr p s us n F vo vs) : p + 1 ≤ wr.heap.size := h.sets.lt
/-- A change to one block from the base on, which no list of ours but .. -/
theorem Pd.frame (h : Pd w wr p s us n F vo vs) {w2 : World} {r : Option Nat} (hC : Chg wr w2 r) (hr : ∀ g, r = some g → p + 1 ≤ g) :
    Chg w w2 none ∧ TabAt w2 ∧ w2.heap[w.heap.size]? = some (.cells #[.int .i64 s.S, .int .i64 s.W, .int .i64 s.L] 23 (0, 0)) ∧ w2.rowIs p 101 256 vs := by
  have h1 := h.one
  have h2 := h.size
  have h3 := h.pos
  refine ⟨own_trans h.chg hC (fun g e => by have := hr g e; omega), h.tab.kept hC (fun e => by have := hr 1 e; omega), ?_, ?_⟩
  · rw [hC.block _ (by omega) (fun e => by have := hr _ e.symm; omega)]; exact h.box
  · exact h.sets.of_block (hC.block _ (by omega) (fun e => by have := hr _ e.symm; omega))
theorem Pd.grow (h : Pd w wr p s us n F vo vs) {w2 : World} (hC : Chg wr w2 none) : Pd w w2 p s us n F vo vs := by
  obtain ⟨a, b, c, d⟩ := h.frame hC (by simp)
  have key : ∀ v : Value, v.ownBlock = none ∨ v.ownBlock ≠ none := fun v => by cases v.ownBlock <;> simp
  exact ⟨a, b, h.one, h.pos, c, d, fun j hj => (h.own j hj).kept hC (key _), h.apart, h.out.kept hC (key _)⟩
/-- Another list in a set's place. -/
theorem Pd.put (h : Pd w wr p s us n F vo vs) {kk : Nat} (hk : kk < 256) {wi : World} {v' : Value} {L : List Ln} (hC : Chg wr wi (vs kk).ownBlock) (ho : Own wi (p + 1) v' L)
    (hb : v'.ownBlock = (vs kk).ownBlock ∨ ∃ g, v'.ownBlock = some g ∧ wr.heap.size ≤ g) :
    Pd w (wi.setCell ⟨p, kk, none⟩ v') p s us n (put F kk L) vo (fun j => if j = kk then v' else vs j) := by
  have h1 := h.one
  have h2 := h.size
  have h3 := h.pos
  obtain ⟨a, b, c, d⟩ := h.frame hC (fun g e => ((h.own kk hk).lt g e).1)
  have hS : Chg wi (wi.setCell ⟨p, kk, none⟩ v') (some p) := (Chg.refl wi _).set kk v'
  have hz := hC.size
  refine ⟨a.set_new kk v' (by omega), b.kept hS (fun e => by injection e; omega), h.one, h.pos, ?_, d.set kk v', fun j hj => ?_, ?_, ?_⟩
  · rw [hS.block _ (by omega) (fun e => by injection e; omega)]; exact c
  · by_cases e : j = kk
    · subst e
      simp only [if_pos rfl, put_same]
      exact ho.kept hS (.inr (fun e => by have := (ho.lt _ e).1; omega))
    · simp only [if_neg e, put_other _ _ e]
      have k1 := (h.own j hj).kept hC (own_or (h.apart j kk hj hk e))
      exact k1.kept hS (.inr (fun e => by have := (k1.lt _ e).1; omega))
  · intro i j hi hj hij g
    by_cases e1 : i = kk
    · subst e1
      have e2 : ¬ j = i := fun e => hij e.symm
      simp only [if_true, if_neg e2]
      intro e
      rcases hb with hb | ⟨g', hb, hg⟩
      · exact h.apart i j hi hj hij g (hb ▸ e)
      · intro e'
        have := ((h.own j hj).lt g e').2
        rw [hb] at e
        injection e
        omega
    · by_cases e2 : j = kk
      · subst e2
        simp only [if_neg e1, if_true]
        intro e e'
        rcases hb with hb | ⟨g', hb, hg⟩
        · exact h.apart i j hi hj hij g e (hb ▸ e')
        · have := ((h.own i hi).lt g e).2
          rw [hb] at e'
          injection e'
          omega
      · simp only [if_neg e1, if_neg e2]
        exact h.apart i j hi hj hij g
  · have k1 := h.out.kept hC (own_or (fun g e => kinds_apart h.out (h.own kk hk) (by decide) g e))
    exact k1.kept hS (.inr (fun e => by have := (k1.lt _ e).1; omega))
theorem clean_flat {w : World} {g : Nat} {L : List Ln} {N W : Nat} (hr : Row w g 80 N) (h : w.rangeAt g 0 (flat L)) (hW : W < L.length) (hN : L.length * 2 ≤ N) :
    (w.setCell ⟨g, W * 2 + 1, none⟩ (.bool false)).rangeAt g 0 (flat (clean W L)) := by
  obtain ⟨v0, hv0⟩ := Option.isSome_iff_exists.1 (hr.there (W * 2 + 1) 1 (by omega) 0 (by omega)).1
  intro j v hv
  have hj : j < (clean W L).length * 2 := by rw [← flat_len]; exact (List.getElem?_eq_some_iff.1 hv).1
  rw [clean_len] at hj
  have hcl : ∀ i, i < L.length → lnth (clean W L) i = if i = W then ((lnth L W).1, false) else lnth L i := fun i hi => by
    unfold clean
    rw [if_pos hW]
    by_cases e : i = W
    · subst e; rw [if_pos rfl]; simp [lnth, hi]
    · rw [if_neg e]; simp [lnth, List.getElem?_set_ne (Ne.symm e)]
  obtain ⟨i, hi⟩ : ∃ i, i = j / 2 := ⟨_, rfl⟩
  have hiL : i < L.length := by omega
  obtain ⟨c0, c1⟩ := range_at h i hiL
  obtain ⟨e0, e1⟩ := flat_even (clean W L) i (by rw [clean_len]; exact hiL)
  rw [hcl i hiL] at e0 e1
  rcases (show j = 2 * i ∨ j = 2 * i + 1 by omega) with hj2 | hj2
  · rw [World.cell?_setCell_other _ _ _ _ (by intro e; injection e; omega)]
    rw [hj2] at hv ⊢
    rw [e0] at hv
    rw [← hv, show 0 + 2 * i = 0 + i * 2 by omega, c0]
    split
    · rename_i e; subst e; rfl
    · rfl
  · rw [hj2] at hv ⊢
    rw [e1] at hv
    by_cases e : i = W
    · subst e
      rw [if_pos rfl] at hv
      rw [← hv, show 0 + (2 * i + 1) = i * 2 + 1 by omega]
      exact World.cell?_setCell_same _ _ _ hv0
    · rw [if_neg e] at hv
      rw [World.cell?_setCell_other _ _ _ _ (by intro e'; injection e'; omega), ← hv, show 0 + (2 * i + 1) = 0 + i * 2 + 1 by omega, c1]
theorem Pd.clean (h : Pd w wr p s us n F vo vs) {kk : Nat} (hk : kk < 256) {g m cap W : Nat} (hv : vs kk = .slice (some ⟨g, 0, none⟩) m cap) (hW : W < (F kk).length) :
    Pd w (wr.setCell ⟨g, W * 2 + 1, none⟩ (.bool false)) p s us n (Ca.put F kk (Ca.clean W (F kk))) vo vs := by
  have hob : (vs kk).ownBlock = some g := by rw [hv]; rfl
  have hC : Chg wr (wr.setCell ⟨g, W * 2 + 1, none⟩ (.bool false)) (vs kk).ownBlock := by rw [hob]; exact (Chg.refl wr _).set _ _
  obtain ⟨a, b, c, d⟩ := h.frame hC (fun g e => ((h.own kk hk).lt g e).1)
  refine ⟨a, b, h.one, h.pos, c, d, fun j hj => ?_, h.apart, h.out.kept hC (own_or (fun g e => kinds_apart h.out (h.own kk hk) (by decide) g e))⟩
  by_cases e : j = kk
  · subst e
    rw [put_same]
    rcases own_open (h.own j hj) with ⟨e1, _⟩ | ⟨g', cap', e1, hb, hr, hV, hn, hm⟩
    · rw [hv] at e1; cases e1
    · have e2 := e1
      rw [hv] at e1
      injection e1 with e1 _ _
      injection e1 with e1
      injection e1 with e1 _ _
      subst e1
      have := own_shut (base := p + 1) (V := Ca.clean W (F j)) (hr.set (W * 2 + 1) (.bool false)) (clean_flat hr hV hW (by omega)) (by rw [clean_len]; exact hn) hm hb
      rw [e2, ← clean_len W (F j)]
      exact this
  · rw [put_other _ _ e]
    exact (h.own j hj).kept hC (own_or (h.apart j kk hj hk e))
/-- The list of costs made longer. -/
theorem Pd.next (h : Pd w wr p s us n F vo vs) {w7 : World} {v7 : Value} (hC : Chg wr w7 vo.ownBlock) (ho : w7.ownsRow (p + 1) 38 3 v7 (n + 1) (costs s (fun _ => []) us (n + 1))) :
    Pd w w7 p s us (n + 1) F v7 vs := by
  obtain ⟨a, b, c, d⟩ := h.frame hC (fun g e => (h.out.lt g e).1)
  exact ⟨a, b, h.one, h.pos, c, d, fun j hj => (h.own j hj).kept hC (own_or (fun g e => kinds_apart (h.own j hj) h.out (by decide) g e)), h.apart, ho⟩
/-- The beginning. -/
theorem Pd.first (w : World) (hT : TabAt w) (s : Shp) (us : List Us) {w2 : World} (hC : Chg (w.alloc (.cells #[.int .i64 s.S, .int .i64 s.W, .int .i64 s.L] 23)) w2 none) :
    Pd w (w2.alloc (.cells Tryd.zeroCells101 101)) w2.heap.size s us 0 (fun _ => []) (.slice none 0 0) (fun _ => .slice none 0 0) := by
  have h1 : 1 < w.heap.size := one_lt hT
  have hs : (w.alloc (.cells #[.int .i64 s.S, .int .i64 s.W, .int .i64 s.L] 23)).heap.size = w.heap.size + 1 := by simp
  have hs2 := hC.size
  have hC2 : Chg (w.alloc (.cells #[.int .i64 s.S, .int .i64 s.W, .int .i64 s.L] 23)) (w2.alloc (.cells Tryd.zeroCells101 101)) none := hC.alloc _
  have hA : Chg w (w2.alloc (.cells Tryd.zeroCells101 101)) none := (((Chg.refl w none).alloc _).trans hC2)
  refine ⟨hA, hT.kept hA (by simp), h1, by omega, ?_, ⟨Tryd.zeroCells101, heap_alloc_last w2 _, ?_, fun i hi => ?_⟩, fun j _ => World.ownsRow_nil _ _ _ _, (fun _ _ _ _ _ g e => nomatch e), World.ownsRow_nil _ _ _ _⟩
  · rw [hC2.block _ (by omega) (by simp)]
    exact heap_alloc_last w _
  · rw [zero101, List.size_toArray, List.length_replicate]
  · rw [zero101, List.getElem?_toArray, List.getElem?_replicate, if_pos hi]
end Go.Proofs.YtlmgiejemdifkaaDoor.Ca
