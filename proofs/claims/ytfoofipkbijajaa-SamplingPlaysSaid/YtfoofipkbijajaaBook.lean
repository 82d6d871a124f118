/- The book of lists that came out: what it keeps. No statement of the seat is proved here. -/
import Derived.Test.YtfoofipkbijajaaLaid
namespace Go.Proofs.Ytfoofipkbijajaa.Sa
open Go.RowKit Go.Proofs.Ytfoofipkbijajaa.Kit
set_option linter.unusedSimpArgs false
set_option linter.unusedVariables false
/-- A list that is written full. -/
structure En where
  v : Value
  n : Nat
  m : Int
/-- A list that came out, and what it was. -/
structure Fr where
  v : Value
  xs : List Int
  w : Value
def RowT (w : World) (T : Nat → Nat) (t : Nat) (e : TypeId) (v : Value) (xs : List Value) : Prop := w.ownsRow 0 e 1 v xs.length xs ∧ ∀ g, v.ownBlock = some g → T g = t
def BufT (w : World) (T : Nat → Nat) (t : Nat) (v : Value) : Prop := BufV w v ∧ ∀ g, v.ownBlock = some g → T g = t
def EnIs (w : World) (T : Nat → Nat) (c : Nat) (e : En) : Prop := Rb w e.v (List.replicate e.n e.m) ∧ (0 ≤ e.m ∧ e.m < 256 ∧ e.n ≤ 1000) ∧ ∀ g, e.v.ownBlock = some g → g < w.heap.size ∧ 1000 ≤ T g ∧ T g < 1000 + c
def FrIs (w : World) (T : Nat → Nat) (id : Nat) (f : Fr) : Prop := Own w 0 f.v f.xs ∧ f.xs.length ≤ 256 ∧ Own w 0 f.w f.xs ∧ (∀ g, f.v.ownBlock = some g → T g = id) ∧ ∀ g, f.w.ownBlock = some g → T g = 11
structure BkIs (w : World) (b : Nat) (T : Nat → Nat) (c : Nat) (ls : List En) (hs fs : List Fr) : Prop where
  row : ∃ vl vm vf vw vh vt vb va vn, w.heap[b]? = some (.cells #[vl, vm, vf, vw, vh, vt, vb, va, vn] 55 (0, 0)) ∧
    RowT w T 2 33 vl (ls.map (·.v)) ∧ RowT w T 3 5 vm (ls.map fun e => .int .u8 e.m) ∧ RowT w T 4 33 vf (fs.map (·.v)) ∧ RowT w T 5 33 vw (fs.map (·.w)) ∧ RowT w T 6 33 vh (hs.map (·.v)) ∧ RowT w T 7 33 vt (hs.map (·.w)) ∧
    BufT w T 8 vb ∧ BufT w T 9 va ∧ BufT w T 10 vn
  tb : T b = 1
  en : ∀ e ∈ ls, EnIs w T c e
  hd : ∀ j (h : j < hs.length), FrIs w T (1000 + c + j) hs[j]
  fr : ∀ j (h : j < fs.length), FrIs w T (1000 + c + hs.length + j) fs[j]
/-- Only blocks of such tags turned. -/
structure Fz (w w' : World) (T : Nat → Nat) (S : Nat → Prop) : Prop where
  os : w'.os = w.os
  tape : w'.tape = w.tape
  output : w'.output = w.output
  size : w.heap.size ≤ w'.heap.size
  block : ∀ i, i < w.heap.size → ¬ S (T i) → w'.heap[i]? = w.heap[i]?
theorem Fz.of_chg {w w' : World} {T : Nat → Nat} {S : Nat → Prop} {r : Option Nat} (h : Chg w w' r) (hr : ∀ g, r = some g → g < w.heap.size → S (T g)) : Fz w w' T S :=
  ⟨h.os, h.tape, h.output, h.size, fun i hi hn => h.block i hi (fun e => hn (hr i e.symm hi))⟩
theorem Fz.refl (w : World) (T : Nat → Nat) (S : Nat → Prop) : Fz w w T S := ⟨rfl, rfl, rfl, Nat.le_refl _, fun _ _ _ => rfl⟩
theorem Fz.trans {w w1 w2 : World} {T T1 : Nat → Nat} {S : Nat → Prop} (h : Fz w w1 T S) (k : Fz w1 w2 T1 S) (hT : ∀ x, x < w.heap.size → T1 x = T x) : Fz w w2 T S :=
  ⟨k.os.trans h.os, k.tape.trans h.tape, k.output.trans h.output, Nat.le_trans h.size k.size, fun i hi hn => (k.block i (Nat.lt_of_lt_of_le hi h.size) (by rw [hT i hi]; exact hn)).trans (h.block i hi hn)⟩
theorem Fz.mono {w w' : World} {T : Nat → Nat} {S S' : Nat → Prop} (h : Fz w w' T S) (hs : ∀ t, S t → S' t) : Fz w w' T S' := ⟨h.os, h.tape, h.output, h.size, fun i hi hn => h.block i hi (fun e => hn (hs _ e))⟩
theorem own_size {w : World} {base : Nat} {e : TypeId} {v : Value} {n : Nat} {xs : List Value} (h : w.ownsRow base e 1 v n xs) : ∀ g, v.ownBlock = some g → g < w.heap.size := fun g e => (h.lt g e).2
theorem own_same {w w' : World} {base : Nat} {e : TypeId} {v : Value} {n : Nat} {xs : List Value} (h : w.ownsRow base e 1 v n xs) (hk : ∀ g, v.ownBlock = some g → w'.heap[g]? = w.heap[g]?) : w'.ownsRow base e 1 v n xs := by
  refine ⟨h.1, ?_⟩
  rcases h.2 with h | ⟨g, cap, cur, h1, h2, h3, r⟩
  · exact .inl h
  · exact .inr ⟨g, cap, cur, h1, h2, (hk g (by rw [h1]; rfl)).trans h3, r⟩
theorem RowT.kept {w w' : World} {T T' : Nat → Nat} {t : Nat} {e : TypeId} {v : Value} {xs : List Value} (h : RowT w T t e v xs) (hT : ∀ g, g < w.heap.size → T' g = T g) (hk : ∀ g, g < w.heap.size → T g = t → w'.heap[g]? = w.heap[g]?) : RowT w' T' t e v xs :=
  ⟨own_same h.1 fun g e => hk g (own_size h.1 g e) (h.2 g e), fun g e => (hT g (own_size h.1 g e)).trans (h.2 g e)⟩
theorem BufV.lt {w : World} {v : Value} (h : BufV w v) : ∀ g, v.ownBlock = some g → g < w.heap.size := by
  rcases h with rfl | ⟨g, rfl, cs, h1, _⟩
  · intro g e; cases e
  · intro g' e; cases e; exact (Array.getElem?_eq_some_iff.1 h1).1
theorem BufV.kept {w w' : World} {v : Value} (h : BufV w v) (hk : ∀ g, v.ownBlock = some g → RowN w g 310 → RowN w' g 310) : BufV w' v := by
  rcases h with rfl | ⟨g, rfl, hr⟩
  · exact .inl rfl
  · exact .inr ⟨g, rfl, hk g rfl hr⟩
theorem BufT.kept {w w' : World} {T T' : Nat → Nat} {t : Nat} {v : Value} (h : BufT w T t v) (hT : ∀ g, g < w.heap.size → T' g = T g) (hk : ∀ g, g < w.heap.size → T g = t → RowN w g 310 → RowN w' g 310) : BufT w' T' t v :=
  ⟨h.1.kept fun g e hr => hk g (h.1.lt g e) (h.2 g e) hr, fun g e => (hT g (h.1.lt g e)).trans (h.2 g e)⟩
theorem EnIs.kept {w w' : World} {T T' : Nat → Nat} {c : Nat} {e : En} (h : EnIs w T c e) (hT : ∀ g, g < w.heap.size → T' g = T g) (hs : w.heap.size ≤ w'.heap.size) (hk : ∀ g, g < w.heap.size → 1000 ≤ T g → T g < 1000 + c → w'.heap[g]? = w.heap[g]?) : EnIs w' T' c e :=
  ⟨h.1.kept fun g e hl => hk g hl (h.2.2 g e).2.1 (h.2.2 g e).2.2, h.2.1, fun g e => by
    obtain ⟨h1, h2, h3⟩ := h.2.2 g e
    rw [hT g h1]; exact ⟨by omega, h2, h3⟩⟩
theorem FrIs.kept {w w' : World} {T T' : Nat → Nat} {id : Nat} {f : Fr} (h : FrIs w T id f) (hT : ∀ g, g < w.heap.size → T' g = T g) (hk : ∀ g, g < w.heap.size → T g = id ∨ T g = 11 → w'.heap[g]? = w.heap[g]?) : FrIs w' T' id f :=
  ⟨own_same h.1 fun g e => hk g (own_size h.1 g e) (.inl (h.2.2.2.1 g e)), h.2.1, own_same h.2.2.1 fun g e => hk g (own_size h.2.2.1 g e) (.inr (h.2.2.2.2 g e)),
    fun g e => (hT g (own_size h.1 g e)).trans (h.2.2.2.1 g e), fun g e => (hT g (own_size h.2.2.1 g e)).trans (h.2.2.2.2 g e)⟩
/-- The book's blocks. -/
def Bt (t : Nat) : Prop := (1 ≤ t ∧ t ≤ 11) ∨ 1000 ≤ t
theorem BkIs.blt {w : World} {b : Nat} {T : Nat → Nat} {c : Nat} {ls : List En} {hs fs : List Fr} (h : BkIs w b T c ls hs fs) : b < w.heap.size := by
  obtain ⟨_, _, _, _, _, _, _, _, _, h1, _⟩ := h.row
  exact (Array.getElem?_eq_some_iff.1 h1).1
/-- Nothing of the book's turned, but that one of its lists for use was written over. -/
theorem BkIs.kept' {w w' : World} {b : Nat} {T T' : Nat → Nat} {c : Nat} {ls : List En} {hs fs : List Fr} (h : BkIs w b T c ls hs fs) (hT : ∀ g, g < w.heap.size → T' g = T g) (hsz : w.heap.size ≤ w'.heap.size)
    (hk : ∀ g, g < w.heap.size → Bt (T g) → ¬ (8 ≤ T g ∧ T g ≤ 10) → w'.heap[g]? = w.heap[g]?) (hk2 : ∀ g, g < w.heap.size → 8 ≤ T g → T g ≤ 10 → RowN w g 310 → RowN w' g 310) : BkIs w' b T' c ls hs fs := by
  have hb := h.blt
  obtain ⟨⟨vl, vm, vf, vw, vh, vt, vb, va, vn, h1, h2, h3, h4, h5, h6, h7, h8, h9, h10⟩, tb, en, hd, fr⟩ := h
  have K : ∀ t, 1 ≤ t → t ≤ 7 → ∀ g, g < w.heap.size → T g = t → w'.heap[g]? = w.heap[g]? := fun t a1 a2 g hg ht => hk g hg (.inl (by omega)) (by omega)
  exact ⟨⟨vl, vm, vf, vw, vh, vt, vb, va, vn, (K 1 (by omega) (by omega) b hb tb).trans h1, h2.kept hT (K 2 (by omega) (by omega)), h3.kept hT (K 3 (by omega) (by omega)), h4.kept hT (K 4 (by omega) (by omega)), h5.kept hT (K 5 (by omega) (by omega)),
    h6.kept hT (K 6 (by omega) (by omega)), h7.kept hT (K 7 (by omega) (by omega)), h8.kept hT (fun g hg ht hr => hk2 g hg (by omega) (by omega) hr), h9.kept hT (fun g hg ht hr => hk2 g hg (by omega) (by omega) hr), h10.kept hT (fun g hg ht hr => hk2 g hg (by omega) (by omega) hr)⟩,
    (hT b hb).trans tb, fun e he => (en e he).kept hT hsz (fun g hg h1 h2 => hk g hg (.inr h1) (by omega)),
    fun j hj => (hd j hj).kept hT (fun g hg h => hk g hg (by rcases h with h | h <;> simp only [Bt] <;> omega) (by omega)),
    fun j hj => (fr j hj).kept hT (fun g hg h => hk g hg (by rcases h with h | h <;> simp only [Bt] <;> omega) (by omega))⟩
theorem BkIs.kept {w w' : World} {b : Nat} {T T' : Nat → Nat} {c : Nat} {ls : List En} {hs fs : List Fr} (h : BkIs w b T c ls hs fs) (hT : ∀ g, g < w.heap.size → T' g = T g) (hsz : w.heap.size ≤ w'.heap.size)
    (hk : ∀ g, g < w.heap.size → Bt (T g) → w'.heap[g]? = w.heap[g]?) : BkIs w' b T' c ls hs fs :=
  h.kept' hT hsz (fun g hg hb _ => hk g hg hb) (fun g hg h1 h2 hr => hr.kept (hk g hg (.inl (by omega))))
/-- One of its lists for use was written over. -/
theorem BkIs.over {w w' : World} {b : Nat} {T : Nat → Nat} {c : Nat} {ls : List En} {hs fs : List Fr} (h : BkIs w b T c ls hs fs) {g N : Nat} (hg : 8 ≤ T g ∧ T g ≤ 10) (hc : Chg w w' (some g)) (hr : RowN w g N) (hr2 : RowN w' g N) : BkIs w' b T c ls hs fs :=
  h.kept' (fun _ _ => rfl) hc.size (fun x hx hb hn => hc.block x hx (fun e => by cases e; exact hn hg)) (fun x hx h1 h2 h3 => by
    by_cases e : x = g
    · subst e
      obtain ⟨cs, a1, a2⟩ := hr
      obtain ⟨cs', b1, b2⟩ := h3
      rw [a1] at b1; cases b1
      rw [← a2, b2] at hr2; exact hr2
    · exact h3.kept (hc.block x hx (fun e2 => by cases e2; exact e rfl)))
/-- Tags for new blocks. -/
def tagN (T : Nat → Nat) (n t : Nat) : Nat → Nat := fun x => if x < n then T x else t
theorem tagN_old {T : Nat → Nat} {n t x : Nat} (h : x < n) : tagN T n t x = T x := if_pos h
theorem tagN_new {T : Nat → Nat} {n t x : Nat} (h : n ≤ x) : tagN T n t x = t := if_neg (by omega)
end Go.Proofs.Ytfoofipkbijajaa.Sa
