/- A step: two ports that hold alike, the book, the step's own data: what stands between two calls. No statement of the seat is proved here. -/
import Derived.Test.YtfoofipkbijajaaRefLo
import Derived.Test.YtfoofipkbijajaaRefT
import Derived.Test.YtfoofipkbijajaaRefR
import Derived.Test.YtfoofipkbijajaaRefS
import Derived.Test.YtfoofipkbijajaaGiven
import Derived.Test.YtfoofipkbijajaaOwns
import Derived.Test.YtfoofipkbijajaaOps
import Derived.Test.YtfoofipkbijajaaLoad
namespace Go.Proofs.Ytfoofipkbijajaa.Sa
open Go.RowKit Go.Proofs.Ytfoofipkbijajaa.Kit
set_option linter.unusedSimpArgs false
set_option linter.unusedVariables false
/-- A list that was handed in: nobody writes it. -/
def Arg (w : World) (T : Nat → Nat) (v : Value) (xs : List Int) : Prop := Rb w v xs ∧ (0 < xs.length → ∀ g, v.ownBlock = some g → T g = 0)
theorem Arg.kept {w w' : World} {T T' : Nat → Nat} {v : Value} {xs : List Int} (h : Arg w T v xs) (hT : ∀ g, g < w.heap.size → T' g = T g) (hk : ∀ g, g < w.heap.size → T g = 0 → w'.heap[g]? = w.heap[g]?) : Arg w' T' v xs :=
  ⟨h.1.keptp fun h0 g e hl => hk g hl (h.2 h0 g e), fun h0 g e => (hT g (h.1.blt h0 g e)).trans (h.2 h0 g e)⟩
/-- A step's data. -/
structure Oa (w : World) (T : Nat → Nat) (d : OpD) : Prop where
  kind : -9223372036854775808 ≤ d.kind ∧ d.kind ≤ 9223372036854775807
  cell : -9223372036854775808 ≤ d.cell ∧ d.cell ≤ 9223372036854775807
  tick : d.tick < 18446744073709551616
  ltick : d.ltick < 18446744073709551616
  ntick : d.ntick < 18446744073709551616
  data : Arg w T d.dv d.data
  ldata : Arg w T d.lv d.ldata
  ndata : Arg w T d.nv d.ndata
theorem Oa.kept {w w' : World} {T T' : Nat → Nat} {d : OpD} (h : Oa w T d) (hT : ∀ g, g < w.heap.size → T' g = T g) (hk : ∀ g, g < w.heap.size → T g = 0 → w'.heap[g]? = w.heap[g]?) : Oa w' T' d :=
  ⟨h.kind, h.cell, h.tick, h.ltick, h.ntick, h.data.kept hT hk, h.ldata.kept hT hk, h.ndata.kept hT hk⟩
/-- A port and the document's, declared alike. -/
structure Pr (w : World) (T : Nat → Nat) (bx by_ t : Nat) (Px Py : PA) : Prop where
  x : ∃ F, PortIs w bx F Px ∧ ∀ g, F g → T g = t + 2
  y : ∃ G, RefIs w by_ G Py ∧ ∀ g, G g → T g = t + 3
  tx : T bx = t
  ty : T by_ = t + 1
  len : Px.A.data.length ≤ 256 ∧ Px.B.data.length ≤ 256
  size : 4 ≤ Px.S ∧ Px.S ≤ 256
theorem PortIs.same {w w' : World} {b : Nat} {F : Nat → Prop} {P : PA} (h : PortIs w b F P) (hs : w.heap.size ≤ w'.heap.size) (hb : w'.heap[b]? = w.heap[b]?) (hF : ∀ g, F g → w'.heap[g]? = w.heap[g]?) : PortIs w' b F P := by
  obtain ⟨⟨rv, da, db, la, h1, hr, ha, hbb, f1, f2, f3⟩, hoff, hlt⟩ := h
  exact ⟨⟨rv, da, db, la, hb.trans h1, hr.kept fun g e hl => hF g (f1 g e), ha.kept fun g e hl => hF g (f2 g e), hbb.kept fun g e hl => hF g (f3 g e), f1, f2, f3⟩, hoff, fun x hx => Nat.lt_of_lt_of_le (hlt x hx) hs⟩
theorem RefIs.same {w w' : World} {b : Nat} {F : Nat → Prop} {P : PA} (h : RefIs w b F P) (hs : w.heap.size ≤ w'.heap.size) (hb : w'.heap[b]? = w.heap[b]?) (hF : ∀ g, F g → w'.heap[g]? = w.heap[g]?) : RefIs w' b F P := by
  obtain ⟨⟨rv, da, db, h1, hr, ha, hbb, f1, f2, f3⟩, hoff, hlt⟩ := h
  exact ⟨⟨rv, da, db, hb.trans h1, hr.kept fun g e hl => hF g (f1 g e), ha.kept fun g e hl => hF g (f2 g e), hbb.kept fun g e hl => hF g (f3 g e), f1, f2, f3⟩, hoff, fun x hx => Nat.lt_of_lt_of_le (hlt x hx) hs⟩
theorem Pr.kept {w w' : World} {T T' : Nat → Nat} {bx by_ t : Nat} {Px Py : PA} (h : Pr w T bx by_ t Px Py) (hT : ∀ g, g < w.heap.size → T' g = T g) (hs : w.heap.size ≤ w'.heap.size) (hk : ∀ g, g < w.heap.size → t ≤ T g → T g ≤ t + 3 → w'.heap[g]? = w.heap[g]?) : Pr w' T' bx by_ t Px Py := by
  obtain ⟨⟨F, hF, hFt⟩, ⟨G, hG, hGt⟩, tx, ty, hl, hsz⟩ := h
  have b1 := hF.blt
  have b2 := hG.blt
  exact ⟨⟨F, hF.same hs (hk bx b1 (by omega) (by omega)) (fun g hg => hk g (hF.lt g hg) (by rw [hFt g hg]; omega) (by rw [hFt g hg]; omega)), fun g hg => (hT g (hF.lt g hg)).trans (hFt g hg)⟩,
    ⟨G, hG.same hs (hk by_ b2 (by omega) (by omega)) (fun g hg => hk g (hG.lt g hg) (by rw [hGt g hg]; omega) (by rw [hGt g hg]; omega)), fun g hg => (hT g (hG.lt g hg)).trans (hGt g hg)⟩, (hT bx b1).trans tx, (hT by_ b2).trans ty, hl, hsz⟩
/-- What a step may turn. -/
def Sp (t s : Nat) : Prop := Bt s ∨ (t ≤ s ∧ s ≤ t + 3)
structure St (w0 w : World) (T0 T : Nat → Nat) (bx by_ b q t c : Nat) (Px Py : PA) (d : OpD) (ls : List En) (hs fs : List Fr) : Prop where
  pr : Pr w T bx by_ t Px Py
  bk : BkIs w b T c ls hs fs
  ar : Oa w T d
  row : w.heap[q]? = some (.cells (opCells d).toArray 46 (0, 0))
  tq : T q = 0
  old : ∀ x, x < w0.heap.size → T x = T0 x
  fz : Fz w0 w T0 (Sp t)
  ht : 20 ≤ t ∧ t ≤ 900
theorem St.mk' {w0 w w' : World} {T0 T T' : Nat → Nat} {bx by_ b q t c : Nat} {Px Py Px' Py' : PA} {d : OpD} {ls : List En} {hs fs fs' : List Fr} (h : St w0 w T0 T bx by_ b q t c Px Py d ls hs fs) (pr : Pr w' T' bx by_ t Px' Py') (bk : BkIs w' b T' c ls hs fs') (hT : ∀ g, g < w.heap.size → T' g = T g) (hf : Fz w w' T (Sp t)) : St w0 w' T0 T' bx by_ b q t c Px' Py' d ls hs fs' := by
  have hsz := h.fz.size
  have hq : q < w.heap.size := (Array.getElem?_eq_some_iff.1 h.row).1
  have h0 : ∀ g, g < w.heap.size → T g = 0 → w'.heap[g]? = w.heap[g]? := fun g hg h0 => hf.block g hg (by have := h.ht; simp only [Sp, Bt]; omega)
  exact ⟨pr, bk, h.ar.kept hT h0, (h0 q hq h.tq).trans h.row, (hT q hq).trans h.tq, fun x hx => (hT x (by omega)).trans (h.old x hx), h.fz.trans hf h.old, h.ht⟩
/-- Nothing old turned. -/
theorem St.grow {w0 w w' : World} {T0 T T' : Nat → Nat} {bx by_ b q t c : Nat} {Px Py : PA} {d : OpD} {ls : List En} {hs fs : List Fr} (h : St w0 w T0 T bx by_ b q t c Px Py d ls hs fs) (hc : Chg w w' none) (hT : ∀ g, g < w.heap.size → T' g = T g) : St w0 w' T0 T' bx by_ b q t c Px Py d ls hs fs :=
  h.mk' (h.pr.kept hT hc.size (fun g hg _ _ => hc.block g hg (by simp))) (h.bk.kept hT hc.size (fun g hg _ => hc.block g hg (by simp))) hT (Fz.of_chg hc (fun _ e => by cases e))
/-- The book alone turned. -/
theorem St.book {w0 w w' : World} {T0 T T' : Nat → Nat} {bx by_ b q t c : Nat} {Px Py : PA} {d : OpD} {ls : List En} {hs fs fs' : List Fr} (h : St w0 w T0 T bx by_ b q t c Px Py d ls hs fs) (bk : BkIs w' b T' c ls hs fs') (hT : ∀ g, g < w.heap.size → T' g = T g) {S : Nat → Prop} (hf : Fz w w' T S) (hS : ∀ s, S s → 1 ≤ s ∧ s ≤ 11) : St w0 w' T0 T' bx by_ b q t c Px Py d ls hs fs' :=
  h.mk' (h.pr.kept hT hf.size (fun g hg h1 h2 => hf.block g hg (fun hs => by have := hS _ hs; have := h.ht; omega))) bk hT (hf.mono fun s hs => .inl (.inl (hS s hs)))
/-- The port turned. -/
theorem St.onx {w0 w w' : World} {T0 T : Nat → Nat} {bx by_ b q t c : Nat} {Px Px' Py : PA} {d : OpD} {ls : List En} {hs fs : List Fr} (h : St w0 w T0 T bx by_ b q t c Px Py d ls hs fs) {F F' : Nat → Prop} (hF : ∀ g, F g → T g = t + 2) (hFl : ∀ g, F g → g < w.heap.size) (hc : Chg w w' (some bx)) (hP : PortIs w' bx F' Px') (hsub : ∀ x, F' x → F x ∨ w.heap.size ≤ x)
    (hl : Px'.A.data.length ≤ 256 ∧ Px'.B.data.length ≤ 256) (hz : Px'.S = Px.S) : St w0 w' T0 (tagN T w.heap.size (t + 2)) bx by_ b q t c Px' Py d ls hs fs := by
  have hT : ∀ g, g < w.heap.size → tagN T w.heap.size (t + 2) g = T g := fun g hg => tagN_old hg
  obtain ⟨F0, hF0, _⟩ := h.pr.x
  obtain ⟨G, hG, hGt⟩ := h.pr.y
  have hne : ∀ g, T g ≠ t → some g ≠ some bx := fun g hg e => hg (by injection e with e; rw [e]; exact h.pr.tx)
  have b1 := hF0.blt
  have b2 := hG.blt
  refine h.mk' ⟨⟨F', hP, fun g hg => ?_⟩, ⟨G, hG.same hc.size (hc.block by_ b2 (hne by_ (by rw [h.pr.ty]; omega))) (fun g hg => hc.block g (hG.lt g hg) (hne g (by rw [hGt g hg]; omega))), fun g hg => (hT g (hG.lt g hg)).trans (hGt g hg)⟩, (hT bx b1).trans h.pr.tx, (hT by_ b2).trans h.pr.ty, hl, by rw [hz]; exact h.pr.size⟩
    (h.bk.kept hT hc.size (fun g hg hb => hc.block g hg (hne g (by have := h.ht; simp only [Bt] at hb; omega)))) hT (Fz.of_chg hc (fun g e _ => by cases e; exact .inr (by rw [h.pr.tx]; omega)))
  rcases hsub g hg with h1 | h1
  · rw [hT g (hFl g h1)]; exact hF g h1
  · exact tagN_new h1
/-- The document's port turned. -/
theorem St.ony {w0 w w' : World} {T0 T : Nat → Nat} {bx by_ b q t c : Nat} {Px Py Py' : PA} {d : OpD} {ls : List En} {hs fs : List Fr} (h : St w0 w T0 T bx by_ b q t c Px Py d ls hs fs) {F F' : Nat → Prop} (hF : ∀ g, F g → T g = t + 3) (hFl : ∀ g, F g → g < w.heap.size) (hc : Chg w w' (some by_)) (hP : RefIs w' by_ F' Py') (hsub : ∀ x, F' x → F x ∨ w.heap.size ≤ x) : St w0 w' T0 (tagN T w.heap.size (t + 3)) bx by_ b q t c Px Py' d ls hs fs := by
  have hT : ∀ g, g < w.heap.size → tagN T w.heap.size (t + 3) g = T g := fun g hg => tagN_old hg
  obtain ⟨F0, hF0, hFt⟩ := h.pr.x
  obtain ⟨G, hG, hGt⟩ := h.pr.y
  have hne : ∀ g, T g ≠ t + 1 → some g ≠ some by_ := fun g hg e => hg (by injection e with e; rw [e]; exact h.pr.ty)
  have b1 := hF0.blt
  have b2 := hG.blt
  refine h.mk' ⟨⟨F0, hF0.same hc.size (hc.block bx b1 (hne bx (by rw [h.pr.tx]; omega))) (fun g hg => hc.block g (hF0.lt g hg) (hne g (by rw [hFt g hg]; omega))), fun g hg => (hT g (hF0.lt g hg)).trans (hFt g hg)⟩, ⟨F', hP, fun g hg => ?_⟩, (hT bx b1).trans h.pr.tx, (hT by_ b2).trans h.pr.ty, h.pr.len, h.pr.size⟩
    (h.bk.kept hT hc.size (fun g hg hb => hc.block g hg (hne g (by have := h.ht; simp only [Bt] at hb; omega)))) hT (Fz.of_chg hc (fun g e _ => by cases e; exact .inr (by rw [h.pr.ty]; omega)))
  rcases hsub g hg with h1 | h1
  · rw [hT g (hFl g h1)]; exact hF g h1
  · exact tagN_new h1
/-- What a step gives. -/
def StepPost (w : World) (T : Nat → Nat) (bx by_ b t c : Nat) (ls : List En) (hs fs : List Fr) (rs : List Int) (e : Ending) (w' : World) : Prop :=
  e = .returned (.bool true) ∧ ∃ T' P fs', Pr w' T' bx by_ t P P ∧ BkIs w' b T' c ls hs fs' ∧ fs'.length ≤ fs.length + 4 ∧ (∀ x, x < w.heap.size → T' x = T x) ∧ Fz w w' T (Sp t)
/-- The start: the step's data in a box. -/
theorem St.start {w : World} {T : Nat → Nat} {bx by_ b t c : Nat} {P : PA} {d : OpD} {ls : List En} {hs fs : List Fr} (pr : Pr w T bx by_ t P P) (bk : BkIs w b T c ls hs fs) (ar : Oa w T d) (ht : 20 ≤ t ∧ t ≤ 900) :
    St w (w.alloc (.cells (opCells d).toArray 46)) T (tagN T w.heap.size 0) bx by_ b w.heap.size t c P P d ls hs fs := by
  have hc : Chg w (w.alloc (.cells (opCells d).toArray 46)) none := (Chg.refl w none).alloc _
  have hT : ∀ g, g < w.heap.size → tagN T w.heap.size 0 g = T g := fun g hg => tagN_old hg
  exact ⟨pr.kept hT hc.size (fun g hg _ _ => hc.block g hg (by simp)), bk.kept hT hc.size (fun g hg _ => hc.block g hg (by simp)), ar.kept hT (fun g hg _ => hc.block g hg (by simp)), heap_alloc_last w _, tagN_new (Nat.le_refl _), hT, Fz.of_chg hc (fun _ e => by cases e), ht⟩
theorem St.done {w0 w : World} {T0 T : Nat → Nat} {bx by_ b q t c : Nat} {P : PA} {d : OpD} {ls : List En} {hs fs fs0 : List Fr} {rs : List Int} (h : St w0 w T0 T bx by_ b q t c P P d ls hs fs) (hl : fs.length ≤ fs0.length + 4) : StepPost w0 T0 bx by_ b t c ls hs fs0 rs (.returned (.bool true)) w :=
  ⟨rfl, T, P, fs, h.pr, h.bk, hl, h.old, h.fz⟩
end Go.Proofs.Ytfoofipkbijajaa.Sa
