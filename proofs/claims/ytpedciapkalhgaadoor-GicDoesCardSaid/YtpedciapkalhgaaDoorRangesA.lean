/- GicRanges: what stands in a round, and what a round keeps. No statement of the seat is proved here. -/
import Derived.Test.YtpedciapkalhgaaDoorOwn
import Derived.Test.YtpedciapkalhgaaDoorApartB
namespace Go.Proofs.YtpedciapkalhgaaDoor.Gk
open Go.RowKit Go.Shelf Go.Proofs.YtpedciapkalhgaaDoor.Kit
attribute [local go_sem] Oper.semAt_some
set_option linter.unusedSimpArgs false
set_option linter.unusedVariables false

theorem isC_pk9 (c : Int) : pk c 9 = 0 ∨ isC (pk c 9) = true := by
  have := pk_range c 9 (by omega)
  simp [isC]; omega
/-- Route of a line that there is to a cell that there is, or to nobody. -/
theorem route_pick (w : World) (b : Nat) (r : List Int) (p m : Nat) (l c : Int) (h : GicAt w b r p m) (hl : 0 ≤ l ∧ l < 32) (hc : c = 0 ∨ isC c = true) :
    Calls Tryd.prog 20 #[.pointer (some ⟨b, 0, none⟩), .int .i64 l, .int .i64 c] w fun e w' => e = .returned (.int .i64 0) ∧ (∃ r' p' m', GicAt w' b r' p' m') ∧ Chg w w' b := by
  obtain ⟨k, rfl⟩ := Int.eq_ofNat_of_zero_le hl.1
  have hk : k < 32 := by omega
  by_cases e : nth r k = c
  · exact (route_same w b r p m k c h hk hc e).mono fun e w' ⟨h1, h2⟩ => ⟨h1, ⟨r, p, m, h2 ▸ h⟩, h2 ▸ Chg.refl w b⟩
  · exact (route_new w b r p m k c h hk hc e).mono fun e w' ⟨h1, h2, h3⟩ => ⟨h1, ⟨_, _, _, h2⟩, h3⟩
theorem pick_still (w : World) (c n : Int) (hc : i64ok c) (hn : 0 < n) (hn2 : n ≤ 4096) :
    Calls Tryd.prog 11 #[.int .i64 c, .int .i64 n] w fun e w' => e = .returned (.int .i64 (pk c n)) ∧ w' = w := (pick_any w c n hc hn hn2).mono fun _ _ h => ⟨h.1, h.2.symm⟩
/-- The controller, whatever it has. -/
def Gs (w : World) (b : Nat) : Prop := ∃ r p m, GicAt w b r p m
/-- Of what was there blocks g and n alone may have turned. -/
structure Old2 (w w' : World) (g n : Nat) : Prop where
  os : w'.os = w.os
  tape : w'.tape = w.tape
  output : w'.output = w.output
  size : w.heap.size ≤ w'.heap.size
  block : ∀ i, i < w.heap.size → i ≠ g → i ≠ n → w'.heap[i]? = w.heap[i]?
theorem Old2.refl (w : World) (g n : Nat) : Old2 w w g n := ⟨rfl, rfl, rfl, Nat.le_refl _, fun _ _ _ _ => rfl⟩
theorem Old2.grown {w w1 w2 : World} {g n : Nat} (h : Old2 w w1 g n) {row : Option Nat} (k : w1.grownBy w2 row) (hr : ∀ j, row = some j → j = g ∨ j = n ∨ w.heap.size ≤ j) : Old2 w w2 g n :=
  ⟨k.os.trans h.os, k.tape.trans h.tape, k.output.trans h.output, Nat.le_trans h.size k.size, fun i hi h1 h2 => (k.block i (Nat.lt_of_lt_of_le hi h.size) (fun e => by rcases hr i e.symm with e | e | e <;> omega)).trans (h.block i hi h1 h2)⟩
theorem Old2.chg {w w1 w2 : World} {g n : Nat} (h : Old2 w w1 g n) (k : Chg w1 w2 g) : Old2 w w2 g n := h.grown k fun j e => .inl (Option.some.inj e).symm
theorem Old2.set {w w1 : World} {g n : Nat} (h : Old2 w w1 g n) (v : Value) : Old2 w (w1.setCell ⟨n, 0, none⟩ v) g n := h.grown (grownBy_setCell' w1 n v) fun j e => .inr (.inl (Option.some.inj e).symm)
theorem Old2.drew {w w1 : World} {g n : Nat} (h : Old2 w w1 g n) : Old2 w w1.drew g n := ⟨h.os, h.tape, h.output, h.size, h.block⟩
theorem Old2.cell {w w' : World} {g n : Nat} (h : Old2 w w' g n) {b o : Nat} {v : Value} (hc : w.cell? ⟨b, o, none⟩ = some v) (h1 : b ≠ g) (h2 : b ≠ n) : w'.cell? ⟨b, o, none⟩ = some v := by
  rw [World.cell?_of_block (h.block b (World.block_lt_of_cell? w _ hc) h1 h2)]; exact hc
theorem Old2.below {w w' : World} {g n B : Nat} (h : Old2 w w' g n) (hg : B ≤ g) (hn : B ≤ n) (hB : B ≤ w.heap.size) : Below B w w' :=
  ⟨h.os, h.tape, h.output, h.size, fun i hi => h.block i (by omega) (by omega) (by omega)⟩
/-- Between two rounds: so many have come; they are a beginning of L. -/
def St (W0 : World) (g n : Nat) (L : List Nat) (pre : List Nat) (W : World) : Prop :=
  Gs W g ∧ Boxed W n 3 (.int .i64 pre.length) ∧ Old2 W0 W g n ∧ pre <+: L
theorem st_own (W0 : World) (g n : Nat) (L : List Nat) (hg : g < W0.heap.size) (hn : n < W0.heap.size) : OwnFrom W0.heap.size (St W0 g n L) := fun s A B row hs hgr hr => by
  obtain ⟨⟨r, p, m, h1⟩, h2, h3, h4⟩ := hs
  refine ⟨⟨r, p, m, h1.kept hgr (fun e => by have := (hr _ e).1; omega)⟩, h2.kept hgr (fun e => by have := (hr _ e.symm).1; omega), h3.grown hgr (fun j e => .inr (.inr (hr j e).1)), h4⟩
/-- A round has left: what came is no beginning of L. -/
def Sx (L : List Nat) (c : Code) (pre : List Nat) (W : World) : Prop := c = .ret ∧ ¬ pre <+: L
theorem sx_own (B : Nat) (L : List Nat) (c : Code) : OwnFrom B (Sx L c) := fun _ _ _ _ hs _ _ => hs
theorem pre_next {L pre : List Nat} {x : Nat} (h : pre <+: L) (hl : pre.length < L.length) : pre ++ [x] <+: L ↔ x = L.getD pre.length 0 := by
  obtain ⟨t, rfl⟩ := h
  cases t with
  | nil => simp at hl
  | cons y t =>
    rw [List.prefix_append_right_inj]
    simp [List.getD_eq_getElem?_getD]
theorem pre_over {L pre : List Nat} {x : Nat} (hl : ¬ pre.length < L.length) : ¬ pre ++ [x] <+: L := fun h => by
  have := h.length_le; simp at this; omega
/-- What stands in the call when a range begins: its boxes, the controller, the marks of the ranges ahead. -/
structure Env (w W : World) (g gb : Nat) (v3 : Value) (q : Int) (Ds : List Nat) : Prop where
  gs : Gs W g
  b7 : Boxed W w.heap.size 35 v3
  b8 : Boxed W (w.heap.size + 1) 4 (.bool false)
  b10 : Boxed W gb 24 (.pointer (some ⟨g, 0, none⟩))
  bl : Boxed W (gb + 1) 24 (.pointer (some ⟨g, 0, none⟩))
  bc : Boxed W (gb + 1 + 1) 3 (.int .i64 q)
  below : Below w.heap.size w W
  marks : ∀ D, D ∈ Ds → gb + 1 + 1 < D ∧ W.heap[D]? = some (.deferred (some []))
theorem Env.size {w W : World} {g gb : Nat} {v3 : Value} {q : Int} {Ds : List Nat} (h : Env w W g gb v3 q Ds) : gb + 1 + 1 < W.heap.size := h.bc.lt
theorem Env.grown {w W W' : World} {g gb : Nat} {v3 : Value} {q : Int} {Ds : List Nat} (h : Env w W g gb v3 q Ds) (h1 : w.heap.size + 1 < g) (h2 : g < gb) {row : Option Nat} (k : W.grownBy W' row)
    (hr : ∀ j, row = some j → (j = g ∨ gb + 1 + 1 < j) ∧ j ∉ Ds) (hg : Gs W' g) : Env w W' g gb v3 q Ds := by
  refine ⟨hg, h.b7.kept k fun e => ?_, h.b8.kept k fun e => ?_, h.b10.kept k fun e => ?_, h.bl.kept k fun e => ?_, h.bc.kept k fun e => ?_, h.below.grown k h.below.size fun j e => ?_, fun D hD => ⟨(h.marks D hD).1, ?_⟩⟩
  · have := (hr _ e.symm).1; omega
  · have := (hr _ e.symm).1; omega
  · have := (hr _ e.symm).1; omega
  · have := (hr _ e.symm).1; omega
  · have := (hr _ e.symm).1; omega
  · have := (hr _ e).1; omega
  · have hm := (h.marks D hD).2
    rw [k.block D (Array.getElem?_eq_some_iff.1 hm).1 (fun e => (hr D e.symm).2 hD)]; exact hm
theorem Gs.kept {w w' : World} {b : Nat} (h : Gs w b) {row : Option Nat} (hg : w.grownBy w' row) (hn : row ≠ some b) : Gs w' b := by
  obtain ⟨r, p, m, h⟩ := h; exact ⟨r, p, m, h.kept hg hn⟩
theorem Env.alloc {w W : World} {g gb : Nat} {v3 : Value} {q : Int} {Ds : List Nat} (h : Env w W g gb v3 q Ds) (h1 : w.heap.size + 1 < g) (h2 : g < gb) (o : Obj) : Env w (W.alloc o) g gb v3 q Ds :=
  h.grown h1 h2 (World.grownBy_alloc W o none) (fun j e => by cases e) (h.gs.kept (World.grownBy_alloc W o none) (by simp))
theorem Env.old {w W W' : World} {g gb n : Nat} {v3 : Value} {q : Int} {Ds : List Nat} (h : Env w W g gb v3 q Ds) (h1 : w.heap.size + 1 < g) (h2 : g < gb) (k : Old2 W W' g n) (hn : gb + 1 + 1 < n) (hnD : n ∉ Ds) (hg : Gs W' g) : Env w W' g gb v3 q Ds := by
  have hs := h.size
  refine ⟨hg, ?_, ?_, ?_, ?_, ?_, ?_, fun D hD => ⟨(h.marks D hD).1, ?_⟩⟩
  · exact (k.block _ h.b7.lt (by omega) (by omega)).trans h.b7
  · exact (k.block _ h.b8.lt (by omega) (by omega)).trans h.b8
  · exact (k.block _ h.b10.lt (by omega) (by omega)).trans h.b10
  · exact (k.block _ h.bl.lt (by omega) (by omega)).trans h.bl
  · exact (k.block _ h.bc.lt (by omega) (by omega)).trans h.bc
  · exact h.below.trans (k.below (by omega) (by omega) h.below.size)
  · have hm := h.marks D hD
    exact (k.block D (Array.getElem?_eq_some_iff.1 hm.2).1 (by omega) (fun e => hnD (e ▸ hD))).trans hm.2
theorem Env.mark {w W : World} {g gb : Nat} {v3 : Value} {q : Int} {Ds : List Nat} (h : Env w W g gb v3 q Ds) {D : Nat} (hD : gb + 1 + 1 < D) (hm : W.heap[D]? = some (.deferred (some []))) : Env w W g gb v3 q (D :: Ds) :=
  ⟨h.gs, h.b7, h.b8, h.b10, h.bl, h.bc, h.below, fun E hE => by rcases List.mem_cons.1 hE with rfl | hE; exact ⟨hD, hm⟩; exact h.marks E hE⟩
theorem cell_alloc_l {W : World} {a : Addr} {v : Value} (o : Obj) (h : W.cell? a = some v) : (W.alloc o).cell? a = some v := cell_kept h (World.grownBy_alloc W o none) (fun r e => by cases e)
theorem set_chg (W : World) (n : Nat) (v : Value) : Chg W (W.setCell ⟨n, 0, none⟩ v) n := (Chg.refl W n).set 0 v
theorem kf_chg {B : Nat} {W W' : World} {g : Nat} (h : Chg W W' g) (hg : g < B) : KeepsFrom B W W' := KeepsFrom.of_grownBy h (fun j e => by cases e; exact hg)
/-- A round has gone on. -/
theorem st_next {wA W W8 : World} {g n : Nat} {L pre : List Nat} {x : Nat} (h : St wA g n L pre W) (hg : g < wA.heap.size) (hn : n < wA.heap.size) (hg0 : g ≠ 0) (hn0 : n ≠ 0) (hgn : g ≠ n) (c : Chg W W8 g) (G8 : Gs W8 g) (hpx : pre ++ [x] <+: L) :
    KeepsFrom wA.heap.size W (W8.setCell ⟨n, 0, none⟩ (.int .i64 ((pre.length : Int) + 1))) ∧ KpT W (W8.setCell ⟨n, 0, none⟩ (.int .i64 ((pre.length : Int) + 1))) ∧ St wA g n L (pre ++ [x]) (W8.setCell ⟨n, 0, none⟩ (.int .i64 ((pre.length : Int) + 1))) := by
  refine ⟨(kf_chg c hg).trans (kf_chg (set_chg W8 n _) hn), fun hT => (hT.kept c hg0).kept (set_chg W8 n _) hn0, G8.kept (set_chg W8 n _) (fun e => hgn (Option.some.inj e).symm), ?_, (h.2.2.1.chg c).set _, hpx⟩
  have := (h.2.1.kept c (fun e => hgn (Option.some.inj e).symm)).set (.int .i64 ((pre.length : Int) + 1))
  rw [List.length_append, List.length_cons, List.length_nil]
  exact this
theorem eql_func (a b : Value) : ∀ w, (binOp .eql 47 (.func (.func 34) #[] #[a, b]) .nilFunc).run Tryd.prog w = .ok (.bool false) w := fun _ => by kernel_rfl
end Go.Proofs.YtpedciapkalhgaaDoor.Gk
