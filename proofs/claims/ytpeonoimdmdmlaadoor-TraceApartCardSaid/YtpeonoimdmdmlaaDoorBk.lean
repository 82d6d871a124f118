/- What the walk of TraceApart keeps: the list with others put in. No statement of the seat is proved here. -/
import Derived.Test.YtpeonoimdmdmlaaDoorAll
import Derived.Test.YtpeonoimdmdmlaaDoorPart
namespace Go.Proofs.YtpeonoimdmdmlaaDoor.Tr
open Go.RowKit Go.Proofs.YtpeonoimdmdmlaaDoor.Kit
set_option linter.unusedSimpArgs false
set_option linter.unusedVariables false
/-- Integers. -/
structure Is (w : World) (v : Value) (ws : List Int) : Prop where
  at_ : ∃ A cap, v = .slice A ws.length cap ∧ (0 < ws.length → ∃ g o, A = some ⟨g, o, none⟩ ∧ ∀ k (h : k < ws.length), w.cell? ⟨g, o + k, none⟩ = some (.int .i64 ws[k]))
  okay : ∀ n ∈ ws, i64ok n
theorem Rs.below {w w' : World} {v : Value} {rs : List Rw} (h : Rs w v rs) (hb : Below w.heap.size w w') : Rs w' v rs := by
  obtain ⟨⟨A, cap, hv, hc⟩, hok⟩ := h
  refine ⟨⟨A, cap, hv, fun h0 => ?_⟩, hok⟩
  obtain ⟨g, o, hA, hcc⟩ := hc h0
  exact ⟨g, o, hA, fun k hk i u hu => by
    have h1 := hcc k hk i u hu
    exact (hb.cell (p := ⟨g, o + k * 6 + i, none⟩) (World.block_lt_of_cell? w _ h1)).trans h1⟩
theorem flt_snoc_no {c : Int} {B : List Ob} {o : Ob} (h : o.cell ≠ c) : flt c (B ++ [o]) = flt c B := by
  unfold flt; rw [List.filter_append]; simp [List.filter_cons, h]
theorem flt_snoc_yes {c : Int} {B : List Ob} {o : Ob} (h : o.cell = c) : flt c (B ++ [o]) = flt c B ++ [o] := by
  unfold flt; rw [List.filter_append]; simp [List.filter_cons, h]
theorem flt_all {c : Int} {L : List Ob} (h : ∀ o ∈ L, o.cell = c) : flt c L = L := by
  unfold flt; exact List.filter_eq_self.2 fun o ho => by simp [h o ho]
/-- The list in which others were put. -/
structure Bk (n₀ : Nat) (w2 wr : World) (c : Int) (L : List Ob) (i nn : Nat) (b : Value) (B : List Ob) : Prop where
  own : wr.ownsRow n₀ 31 6 b B.length (rows oc B)
  ok : ∀ o ∈ B, Ok o
  fl : flt c B = L.take i
  len : B.length ≤ min i L.length + nn
  below : Below n₀ w2 wr
theorem Bk.grow {n₀ : Nat} {w2 wr : World} {c : Int} {L : List Ob} {i nn : Nat} {b : Value} {B : List Ob} (h : Bk n₀ w2 wr c L i nn b B) {W4 W5 : World} (hb : Below wr.heap.size wr W4) (hn : n₀ ≤ wr.heap.size) {o : Ob} {v5 : Value}
    (hown : W5.ownsRow n₀ 31 6 v5 (B.length + 1) (rows oc B ++ rows oc [o])) (hgr : W4.grownBy W5 b.ownBlock) :
    W5.ownsRow n₀ 31 6 v5 (B ++ [o]).length (rows oc (B ++ [o])) ∧ Below n₀ w2 W5 := by
  refine ⟨by rw [List.length_append, rows_append]; exact hown, ?_⟩
  have hb2 := h.below.trans (hb.mono hn)
  refine hb2.grown hgr (Nat.le_trans hn hb.size) (fun j e => ?_)
  rcases h.own.2 with ⟨h, _⟩ | ⟨g, cap, cur, h, h1, _⟩
  · rw [h] at e; cases e
  · rw [h] at e; cases e; exact h1
theorem Bk.other {n₀ : Nat} {w2 wr : World} {c : Int} {L : List Ob} {i nn : Nat} {b : Value} {B : List Ob} (h : Bk n₀ w2 wr c L i nn b B) {W4 W5 : World} (hb : Below wr.heap.size wr W4) (hn : n₀ ≤ wr.heap.size) {o : Ob} {v5 : Value}
    (hown : W5.ownsRow n₀ 31 6 v5 (B.length + 1) (rows oc B ++ rows oc [o])) (hgr : W4.grownBy W5 b.ownBlock) (ho : Ok o) (hc : o.cell ≠ c) : Bk n₀ w2 W5 c L i (nn + 1) v5 (B ++ [o]) := by
  obtain ⟨h1, h2⟩ := h.grow hb hn hown hgr
  exact ⟨h1, fun x hx => (List.mem_append.1 hx).elim (h.ok x) (fun e => by rw [List.mem_singleton.1 e]; exact ho), (flt_snoc_no hc).trans h.fl, by rw [List.length_append]; have := h.len; simp; omega, h2⟩
theorem Bk.mine {n₀ : Nat} {w2 wr : World} {c : Int} {L : List Ob} {i nn : Nat} {b : Value} {B : List Ob} (h : Bk n₀ w2 wr c L i nn b B) {W4 W5 : World} (hb : Below wr.heap.size wr W4) (hn : n₀ ≤ wr.heap.size) (hi : i < L.length) {v5 : Value}
    (hown : W5.ownsRow n₀ 31 6 v5 (B.length + 1) (rows oc B ++ rows oc [L[i]])) (hgr : W4.grownBy W5 b.ownBlock) (ho : Ok L[i]) (hc : L[i].cell = c) : Bk n₀ w2 W5 c L (i + 1) nn v5 (B ++ [L[i]]) := by
  obtain ⟨h1, h2⟩ := h.grow hb hn hown hgr
  exact ⟨h1, fun x hx => (List.mem_append.1 hx).elim (h.ok x) (fun e => by rw [List.mem_singleton.1 e]; exact ho), by rw [flt_snoc_yes hc, h.fl, List.take_succ_eq_append_getElem hi], by rw [List.length_append]; have := h.len; simp; omega, h2⟩
theorem Bk.skip {n₀ : Nat} {w2 wr : World} {c : Int} {L : List Ob} {i nn : Nat} {b : Value} {B : List Ob} (h : Bk n₀ w2 wr c L i nn b B) (hi : i = L.length) : Bk n₀ w2 wr c L (i + 1) nn b B :=
  ⟨h.own, h.ok, by rw [h.fl, hi, List.take_of_length_le (Nat.le_refl _), List.take_of_length_le (by omega)], by have := h.len; omega, h.below⟩
/-- Another cell. -/
theorem other_cell (c p : Int) (hc : 1 ≤ c ∧ c ≤ 8) (hp : 0 ≤ p ∧ p < 7) : 1 ≤ 1 + (c + p) % 8 ∧ 1 + (c + p) % 8 ≤ 8 ∧ 1 + (c + p) % 8 ≠ c := by omega
/-- A list whose first k are a cell's. -/
structure Ak (n₀ : Nat) (w wr : World) (c : Int) (k n : Nat) (v : Value) (L : List Ob) : Prop where
  own : wr.ownsRow n₀ 31 6 v L.length (rows oc L)
  len : L.length = n
  ok : ∀ o ∈ L, Ok o
  mine : ∀ j (h : j < L.length), j < k → L[j].cell = c
  below : Below n₀ w wr
theorem Ak.step {n₀ : Nat} {w wr : World} {c : Int} {k n : Nat} {v : Value} {L : List Ob} (h : Ak n₀ w wr c k n v L) (hk : k < n) (hc : 1 ≤ c ∧ c ≤ 8) :
    ∃ g cap, v = .slice (some ⟨g, 0, none⟩) n cap ∧ g < wr.heap.size ∧ (∃ u, wr.cell? ⟨g, k * 6 + 1, none⟩ = some u) ∧ wr.frozen? ⟨g, k * 6 + 1, none⟩ = false ∧ ∃ L', Ak n₀ w (wr.setCell ⟨g, k * 6 + 1, none⟩ (.int .i64 c)) c (k + 1) n v L' := by
  have hk2 : k < L.length := by rw [h.len]; exact hk
  obtain ⟨g, cap, hv, hg, hgl, hcl, hf, hs⟩ := Ol.at_ (show Os wr n₀ v L from h.own) oc_len hk2
  refine ⟨g, cap, by rw [← h.len]; exact hv, hgl, ⟨_, hcl 1 _ (by omega) rfl⟩, hf 1, L.set k { L[k] with cell := c }, ?_, by rw [List.length_set]; exact h.len, fun o ho => ?_, fun j hj hlt => ?_, h.below.setCell (p := ⟨g, k * 6 + 1, none⟩) hg _⟩
  · exact hs 1 { L[k] with cell := c } (.int .i64 c) (by omega) rfl
  · rcases List.mem_or_eq_of_mem_set ho with h1 | h1
    · exact h.ok o h1
    · have := h.ok _ (List.getElem_mem hk2)
      rw [h1]; exact ⟨this.tick, hc, this.pc, this.a, this.b, this.kind⟩
  · rw [List.getElem_set]
    split
    · rfl
    · exact h.mine j (by simpa using hj) (by omega)
end Go.Proofs.YtpeonoimdmdmlaaDoor.Tr
