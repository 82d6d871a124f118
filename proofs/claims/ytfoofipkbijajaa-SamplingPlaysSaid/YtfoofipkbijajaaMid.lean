/- The book while it is looked through: what stands at each stage. No statement of the seat is proved here. -/
import Derived.Test.YtfoofipkbijajaaOwns
import Derived.Test.YtfoofipkbijajaaLonger
import Derived.Deep.CutRange
namespace Go.Proofs.Ytfoofipkbijajaa.Sa
open Go.RowKit Go.Proofs.Ytfoofipkbijajaa.Kit
set_option linter.unusedSimpArgs false
set_option linter.unusedVariables false
theorem Ps.drewN {w W3 : World} {b : Nat} {cs' : Array Value} {e : TypeId} {vk v' : Value} {n : Nat} {ys : List Value} (h : Ps w W3 b cs' e vk v' n ys) (q : Nat) : Ps w (W3.drewN q) b cs' e vk v' n ys :=
  ⟨h.row, h.own, h.where_, ⟨h.fz.os, h.fz.tape, h.fz.output, h.fz.size, h.fz.block⟩, h.size⟩
/-- The book's cells. -/
structure BR where
  vl : Value
  vm : Value
  vf : Value
  vw : Value
  vh : Value
  vt : Value
  vb : Value
  va : Value
  vn : Value
def BR.cs (R : BR) : Array Value := #[R.vl, R.vm, R.vf, R.vw, R.vh, R.vt, R.vb, R.va, R.vn]
structure Mid (w : World) (b : Nat) (T : Nat → Nat) (c : Nat) (ls : List En) (hs fs : List Fr) (cur : List En) (ct : Nat → List Int) (R : BR) : Prop where
  row : w.heap[b]? = some (.cells R.cs 55 (0, 0))
  rl : RowT w T 2 33 R.vl (cur.map (·.v))
  rm : RowT w T 3 5 R.vm (cur.map fun e => .int .u8 e.m)
  rf : RowT w T 4 33 R.vf (fs.map (·.v))
  rw_ : RowT w T 5 33 R.vw (fs.map (·.w))
  rh : RowT w T 6 33 R.vh (hs.map (·.v))
  rb : BufT w T 8 R.vb
  ra : BufT w T 9 R.va
  rn : BufT w T 10 R.vn
  tb : T b = 1
  old : ∀ e ∈ ls, EnIs w T c e
  pool : ∀ j (h : j < hs.length), Own w 0 hs[j].v (ct j) ∧ (ct j).length = hs[j].xs.length ∧ hs[j].xs.length ≤ 256 ∧ ∀ g, hs[j].v.ownBlock = some g → T g = 1000 + c + j
  fr : ∀ j (h : j < fs.length), FrIs w T (1000 + c + hs.length + j) fs[j]
theorem BkIs.mid {w : World} {b : Nat} {T : Nat → Nat} {c : Nat} {ls : List En} {hs fs : List Fr} (h : BkIs w b T c ls hs fs) : ∃ R, Mid w b T c ls hs fs ls (fun j => (hs.map (·.xs)).getD j []) R ∧ RowT w T 7 33 R.vt (hs.map (·.w)) := by
  obtain ⟨⟨vl, vm, vf, vw, vh, vt, vb, va, vn, h1, h2, h3, h4, h5, h6, h7, h8, h9, h10⟩, tb, en, hd, fr⟩ := h
  refine ⟨⟨vl, vm, vf, vw, vh, vt, vb, va, vn⟩, ⟨h1, h2, h3, h4, h5, h6, h8, h9, h10, tb, en, fun j hj => ?_, fr⟩, h7⟩
  have e : (hs.map (·.xs)).getD j [] = hs[j].xs := by simp [List.getD_eq_getElem?_getD, List.getElem?_map, List.getElem?_eq_getElem hj]
  obtain ⟨a1, a2, a3, a4, a5⟩ := hd j hj
  rw [e]
  exact ⟨a1, rfl, a2, a4⟩
theorem Mid.kept {w w' : World} {b : Nat} {T T' : Nat → Nat} {c : Nat} {ls : List En} {hs fs : List Fr} {cur : List En} {ct : Nat → List Int} {R : BR} (h : Mid w b T c ls hs fs cur ct R) (hT : ∀ g, g < w.heap.size → T' g = T g) (hsz : w.heap.size ≤ w'.heap.size)
    (hk : ∀ g, g < w.heap.size → Bt (T g) → w'.heap[g]? = w.heap[g]?) : Mid w' b T' c ls hs fs cur ct R := by
  have hb : b < w.heap.size := (Array.getElem?_eq_some_iff.1 h.row).1
  have K : ∀ t, 1 ≤ t → t ≤ 11 → ∀ g, g < w.heap.size → T g = t → w'.heap[g]? = w.heap[g]? := fun t a1 a2 g hg ht => hk g hg (.inl (by omega))
  exact ⟨(K 1 (by omega) (by omega) b hb h.tb).trans h.row, h.rl.kept hT (K 2 (by omega) (by omega)), h.rm.kept hT (K 3 (by omega) (by omega)), h.rf.kept hT (K 4 (by omega) (by omega)), h.rw_.kept hT (K 5 (by omega) (by omega)), h.rh.kept hT (K 6 (by omega) (by omega)),
    h.rb.kept hT (fun g hg ht hr => hr.kept (K 8 (by omega) (by omega) g hg ht)), h.ra.kept hT (fun g hg ht hr => hr.kept (K 9 (by omega) (by omega) g hg ht)), h.rn.kept hT (fun g hg ht hr => hr.kept (K 10 (by omega) (by omega) g hg ht)),
    (hT b hb).trans h.tb, fun e he => (h.old e he).kept hT hsz (fun g hg h1 h2 => hk g hg (.inr h1)),
    fun j hj => by
      obtain ⟨a1, a2, a3, a4⟩ := h.pool j hj
      exact ⟨own_same a1 fun g e => hk g (own_size a1 g e) (.inr (by rw [a4 g e]; omega)), a2, a3, fun g e => (hT g (own_size a1 g e)).trans (a4 g e)⟩,
    fun j hj => (h.fr j hj).kept hT (fun g hg h => hk g hg (by rcases h with h | h <;> simp only [Bt] <;> omega))⟩
theorem Mid.chg {w w' : World} {b : Nat} {T : Nat → Nat} {c : Nat} {ls : List En} {hs fs : List Fr} {cur : List En} {ct : Nat → List Int} {R : BR} (h : Mid w b T c ls hs fs cur ct R) (hc : Chg w w' none) : Mid w' b T c ls hs fs cur ct R :=
  h.kept (fun _ _ => rfl) hc.size (fun g hg _ => hc.block g hg (by simp))
/-- One of the lists that came out is written. -/
def upd (ct : Nat → List Int) (i : Nat) (xs : List Int) : Nat → List Int := fun j => if j = i then xs else ct j
theorem own_set {w : World} {base : Nat} {v : Value} {xs : List Int} (h : Own w base v xs) {j : Nat} (hj : j < xs.length) (m : Int) :
    ∃ g cap, v = .slice (some ⟨g, 0, none⟩) xs.length cap ∧ (∃ u, w.cell? ⟨g, j, none⟩ = some u) ∧ w.frozen? ⟨g, j, none⟩ = false ∧ g < w.heap.size ∧ Own (w.setCell ⟨g, j, none⟩ (.int .u8 m)) base v (xs.set j m) := by
  rcases h.2 with ⟨_, h0⟩ | ⟨g, cap, cur, hv, hb, hrow, hn, hm, hs, htk⟩
  · omega
  · have hjc : j < cur.size := by omega
    refine ⟨g, cap, hv, ⟨cur[j], by rw [cell_of_row _ _ _ _ _ _ hrow, Array.getElem?_eq_getElem hjc]⟩, frozen_of_row w g _ _ _ hrow, (Array.getElem?_eq_some_iff.1 hrow).1, ?_⟩
    have hr := heap_setCell_same w g j _ _ (.int .u8 m) hrow
    have hl : (xs.set j m).length = xs.length := List.length_set
    refine ⟨by simp, .inr ⟨g, cap, _, by rw [hl]; exact hv, hb, hr, by rw [hl]; exact hn, hm, by simpa using hs, ?_⟩⟩
    rw [hl, Array.toList_setIfInBounds, List.take_set, htk, List.map_set]
theorem Mid.mark {w : World} {b : Nat} {T : Nat → Nat} {c : Nat} {ls : List En} {hs fs : List Fr} {cur : List En} {ct : Nat → List Int} {R : BR} (h : Mid w b T c ls hs fs cur ct R) {i : Nat} (hi : i < hs.length) {j : Nat} (hj : j < hs[i].xs.length) (m : Int)
    (hcur : ∀ e ∈ cur, True) : ∃ g cap, hs[i].v = .slice (some ⟨g, 0, none⟩) hs[i].xs.length cap ∧ T g = 1000 + c + i ∧ (∃ u, w.cell? ⟨g, j, none⟩ = some u) ∧ w.frozen? ⟨g, j, none⟩ = false ∧ g < w.heap.size ∧ g ≠ b ∧
      Mid (w.setCell ⟨g, j, none⟩ (.int .u8 m)) b T c ls hs fs cur (upd ct i ((ct i).set j m)) R := by
  obtain ⟨a1, a2, a3, a4⟩ := h.pool i hi
  obtain ⟨g, cap, hv, hu, hf, hg, ho⟩ := own_set a1 (j := j) (by rw [a2]; exact hj) m
  rw [a2] at hv
  have htg : T g = 1000 + c + i := a4 g (by rw [hv]; rfl)
  have hb : b < w.heap.size := (Array.getElem?_eq_some_iff.1 h.row).1
  have hKc := (Chg.refl w (some g)).set j (.int .u8 m)
  have hk : ∀ x, x < w.heap.size → T x ≠ 1000 + c + i → (w.setCell ⟨g, j, none⟩ (.int .u8 m)).heap[x]? = w.heap[x]? := fun x hx hn => hKc.block x hx (fun e => hn (by injection e with e; rw [e]; exact htg))
  have hT : ∀ g, g < w.heap.size → T g = T g := fun _ _ => rfl
  have K : ∀ t, t ≤ 11 → ∀ x, x < w.heap.size → T x = t → (w.setCell ⟨g, j, none⟩ (.int .u8 m)).heap[x]? = w.heap[x]? := fun t a2 x hx ht => hk x hx (by omega)
  refine ⟨g, cap, hv, htg, hu, hf, hg, fun e => by rw [e, h.tb] at htg; omega, ?_⟩
  exact ⟨(K 1 (by omega) b hb h.tb).trans h.row, h.rl.kept hT (K 2 (by omega)), h.rm.kept hT (K 3 (by omega)), h.rf.kept hT (K 4 (by omega)), h.rw_.kept hT (K 5 (by omega)), h.rh.kept hT (K 6 (by omega)),
    h.rb.kept hT (fun x hx ht hr => hr.kept (K 8 (by omega) x hx ht)), h.ra.kept hT (fun x hx ht hr => hr.kept (K 9 (by omega) x hx ht)), h.rn.kept hT (fun x hx ht hr => hr.kept (K 10 (by omega) x hx ht)),
    h.tb, fun e he => (h.old e he).kept hT hKc.size (fun x hx h1 h2 => hk x hx (by omega)),
    fun l hl => by
      obtain ⟨b1, b2, b3, b4⟩ := h.pool l hl
      by_cases e : l = i
      · subst e
        rw [show upd ct l ((ct l).set j m) l = (ct l).set j m from if_pos rfl]
        exact ⟨ho, by rw [List.length_set]; exact b2, b3, b4⟩
      · rw [show upd ct i ((ct i).set j m) l = ct l from if_neg e]
        exact ⟨own_same b1 fun x e2 => hk x (own_size b1 x e2) (by rw [b4 x e2]; omega), b2, b3, b4⟩,
    fun l hl => (h.fr l hl).kept hT (fun x hx h => hk x hx (by rcases h with h | h <;> omega))⟩
/-- One more is noted. -/
theorem Mid.push {w w1 w2 : World} {b : Nat} {T : Nat → Nat} {c : Nat} {ls : List En} {hs fs : List Fr} {cur : List En} {ct : Nat → List Int} {R : BR} (h : Mid w b T c ls hs fs cur ct R) (e : En) {vl' vm' : Value}
    (h1 : Ps w w1 b (R.cs.setIfInBounds 0 vl') 33 R.vl vl' (cur.length + 1) (cur.map (·.v) ++ [e.v])) (h2 : Ps w1 w2 b ((R.cs.setIfInBounds 0 vl').setIfInBounds 1 vm') 5 R.vm vm' (cur.length + 1) ((cur.map fun e => .int .u8 e.m) ++ [.int .u8 e.m])) :
    Mid w2 b (tagN (tagN T w.heap.size 2) w1.heap.size 3) c ls hs fs (cur ++ [e]) ct { R with vl := vl', vm := vm' } ∧ (∀ i, i < w.heap.size → T i ≠ 1 → T i ≠ 2 → T i ≠ 3 → w2.heap[i]? = w.heap[i]?) ∧ w.heap.size ≤ w2.heap.size ∧ w2.os = w.os ∧ w2.tape = w.tape ∧ w2.output = w.output := by
  have s1 := h1.size
  have s2 := h2.size
  have hb : b < w.heap.size := (Array.getElem?_eq_some_iff.1 h.row).1
  have hT : ∀ x, x < w.heap.size → tagN (tagN T w.heap.size 2) w1.heap.size 3 x = T x := fun x hx => by rw [tagN_old (by omega), tagN_old hx]
  have hk : ∀ i, i < w.heap.size → T i ≠ 1 → T i ≠ 2 → T i ≠ 3 → w2.heap[i]? = w.heap[i]? := fun i hi n1 n2 n3 => by
    rw [h2.fz.block i (by omega) (fun hh => by
      rcases hh with hh | hh
      · exact n1 (by rw [hh]; exact h.tb)
      · exact n3 (h.rm.2 i hh)), h1.fz.block i hi (fun hh => by
      rcases hh with hh | hh
      · exact n1 (by rw [hh]; exact h.tb)
      · exact n2 (h.rl.2 i hh))]
  have K : ∀ t, 4 ≤ t → ∀ x, x < w.heap.size → T x = t → w2.heap[x]? = w.heap[x]? := fun t a2 x hx ht => hk x hx (by omega) (by omega) (by omega)
  have o1 := own_size h1.own
  have o2 := own_size h2.own
  refine ⟨⟨h2.row, ⟨?_, fun g e1 => ?_⟩, ⟨?_, fun g e1 => ?_⟩, h.rf.kept hT (K 4 (by omega)), h.rw_.kept hT (K 5 (by omega)), h.rh.kept hT (K 6 (by omega)), h.rb.kept hT (fun x hx ht hr => hr.kept (K 8 (by omega) x hx ht)), h.ra.kept hT (fun x hx ht hr => hr.kept (K 9 (by omega) x hx ht)), h.rn.kept hT (fun x hx ht hr => hr.kept (K 10 (by omega) x hx ht)),
    (hT b hb).trans h.tb, fun e he => (h.old e he).kept hT (by omega) (fun x hx h1 h2 => hk x hx (by omega) (by omega) (by omega)),
    fun j hj => by
      obtain ⟨a1, a2, a3, a4⟩ := h.pool j hj
      exact ⟨own_same a1 fun g e => hk g (own_size a1 g e) (by rw [a4 g e]; omega) (by rw [a4 g e]; omega) (by rw [a4 g e]; omega), a2, a3, fun g e => (hT g (own_size a1 g e)).trans (a4 g e)⟩,
    fun j hj => (h.fr j hj).kept hT (fun x hx h => hk x hx (by rcases h with h | h <;> omega) (by rcases h with h | h <;> omega) (by rcases h with h | h <;> omega))⟩,
    hk, by omega, h2.fz.os.trans h1.fz.os, h2.fz.tape.trans h1.fz.tape, h2.fz.output.trans h1.fz.output⟩
  · rw [List.map_append, List.length_append, List.length_map]
    refine own_same h1.own fun g e1 => h2.fz.block g (o1 g e1) (fun hh => ?_)
    rcases hh with hh | hh
    · rcases h1.where_ with e2 | e2
      · rw [e2] at e1; have := h.rl.2 g e1; rw [hh, h.tb] at this; omega
      · rw [e2] at e1; injection e1 with e1; omega
    · rcases h1.where_ with e2 | e2
      · rw [e2] at e1; have a1 := h.rl.2 g e1; have a2 := h.rm.2 g hh; omega
      · rw [e2] at e1; injection e1 with e1; have := own_size h.rm.1 g hh; omega
  · rcases h1.where_ with e2 | e2
    · rw [e2] at e1; rw [hT g (own_size h.rl.1 g e1)]; exact h.rl.2 g e1
    · have := o1 g e1
      rw [e2] at e1; injection e1 with e1
      rw [tagN_old this, tagN_new (by omega)]
  · rw [List.map_append, List.length_append, List.length_map]
    exact h2.own
  · rcases h2.where_ with e2 | e2
    · rw [e2] at e1; rw [hT g (own_size h.rm.1 g e1)]; exact h.rm.2 g e1
    · rw [e2] at e1; injection e1 with e1
      rw [tagN_new (by omega)]
end Go.Proofs.Ytfoofipkbijajaa.Sa
