/- The book while lists are made longer; when it is done. No statement of the seat is proved here. -/
import Derived.Test.YtfoofipkbijajaaMid
namespace Go.Proofs.Ytfoofipkbijajaa.Sa
open Go.RowKit Go.Proofs.Ytfoofipkbijajaa.Kit
set_option linter.unusedSimpArgs false
set_option linter.unusedVariables false
theorem row_at {w : World} {base : Nat} {e : TypeId} {v : Value} {n : Nat} {xs : List Value} (h : w.ownsRow base e 1 v n xs) {j : Nat} (hj : j < xs.length) : ∃ g cap, v = .slice (some ⟨g, 0, none⟩) n cap ∧ w.cell? ⟨g, j, none⟩ = some xs[j] := by
  rcases h.2 with ⟨_, h0⟩ | ⟨g, cap, cur, hv, hb, hrow, hn, hm, hs, htk⟩
  · have := h.1; omega
  · refine ⟨g, cap, hv, ?_⟩
    have hl := h.1
    rw [cell_of_row _ _ _ _ _ _ hrow, ← Array.getElem?_toList]
    have e := congrArg (fun l => l[j]?) htk
    simp only [List.getElem?_take, if_pos (show j < n * 1 by omega)] at e
    rw [e, List.getElem?_eq_getElem hj]
theorem two_undrew {W w' : World} {v v' : Value} {n m : Nat} (h : Kit.Two W.drew w' v v' n m) : Kit.Two W w' v v' n m := by
  rcases h with ⟨g, cap, a, b, hg⟩ | ⟨a, hg⟩
  · exact .inl ⟨g, cap, a, b, ⟨hg.os, hg.tape, hg.output, hg.size, hg.block⟩⟩
  · exact .inr ⟨a, ⟨hg.os, hg.tape, hg.output, hg.size, hg.block⟩⟩
def mkm (n j : Nat) : Int := (((n + j) % 254 + 1 : Nat) : Int)
theorem mkm_r (n j : Nat) : 0 ≤ mkm n j ∧ mkm n j < 256 := by unfold mkm; omega
def pe (n : Nat) (hs : List Fr) (j : Nat) : En := ⟨(hs.getD j ⟨.slice none 0 0, [], .slice none 0 0⟩).v, (hs.getD j ⟨.slice none 0 0, [], .slice none 0 0⟩).xs.length, mkm n j⟩
def marked (n : Nat) (hs : List Fr) (k : Nat) : List En := (List.range k).map (pe n hs)
theorem marked_succ (n : Nat) (hs : List Fr) (k : Nat) : marked n hs (k + 1) = marked n hs k ++ [pe n hs k] := by simp [marked, List.range_succ]
theorem marked_len (n : Nat) (hs : List Fr) (k : Nat) : (marked n hs k).length = k := by simp [marked]
theorem pe_v (n : Nat) (hs : List Fr) {k : Nat} (hk : k < hs.length) : (pe n hs k).v = hs[k].v ∧ (pe n hs k).n = hs[k].xs.length ∧ (pe n hs k).m = mkm n k := by
  simp [pe, List.getD_eq_getElem?_getD, List.getElem?_eq_getElem hk]
theorem fz_step {w wr w2 : World} {T T2 : Nat → Nat} (h : Fz w wr T Bt) (hT : ∀ x, x < w.heap.size → ¬ Bt (T x) → T2 x = T x) (hs : wr.heap.size ≤ w2.heap.size) (ho : w2.os = wr.os ∧ w2.tape = wr.tape ∧ w2.output = wr.output)
    (hk : ∀ i, i < wr.heap.size → ¬ Bt (T2 i) → w2.heap[i]? = wr.heap[i]?) : Fz w w2 T Bt :=
  ⟨ho.1.trans h.os, ho.2.1.trans h.tape, ho.2.2.trans h.output, Nat.le_trans h.size hs, fun i hi hn => (hk i (Nat.lt_of_lt_of_le hi h.size) (by rw [hT i hi hn]; exact hn)).trans (h.block i hi hn)⟩
/-- One of the lists was made longer. -/
theorem Mid.long {wr w4 : World} {b : Nat} {T : Nat → Nat} {c : Nat} {ls : List En} {hs fs : List Fr} {cur : List En} {ct : Nat → List Int} {R : BR} (M : Mid wr b T c ls hs fs cur ct R) {j : Nat} (hj : j < hs.length) {m : Int} {v4 : Value} (L : Lg wr w4 0 hs[j].v (ct j) m 64 v4) :
    Mid w4 b (tagN T wr.heap.size (1000 + c + j)) c ls hs fs cur ct R ∧ (∀ i, i < wr.heap.size → T i ≠ 1000 + c + j → w4.heap[i]? = wr.heap[i]?) ∧ wr.heap.size ≤ w4.heap.size ∧ (w4.os = wr.os ∧ w4.tape = wr.tape ∧ w4.output = wr.output) ∧ (∀ g, v4.ownBlock = some g → tagN T wr.heap.size (1000 + c + j) g = 1000 + c + j) := by
  obtain ⟨a1, a2, a3, a4⟩ := M.pool j hj
  have hb : b < wr.heap.size := (Array.getElem?_eq_some_iff.1 M.row).1
  have hT : ∀ x, x < wr.heap.size → tagN T wr.heap.size (1000 + c + j) x = T x := fun x hx => tagN_old hx
  have hk : ∀ x, x < wr.heap.size → T x ≠ 1000 + c + j → w4.heap[x]? = wr.heap[x]? := fun x hx hn => L.chg.block x hx (fun e => hn (a4 x e.symm))
  have K : ∀ t, t ≤ 11 → ∀ x, x < wr.heap.size → T x = t → w4.heap[x]? = wr.heap[x]? := fun t a2 x hx ht => hk x hx (by omega)
  have hsz := L.chg.size
  refine ⟨⟨(K 1 (by omega) b hb M.tb).trans M.row, M.rl.kept hT (K 2 (by omega)), M.rm.kept hT (K 3 (by omega)), M.rf.kept hT (K 4 (by omega)), M.rw_.kept hT (K 5 (by omega)), M.rh.kept hT (K 6 (by omega)),
    M.rb.kept hT (fun x hx ht hr => hr.kept (K 8 (by omega) x hx ht)), M.ra.kept hT (fun x hx ht hr => hr.kept (K 9 (by omega) x hx ht)), M.rn.kept hT (fun x hx ht hr => hr.kept (K 10 (by omega) x hx ht)),
    (hT b hb).trans M.tb, fun e he => (M.old e he).kept hT hsz (fun x hx h1 h2 => hk x hx (by omega)),
    fun l hl => by
      obtain ⟨b1, b2, b3, b4⟩ := M.pool l hl
      by_cases e : l = j
      · subst e
        exact ⟨L.old, b2, b3, fun g e2 => (hT g (own_size b1 g e2)).trans (b4 g e2)⟩
      · exact ⟨own_same b1 fun x e2 => hk x (own_size b1 x e2) (by rw [b4 x e2]; omega), b2, b3, fun g e2 => (hT g (own_size b1 g e2)).trans (b4 g e2)⟩,
    fun l hl => (M.fr l hl).kept hT (fun x hx h => hk x hx (by rcases h with h | h <;> omega))⟩, hk, hsz, ⟨L.chg.os, L.chg.tape, L.chg.output⟩, fun g e => ?_⟩
  rcases L.where_ with e2 | ⟨g2, e2, hlt⟩
  · rw [e2] at e; rw [hT g (own_size a1 g e)]; exact a4 g e
  · rw [e2] at e; injection e with e; rw [tagN_new (by omega)]
/-- The lists that were made longer. -/
def LgF (w : World) (T : Nat → Nat) (c : Nat) (lg : List En) : Prop :=
  ∀ l (h : l < lg.length), Own w 0 lg[l].v (List.replicate lg[l].n lg[l].m) ∧ lg[l].n ≤ 1000 ∧ (0 ≤ lg[l].m ∧ lg[l].m < 256) ∧ ∀ g, lg[l].v.ownBlock = some g → T g = 1000 + c + l
/-- Between two rounds of making longer. -/
def PC (w wr : World) (b : Nat) (T : Nat → Nat) (c : Nat) (ls : List En) (hs fs : List Fr) (k j : Nat) : Prop :=
  ∃ T2 R ct lg, Mid wr b T2 c ls hs fs (ls ++ marked ls.length hs k ++ lg) ct R ∧ (∀ l, ∀ h : l < hs.length, ct l = List.replicate hs[l].xs.length (mkm ls.length l)) ∧ lg.length = j ∧ LgF wr T2 c lg ∧ (∀ x, x < w.heap.size → ¬ Bt (T x) → T2 x = T x) ∧ Fz w wr T Bt
theorem PC.step {w wr w4 w3 w5 : World} {b : Nat} {T T2 : Nat → Nat} {c : Nat} {ls : List En} {hs fs : List Fr} {k : Nat} {ct : Nat → List Int} {R : BR} {lg : List En} (M : Mid wr b T2 c ls hs fs (ls ++ marked ls.length hs k ++ lg) ct R) (hj : lg.length < hs.length)
    (HC : ∀ l, ∀ h : l < hs.length, ct l = List.replicate hs[l].xs.length (mkm ls.length l)) (HL : LgF wr T2 c lg) (hT : ∀ x, x < w.heap.size → ¬ Bt (T x) → T2 x = T x) (F : Fz w wr T Bt) {v4 vl' vm' : Value}
    (L : Lg wr w4 0 hs[lg.length].v (ct lg.length) (mkm ls.length lg.length) 64 v4)
    (h1 : Ps w4 w3 b (R.cs.setIfInBounds 0 vl') 33 R.vl vl' (ls.length + k + lg.length + 1) ((ls ++ marked ls.length hs k ++ lg).map (·.v) ++ [v4])) (h2 : Ps w3 w5 b ((R.cs.setIfInBounds 0 vl').setIfInBounds 1 vm') 5 R.vm vm' (ls.length + k + lg.length + 1) (((ls ++ marked ls.length hs k ++ lg).map fun e => .int .u8 e.m) ++ [.int .u8 (mkm ls.length lg.length)])) :
    PC w w5 b T c ls hs fs k (lg.length + 1) := by
  obtain ⟨M4, k4, s4, o4, t4⟩ := M.long hj L
  have hl : (ls ++ marked ls.length hs k ++ lg).length = ls.length + k + lg.length := by rw [List.length_append, List.length_append, marked_len]
  have hnl : (ct lg.length).length = hs[lg.length].xs.length := (M.pool _ hj).2.1
  obtain ⟨M5, k5, s5, o5⟩ := M4.push ⟨v4, hs[lg.length].xs.length + 64, mkm ls.length lg.length⟩ (vl' := vl') (vm' := vm') (by rw [hl]; exact h1) (by rw [hl]; exact h2)
  have p3 := (M.pool _ hj).2.2.1
  have z3 := h1.size
  have hTT : ∀ x, x < wr.heap.size → tagN (tagN (tagN T2 wr.heap.size (1000 + c + lg.length)) w4.heap.size 2) w3.heap.size 3 x = T2 x := fun x hx => by rw [tagN_old (by omega), tagN_old (by omega), tagN_old hx]
  have hT4 : ∀ x, x < w4.heap.size → tagN (tagN (tagN T2 wr.heap.size (1000 + c + lg.length)) w4.heap.size 2) w3.heap.size 3 x = tagN T2 wr.heap.size (1000 + c + lg.length) x := fun x hx => by rw [tagN_old (by omega), tagN_old hx]
  have hk : ∀ i, i < wr.heap.size → T2 i ≠ 1 → T2 i ≠ 2 → T2 i ≠ 3 → T2 i ≠ 1000 + c + lg.length → w5.heap[i]? = wr.heap[i]? := fun i hi n1 n2 n3 n4 => by
    rw [k5 i (by omega) (by rw [tagN_old hi]; exact n1) (by rw [tagN_old hi]; exact n2) (by rw [tagN_old hi]; exact n3), k4 i hi n4]
  refine ⟨_, _, ct, lg ++ [⟨v4, hs[lg.length].xs.length + 64, mkm ls.length lg.length⟩], by rw [← List.append_assoc]; exact M5, HC, by simp, fun l hl2 => ?_, fun x hx hn => ?_, ?_⟩
  · by_cases e : l < lg.length
    · rw [List.getElem_append_left e]
      obtain ⟨a1, a2, a3, a4⟩ := HL l e
      exact ⟨own_same a1 fun g e2 => hk g (own_size a1 g e2) (by rw [a4 g e2]; omega) (by rw [a4 g e2]; omega) (by rw [a4 g e2]; omega) (by rw [a4 g e2]; omega), a2, a3, fun g e2 => (hTT g (own_size a1 g e2)).trans (a4 g e2)⟩
    · obtain rfl : l = lg.length := by simp at hl2; omega
      rw [List.getElem_append_right (Nat.le_refl _)]
      simp only [Nat.sub_self, List.getElem_cons_zero]
      have hnew := L.new
      have hsz4 := own_size hnew
      have e1 : ct lg.length ++ List.replicate 64 (mkm ls.length lg.length) = List.replicate (hs[lg.length].xs.length + 64) (mkm ls.length lg.length) := by rw [HC _ hj, List.replicate_append_replicate]
      refine ⟨?_, (show hs[lg.length].xs.length + 64 ≤ 1000 by omega), mkm_r _ _, fun g e2 => (hT4 g (hsz4 g e2)).trans (t4 g e2)⟩
      show w5.ownsRow 0 5 1 v4 (List.replicate (hs[lg.length].xs.length + 64) (mkm ls.length lg.length)).length _
      rw [List.length_replicate, ← e1, ← hnl]
      exact own_same hnew fun g e2 => k5 g (hsz4 g e2) (by rw [t4 g e2]; omega) (by rw [t4 g e2]; omega) (by rw [t4 g e2]; omega)
  · have s1 := F.size
    rw [hTT x (by omega)]; exact hT x hx hn
  · exact fz_step F hT (by omega) ⟨o5.1.trans o4.1, o5.2.1.trans o4.2.1, o5.2.2.trans o4.2.2⟩ (fun i hi hn => hk i hi (fun e => hn (.inl (by omega))) (fun e => hn (.inl (by omega))) (fun e => hn (.inl (by omega))) (fun e => hn (.inr (by omega))))
/-- The tags behind it all. -/
def tagD (T : Nat → Nat) : Nat → Nat := fun x => if T x = 4 then 6 else if T x = 5 then 7 else if T x = 6 then 0 else if T x = 7 then 0 else T x
/-- When it is done. -/
theorem PC.done {w wr : World} {b : Nat} {T T2 : Nat → Nat} {c : Nat} {ls : List En} {hs fs : List Fr} {ct : Nat → List Int} {R : BR} {lg : List En} (M : Mid wr b T2 c ls hs fs (ls ++ marked ls.length hs hs.length ++ lg) ct R)
    (HC : ∀ l, ∀ h : l < hs.length, ct l = List.replicate hs[l].xs.length (mkm ls.length l)) (HL : LgF wr T2 c lg) (hlg : lg.length = hs.length) (hT : ∀ x, x < w.heap.size → ¬ Bt (T x) → T2 x = T x) (F : Fz w wr T Bt) :
    BkIs ((((wr.setCell ⟨b, 4, none⟩ R.vf).setCell ⟨b, 5, none⟩ R.vw).setCell ⟨b, 2, none⟩ (.slice none 0 0)).setCell ⟨b, 3, none⟩ (.slice none 0 0)) b (tagD T2) (c + hs.length) (ls ++ marked ls.length hs hs.length ++ lg) fs [] ∧
      (∀ x, x < w.heap.size → ¬ Bt (T x) → tagD T2 x = T x) ∧ Fz w ((((wr.setCell ⟨b, 4, none⟩ R.vf).setCell ⟨b, 5, none⟩ R.vw).setCell ⟨b, 2, none⟩ (.slice none 0 0)).setCell ⟨b, 3, none⟩ (.slice none 0 0)) T Bt := by
  have KC : Chg wr ((((wr.setCell ⟨b, 4, none⟩ R.vf).setCell ⟨b, 5, none⟩ R.vw).setCell ⟨b, 2, none⟩ (.slice none 0 0)).setCell ⟨b, 3, none⟩ (.slice none 0 0)) (some b) := ((((Chg.refl wr (some b)).set 4 _).set 5 _).set 2 _).set 3 _
  have hrow := heap_setCell_same _ b 3 _ _ (.slice none 0 0) (heap_setCell_same _ b 2 _ _ (.slice none 0 0) (heap_setCell_same _ b 5 _ _ R.vw (heap_setCell_same _ b 4 _ _ R.vf M.row)))
  generalize (((wr.setCell ⟨b, 4, none⟩ R.vf).setCell ⟨b, 5, none⟩ R.vw).setCell ⟨b, 2, none⟩ (.slice none 0 0)).setCell ⟨b, 3, none⟩ (.slice none 0 0) = w5 at *
  have hk : ∀ x, x < wr.heap.size → T2 x ≠ 1 → w5.heap[x]? = wr.heap[x]? := fun x hx hn => KC.block x hx (fun e => by injection e with e; rw [e, M.tb] at hn; exact hn rfl)
  have hsz := KC.size
  have RT : ∀ {t t' : Nat} {e : TypeId} {v : Value} {xs : List Value}, RowT wr T2 t e v xs → t ≠ 1 → (∀ g, T2 g = t → tagD T2 g = t') → RowT w5 (tagD T2) t' e v xs := fun h hne ht =>
    ⟨own_same h.1 fun g e => hk g (own_size h.1 g e) (by rw [h.2 g e]; exact hne), fun g e => ht g (h.2 g e)⟩
  have BT : ∀ {t : Nat} {v : Value}, BufT wr T2 t v → 8 ≤ t → t ≤ 10 → BufT w5 (tagD T2) t v := fun h a1 a2 =>
    ⟨h.1.kept fun g e hr => hr.kept (hk g (h.1.lt g e) (by rw [h.2 g e]; omega)), fun g e => by have := h.2 g e; unfold tagD; rw [if_neg (by omega), if_neg (by omega), if_neg (by omega), if_neg (by omega)]; exact this⟩
  have hid : ∀ x, 8 ≤ T2 x → tagD T2 x = T2 x := fun x hx => by unfold tagD; rw [if_neg (by omega), if_neg (by omega), if_neg (by omega), if_neg (by omega)]
  refine ⟨⟨⟨R.vl, R.vm, .slice none 0 0, .slice none 0 0, R.vf, R.vw, R.vb, R.va, R.vn, hrow, RT M.rl (by omega) (fun g e => by unfold tagD; rw [if_neg (by omega), if_neg (by omega), if_neg (by omega), if_neg (by omega)]; exact e), RT M.rm (by omega) (fun g e => by unfold tagD; rw [if_neg (by omega), if_neg (by omega), if_neg (by omega), if_neg (by omega)]; exact e),
    ⟨World.ownsRow_nil _ _ _ _, fun g e => by cases e⟩, ⟨World.ownsRow_nil _ _ _ _, fun g e => by cases e⟩, RT M.rf (by omega) (fun g e => by unfold tagD; rw [if_pos e]), RT M.rw_ (by omega) (fun g e => by unfold tagD; rw [if_neg (by omega), if_pos e]),
    BT M.rb (by omega) (by omega), BT M.ra (by omega) (by omega), BT M.rn (by omega) (by omega)⟩, ?_, ?_, ?_, ?_⟩, ?_, ?_⟩
  · have := M.tb; unfold tagD; rw [if_neg (by omega), if_neg (by omega), if_neg (by omega), if_neg (by omega)]; exact this
  · intro e he
    rw [List.mem_append, List.mem_append] at he
    have fromOwn : ∀ (v : Value) (n : Nat) (m : Int) (l : Nat), l < hs.length → Own wr 0 v (List.replicate n m) → n ≤ 1000 → 0 ≤ m ∧ m < 256 → (∀ g, v.ownBlock = some g → T2 g = 1000 + c + l) → EnIs w5 (tagD T2) (c + hs.length) ⟨v, n, m⟩ := fun v n m l hl ho hn hm ht => by
      have ho5 : Own w5 0 v (List.replicate n m) := own_same ho fun g e => hk g (own_size ho g e) (by rw [ht g e]; omega)
      refine ⟨own_sl ho5 (by show (List.replicate n m).length * 1 ≤ _; rw [List.length_replicate]; omega), ⟨hm.1, hm.2, hn⟩, fun g e => ?_⟩
      have h1 := ht g e
      rw [hid g (by omega), h1]
      exact ⟨own_size ho5 g e, by omega, by omega⟩
    rcases he with (he | he) | he
    · have h1 := M.old e he
      refine ⟨h1.1.kept fun g e2 hl => hk g hl (by have := h1.2.2 g e2; omega), h1.2.1, fun g e2 => ?_⟩
      obtain ⟨a1, a2, a3⟩ := h1.2.2 g e2
      rw [hid g (by omega)]; exact ⟨by omega, a2, by omega⟩
    · simp only [marked, List.mem_map, List.mem_range] at he
      obtain ⟨l, hl, rfl⟩ := he
      obtain ⟨e1, e2, e3⟩ := pe_v ls.length hs hl
      obtain ⟨a1, a2, a3, a4⟩ := M.pool l hl
      rw [HC l hl] at a1
      have := fromOwn hs[l].v hs[l].xs.length (mkm ls.length l) l hl a1 (by omega) (mkm_r _ _) a4
      rw [← e1, ← e2, ← e3] at this
      exact this
    · obtain ⟨l, hl, rfl⟩ := List.getElem_of_mem he
      obtain ⟨a1, a2, a3, a4⟩ := HL l hl
      exact fromOwn _ _ _ l (by omega) a1 a2 a3 a4
  · intro j hj
    refine (M.fr j hj).elim fun b1 b2 => ?_
    refine ⟨own_same b1 fun g e => hk g (own_size b1 g e) (by rw [b2.2.2.1 g e]; omega), b2.1, own_same b2.2.1 fun g e => hk g (own_size b2.2.1 g e) (by rw [b2.2.2.2 g e]; omega), fun g e => ?_, fun g e => ?_⟩
    · have h1 := b2.2.2.1 g e
      rw [hid g (by omega), h1]; omega
    · have h1 := b2.2.2.2 g e
      rw [hid g (by omega)]; exact h1
  · intro j hj; simp at hj
  · intro x hx hn
    have h1 := hT x hx hn
    unfold tagD
    have hb : ¬ (1 ≤ T x ∧ T x ≤ 11) := fun h => hn (.inl h)
    rw [h1, if_neg (by omega), if_neg (by omega), if_neg (by omega), if_neg (by omega)]
  · exact fz_step F hT hsz ⟨KC.os, KC.tape, KC.output⟩ (fun i hi hn => hk i hi (fun e => hn (.inl (by omega))))
end Go.Proofs.Ytfoofipkbijajaa.Sa
