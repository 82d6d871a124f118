/- owns: contract. No statement of the seat is proved here. -/
import Derived.Test.YtfoofipkbijajaaBook
namespace Go.Proofs.Ytfoofipkbijajaa.Sa
open Go.RowKit Go.Proofs.Ytfoofipkbijajaa.Kit
set_option linter.unusedSimpArgs false
set_option linter.unusedVariables false
theorem info33 : (Try.prog.info? 33).map (fun i => (i.zero, i.size, i.bytes)) = some (some (.slice none 0 0), 1, 24) := by kernel_rfl
theorem val_news (W : World) (t : TypeId) (x : Value) : ∀ j u, [x][j]? = some u → (W.alloc (.cells #[x] t)).cell? ((⟨W.heap.size, 0, none⟩ : Addr).add j) = some u := fun j u hu => by
  rw [Addr.add_mid, Nat.zero_add, cell_of_row _ _ _ _ _ _ (heap_alloc_last W _), ← Array.getElem?_toList]; exact hu
/-- A row of lists that one more was put behind: the book's cell k. -/
theorem one_slice (A : Option Addr) (n c : Nat) : ∀ u ∈ [Value.slice A n c], u.oneCell' = true := fun u hu => by simp at hu; subst hu; rfl
/-- Behind 'b.k = append(b.k, x)'. -/
structure Ps (w W3 : World) (b : Nat) (cs' : Array Value) (e : TypeId) (vk v' : Value) (n : Nat) (ys : List Value) : Prop where
  row : W3.heap[b]? = some (.cells cs' 55 (0, 0))
  own : W3.ownsRow 0 e 1 v' n ys
  where_ : v'.ownBlock = vk.ownBlock ∨ v'.ownBlock = some (w.heap.size + 1)
  fz : Fz w W3 (fun x => x) (fun i => i = b ∨ vk.ownBlock = some i)
  size : w.heap.size + 1 ≤ W3.heap.size
theorem push_row {w W2 : World} {b : Nat} {cs : Array Value} (hrow : w.heap[b]? = some (.cells cs 55 (0, 0))) {e : TypeId} {vk v' x : Value} {n : Nat} (hne : vk.ownBlock ≠ some b)
    (h2 : Kit.Two (w.alloc (.cells #[x] e)) W2 vk v' n 1) : W2.heap[b]? = some (.cells cs 55 (0, 0)) := by
  have hb : b < w.heap.size := (Array.getElem?_eq_some_iff.1 hrow).1
  rw [h2.grown.block b (by simp; omega) (fun e => hne e.symm), heap_alloc_old (h := hb)]; exact hrow
theorem push_stage {w W2 : World} {b k : Nat} {cs : Array Value} (hrow : w.heap[b]? = some (.cells cs 55 (0, 0))) {e : TypeId} {vk v' x : Value} {n : Nat} {xs : List Value} (hv : w.ownsRow 0 e 1 vk n xs) (hne : vk.ownBlock ≠ some b)
    (hown : W2.ownsRow 0 e 1 v' (n + 1) (xs ++ [x])) (h2 : Kit.Two (w.alloc (.cells #[x] e)) W2 vk v' n 1) : Ps w (W2.setCell ⟨b, k, none⟩ v') b (cs.setIfInBounds k v') e vk v' (n + 1) (xs ++ [x]) := by
  have hb : b < w.heap.size := (Array.getElem?_eq_some_iff.1 hrow).1
  have hg := h2.grown
  have hsz := hg.size
  have hsz2 : (w.alloc (.cells #[x] e)).heap.size = w.heap.size + 1 := by simp
  have hw : v'.ownBlock = vk.ownBlock ∨ v'.ownBlock = some (w.heap.size + 1) := by rw [← hsz2]; exact h2.where_
  have hr2 : W2.heap[b]? = some (.cells cs 55 (0, 0)) := by
    rw [hg.block b (by omega) (fun e => hne e.symm), heap_alloc_old (h := hb)]; exact hrow
  have hK := (Chg.refl W2 (some b)).set k v'
  refine ⟨heap_setCell_same _ b k _ _ v' hr2, hown.kept hK (.inr (fun e => ?_)), hw, ⟨hg.os, hg.tape, hg.output, ?_, fun i hi hn => ?_⟩, ?_⟩
  · rcases hw with h | h
    · rw [h] at e; exact hne e
    · rw [h] at e; injection e with e; omega
  · have := hK.size; omega
  · rw [hK.block i (by omega) (fun e => hn (.inl (by injection e))), hg.block i (by omega) (fun e => hn (.inr e.symm)), heap_alloc_old (h := hi)]
  · have := hK.size; omega
set_option maxRecDepth 4000 in
set_option maxHeartbeats 4000000 in
theorem owns_any (w : World) (b : Nat) (T : Nat → Nat) (c : Nat) (ls : List En) (hs fs : List Fr) (h : BkIs w b T c ls hs fs) (hfl : fs.length ≤ 1000) (v : Value) (xs : List Int) (hv : Own w 0 v xs) (hx : xs.length ≤ 256)
    (hvt : ∀ g, v.ownBlock = some g → T g = 1000 + c + hs.length + fs.length) :
    Calls Try.prog 35 #[.pointer (some ⟨b, 0, none⟩), v] w fun e w' => (∃ r, e = .returned r) ∧ ∃ T' u, BkIs w' b T' c ls hs (fs ++ [⟨v, xs, u⟩]) ∧ (∀ x, x < w.heap.size → T' x = T x) ∧ Fz w w' T (fun t => t = 1 ∨ t = 4 ∨ t = 5) := by
  obtain ⟨i0, hi, hz0, hz1, hz2⟩ := info_parts info33
  have HB := Lib.hid h
  have hblt := h.blt
  obtain ⟨⟨vl, vm, vf, vw, vh, vt, vb, va, vn, hrow, r1, r2, r3, r4, r5, r6, r7, r8, r9⟩, tb, en, hd, fr⟩ := h
  have RR := Lib.hid (And.intro r1 (And.intro r2 (And.intro r5 (And.intro r6 (And.intro r7 (And.intro r8 (And.intro r9 (And.intro en (And.intro hd fr)))))))))
  have HROW := Lib.hid hrow
  have TB := Lib.hid tb
  have R3 := Lib.hid r3
  have R4 := Lib.hid r4
  have HVT := Lib.hid hvt
  have HO := Lib.hid hv
  have HV := Lib.hid (own_sl hv (show xs.length * 1 ≤ 140737488351232 by omega))
  obtain ⟨A, cap, rfl⟩ := own_slice hv
  obtain ⟨Af, cf, hvf⟩ := own_slice r3.1
  obtain ⟨Aw, cw, hvw⟩ := own_slice r4.1
  subst hvf hvw
  obtain ⟨nf, hnf⟩ : ∃ n, n = fs.length := ⟨_, rfl⟩
  have LF := Lib.hid (show (fs.map (·.v)).length = nf from by simp [hnf])
  have LW := Lib.hid (show (fs.map (·.w)).length = nf from by simp [hnf])
  have hfl2 : nf ≤ 1000 := by omega
  rw [LF.out] at HROW R3
  rw [LW.out] at HROW R4
  have N3 := Lib.hid (fun e => by have h1 := R3.out.2 _ e; rw [TB.out] at h1; omega : (Value.slice Af nf cf).ownBlock ≠ some b)
  have N4 := Lib.hid (fun e => by have h1 := R4.out.2 _ e; rw [TB.out] at h1; omega : (Value.slice Aw nf cw).ownBlock ≠ some b)
  obtain ⟨n, hn⟩ : ∃ n, n = xs.length := ⟨_, rfl⟩
  have HN := Lib.hid hn
  rw [← hn] at HV hx HVT HO ⊢
  clear r1 r2 r3 r4 r5 r6 r7 r8 r9 en hd fr hrow hfl hv hvt hnf hn tb
  go_enter Try.func35, Try.ntmps35
  go_wp2_with (at_builtin; refine wpList_append_sl rfl (.tmp 5) (.tmp 6) 33 rfl .u8 1 w.heap.size 5 Try.underlying33 info5 (.slice none 0 0) [] rfl (own_nil _ _) (.slice A n cap) xs rfl HV.out ?qa ?qb ?qc ?_)
  case qa => have := HN.out; simp only [maxLen, List.length_nil]; omega
  case qb => have := HN.out; simp only [List.length_nil]; omega
  case qc => exact Nat.le_refl _
  intro u w1 ho hc
  replace ho : w1.ownsRow w.heap.size 5 1 u xs.length (xs.map (Value.int .u8)) := ho
  replace hc : Chg w w1 none := hc
  have C1 := Lib.hid hc
  have hs1 := hc.size
  have OU := Lib.hid ho
  obtain ⟨Au, cu, rfl⟩ := own_slice ho
  rw [← HN.out] at OU ⊢
  have ROW1 := Lib.hid ((hc.block b hblt (by simp)).trans HROW.out)
  have F1 := Lib.hid (World.ownsRow.kept R3.out.1 hc (Classical.em _))
  have W1 := Lib.hid (World.ownsRow.kept R4.out.1 hc (Classical.em _))
  rw [LF.out] at F1
  rw [LW.out] at W1
  have c2 : w1.cell? ⟨b, 2, none⟩ = some (.slice Af nf cf) := by rw [cell_of_row _ _ _ _ _ _ ROW1.out]; rfl
  have f2 := frozen_of_row w1 b 2 _ _ ROW1.out
  have OF := Lib.hid (F1.out.alloc (.cells #[.slice A n cap] 33))
  have NF := Lib.hid (val_news w1 33 (.slice A n cap))
  have ONE := Lib.hid (one_slice A n cap)
  clear ho hc
  go_wp2_with (at_builtin; refine wpList_append_two _ rfl (.tmp 12) (.tmp 14) 53 rfl 0 33 i0 (.slice none 0 0) 1 24 Try.underlying53 hi hz0 hz1 hz2 rfl (by decide) (.slice Af nf cf) nf (fs.map (·.v)) rfl OF.out ⟨w1.heap.size, 0, none⟩ 1 1 [.slice A n cap] rfl rfl NF.out ONE.out (by decide) ?qa ?qb ?qc ?_)
  case qa => simp only [maxLen]; omega
  case qb => omega
  case qc => omega
  intro vf2 w2 hown h2
  have PR := push_row ROW1.out N3.out h2
  have PS1 := Lib.hid (push_stage (k := 2) ROW1.out F1.out N3.out hown h2)
  obtain ⟨Af2, cf2, rfl⟩ := own_slice hown
  have d2 : w2.cell? ⟨b, 2, none⟩ = some (.slice Af nf cf) := by rw [cell_of_row _ _ _ _ _ _ PR]; rfl
  have g2 := frozen_of_row w2 b 2 _ _ PR
  clear PR hown h2 OF NF c2 f2
  go_upto_region 3 with (fail)
  clear d2 g2
  generalize w2.setCell ⟨b, 2, none⟩ (.slice Af2 (nf + 1) cf2) = w3 at *
  have sz3 := PS1.out.size
  have ROW3 := Lib.hid (show w3.heap[b]? = some (.cells #[vl, vm, .slice Af2 (nf + 1) cf2, .slice Aw nf cw, vh, vt, vb, va, vn] 55 (0, 0)) from PS1.out.row)
  have W3 := Lib.hid (own_same W1.out fun g e => PS1.out.fz.block g (own_size W1.out g e) (fun h => by
    rcases h with h | h
    · rw [h] at e; exact N4.out e
    · have h1 := R3.out.2 g h; have h2 := R4.out.2 g e; omega))
  have c3 : w3.cell? ⟨b, 3, none⟩ = some (.slice Aw nf cw) := by rw [cell_of_row _ _ _ _ _ _ ROW3.out]; rfl
  have f3 := frozen_of_row w3 b 3 _ _ ROW3.out
  have OW := Lib.hid (W3.out.alloc (.cells #[.slice Au n cu] 33))
  have NW := Lib.hid (val_news w3 33 (.slice Au n cu))
  have ONE2 := Lib.hid (one_slice Au n cu)
  go_wp2_with (at_builtin; refine wpList_append_two _ rfl (.tmp 22) (.tmp 24) 53 rfl 0 33 i0 (.slice none 0 0) 1 24 Try.underlying53 hi hz0 hz1 hz2 rfl (by decide) (.slice Aw nf cw) nf (fs.map (·.w)) rfl OW.out ⟨w3.heap.size, 0, none⟩ 1 1 [.slice Au n cu] rfl rfl NW.out ONE2.out (by decide) ?qa ?qb ?qc ?_)
  case qa => simp only [maxLen]; omega
  case qb => omega
  case qc => omega
  intro vw2 w4 hown h2
  have PR := push_row ROW3.out N4.out h2
  have PS2 := Lib.hid (push_stage (k := 3) ROW3.out W3.out N4.out hown h2)
  obtain ⟨Aw2, cw2, rfl⟩ := own_slice hown
  have d3 : w4.cell? ⟨b, 3, none⟩ = some (.slice Aw nf cw) := by rw [cell_of_row _ _ _ _ _ _ PR]; rfl
  have g3 := frozen_of_row w4 b 3 _ _ PR
  clear PR hown h2 OW NW c3 f3
  go_wp2
  go_end0
  generalize w4.setCell ⟨b, 3, none⟩ (.slice Aw2 (nf + 1) cw2) = w5 at *
  refine ⟨⟨_, rfl⟩, tagN (tagN (tagN T w.heap.size 11) w1.heap.size 4) w3.heap.size 5, .slice Au n cu, ?_, ?_, ?_⟩
  rotate_left
  · intro x hx
    rw [tagN_old (by omega), tagN_old (by omega), tagN_old hx]
  · refine ⟨PS2.out.fz.os.trans (PS1.out.fz.os.trans C1.out.os), PS2.out.fz.tape.trans (PS1.out.fz.tape.trans C1.out.tape), PS2.out.fz.output.trans (PS1.out.fz.output.trans C1.out.output), by have := PS2.out.size; omega, fun i hi hn => ?_⟩
    have e1 : ¬ (i = b ∨ (Value.slice Af nf cf).ownBlock = some i) := fun h => hn (by
      rcases h with h | h
      · left; rw [h]; exact TB.out
      · right; left; exact R3.out.2 i h)
    have e2 : ¬ (i = b ∨ (Value.slice Aw nf cw).ownBlock = some i) := fun h => hn (by
      rcases h with h | h
      · left; rw [h]; exact TB.out
      · right; right; exact R4.out.2 i h)
    rw [PS2.out.fz.block i (by omega) e2, PS1.out.fz.block i (by omega) e1, C1.out.block i hi (by simp)]
  · have hTo : ∀ x, x < w.heap.size → tagN (tagN (tagN T w.heap.size 11) w1.heap.size 4) w3.heap.size 5 x = T x := fun x hx => by
      rw [tagN_old (by omega), tagN_old (by omega), tagN_old hx]
    have sz5 := PS2.out.size
    have K : ∀ i, i < w.heap.size → T i ≠ 1 → T i ≠ 4 → T i ≠ 5 → w5.heap[i]? = w.heap[i]? := fun i hi h1 h4 h5 => by
      rw [PS2.out.fz.block i (by omega) (fun h => by
        rcases h with h | h
        · exact h1 (by rw [h]; exact TB.out)
        · exact h5 (R4.out.2 i h)), PS1.out.fz.block i (by omega) (fun h => by
        rcases h with h | h
        · exact h1 (by rw [h]; exact TB.out)
        · exact h4 (R3.out.2 i h)), C1.out.block i hi (by simp)]
    have K1 : ∀ i, w.heap.size ≤ i → i < w1.heap.size → w5.heap[i]? = w1.heap[i]? := fun i h1 h2 => by
      rw [PS2.out.fz.block i (by omega) (fun h => by
        rcases h with h | h
        · omega
        · have := own_size R4.out.1 i h; omega), PS1.out.fz.block i h2 (fun h => by
        rcases h with h | h
        · omega
        · have := own_size R3.out.1 i h; omega)]
    have hvf2 := own_size PS1.out.own
    have hvw2 := own_size PS2.out.own
    obtain ⟨r1, r2, r5, r6, r7, r8, r9, en, hd, fr⟩ := RR.out
    refine ⟨⟨vl, vm, .slice Af2 (nf + 1) cf2, .slice Aw2 (nf + 1) cw2, vh, vt, vb, va, vn, PS2.out.row, r1.kept hTo (fun g hg ht => K g hg (by omega) (by omega) (by omega)), r2.kept hTo (fun g hg ht => K g hg (by omega) (by omega) (by omega)), ?_, ?_,
      r5.kept hTo (fun g hg ht => K g hg (by omega) (by omega) (by omega)), r6.kept hTo (fun g hg ht => K g hg (by omega) (by omega) (by omega)), r7.kept hTo (fun g hg ht hr => hr.kept (K g hg (by omega) (by omega) (by omega))), r8.kept hTo (fun g hg ht hr => hr.kept (K g hg (by omega) (by omega) (by omega))), r9.kept hTo (fun g hg ht hr => hr.kept (K g hg (by omega) (by omega) (by omega)))⟩, ?_, ?_, ?_, ?_⟩
    · refine ⟨?_, fun g e => ?_⟩
      · rw [List.map_append, List.length_append, LF.out]
        refine own_same PS1.out.own fun g e => PS2.out.fz.block g (hvf2 g e) (fun h => ?_)
        rcases h with h | h
        · rcases PS1.out.where_ with e2 | e2
          · rw [e2, h] at e; exact N3.out e
          · rw [e2] at e; injection e with e; omega
        · rcases PS1.out.where_ with e2 | e2
          · rw [e2] at e; have h1 := R3.out.2 g e; have h2 := R4.out.2 g h; omega
          · rw [e2] at e; injection e with e; have := own_size R4.out.1 g h; omega
      · rcases PS1.out.where_ with e2 | e2
        · rw [e2] at e; rw [hTo g (own_size R3.out.1 g e)]; exact R3.out.2 g e
        · have hlt := hvf2 g e
          rw [e2] at e; injection e with e
          rw [tagN_old hlt, tagN_new (by omega)]
    · refine ⟨?_, fun g e => ?_⟩
      · rw [List.map_append, List.length_append, LW.out]
        exact PS2.out.own
      · rcases PS2.out.where_ with e2 | e2
        · rw [e2] at e; rw [hTo g (own_size R4.out.1 g e)]; exact R4.out.2 g e
        · rw [e2] at e; injection e with e
          rw [tagN_new (by omega)]
    · rw [hTo b hblt]; exact TB.out
    · exact fun e he => (en e he).kept hTo (by omega) (fun g hg h1 h2 => K g hg (by omega) (by omega) (by omega))
    · exact fun j hj => (hd j hj).kept hTo (fun g hg h => K g hg (by omega) (by omega) (by omega))
    · intro j hj
      by_cases hlt : j < fs.length
      · rw [List.getElem_append_left hlt]
        exact (fr j hlt).kept hTo (fun g hg h => K g hg (by omega) (by omega) (by omega))
      · obtain rfl : j = fs.length := by simp at hj; omega
        rw [List.getElem_append_right (Nat.le_refl _)]
        simp only [Nat.sub_self, List.getElem_cons_zero]
        have hbu := own_block OU.out
        refine ⟨?_, (show xs.length ≤ 256 from by rw [← HN.out]; exact hx), ?_, fun g e => ?_, fun g e => ?_⟩
        · show w5.ownsRow _ _ _ (.slice A n cap) xs.length _
          exact own_same HO.out fun g e => K g (own_size HO.out g e) (by have := HVT.out g e; omega) (by have := HVT.out g e; omega) (by have := HVT.out g e; omega)
        · show w5.ownsRow _ _ _ (.slice Au n cu) xs.length _
          have := own_zero OU.out
          rw [← HN.out]
          exact own_same this fun g e => K1 g (hbu g e).1 (hbu g e).2
        · rw [hTo g (own_size HO.out g e)]; exact HVT.out g e
        · rw [tagN_old (by have := (hbu g e).2; omega), tagN_old (hbu g e).2, tagN_new (hbu g e).1]
end Go.Proofs.Ytfoofipkbijajaa.Sa
