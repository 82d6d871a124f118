/- given: contract. No statement of the seat is proved here. -/
import Derived.Test.YtfoofipkbijajaaBook
namespace Go.Proofs.Ytfoofipkbijajaa.Sa
open Go.RowKit Go.Proofs.Ytfoofipkbijajaa.Kit
set_option linter.unusedSimpArgs false
set_option linter.unusedVariables false
/-- A list for use is another one now. -/
theorem BkIs.putBuf {w w' : World} {b : Nat} {T T' : Nat → Nat} {c : Nat} {ls : List En} {hs fs : List Fr} (h : BkIs w b T c ls hs fs) {k t : Nat} (hkt : (k = 6 ∧ t = 8) ∨ (k = 7 ∧ t = 9) ∨ (k = 8 ∧ t = 10)) (v : Value) (hT : ∀ g, g < w.heap.size → T' g = T g) (hsz : w.heap.size ≤ w'.heap.size)
    (hc : ∀ x, x < w.heap.size → x ≠ b → T x ≠ t → Bt (T x) → w'.heap[x]? = w.heap[x]?) (hb : ∀ cs, w.heap[b]? = some (.cells cs 55 (0, 0)) → w'.heap[b]? = some (.cells (cs.setIfInBounds k v) 55 (0, 0))) (hv : BufT w' T' t v) : BkIs w' b T' c ls hs fs := by
  have hblt := h.blt
  obtain ⟨⟨vl, vm, vf, vw, vh, vt, vb, va, vn, h1, h2, h3, h4, h5, h6, h7, h8, h9, h10⟩, tb, en, hd, fr⟩ := h
  have K : ∀ s, Bt s → s ≠ 1 → s ≠ t → ∀ g, g < w.heap.size → T g = s → w'.heap[g]? = w.heap[g]? := fun s hs a1 a2 g hg ht => hc g hg (fun e => by rw [e, tb] at ht; omega) (by omega) (by rw [ht]; exact hs)
  have B : ∀ s, 2 ≤ s → s ≤ 11 → Bt s := fun s a1 a2 => .inl (by omega)
  have hb1 := hb _ h1
  have hr2 := h2.kept hT (K 2 (B 2 (by omega) (by omega)) (by omega) (by omega))
  have hr3 := h3.kept hT (K 3 (B 3 (by omega) (by omega)) (by omega) (by omega))
  have hr4 := h4.kept hT (K 4 (B 4 (by omega) (by omega)) (by omega) (by omega))
  have hr5 := h5.kept hT (K 5 (B 5 (by omega) (by omega)) (by omega) (by omega))
  have hr6 := h6.kept hT (K 6 (B 6 (by omega) (by omega)) (by omega) (by omega))
  have hr7 := h7.kept hT (K 7 (B 7 (by omega) (by omega)) (by omega) (by omega))
  have en' := fun e he => (en e he).kept hT hsz (fun g hg h1 h2 => hc g hg (fun e => by rw [e, tb] at h1; omega) (by omega) (.inr h1))
  have hd' := fun j hj => (hd j hj).kept hT (fun g hg h => hc g hg (fun e => by rw [e, tb] at h; omega) (by omega) (by rcases h with h | h <;> simp only [Bt] <;> omega))
  have fr' := fun j hj => (fr j hj).kept hT (fun g hg h => hc g hg (fun e => by rw [e, tb] at h; omega) (by omega) (by rcases h with h | h <;> simp only [Bt] <;> omega))
  have tb' := (hT b hblt).trans tb
  rcases hkt with ⟨rfl, rfl⟩ | ⟨rfl, rfl⟩ | ⟨rfl, rfl⟩
  · have b9 := h9.kept hT (fun g hg ht hr => hr.kept (K 9 (B 9 (by omega) (by omega)) (by omega) (by omega) g hg ht))
    have b10 := h10.kept hT (fun g hg ht hr => hr.kept (K 10 (B 10 (by omega) (by omega)) (by omega) (by omega) g hg ht))
    exact ⟨⟨vl, vm, vf, vw, vh, vt, v, va, vn, hb1, hr2, hr3, hr4, hr5, hr6, hr7, hv, b9, b10⟩, tb', en', hd', fr'⟩
  · have b8 := h8.kept hT (fun g hg ht hr => hr.kept (K 8 (B 8 (by omega) (by omega)) (by omega) (by omega) g hg ht))
    have b10 := h10.kept hT (fun g hg ht hr => hr.kept (K 10 (B 10 (by omega) (by omega)) (by omega) (by omega) g hg ht))
    exact ⟨⟨vl, vm, vf, vw, vh, vt, vb, v, vn, hb1, hr2, hr3, hr4, hr5, hr6, hr7, b8, hv, b10⟩, tb', en', hd', fr'⟩
  · have b8 := h8.kept hT (fun g hg ht hr => hr.kept (K 8 (B 8 (by omega) (by omega)) (by omega) (by omega) g hg ht))
    have b9 := h9.kept hT (fun g hg ht hr => hr.kept (K 9 (B 9 (by omega) (by omega)) (by omega) (by omega) g hg ht))
    exact ⟨⟨vl, vm, vf, vw, vh, vt, vb, va, v, hb1, hr2, hr3, hr4, hr5, hr6, hr7, b8, b9, hv⟩, tb', en', hd', fr'⟩
/-- What given hands out. -/
def GivP (w : World) (b : Nat) (T : Nat → Nat) (c : Nat) (ls : List En) (hs fs : List Fr) (xs : List Int) (e : Ending) (w' : World) : Prop :=
  ∃ g cap N T', e = .returned (.slice (some ⟨g, 0, none⟩) (xs.length + 1) cap) ∧ Len w' g cap xs ∧ RowN w' g N ∧ xs.length + 1 ≤ N ∧ T' g = 8 ∧ BkIs w' b T' c ls hs fs ∧ (∀ x, x < w.heap.size → T' x = T x) ∧ Fz w w' T (fun t => t = 1 ∨ t = 8)
set_option maxRecDepth 4000 in
set_option maxHeartbeats 2000000 in
theorem given_big (w : World) (b : Nat) (T : Nat → Nat) (c : Nat) (ls : List En) (hs fs : List Fr) (h : BkIs w b T c ls hs fs) (v : Value) (xs : List Int) (hv : Rb w v xs) (hl : 300 < xs.length) :
    Calls Try.prog 30 #[.pointer (some ⟨b, 0, none⟩), v] w (GivP w b T c ls hs fs xs) := by
  have HB := Lib.hid h
  have L := Lib.hid (lent_any w v xs hv)
  have hl2 : xs.length ≤ 140737488351232 := by have := hv.few; omega
  obtain ⟨⟨A, cap, rfl, hcap, _⟩, _⟩ := hv
  obtain ⟨n, hn⟩ : ∃ n, n = xs.length := ⟨_, rfl⟩
  have HN := Lib.hid hn
  rw [← hn] at L hl hl2 ⊢
  clear h hn hcap
  go_enter Try.func30, Try.ntmps30
  go_wp2_with fail
  refine L.out.mono ?_
  rintro e w1 ⟨v', rfl, ho, hc⟩
  have hlen : (xs ++ [90]).length = n + 1 := by rw [List.length_append, ← HN.out]; rfl
  obtain ⟨g, c1, N, rfl, hg, hr, hN⟩ := RowN.of_own ho (by omega)
  have RB := Len.of_own ho (show xs.length * 1 ≤ 140737488351232 by have := HN.out; omega)
  rw [hlen] at hN ⊢
  have F := Lib.hid (show GivP w b T c ls hs fs xs (.returned (.slice (some ⟨g, 0, none⟩) (n + 1) c1)) w1 from ⟨g, c1, N, tagN T w.heap.size 8, by rw [← HN.out], RB, hr, by rw [← HN.out]; exact hN, tagN_new hg,
    HB.out.kept (fun x hx => tagN_old hx) hc.size (fun x hx _ => hc.block x hx (by simp)), fun x hx => tagN_old hx, Fz.of_chg hc (fun _ e => by cases e)⟩)
  clear ho hc hr hN RB L
  go_wp2
  go_ret
  exact F.out
set_option maxRecDepth 8000 in
set_option maxHeartbeats 4000000 in
theorem given_some (w : World) (b : Nat) (T : Nat → Nat) (c : Nat) (ls : List En) (hs fs : List Fr) (h : BkIs w b T c ls hs fs) (g : Nat) (hg6 : w.cell? ⟨b, 6, none⟩ = some (.slice (some ⟨g, 0, none⟩) 310 310)) (hrg : RowN w g 310) (hTg : T g = 8) (v : Value) (xs : List Int) (hv : Rb w v xs) (hl : xs.length ≤ 300) :
    Calls Try.prog 30 #[.pointer (some ⟨b, 0, none⟩), v] w (GivP w b T c ls hs fs xs) := by
  have HB := Lib.hid h
  have HRG := Lib.hid hrg
  have hgb : g ≠ b := fun e => by have := h.tb; rw [← e] at this; omega
  have hblt := h.blt
  obtain ⟨cs, hrow, hsz⟩ := hrg
  have hglt : g < w.heap.size := (Array.getElem?_eq_some_iff.1 hrow).1
  obtain ⟨A, cap, rfl, hsrc⟩ := sl_src hv
  have HS := Lib.hid hsrc
  have HROW := Lib.hid hrow
  have LR := Lib.hid (fun w1 hrow => laid_row (w1 := w1) (g := g) hsz hl hrow)
  have HC := Lib.hid (show cs.toList.length = 310 from by simpa using hsz)
  have ML := Lib.hid (show (xs.map (Value.int .u8)).length = xs.length * 1 from by simp)
  have MO := Lib.hid (map_one .u8 xs)
  obtain ⟨n, hn⟩ : ∃ n, n = xs.length := ⟨_, rfl⟩
  have HN := Lib.hid hn
  rw [← hn] at hl HS LR ML ⊢
  clear hsrc hrow hv hn hsz h
  go_enter Try.func30, Try.ntmps30
  go_wp2_with (refine wpList_copy_any _ rfl (.tmp 23) (.tmp 24) 33 33 rfl 5 1 Try.underlying33 info5s g 310 310 A n cap rfl rfl cs.toList 5 HROW.out (by omega) (xs.map (Value.int .u8)) ML.out HS.out (by rw [ML.out, HC.out]; omega) MO.out ?_)
  intro w1 hrow0 hch
  have hrow : w1.heap[g]? = some (.cells (xs.map (Value.int .u8) ++ cs.toList.drop (xs.map (Value.int .u8)).length).toArray 5 (0, 0)) := by rw [List.length_map]; exact hrow0
  clear hrow0
  have h2 := LR.out w1 hrow
  have hb1 := hch.block b hblt (fun e => hgb (by injection e with e; exact e.symm))
  have e6 : w1.cell? ⟨b, 6, none⟩ = some (.slice (some ⟨g, 0, none⟩) 310 310) := by rw [World.cell?_of_block (show w1.heap[(⟨b, 6, none⟩ : Addr).block]? = w.heap[b]? from hb1)]; exact hg6
  have e6' : (w1.setCell ⟨g, n, none⟩ (.int .u8 90)).cell? ⟨b, 6, none⟩ = some (.slice (some ⟨g, 0, none⟩) 310 310) := by
    rw [World.cell?_of_block (show (w1.setCell ⟨g, n, none⟩ (.int .u8 90)).heap[(⟨b, 6, none⟩ : Addr).block]? = w1.heap[b]? from heap_setCell_other _ _ _ _ (fun e => hgb e.symm))]; exact e6
  have CF := Chg.set (show Chg w w1 (some g) from hch) n (.int .u8 90)
  have F := Lib.hid (show GivP w b T c ls hs fs xs (.returned (.slice (some ⟨g, 0, none⟩) (n + 1) 310)) (w1.setCell ⟨g, n, none⟩ (.int .u8 90)) from ⟨g, 310, 310, T, by rw [← HN.out], Len.of_rb (by rw [← HN.out]; exact h2.2), h2.1, by rw [← HN.out]; omega, hTg,
    HB.out.over ⟨by omega, by omega⟩ CF HRG.out h2.1, fun _ _ => rfl, Fz.of_chg CF (fun x e _ => by cases e; exact .inr hTg)⟩)
  obtain ⟨cu, hcu⟩ : ∃ u, w1.cell? ⟨g, n, none⟩ = some u := by
    rw [cell_of_row _ _ _ _ _ _ hrow]
    have : n < ((xs.map (Value.int .u8) ++ cs.toList.drop (xs.map (Value.int .u8)).length).toArray).size := by
      have h1 := ML.out; have h3 := HC.out
      simp only [List.size_toArray, List.length_append, List.length_drop]; omega
    exact ⟨_, Array.getElem?_eq_getElem this⟩
  have hf := frozen_of_row w1 g n _ _ hrow
  clear hrow hch h2 LR HS CF hb1
  go_wp2
  go_ret
  exact F.out
set_option maxRecDepth 8000 in
set_option maxHeartbeats 4000000 in
theorem given_none (w : World) (b : Nat) (T : Nat → Nat) (c : Nat) (ls : List En) (hs fs : List Fr) (h : BkIs w b T c ls hs fs) (hg6 : w.cell? ⟨b, 6, none⟩ = some (.slice none 0 0)) (hf6 : w.frozen? ⟨b, 6, none⟩ = false) (v : Value) (xs : List Int) (hv : Rb w v xs) (hl : xs.length ≤ 300) (hvb : 0 < xs.length → ∀ g, v.ownBlock = some g → g ≠ b) :
    Calls Try.prog 30 #[.pointer (some ⟨b, 0, none⟩), v] w (GivP w b T c ls hs fs xs) := by
  have HB := Lib.hid h
  have hblt := h.blt
  obtain ⟨W, hW⟩ : ∃ W, W = (w.setCell ⟨b, 6, none⟩ (.slice (some ⟨w.heap.size, 0, none⟩) 310 310)).alloc (.cells z310 5) := ⟨_, rfl⟩
  have hgb : w.heap.size ≠ b := by omega
  have hC0 : Chg w (w.alloc (.cells z310 5)) none := (Chg.refl w none).alloc _
  have hC1 : Chg w W (some b) := by rw [hW]; exact (Chg.set (Chg.refl w (some b)) _ _).alloc _
  have hrow : W.heap[w.heap.size]? = some (.cells z310 5 (0, 0)) := by
    have := heap_alloc_last (w.setCell ⟨b, 6, none⟩ (.slice (some ⟨w.heap.size, 0, none⟩) 310 310)) (.cells z310 5)
    rw [hW]; simpa using this
  have hbrow : ∀ cs, w.heap[b]? = some (.cells cs 55 (0, 0)) → W.heap[b]? = some (.cells (cs.setIfInBounds 6 (.slice (some ⟨w.heap.size, 0, none⟩) 310 310)) 55 (0, 0)) := fun cs h => by
    rw [hW, heap_alloc_old (h := by simpa using hblt)]; exact heap_setCell_same _ b 6 _ _ _ h
  have hsW : W.heap.size = w.heap.size + 1 := by rw [hW]; simp
  have hBW : BkIs W b (tagN T w.heap.size 8) c ls hs fs := h.putBuf (k := 6) (t := 8) (.inl ⟨rfl, rfl⟩) (.slice (some ⟨w.heap.size, 0, none⟩) 310 310) (fun x hx => tagN_old hx) (by omega) (fun x hx hn _ _ => hC1.block x hx (fun e => hn (by injection e))) hbrow
    ⟨.inr ⟨_, rfl, _, hrow, z310_size⟩, fun g e => by cases e; exact tagN_new (Nat.le_refl _)⟩
  have HBW := Lib.hid hBW
  have HC1 := Lib.hid hC1
  have HTB := Lib.hid h.tb
  have c6 : W.cell? ⟨b, 6, none⟩ = some (.slice (some ⟨w.heap.size, 0, none⟩) 310 310) := by
    obtain ⟨vl, vm, vf, vw, vh, vt, vb, va, vn, h1, _⟩ := h.row
    rw [cell_of_row _ _ _ _ _ _ (hbrow _ h1)]; rfl
  have hv1 : Rb W v xs := hv.keptp fun h0 g e hl => hC1.block g hl (fun e2 => by injection e2 with e2; exact hvb h0 g e e2)
  obtain ⟨A, cap, rfl, hsrc⟩ := sl_src hv1
  have hmk := make310
  have HS := Lib.hid hsrc
  have HROW := Lib.hid hrow
  have LR := Lib.hid (fun w1 hrow => laid_row (w1 := w1) (g := w.heap.size) z310_size hl hrow)
  have HC := Lib.hid (show z310.toList.length = 310 from by simpa using z310_size)
  have ML := Lib.hid (show (xs.map (Value.int .u8)).length = xs.length * 1 from by simp)
  have MO := Lib.hid (map_one .u8 xs)
  obtain ⟨n, hn⟩ : ∃ n, n = xs.length := ⟨_, rfl⟩
  have HN := Lib.hid hn
  rw [← hn] at hl HS LR ML ⊢
  have HW := Lib.hid hW
  have hg6' : (w.alloc (.cells z310 5)).cell? ⟨b, 6, none⟩ = some (.slice none 0 0) := by rw [World.cell?_of_block (show (w.alloc (.cells z310 5)).heap[(⟨b, 6, none⟩ : Addr).block]? = w.heap[b]? from heap_alloc_old _ _ hblt)]; exact hg6
  have hf6' : (w.alloc (.cells z310 5)).frozen? ⟨b, 6, none⟩ = false := by
    obtain ⟨vl, vm, vf, vw, vh, vt, vb, va, vn, h1, _⟩ := h.row
    exact frozen_of_row _ _ _ _ _ (show (w.alloc (.cells z310 5)).heap[b]? = _ from by rw [heap_alloc_old _ _ hblt]; exact h1)
  clear hsrc hrow hv hv1 hn h hC0 hC1 hbrow hBW hW hvb
  go_enter Try.func30, Try.ntmps30
  go_upto_region 5 with (fail)
  rw [← HW.out]
  clear hg6 hf6 hg6' hf6'
  obtain ⟨g, hg⟩ : ∃ g, g = w.heap.size := ⟨_, rfl⟩
  have HG := Lib.hid hg
  rw [← hg] at hgb c6 HROW LR ⊢
  clear hg
  go_wp2_with (refine wpList_copy_any _ rfl (.tmp 23) (.tmp 24) 33 33 rfl 5 1 Try.underlying33 info5s g 310 310 A n cap rfl rfl z310.toList 5 HROW.out (by omega) (xs.map (Value.int .u8)) ML.out HS.out (by rw [ML.out, HC.out]; omega) MO.out ?_)
  intro w1 hrow0 hch
  have hrow : w1.heap[g]? = some (.cells (xs.map (Value.int .u8) ++ z310.toList.drop (xs.map (Value.int .u8)).length).toArray 5 (0, 0)) := by rw [List.length_map]; exact hrow0
  clear hrow0
  have h2 := LR.out w1 hrow
  have hb1 := hch.block b (by omega) (fun e => hgb (by injection e with e; exact e.symm))
  have e6 : w1.cell? ⟨b, 6, none⟩ = some (.slice (some ⟨g, 0, none⟩) 310 310) := by rw [World.cell?_of_block (show w1.heap[(⟨b, 6, none⟩ : Addr).block]? = W.heap[b]? from hb1)]; exact c6
  have e6' : (w1.setCell ⟨g, n, none⟩ (.int .u8 90)).cell? ⟨b, 6, none⟩ = some (.slice (some ⟨g, 0, none⟩) 310 310) := by
    rw [World.cell?_of_block (show (w1.setCell ⟨g, n, none⟩ (.int .u8 90)).heap[(⟨b, 6, none⟩ : Addr).block]? = w1.heap[b]? from heap_setCell_other _ _ _ _ (fun e => hgb e.symm))]; exact e6
  have CF := Chg.set (show Chg W w1 (some g) from hch) n (.int .u8 90)
  have hT8 : tagN T w.heap.size 8 g = 8 := by rw [HG.out]; exact tagN_new (Nat.le_refl _)
  have F := Lib.hid (show GivP w b T c ls hs fs xs (.returned (.slice (some ⟨g, 0, none⟩) (n + 1) 310)) (w1.setCell ⟨g, n, none⟩ (.int .u8 90)) from ⟨g, 310, 310, tagN T w.heap.size 8, by rw [← HN.out], Len.of_rb (by rw [← HN.out]; exact h2.2), h2.1, by rw [← HN.out]; omega, hT8,
    HBW.out.over ⟨by omega, by omega⟩ CF ⟨_, HROW.out, z310_size⟩ h2.1, fun x hx => tagN_old hx, Fz.of_chg (r := some b) (HC1.out.trans_new CF (by rw [HG.out]; exact Nat.le_refl _)) (fun x e _ => by cases e; exact .inl HTB.out)⟩)
  obtain ⟨cu, hcu⟩ : ∃ u, w1.cell? ⟨g, n, none⟩ = some u := by
    rw [cell_of_row _ _ _ _ _ _ hrow]
    have : n < ((xs.map (Value.int .u8) ++ z310.toList.drop (xs.map (Value.int .u8)).length).toArray).size := by
      have h1 := ML.out; have h3 := HC.out
      simp only [List.size_toArray, List.length_append, List.length_drop]; omega
    exact ⟨_, Array.getElem?_eq_getElem this⟩
  have hf := frozen_of_row w1 g n _ _ hrow
  clear hrow hch h2 LR HS CF hb1 hT8
  go_wp2
  go_ret
  exact F.out
theorem given_any (w : World) (b : Nat) (T : Nat → Nat) (c : Nat) (ls : List En) (hs fs : List Fr) (h : BkIs w b T c ls hs fs) (v : Value) (xs : List Int) (hv : Rb w v xs) (hvb : 0 < xs.length → ∀ g, v.ownBlock = some g → g ≠ b) :
    Calls Try.prog 30 #[.pointer (some ⟨b, 0, none⟩), v] w (GivP w b T c ls hs fs xs) := by
  by_cases hl : xs.length ≤ 300
  · obtain ⟨vl, vm, vf, vw, vh, vt, vb, va, vn, h1, _, _, _, _, _, _, h8, _⟩ := h.row
    have c6 : w.cell? ⟨b, 6, none⟩ = some vb := by rw [cell_of_row _ _ _ _ _ _ h1]; rfl
    rcases h8.1 with rfl | ⟨g, rfl, hr⟩
    · exact given_none w b T c ls hs fs h c6 (frozen_of_row w b 6 _ _ h1) v xs hv hl hvb
    · exact given_some w b T c ls hs fs h g c6 hr (h8.2 g rfl) v xs hv hl
  · exact given_big w b T c ls hs fs h v xs hv (by omega)
end Go.Proofs.Ytfoofipkbijajaa.Sa
