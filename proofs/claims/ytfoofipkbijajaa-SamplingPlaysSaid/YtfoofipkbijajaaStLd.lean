/- step: what Load takes: lists lent, the state in a box; contracts. No statement of the seat is proved here. -/
import Derived.Test.YtfoofipkbijajaaStepA
namespace Go.Proofs.Ytfoofipkbijajaa.Sa
open Go.RowKit Go.Proofs.Ytfoofipkbijajaa.Kit
set_option linter.unusedSimpArgs false
set_option linter.unusedVariables false
def ldok (P : PA) (th wa : Bool) (ld nd : List Int) (lt nt : Nat) : Bool := mok P.S th ld.length lt && mok P.S wa nd.length nt
def ldE (P : PA) (th wa : Bool) (ld nd : List Int) (lt nt : Nat) : Int := if ldok P th wa ld nd lt nt then 0 else 160
def ldP (P : PA) (th wa : Bool) (ld nd : List Int) (lt nt : Nat) : PA := if ldok P th wa ld nd lt nt then { P with A := ⟨th, ld, lt⟩, B := ⟨wa, nd, nt⟩ } else P
theorem mok_len {S : Int} {th : Bool} {n t : Nat} (h : mok S th n t = true) (hS : S ≤ 256) : n ≤ 256 := by
  have h1 : (chk S n == 0) = true := by unfold mok at h; exact (Bool.and_eq_true_iff.1 h).1
  have h2 : chk S n = 0 := by simpa using h1
  unfold chk at h2
  split at h2
  · cases h2
  · omega
theorem St.loadx {w0 w : World} {T0 T : Nat → Nat} {bx by_ b q t c : Nat} {Px Py : PA} {d : OpD} {ls : List En} {hs fs : List Fr} (h : St w0 w T0 T bx by_ b q t c Px Py d ls hs fs) (th wa : Bool) (lv nv : Value) (ld nd : List Int) (lt nt : Nat) (hl : Rb w lv ld) (hn : Rb w nv nd) (nl : ∀ g, lv.ownBlock = some g → g ≠ bx) (nn : ∀ g, nv.ownBlock = some g → g ≠ bx) :
    Calls Try.prog 22 #[.pointer (some ⟨bx, 0, none⟩), .agg #[.bool th, .bool wa, lv, .int .u64 lt, nv, .int .u64 nt]] w fun e w' => e = .returned (.int .i64 (ldE Px th wa ld nd lt nt)) ∧ Chg w w' (some bx) ∧ ∃ T', St w0 w' T0 T' bx by_ b q t c (ldP Px th wa ld nd lt nt) Py d ls hs fs ∧ ∀ x, x < w.heap.size → T' x = T x := by
  obtain ⟨F, hF, hFt⟩ := h.pr.x
  refine (load_any w bx F Px hF th wa lv nv ld nd lt nt hl hn nl nn).mono ?_
  rintro e w' (⟨m1, m2, rfl, hc, F', hP, hsub⟩ | ⟨m, rfl, hc⟩)
  · have hok : ldok Px th wa ld nd lt nt = true := by simp [ldok, m1, m2]
    have e1 : ldP Px th wa ld nd lt nt = { Px with A := ⟨th, ld, lt⟩, B := ⟨wa, nd, nt⟩ } := by unfold ldP; rw [if_pos hok]
    refine ⟨by unfold ldE; rw [if_pos hok], hc, tagN T w.heap.size (t + 2), ?_, fun x hx => tagN_old hx⟩
    rw [e1]
    exact h.onx hFt hF.lt hc hP hsub ⟨mok_len m1 h.pr.size.2, mok_len m2 h.pr.size.2⟩ rfl
  · have hok : ldok Px th wa ld nd lt nt = false := m
    have e1 : ldP Px th wa ld nd lt nt = Px := by unfold ldP; rw [if_neg (by rw [hok]; decide)]
    refine ⟨by unfold ldE; rw [if_neg (by rw [hok]; decide)], hc.any _, T, ?_, fun x hx => rfl⟩
    rw [e1]
    exact h.grow hc (fun _ _ => rfl)
theorem St.loady {w0 w : World} {T0 T : Nat → Nat} {bx by_ b q t c : Nat} {Px Py : PA} {d : OpD} {ls : List En} {hs fs : List Fr} (h : St w0 w T0 T bx by_ b q t c Px Py d ls hs fs) (hS : 4 ≤ Py.S) (th wa : Bool) (lv nv : Value) (ld nd : List Int) (lt nt : Nat) (hlt : lt < 18446744073709551616) (hnt : nt < 18446744073709551616) (hl : Rb w lv ld) (hn : Rb w nv nd) :
    Calls Try.prog 38 #[.pointer (some ⟨by_, 0, none⟩), .agg #[.bool th, .bool wa, lv, .int .u64 lt, nv, .int .u64 nt]] w fun e w' => e = .returned (.int .i64 (ldE Py th wa ld nd lt nt)) ∧ ∃ T', St w0 w' T0 T' bx by_ b q t c Px (ldP Py th wa ld nd lt nt) d ls hs fs := by
  obtain ⟨F, hF, hFt⟩ := h.pr.y
  refine (rload_any w by_ F Py hF hS th wa lv nv ld nd lt nt hlt hnt hl hn).mono ?_
  rintro e w' (⟨m1, m2, rfl, hc, F', hP, hsub⟩ | ⟨m, rfl, hc⟩)
  · have hok : ldok Py th wa ld nd lt nt = true := by simp [ldok, m1, m2]
    have e1 : ldP Py th wa ld nd lt nt = { Py with A := ⟨th, ld, lt⟩, B := ⟨wa, nd, nt⟩ } := by unfold ldP; rw [if_pos hok]
    refine ⟨by unfold ldE; rw [if_pos hok], tagN T w.heap.size (t + 3), ?_⟩
    rw [e1]
    exact h.ony hFt hF.lt hc hP hsub
  · have hok : ldok Py th wa ld nd lt nt = false := m
    have e1 : ldP Py th wa ld nd lt nt = Py := by unfold ldP; rw [if_neg (by rw [hok]; decide)]
    refine ⟨by unfold ldE; rw [if_neg (by rw [hok]; decide)], T, ?_⟩
    rw [e1]
    exact h.grow hc (fun _ _ => rfl)
/-- A lent list that lies somewhere, and may be written over. -/
def Lt (w : World) (T : Nat → Nat) (g cap : Nat) (xs : List Int) (tg : Nat) : Prop := Len w g cap xs ∧ (∃ N, RowN w g N ∧ xs.length + 1 ≤ N) ∧ T g = tg
theorem Lt.lt {w : World} {T : Nat → Nat} {g cap : Nat} {xs : List Int} {tg : Nat} (h : Lt w T g cap xs tg) : g < w.heap.size := by
  obtain ⟨_, ⟨N, ⟨cs, h1, _⟩, _⟩, _⟩ := h
  exact (Array.getElem?_eq_some_iff.1 h1).1
theorem Lt.kept {w w' : World} {T T' : Nat → Nat} {g cap : Nat} {xs : List Int} {tg : Nat} (h : Lt w T g cap xs tg) (hk : w'.heap[g]? = w.heap[g]?) (hT : T' g = T g) : Lt w' T' g cap xs tg := by
  obtain ⟨h1, ⟨N, h2, h3⟩, h4⟩ := h
  exact ⟨h1.kept hk, ⟨N, h2.kept hk, h3⟩, hT.trans h4⟩
theorem St.lent {w0 w : World} {T0 T : Nat → Nat} {bx by_ b q t c : Nat} {Px Py : PA} {d : OpD} {ls : List En} {hs fs : List Fr} (h : St w0 w T0 T bx by_ b q t c Px Py d ls hs fs) (v : Value) (xs : List Int) (hv : Rb w v xs) (tg : Nat) : Calls Try.prog 36 #[v] w fun e w' => ∃ g cap, e = .returned (.slice (some ⟨g, 0, none⟩) (xs.length + 1) cap) ∧ Chg w w' none ∧ St w0 w' T0 (tagN T w.heap.size tg) bx by_ b q t c Px Py d ls hs fs ∧ Lt w' (tagN T w.heap.size tg) g cap xs tg := by
  refine (lent_any w v xs hv).mono ?_
  rintro e w' ⟨v', rfl, ho, hc⟩
  have hlen : (xs ++ [90]).length = xs.length + 1 := by simp
  obtain ⟨g, cp, N, rfl, hg, hr, hN⟩ := RowN.of_own ho (by omega)
  rw [hlen] at hN ⊢
  exact ⟨g, cp, rfl, hc, h.grow hc (fun x hx => tagN_old hx), Len.of_own ho hv.few, ⟨N, hr, hN⟩, tagN_new hg⟩
theorem St.kepL {w0 w : World} {T0 T : Nat → Nat} {bx by_ b q t c : Nat} {Px Py : PA} {d : OpD} {ls : List En} {hs fs : List Fr} (h : St w0 w T0 T bx by_ b q t c Px Py d ls hs fs) (g cap tg : Nat) (v : Value) (xs : List Int) (hx : Lt w T g cap xs tg) (htg : 8 ≤ tg ∧ tg ≤ 10) (hv : Rb w v xs) :
    Calls Try.prog 31 #[.slice (some ⟨g, 0, none⟩) (xs.length + 1) cap, v] w fun e w' => e = .returned (.bool true) ∧ Chg w w' (some g) ∧ St w0 w' T0 T bx by_ b q t c Px Py d ls hs fs := by
  obtain ⟨h1, ⟨N, h2, h3⟩, h4⟩ := hx
  exact h.kep g cap N v xs h1 h3 h2 (by omega) hv
/-- The step's own state in a box. -/
def Bp (w0 w : World) (T : Nat → Nat) (p : Nat) (cs : List Value) : Prop := w.heap[p]? = some (.cells cs.toArray 44 (0, 0)) ∧ T p = 12 ∧ w0.heap.size ≤ p
theorem Bp.cell {w0 w : World} {T : Nat → Nat} {p : Nat} {cs : List Value} (h : Bp w0 w T p cs) {k : Nat} {v : Value} (hv : cs[k]? = some v) : w.cell? ⟨p, k, none⟩ = some v := by
  rw [cell_of_row _ _ _ _ _ _ h.1, List.getElem?_toArray]; exact hv
theorem Bp.kept {w0 w w' : World} {T T' : Nat → Nat} {p : Nat} {cs : List Value} (h : Bp w0 w T p cs) (hk : w'.heap[p]? = w.heap[p]?) (hT : T' p = T p) : Bp w0 w' T' p cs := ⟨hk.trans h.1, hT.trans h.2.1, h.2.2⟩
theorem Bp.lt {w0 w : World} {T : Nat → Nat} {p : Nat} {cs : List Value} (h : Bp w0 w T p cs) : p < w.heap.size := (Array.getElem?_eq_some_iff.1 h.1).1
theorem Bp.set {w0 w : World} {T : Nat → Nat} {p : Nat} {cs : List Value} (h : Bp w0 w T p cs) (k : Nat) (v : Value) : Bp w0 (w.setCell ⟨p, k, none⟩ v) T p (cs.set k v) := by
  refine ⟨?_, h.2.1, h.2.2⟩
  have := heap_setCell_same w p k _ _ v h.1
  simpa using this
theorem St.box {w0 w : World} {T0 T : Nat → Nat} {bx by_ b q t c : Nat} {Px Py : PA} {d : OpD} {ls : List En} {hs fs : List Fr} (h : St w0 w T0 T bx by_ b q t c Px Py d ls hs fs) (cs : List Value) : St w0 (w.alloc (.cells cs.toArray 44)) T0 (tagN T w.heap.size 12) bx by_ b q t c Px Py d ls hs fs ∧ Bp w0 (w.alloc (.cells cs.toArray 44)) (tagN T w.heap.size 12) w.heap.size cs :=
  ⟨h.grow ((Chg.refl w none).alloc _) (fun x hx => tagN_old hx), heap_alloc_last w _, tagN_new (Nat.le_refl _), h.fz.size⟩
theorem St.poke {w0 w : World} {T0 T : Nat → Nat} {bx by_ b q t c : Nat} {Px Py : PA} {d : OpD} {ls : List En} {hs fs : List Fr} (h : St w0 w T0 T bx by_ b q t c Px Py d ls hs fs) {p : Nat} (hp : T p = 12) (h0 : w0.heap.size ≤ p) {w' : World} (hc : Chg w w' (some p)) : St w0 w' T0 T bx by_ b q t c Px Py d ls hs fs := by
  have hk : ∀ g, g < w.heap.size → T g ≠ 12 → w'.heap[g]? = w.heap[g]? := fun g hg hn => hc.block g hg (fun e => hn (by injection e with e; rw [e]; exact hp))
  have hq : q < w.heap.size := (Array.getElem?_eq_some_iff.1 h.row).1
  have ht := h.ht
  exact ⟨h.pr.kept (fun _ _ => rfl) hc.size (fun g hg h1 h2 => hk g hg (by omega)), h.bk.kept (fun _ _ => rfl) hc.size (fun g hg hb => hk g hg (by simp only [Bt] at hb; omega)), h.ar.kept (fun _ _ => rfl) (fun g hg h1 => hk g hg (by omega)), (hk q hq (by rw [h.tq]; omega)).trans h.row, h.tq, h.old,
    ⟨hc.os.trans h.fz.os, hc.tape.trans h.fz.tape, hc.output.trans h.fz.output, Nat.le_trans h.fz.size hc.size, fun i hi hn => (hc.block i (Nat.lt_of_lt_of_le hi h.fz.size) (fun e => by injection e with e; omega)).trans (h.fz.block i hi hn)⟩, h.ht⟩
/-- 'b.last = laid(b.last, ..)', 'b.next = ..'. -/
theorem St.laid {w0 w : World} {T0 T : Nat → Nat} {bx by_ b q t c : Nat} {Px Py : PA} {d : OpD} {ls : List En} {hs fs : List Fr} (h : St w0 w T0 T bx by_ b q t c Px Py d ls hs fs) {k tg : Nat} (hkt : (k = 7 ∧ tg = 9) ∨ (k = 8 ∧ tg = 10)) (v : Value) (xs : List Int) (hv : Rb w v xs) (hx : xs.length ≤ 300) :
    ∃ vl, w.cell? ⟨b, k, none⟩ = some vl ∧ (∃ A n cap, vl = .slice A n cap) ∧ Calls Try.prog 37 #[vl, v] w fun e w' => ∃ g, e = .returned (.slice (some ⟨g, 0, none⟩) 310 310) ∧ Chg w w' vl.ownBlock ∧ w'.cell? ⟨b, k, none⟩ = some vl ∧ w'.frozen? ⟨b, k, none⟩ = false ∧ Lt w' (tagN T w.heap.size tg) g 310 xs tg ∧
      ∃ T', St w0 (w'.setCell ⟨b, k, none⟩ (.slice (some ⟨g, 0, none⟩) 310 310)) T0 T' bx by_ b q t c Px Py d ls hs fs ∧ Lt (w'.setCell ⟨b, k, none⟩ (.slice (some ⟨g, 0, none⟩) 310 310)) T' g 310 xs tg ∧ (∀ x, x < w.heap.size → T' x = T x) ∧ Fz w (w'.setCell ⟨b, k, none⟩ (.slice (some ⟨g, 0, none⟩) 310 310)) T (fun s => s = 1 ∨ s = tg) ∧ (w'.setCell ⟨b, k, none⟩ (.slice (some ⟨g, 0, none⟩) 310 310)).cell? ⟨b, k, none⟩ = some (.slice (some ⟨g, 0, none⟩) 310 310) ∧ ∀ j, j ≠ k → (w'.setCell ⟨b, k, none⟩ (.slice (some ⟨g, 0, none⟩) 310 310)).cell? ⟨b, j, none⟩ = w.cell? ⟨b, j, none⟩ := by
  obtain ⟨vl0, vm, vf, vw, vh, vt, vb, va, vn, hrow, _, _, _, _, _, _, h8, h9, h10⟩ := h.bk.row
  obtain ⟨vl, hc0, hb⟩ : ∃ vl, #[vl0, vm, vf, vw, vh, vt, vb, va, vn][k]? = some vl ∧ BufT w T tg vl := by
    rcases hkt with ⟨rfl, rfl⟩ | ⟨rfl, rfl⟩
    · exact ⟨va, rfl, h9⟩
    · exact ⟨vn, rfl, h10⟩
  have hblt := h.bk.blt
  have htb := h.bk.tb
  have hne : vl.ownBlock ≠ some b := fun e => by have := hb.2 b e; omega
  refine ⟨vl, by rw [cell_of_row _ _ _ _ _ _ hrow]; exact hc0, ?_, (laid_any w vl hb.1 v xs hv hx).mono ?_⟩
  · rcases hb.1 with rfl | ⟨g, rfl, _⟩ <;> exact ⟨_, _, _, rfl⟩
  rintro e w' ⟨g, rfl, hg, hc, hr, hx2⟩
  have hrow' : w'.heap[b]? = some (.cells #[vl0, vm, vf, vw, vh, vt, vb, va, vn] 55 (0, 0)) := (hc.block b hblt (fun e => hne e.symm)).trans hrow
  have hgt : tagN T w.heap.size tg g = tg := by
    rcases hg with e | ⟨_, e⟩
    · rw [tagN_old (hb.1.lt g e)]; exact hb.2 g e
    · exact tagN_new (by omega)
  have hgb : g ≠ b := fun e => by
    rcases hg with e2 | ⟨_, e2⟩
    · rw [e] at e2; exact hne e2
    · omega
  have hL : Lt w' (tagN T w.heap.size tg) g 310 xs tg := ⟨Len.of_rb hx2, ⟨310, hr, by omega⟩, hgt⟩
  have K2 := (Chg.refl w' (some b)).set k (.slice (some ⟨g, 0, none⟩) 310 310)
  have hbk : BkIs (w'.setCell ⟨b, k, none⟩ (.slice (some ⟨g, 0, none⟩) 310 310)) b (tagN T w.heap.size tg) c ls hs fs :=
    h.bk.putBuf (k := k) (t := tg) (by omega) _ (fun x hx => tagN_old hx) (Nat.le_trans hc.size K2.size) (fun x hx hn ht _ => by
      rw [K2.block x (Nat.lt_of_lt_of_le hx hc.size) (fun e => hn (by injection e)), hc.block x hx (fun e => ht (hb.2 x e.symm))])
      (fun cs hcs => heap_setCell_same _ b k _ _ _ ((hc.block b hblt (fun e => hne e.symm)).trans hcs))
      ⟨.inr ⟨g, rfl, hr.kept (K2.block g hL.lt (fun e => hgb (by injection e)))⟩, fun x e => by cases e; exact hgt⟩
  have hF : Fz w (w'.setCell ⟨b, k, none⟩ (.slice (some ⟨g, 0, none⟩) 310 310)) T (fun s => s = 1 ∨ s = tg) := ⟨hc.os, hc.tape, hc.output, Nat.le_trans hc.size K2.size, fun i hi hn => by
    rw [K2.block i (Nat.lt_of_lt_of_le hi hc.size) (fun e => hn (.inl (by injection e with e; rw [e]; exact htb))), hc.block i hi (fun e => hn (.inr (hb.2 i e.symm)))]⟩
  refine ⟨g, rfl, hc, by rw [cell_of_row _ _ _ _ _ _ hrow']; exact hc0, frozen_of_row _ _ _ _ _ hrow', hL, tagN T w.heap.size tg, h.book hbk (fun x hx => tagN_old hx) hF (fun s hs => by omega), hL.kept (K2.block g hL.lt (fun e => hgb (by injection e))) rfl, fun x hx => tagN_old hx, hF, ?_, fun j hj => ?_⟩
  · rw [cell_of_row _ _ _ _ _ _ (heap_setCell_same _ b k _ _ _ hrow')]
    rcases hkt with ⟨rfl, _⟩ | ⟨rfl, _⟩ <;> rfl
  · rw [cell_of_row _ _ _ _ _ _ (heap_setCell_same _ b k _ _ _ hrow'), cell_of_row _ _ _ _ _ _ hrow, Array.getElem?_setIfInBounds, if_neg (fun e => hj e.symm)]
end Go.Proofs.Ytfoofipkbijajaa.Sa
