/- step: Turn; kinds that there are not. No statement of the seat is proved here. -/
import Derived.Test.YtfoofipkbijajaaSt
namespace Go.Proofs.Ytfoofipkbijajaa.Sa
open Go.RowKit Go.Proofs.Ytfoofipkbijajaa.Kit
set_option linter.unusedSimpArgs false
set_option linter.unusedVariables false
theorem tput_len {P : PA} {c : Int} (h : P.A.data.length ≤ 256 ∧ P.B.data.length ≤ 256) : (tput P c).A.data.length ≤ 256 ∧ (tput P c).B.data.length ≤ 256 := by
  unfold tput; split
  · exact ⟨h.2, by simp [Msg.none]⟩
  · exact h
theorem wput_len {P : PA} {c : Int} {t : Nat} {xs : List Int} (h : P.A.data.length ≤ 256 ∧ P.B.data.length ≤ 256) (hs : P.S ≤ 256) : (wput P c t xs).A.data.length ≤ 256 ∧ (wput P c t xs).B.data.length ≤ 256 := by
  refine ⟨h.1, ?_⟩
  show (wmsg P.W P.S c t xs P.B).data.length ≤ 256
  unfold wmsg; split
  · rename_i hh
    have h2 := hh.2
    unfold chk at h2
    split at h2
    · cases h2
    · show xs.length ≤ 256; omega
  · exact h.2
theorem St.cells {w0 w : World} {T0 T : Nat → Nat} {bx by_ b q t c : Nat} {Px Py : PA} {d : OpD} {ls : List En} {hs fs : List Fr} (h : St w0 w T0 T bx by_ b q t c Px Py d ls hs fs) {k : Nat} {v : Value} (hv : (opCells d)[k]? = some v) : w.cell? ⟨q, k, none⟩ = some v := by
  rw [cell_of_row _ _ _ _ _ _ h.row, List.getElem?_toArray]; exact hv
/-- A list that came out and is nobody else's. -/
def OwT (w : World) (T : Nat → Nat) (v : Value) (xs : List Int) (id : Nat) : Prop := Own w 0 v xs ∧ xs.length ≤ 256 ∧ ∀ g, v.ownBlock = some g → T g = id
theorem OwT.fz {w w' : World} {T T' : Nat → Nat} {v : Value} {xs : List Int} {id : Nat} {S : Nat → Prop} (h : OwT w T v xs id) (hf : Fz w w' T S) (hS : ¬ S id) (hT : ∀ x, x < w.heap.size → T' x = T x) : OwT w' T' v xs id :=
  ⟨own_same h.1 fun g e => hf.block g (own_size h.1 g e) (by rw [h.2.2 g e]; exact hS), h.2.1, fun g e => (hT g (own_size h.1 g e)).trans (h.2.2 g e)⟩
theorem OwT.rb {w : World} {T : Nat → Nat} {v : Value} {xs : List Int} {id : Nat} (h : OwT w T v xs id) : Rb w v xs := own_sl h.1 (by have := h.2.1; omega)
/-! ### the calls, between two such states -/
theorem rdata_len {P : PA} {c : Int} (h : P.A.data.length ≤ 256) : (rdata P c).length ≤ 256 := by
  unfold rdata; split
  · exact h
  · simp
theorem St.turnx {w0 w : World} {T0 T : Nat → Nat} {bx by_ b q t c : Nat} {Px Py : PA} {d : OpD} {ls : List En} {hs fs : List Fr} (h : St w0 w T0 T bx by_ b q t c Px Py d ls hs fs) (cell : Int) : Calls Try.prog 15 #[.pointer (some ⟨bx, 0, none⟩), .int .i64 cell] w fun e w' => e = .returned (.int .i64 (tres Px.W cell Px.B)) ∧ ∃ T', St w0 w' T0 T' bx by_ b q t c (tput Px cell) Py d ls hs fs := by
  obtain ⟨F, hF, hFt⟩ := h.pr.x
  refine (turn_any w bx F Px hF cell).mono ?_
  rintro e w' ⟨rfl, hc, hP⟩
  exact ⟨rfl, _, h.onx hFt hF.lt hc hP (fun x hx => .inl hx) (tput_len h.pr.len) (tput_decl Px cell).2.1⟩
theorem St.turny {w0 w : World} {T0 T : Nat → Nat} {bx by_ b q t c : Nat} {Px Py : PA} {d : OpD} {ls : List En} {hs fs : List Fr} (h : St w0 w T0 T bx by_ b q t c Px Py d ls hs fs) (cell : Int) : Calls Try.prog 33 #[.pointer (some ⟨by_, 0, none⟩), .int .i64 cell] w fun e w' => e = .returned (.int .i64 (tres Py.W cell Py.B)) ∧ ∃ T', St w0 w' T0 T' bx by_ b q t c Px (tput Py cell) d ls hs fs := by
  obtain ⟨F, hF, hFt⟩ := h.pr.y
  refine (rturn_any w by_ F Py hF cell).mono ?_
  rintro e w' ⟨rfl, hc, hP⟩
  exact ⟨rfl, _, h.ony hFt hF.lt hc hP (fun x hx => .inl hx)⟩
theorem St.writex {w0 w : World} {T0 T : Nat → Nat} {bx by_ b q t c : Nat} {Px Py : PA} {d : OpD} {ls : List En} {hs fs : List Fr} (h : St w0 w T0 T bx by_ b q t c Px Py d ls hs fs) (cell : Int) (tk : Nat) (v : Value) (xs : List Int) (hv : Rb w v xs) : Calls Try.prog 14 #[.pointer (some ⟨bx, 0, none⟩), .int .i64 cell, .int .u64 tk, v] w fun e w' => e = .returned (.int .i64 (wres Px.W Px.S cell xs.length)) ∧ Chg w w' (some bx) ∧ ∃ T', St w0 w' T0 T' bx by_ b q t c (wput Px cell tk xs) Py d ls hs fs ∧ ∀ x, x < w.heap.size → T' x = T x := by
  obtain ⟨F, hF, hFt⟩ := h.pr.x
  refine (write_any w bx F Px hF cell tk v xs hv).mono ?_
  rintro e w' ⟨rfl, hc, F', hP, hs⟩
  exact ⟨rfl, hc, _, h.onx hFt hF.lt hc hP hs (wput_len h.pr.len h.pr.size.2) rfl, fun x hx => tagN_old hx⟩
theorem St.writey {w0 w : World} {T0 T : Nat → Nat} {bx by_ b q t c : Nat} {Px Py : PA} {d : OpD} {ls : List En} {hs fs : List Fr} (h : St w0 w T0 T bx by_ b q t c Px Py d ls hs fs) (cell : Int) (tk : Nat) (v : Value) (xs : List Int) (hv : Arg w T v xs) : Calls Try.prog 32 #[.pointer (some ⟨by_, 0, none⟩), .int .i64 cell, .int .u64 tk, v] w fun e w' => e = .returned (.int .i64 (wres Py.W Py.S cell xs.length)) ∧ ∃ T', St w0 w' T0 T' bx by_ b q t c Px (wput Py cell tk xs) d ls hs fs := by
  obtain ⟨F, hF, hFt⟩ := h.pr.y
  have hty := h.pr.ty
  have ht := h.ht
  refine (rwrite_any w by_ F Py hF cell tk v xs hv.1 (fun h0 g e e2 => by have := hv.2 h0 g e; rw [e2] at this; omega)).mono ?_
  rintro e w' ⟨rfl, hc, F', hP, hs⟩
  exact ⟨rfl, _, h.ony hFt hF.lt hc hP hs⟩
theorem St.giv {w0 w : World} {T0 T : Nat → Nat} {bx by_ b q t c : Nat} {Px Py : PA} {d : OpD} {ls : List En} {hs fs : List Fr} (h : St w0 w T0 T bx by_ b q t c Px Py d ls hs fs) (v : Value) (xs : List Int) (hv : Arg w T v xs) : Calls Try.prog 30 #[.pointer (some ⟨b, 0, none⟩), v] w fun e w' => ∃ g cap N T', e = .returned (.slice (some ⟨g, 0, none⟩) (xs.length + 1) cap) ∧ Len w' g cap xs ∧ RowN w' g N ∧ xs.length + 1 ≤ N ∧ T' g = 8 ∧ St w0 w' T0 T' bx by_ b q t c Px Py d ls hs fs := by
  have htb := h.bk.tb
  refine (given_any w b T c ls hs fs h.bk v xs hv.1 (fun h0 g e e2 => by have := hv.2 h0 g e; rw [e2] at this; omega)).mono ?_
  rintro e w' ⟨g, cap, N, T', rfl, h1, h2, h3, h4, h5, h6, h7⟩
  exact ⟨g, cap, N, T', rfl, h1, h2, h3, h4, h.book h5 h6 h7 (fun s hs => by omega)⟩
theorem St.kep {w0 w : World} {T0 T : Nat → Nat} {bx by_ b q t c : Nat} {Px Py : PA} {d : OpD} {ls : List En} {hs fs : List Fr} (h : St w0 w T0 T bx by_ b q t c Px Py d ls hs fs) (g cap N : Nat) (v : Value) (xs : List Int) (hx : Len w g cap xs) (hN : xs.length + 1 ≤ N) (hr : RowN w g N) (hg : 8 ≤ T g ∧ T g ≤ 10) (hv : Rb w v xs) :
    Calls Try.prog 31 #[.slice (some ⟨g, 0, none⟩) (xs.length + 1) cap, v] w fun e w' => e = .returned (.bool true) ∧ Chg w w' (some g) ∧ St w0 w' T0 T bx by_ b q t c Px Py d ls hs fs := by
  refine (kept_any w g cap v xs hx N hN hr hv).mono ?_
  rintro e w' ⟨rfl, hc, h2⟩
  exact ⟨rfl, hc, h.book (h.bk.over hg hc hr h2) (fun _ _ => rfl) (S := fun s => 8 ≤ s ∧ s ≤ 10) (Fz.of_chg hc (fun x e _ => by cases e; exact hg)) (fun s hs => by omega)⟩
theorem St.readx {w0 w : World} {T0 T : Nat → Nat} {bx by_ b q t c : Nat} {Px Py : PA} {d : OpD} {ls : List En} {hs fs : List Fr} (h : St w0 w T0 T bx by_ b q t c Px Py d ls hs fs) (cell : Int) (id : Nat) : Calls Try.prog 11 #[.pointer (some ⟨bx, 0, none⟩), .int .i64 cell] w fun e w' => ∃ v, e = .returned (.tuple #[v, .int .u64 (rtick Px cell), .bool (rthere Px cell), .int .i64 (rerr Px cell)]) ∧ Chg w w' none ∧ St w0 w' T0 (tagN T w.heap.size id) bx by_ b q t c Px Py d ls hs fs ∧ OwT w' (tagN T w.heap.size id) v (rdata Px cell) id := by
  obtain ⟨F, hF, hFt⟩ := h.pr.x
  refine (read_all w bx F Px hF cell).mono ?_
  rintro e w' ⟨v, rfl, ho, hl, hc⟩
  exact ⟨v, rfl, hc, h.grow hc (fun x hx => tagN_old hx), own_zero ho, rdata_len h.pr.len.1, fun g e => tagN_new (own_block ho g e).1⟩
theorem St.ready {w0 w : World} {T0 T : Nat → Nat} {bx by_ b q t c : Nat} {Px Py : PA} {d : OpD} {ls : List En} {hs fs : List Fr} (h : St w0 w T0 T bx by_ b q t c Px Py d ls hs fs) (cell : Int) : Calls Try.prog 34 #[.pointer (some ⟨by_, 0, none⟩), .int .i64 cell] w fun e w' => ∃ v, e = .returned (.tuple #[v, .int .u64 (rtick Py cell), .bool (rthere Py cell), .int .i64 (rerr Py cell)]) ∧ Chg w w' none ∧ St w0 w' T0 T bx by_ b q t c Px Py d ls hs fs ∧ Own w' 0 v (rdata Py cell) := by
  obtain ⟨F, hF, hFt⟩ := h.pr.y
  refine (rread_all w by_ F Py hF cell).mono ?_
  rintro e w' ⟨v, rfl, ho, hc⟩
  exact ⟨v, rfl, hc, h.grow hc (fun x hx => rfl), own_zero ho⟩
theorem St.statex {w0 w : World} {T0 T : Nat → Nat} {bx by_ b q t c : Nat} {Px Py : PA} {d : OpD} {ls : List En} {hs fs : List Fr} (h : St w0 w T0 T bx by_ b q t c Px Py d ls hs fs) (i1 i2 : Nat) : Calls Try.prog 17 #[.pointer (some ⟨bx, 0, none⟩)] w fun e w' => ∃ da db T', e = .returned (.agg #[.bool Px.A.there, .bool Px.B.there, da, .int .u64 Px.A.tick, db, .int .u64 Px.B.tick]) ∧ Chg w w' none ∧ St w0 w' T0 T' bx by_ b q t c Px Py d ls hs fs ∧ (∀ x, x < w.heap.size → T' x = T x) ∧ OwT w' T' da Px.A.data i1 ∧ OwT w' T' db Px.B.data i2 := by
  obtain ⟨F, hF, hFt⟩ := h.pr.x
  refine (state_any w bx F Px hF).mono ?_
  rintro e w' ⟨da, db, rfl, o1, o2, l1, l2, hne, hc⟩
  have hT : ∀ x, x < w.heap.size → (fun x => if x < w.heap.size then T x else if da.ownBlock = some x then i1 else i2) x = T x := fun x hx => if_pos hx
  refine ⟨da, db, _, rfl, hc, h.grow hc hT, hT, ⟨own_zero o1, h.pr.len.1, fun g e => ?_⟩, ⟨own_zero o2, h.pr.len.2, fun g e => ?_⟩⟩
  · have := (own_block o1 g e).1
    show (if g < w.heap.size then T g else if da.ownBlock = some g then i1 else i2) = i1
    rw [if_neg (by omega), if_pos e]
  · have := (own_block o2 g e).1
    show (if g < w.heap.size then T g else if da.ownBlock = some g then i1 else i2) = i2
    rw [if_neg (by omega), if_neg (fun e2 => hne g e2 e)]
theorem St.statey {w0 w : World} {T0 T : Nat → Nat} {bx by_ b q t c : Nat} {Px Py : PA} {d : OpD} {ls : List En} {hs fs : List Fr} (h : St w0 w T0 T bx by_ b q t c Px Py d ls hs fs) : Calls Try.prog 20 #[.pointer (some ⟨by_, 0, none⟩)] w fun e w' => ∃ da db, e = .returned (.agg #[.bool Py.A.there, .bool Py.B.there, da, .int .u64 Py.A.tick, db, .int .u64 Py.B.tick]) ∧ Chg w w' none ∧ St w0 w' T0 T bx by_ b q t c Px Py d ls hs fs ∧ Rb w' da Py.A.data ∧ Rb w' db Py.B.data := by
  obtain ⟨F, hF, hFt⟩ := h.pr.y
  refine (rstate_any w by_ F Py hF).mono ?_
  rintro e w' ⟨da, db, rfl, o1, o2, hc⟩
  exact ⟨da, db, rfl, hc, h.grow hc (fun _ _ => rfl), o1, o2⟩
theorem St.own {w0 w : World} {T0 T : Nat → Nat} {bx by_ b q t c : Nat} {Px Py : PA} {d : OpD} {ls : List En} {hs fs : List Fr} (h : St w0 w T0 T bx by_ b q t c Px Py d ls hs fs) (hfl : fs.length ≤ 1000) (v : Value) (xs : List Int) (ho : OwT w T v xs (1000 + c + hs.length + fs.length)) : Calls Try.prog 35 #[.pointer (some ⟨b, 0, none⟩), v] w fun e w' => (∃ r, e = .returned r) ∧ ∃ T' u, St w0 w' T0 T' bx by_ b q t c Px Py d ls hs (fs ++ [⟨v, xs, u⟩]) ∧ (∀ x, x < w.heap.size → T' x = T x) ∧ Fz w w' T (fun t => t = 1 ∨ t = 4 ∨ t = 5) := by
  refine (owns_any w b T c ls hs fs h.bk hfl v xs ho.1 ho.2.1 ho.2.2).mono ?_
  rintro e w' ⟨hr, T', u, h1, h2, h3⟩
  exact ⟨hr, T', u, h.book h1 h2 h3 (fun s hs => by omega), h2, h3⟩
theorem St.arg {w0 w : World} {T0 T : Nat → Nat} {bx by_ b q t c : Nat} {Px Py : PA} {d : OpD} {ls : List En} {hs fs : List Fr} (h : St w0 w T0 T bx by_ b q t c Px Py d ls hs fs) : Arg w T d.dv d.data ∧ Arg w T d.lv d.ldata ∧ Arg w T d.nv d.ndata := ⟨h.ar.data, h.ar.ldata, h.ar.ndata⟩
end Go.Proofs.Ytfoofipkbijajaa.Sa
