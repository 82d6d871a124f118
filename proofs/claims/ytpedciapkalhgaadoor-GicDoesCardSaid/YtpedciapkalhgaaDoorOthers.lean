/- A controller beside the document's: Lines of a cell, ranged over. No statement of the seat is proved here. -/
import Derived.Test.YtpedciapkalhgaaDoorPairC
namespace Go.Proofs.YtpedciapkalhgaaDoor.Gk
open Go.RowKit Go.Shelf Go.Proofs.YtpedciapkalhgaaDoor.Kit
attribute [local go_sem] Oper.semAt_some
set_option linter.unusedSimpArgs false
set_option linter.unusedVariables false

/-- Between two rounds: so many have come; they are a beginning of L. -/
def S1 (W0 : World) (n : Nat) (L : List Nat) (pre : List Nat) (W : World) : Prop := Boxed W n 3 (.int .i64 pre.length) ∧ Ex (fun j => j = n) W0 W ∧ pre <+: L
theorem s1_own (W0 : World) (n : Nat) (L : List Nat) (hn : n < W0.heap.size) : OwnFrom W0.heap.size (S1 W0 n L) := fun s A B row hs hgr hr => by
  obtain ⟨h2, h3, h4⟩ := hs
  exact ⟨h2.kept hgr (fun e => by have := (hr _ e.symm).1; omega), h3.grown hgr (fun j e => .inr (hr j e).1), h4⟩
theorem Ex.cell {S : Nat → Prop} {w w' : World} (h : Ex S w w') {b o : Nat} {v : Value} (hc : w.cell? ⟨b, o, none⟩ = some v) (hn : ¬ S b) : w'.cell? ⟨b, o, none⟩ = some v := by
  rw [World.cell?_of_block (h.block b (World.block_lt_of_cell? w _ hc) hn)]; exact hc
theorem s1_next {wA W : World} {n : Nat} {L pre : List Nat} {x : Nat} (h : S1 wA n L pre W) (hn : n < wA.heap.size) (hn0 : n ≠ 0) (hpx : pre ++ [x] <+: L) :
    KeepsFrom wA.heap.size W (W.setCell ⟨n, 0, none⟩ (.int .i64 ((pre.length : Int) + 1))) ∧ KpT W (W.setCell ⟨n, 0, none⟩ (.int .i64 ((pre.length : Int) + 1))) ∧ S1 wA n L (pre ++ [x]) (W.setCell ⟨n, 0, none⟩ (.int .i64 ((pre.length : Int) + 1))) := by
  refine ⟨kf_chg (set_chg W n _) hn, fun hT => hT.kept (set_chg W n _) hn0, ?_, h.2.1.chg (set_chg W n _) (.inl rfl), hpx⟩
  rw [List.length_append, List.length_cons, List.length_nil]
  exact h.1.set (.int .i64 ((pre.length : Int) + 1))

set_option maxRecDepth 100000 in
set_option maxHeartbeats 4000000 in
theorem others_any (w : World) (q g b x y z : Nat) (r : List Int) (p m : Nat) (h : PAt w q g b x y z r p m) (hT : TabAt w) (c : Int) :
    Calls Tryd.prog 48 #[.pointer (some ⟨q, 0, none⟩), .int .i64 c] w fun e w' => e = .returned (.bool true) ∧ Below w.heap.size w w' := by
  have h0 : 0 < w.heap.size := World.block_lt_of_cell? w _ (hT 0 (by omega))
  have HT := Lib.hid (fun w' (h : Below w.heap.size w w') => hT.below h h0)
  have H := Lib.hid h
  have hcb := (h.alloc (.cells #[.bool false] 4)).cb
  clear h hT
  refine (callsIn_wide (n := 4)).1 (callsIn_of_wp_marks Tryd.func48 rfl trivial ?_ rfl)
  simp only [Tryd.ntmps48, List.size_toArray, List.length_cons, List.length_nil, Nat.reduceAdd, Nat.reduceSub, Array.replicate_succ, Array.replicate_zero, List.push_toArray, List.append_toArray, List.nil_append, List.cons_append]
  refine wpIn_wide.2 ?_
  go_wp2_with fail
  have H1 := Lib.hid (H.out.alloc (.cells #[.bool false] 4))
  have B1 := Lib.hid ((Below.refl w.heap.size w).alloc (Nat.le_refl _) (.cells #[.bool false] 4))
  have X4 := Lib.hid (Boxed.new w 4 (.bool false))
  have hs1 : w.heap.size + 1 ≤ (w.alloc (.cells #[.bool false] 4)).heap.size := by simp
  clear hcb
  generalize w.alloc (.cells #[.bool false] 4) = w1 at *
  refine (rown_any _ b x y z r p m c H1.out.rf).mono ?_
  rintro e w2 ⟨v, rfl, ow, b2⟩
  obtain ⟨AA, cp, rfl, hlist⟩ := ow.at_
  have OW := Lib.hid hlist
  have H2 := Lib.hid (H1.out.below b2)
  have Y4 := Lib.hid (show Boxed w2 w.heap.size 4 (.bool false) from (b2.block _ X4.out.lt).trans X4.out)
  have B2 := Lib.hid (B1.out.trans (b2.mono (by omega)))
  have hs2 := b2.size
  have hLl := Lc_le r c 32
  have LL := Lib.hid (bl_Lc r c)
  clear b2 ow hlist H1 X4 B1
  have H3 := Lib.hid (H2.out.alloc (.cells #[.slice AA (Lc r c 32).length cp] 22))
  have hcg := H3.out.cg
  go_wp2_with fail
  have X5 := Lib.hid (Boxed.new w2 22 (.slice AA (Lc r c 32).length cp))
  have Z4 := Lib.hid (Y4.out.alloc (.cells #[.slice AA (Lc r c 32).length cp] 22))
  have B3 := Lib.hid (B2.out.alloc B2.out.size (.cells #[.slice AA (Lc r c 32).length cp] 22))
  have CL := Lib.hid (show ∀ gl, AA = some ⟨gl, 0, none⟩ → 0 < (Lc r c 32).length → w.heap.size + 1 ≤ gl ∧ gl < w2.heap.size ∧ ∀ j, j < (Lc r c 32).length → (w2.alloc (.cells #[.slice AA (Lc r c 32).length cp] 22)).cell? ⟨gl, j, none⟩ = some (.int .i64 ((Lc r c 32).getD j 0 : Nat)) from fun gl e hp => by
    obtain ⟨g2, e2, h2, h3, h4⟩ := OW.out hp
    rw [e] at e2; cases e2
    exact ⟨by omega, h3, fun j hj => cell_alloc_l _ (h4 j hj)⟩)
  have AS := Lib.hid (show 0 < (Lc r c 32).length → ∃ gl, AA = some ⟨gl, 0, none⟩ from fun hp => by obtain ⟨g2, e2, _⟩ := OW.out hp; exact ⟨g2, e2⟩)
  have hs3 : w2.heap.size + 1 = (w2.alloc (.cells #[.slice AA (Lc r c 32).length cp] 22)).heap.size := by simp
  clear OW H2 Y4 B2 hcg
  generalize w2.alloc (.cells #[.slice AA (Lc r c 32).length cp] 22) = w3 at *
  generalize hLd : Lc r c 32 = L at *
  clear hLd
  generalize w2.heap.size = lb at *
  have hs3' := Lib.hid hs3
  have hs34 : lb < w3.heap.size := by omega
  clear hs3
  refine (lines_any _ g c).mono ?_
  rintro e w' ⟨rfl, hw⟩
  have hw5 := Lib.hid hw; clear hw
  have E5 := Lib.hid (show Below w3.heap.size w3 w' from by rw [← hw5.out]; exact ((Below.refl _ w3).alloc (Nat.le_refl _) _).alloc (by simp) _)
  have H5 := Lib.hid (H3.out.below E5.out)
  have X7 := Lib.hid (show Boxed w' lb 22 (.slice AA L.length cp) from (E5.out.block _ (by omega)).trans X5.out)
  have Y4 := Lib.hid (show Boxed w' w.heap.size 4 (.bool false) from (E5.out.block _ (by omega)).trans Z4.out)
  have XL := Lib.hid (show Boxed w' w3.heap.size 24 (.pointer (some ⟨g, 0, none⟩)) from by rw [← hw5.out]; exact (Boxed.new w3 24 _).alloc _)
  have XC := Lib.hid (show Boxed w' (w3.heap.size + 1) 3 (.int .i64 c) from by rw [← hw5.out]; have := Boxed.new (w3.alloc (.cells #[.pointer (some ⟨g, 0, none⟩)] 24)) 3 (.int .i64 c); rwa [World.size_alloc] at this)
  have B5 := Lib.hid (B3.out.trans (E5.out.mono (by omega)))
  have CL5 := Lib.hid (show ∀ gl, AA = some ⟨gl, 0, none⟩ → 0 < L.length → w.heap.size + 1 ≤ gl ∧ gl < lb ∧ ∀ j, j < L.length → w'.cell? ⟨gl, j, none⟩ = some (.int .i64 (L.getD j 0 : Nat)) from fun gl e hp => by
    obtain ⟨h1, h2, h3⟩ := CL.out gl e hp
    exact ⟨h1, h2, fun j hj => (E5.out.cell (p := ⟨gl, j, none⟩) (by show gl < _; omega)).trans (h3 j hj)⟩)
  have hs5 := XC.out.lt
  clear hw5 E5 H3 X5 Z4 B3 CL hs3'
  generalize w3.heap.size = cb at *
  have hnf := eql_func (.pointer (some ⟨cb, 0, none⟩)) (.pointer (some ⟨cb + 1, 0, none⟩))
  go_wp2_with fail
  have HA := Lib.hid (H5.out.alloc (.cells #[.int .i64 0] 3))
  have X7A := Lib.hid (X7.out.alloc (.cells #[.int .i64 0] 3))
  have Y4A := Lib.hid (Y4.out.alloc (.cells #[.int .i64 0] 3))
  have XLA := Lib.hid (XL.out.alloc (.cells #[.int .i64 0] 3))
  have XCA := Lib.hid (XC.out.alloc (.cells #[.int .i64 0] 3))
  have B16 := Lib.hid (Boxed.new w' 3 (.int .i64 0))
  have BA := Lib.hid (B5.out.alloc B5.out.size (.cells #[.int .i64 0] 3))
  have CLA := Lib.hid (show ∀ gl, AA = some ⟨gl, 0, none⟩ → 0 < L.length → w.heap.size + 1 ≤ gl ∧ gl < lb ∧ ∀ j, j < L.length → (w'.alloc (.cells #[.int .i64 0] 3)).cell? ⟨gl, j, none⟩ = some (.int .i64 (L.getD j 0 : Nat)) from fun gl e hp => by
    obtain ⟨h1, h2, h3⟩ := CL5.out gl e hp
    exact ⟨h1, h2, fun j hj => cell_alloc_l _ (h3 j hj)⟩)
  have hsA : (w'.alloc (.cells #[.int .i64 0] 3)).heap.size = w'.heap.size + 1 := by simp
  clear H5 X7 Y4 XL XC B5 CL5 hnf
  generalize w'.alloc (.cells #[.int .i64 0] 3) = wA at *
  generalize w'.heap.size = nb at *
  refine (wpIn_wide (n := 4)).1 ?_
  refine wpIn_rangeFunc_ownG (F := Fence.wide) rfl (by omega) (gf := 34) (lb := #[.pointer (some ⟨cb, 0, none⟩), .pointer (some ⟨cb + 1, 0, none⟩)]) rfl trivial (enters_of Tryd.func34 (by kernel_rfl) rfl)
    (lines_stops (4 - 1) cb (cb + 1) g (by omega) r p m c wA (by omega) (by omega) XLA.out.cell XCA.out.cell HA.out.gc (HT.out _ BA.out)) (fun h k => kpT_t h k) (fun W l o o' _ hl ho _ => kpT_b W l o o' hl ho) (Below.refl _ _) (fun _ => rfl)
    (S1 wA nb L) (Sx L) (s1_own wA nb L (by omega)) (fun c => sx_own _ L c) ⟨B16.out, Ex.refl _ _, List.nil_prefix⟩
    (fun x => { tmps := #[Value.pointer (some { block := q, off := 0 }), Value.int IntKind.i64 c, undef, undef, Value.pointer (some { block := w.heap.size, off := 0 }), Value.pointer (some { block := lb, off := 0 }), Value.func (Fn.func 34) #[] #[Value.pointer (some { block := cb, off := 0 }), Value.pointer (some { block := cb + 1, off := 0 })], Value.pointer (some { block := nb, off := 0 }), .int .i64 (x : Nat), Value.pointer (some { block := q, off := 0 }), Value.pointer (some { block := q, off := 0 }), Value.pointer (some { block := q, off := 1 }), Value.pointer (some { block := b, off := 0 }), Value.int IntKind.i64 c, Value.slice AA L.length cp, Value.pointer (some { block := q, off := 0 }), Value.pointer (some { block := q, off := 0 }), Value.pointer (some { block := q, off := 0 }), Value.pointer (some { block := g, off := 0 }), Value.int IntKind.i64 c, Value.func (Fn.func 34) #[] #[Value.pointer (some { block := cb, off := 0 }), Value.pointer (some { block := cb + 1, off := 0 })], Value.func (Fn.func 34) #[] #[Value.pointer (some { block := cb, off := 0 }), Value.pointer (some { block := cb + 1, off := 0 })], Value.bool false, Value.func (Fn.func 34) #[] #[Value.pointer (some { block := cb, off := 0 }), Value.pointer (some { block := cb + 1, off := 0 })], .int .i64 (x : Nat), undef, undef, undef, undef, undef, undef, undef, undef, undef, undef, undef, undef, undef, undef, undef, undef, undef, undef], defers := [] }) ?assign ?body ?done ?stop
  case assign =>
    intro l x W K hK
    gi_wp2
    exact hK
  case body =>
    rintro l pre x W ⟨hn, ho, hp⟩ hl32
    have ST := Lib.hid (show S1 wA nb L pre W from ⟨hn, ho, hp⟩)
    have hx16 := hn.cell
    have hf16 := hn.frozen
    have hx15 := ho.cell X7A.out.cell (by omega)
    have Y8 : Boxed W w.heap.size 4 (.bool false) := (ho.block _ Y4A.out.lt (by omega)).trans Y4A.out
    have hx8 := Y8.cell
    have hf8 := Y8.frozen
    have KF8 := Lib.hid (kf_chg (B := wA.heap.size) (set_chg W w.heap.size (.bool false)) (by omega))
    by_cases hlt : pre.length < L.length
    · obtain ⟨gl, rfl⟩ := AS.out (by omega)
      obtain ⟨hg5, hg6, hcl⟩ := CLA.out gl rfl (by omega)
      have hxl := ho.cell (hcl _ hlt) (by omega)
      have PN := Lib.hid (pre_next (x := x) hp hlt)
      clear hcl ho hn hp Y8
      generalize hy : L.getD pre.length 0 = y at *
      clear hy
      by_cases hxy : x = y
      · subst hxy
        have PY := Lib.hid (PN.out.2 rfl)
        clear PN
        gi_wp2
        exact s1_next ST.out (by omega) (by omega) PY.out
      · have hne : (((x : Nat) : Int) != (y : Nat)) = true := by simp; omega
        gi_wp2
        exact ⟨KF8.out, rfl, fun h => hxy (PN.out.1 h)⟩
    · have PO := Lib.hid (pre_over (x := x) hlt)
      clear ho hn hp Y8
      gi_wp2
      exact ⟨KF8.out, rfl, PO.out⟩
  case stop =>
    rintro D c pre W _ hsp ⟨_, hx⟩ _
    rw [LL.out] at hsp
    exact absurd hsp hx
  case done =>
    rintro D ys W hD rfl ⟨hn, ho, hp⟩ hK
    rw [LL.out] at hn
    have hx16 := hn.cell
    have hx15 := ho.cell X7A.out.cell (by omega)
    have Y8 : Boxed W w.heap.size 4 (.bool false) := (ho.block _ Y4A.out.lt (by omega)).trans Y4A.out
    have hx8 := Y8.cell
    have hf8 := Y8.frozen
    have K2 := Lib.hid ((KeepsOthers.setCell W ⟨w.heap.size, 0, none⟩ (.bool true)).same D _ hK rfl)
    have X2 := Lib.hid (Y8.set (.bool true))
    have BW : Below w.heap.size w W := BA.out.trans (ho.below (B := w.heap.size) (by omega) (fun i e => by omega))
    have BF := Lib.hid (BW.setCell (p := ⟨w.heap.size, 0, none⟩) (Nat.le_refl _) (.bool true))
    clear hn ho hp hK Y8 BW
    go_wp2_with fail
    have X3 := X2.out.kept (grownBy_putObj' _ D (.deferred none)) (fun e => by have := Option.some.inj e; omega)
    have hc5 := X3.cell
    have BF2 := BF.out.grown (grownBy_putObj' _ D (.deferred none)) BF.out.size (fun k e => by cases e; omega)
    refine ⟨by simp, .inl ⟨_, _, rfl, run_takeDeferred K2.out, ?_⟩⟩
    refine ⟨.bool true, ?_, rfl, BF2⟩
    simp [results, Tryd.f48, go_sem, hc5]
end Go.Proofs.YtpedciapkalhgaaDoor.Gk
