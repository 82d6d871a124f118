/- GicRanges: the walk. -/
import Derived.Test.YtpedciapkalhgaaDoorRangesA
import Derived.Deep.CutBlock
import Derived.Deep.CutRange
namespace Go.Proofs.YtpedciapkalhgaaDoor.Gk
open Go.RowKit Go.Shelf Go.Proofs.YtpedciapkalhgaaDoor.Kit
attribute [local go_sem] Oper.semAt_some
set_option linter.unusedSimpArgs false
set_option linter.unusedVariables false

set_option maxRecDepth 100000 in
set_option maxHeartbeats 4000000 in
theorem ranges_walk (w : World) (hT : TabAt w) (v0 : Value) (xs : List Int) (h1 : Rd w v0 xs) (c0 : Int) (hc : i64ok c0) (v2 : Value) (ah : List OpD) (h2 : Ro w v2 ah) (v3 : Value) (ds : List OpD) (h3 : Ro w v3 ds) :
    Calls Tryd.prog 6 #[v0, .int .i64 c0, v2, v3] w fun e w' => e = .returned (.bool true) ∧ Below w.heap.size w w' := by
  have h0 : 0 < w.heap.size := World.block_lt_of_cell? w _ (hT 0 (by omega))
  have HT := Lib.hid (fun w' (h : Below w.heap.size w w') => hT.below h h0)
  have H1 := Lib.hid (fun w' (h : Below w.heap.size w w') => h1.below h)
  have H2 := Lib.hid (fun w' (h : Below w.heap.size w w') => h2.below h)
  have H3 := Lib.hid (fun w' (h : Below w.heap.size w w') => h3.below h)
  have Hc := Lib.hid hc
  obtain ⟨⟨A2, cap2, rfl, _⟩, hfew2, hok2⟩ := h2
  obtain ⟨⟨A3, cap3, rfl, _⟩, hfew3, hok3⟩ := h3
  have HO2 := Lib.hid hok2
  have HO3 := Lib.hid hok3
  clear h1 hc hT hok2 hok3
  refine (callsIn_wide (n := 4)).1 (callsIn_of_wp_marks Tryd.func6 rfl trivial ?_ rfl)
  simp only [Tryd.ntmps6, List.size_toArray, List.length_cons, List.length_nil, Nat.reduceAdd, Nat.reduceSub, Array.replicate_succ, Array.replicate_zero, List.push_toArray, List.append_toArray, List.nil_append, List.cons_append]
  refine wpIn_wide.2 ?_
  go_wp2_with fail
  have W0s : ((w.alloc (.cells #[.slice A3 ds.length cap3] 35)).alloc (.cells #[.bool false] 4)).heap.size = w.heap.size + 1 + 1 := by simp
  have B0 := Lib.hid (((Below.refl w.heap.size w).alloc (Nat.le_refl _) (.cells #[.slice A3 ds.length cap3] 35)).alloc (by simp) (.cells #[.bool false] 4))
  have X7 := Lib.hid (show Boxed ((w.alloc (.cells #[.slice A3 ds.length cap3] 35)).alloc (.cells #[.bool false] 4)) w.heap.size 35 (.slice A3 ds.length cap3) from (Boxed.new w 35 _).alloc _)
  have X8 := Lib.hid (show Boxed ((w.alloc (.cells #[.slice A3 ds.length cap3] 35)).alloc (.cells #[.bool false] 4)) (w.heap.size + 1) 4 (.bool false) from by have := Boxed.new (w.alloc (.cells #[.slice A3 ds.length cap3] 35)) 4 (.bool false); rwa [World.size_alloc] at this)
  generalize (w.alloc (.cells #[.slice A3 ds.length cap3] 35)).alloc (.cells #[.bool false] 4) = w1 at *
  refine (awake_any _ (HT.out _ B0.out)).mono ?_
  rintro e w2 ⟨rfl, b2⟩
  have B2 := Lib.hid (B0.out.trans (b2.mono B0.out.size))
  have X7' := Lib.hid (show Boxed w2 w.heap.size 35 (.slice A3 ds.length cap3) from (b2.block _ (by omega)).trans X7.out)
  have X8' := Lib.hid (show Boxed w2 (w.heap.size + 1) 4 (.bool false) from (b2.block _ (by omega)).trans X8.out)
  have W2s : w.heap.size + 1 + 1 ≤ w2.heap.size := by have := b2.size; omega
  clear b2 B0 X7 X8
  go_wp2_with fail
  refine (routed_any _ _ xs (H1.out _ B2.out)).mono ?_
  rintro e w3 ⟨rfl, g3, b3⟩
  have X7 := Lib.hid (show Boxed w3 w.heap.size 35 (.slice A3 ds.length cap3) from (b3.block _ (by omega)).trans X7'.out)
  have X8 := Lib.hid (show Boxed w3 (w.heap.size + 1) 4 (.bool false) from (b3.block _ (by omega)).trans X8'.out)
  have hg1 : w.heap.size + 1 + 1 ≤ w2.heap.size := W2s
  have hg2 := g3.lt
  have B3 := Lib.hid (B2.out.trans (b3.mono (by omega)))
  have G3 := Lib.hid (show Gs w3 w2.heap.size from ⟨_, _, _, g3⟩)
  clear g3 b3 B2 X7' X8' W0s W2s
  generalize w2.heap.size = g at *
  go_wp2_with fail
  have X10 := Lib.hid (Boxed.new w3 24 (.pointer (some ⟨g, 0, none⟩)))
  have X7' := Lib.hid (X7.out.alloc (.cells #[.pointer (some ⟨g, 0, none⟩)] 24))
  have X8' := Lib.hid (X8.out.alloc (.cells #[.pointer (some ⟨g, 0, none⟩)] 24))
  have B4 := Lib.hid (B3.out.alloc B3.out.size (.cells #[.pointer (some ⟨g, 0, none⟩)] 24))
  have G4 := Lib.hid (show Gs (w3.alloc (.cells #[.pointer (some ⟨g, 0, none⟩)] 24)) g from by obtain ⟨r, p, m, h⟩ := G3.out; exact ⟨r, p, m, h.kept (World.grownBy_alloc w3 _ none) (by simp)⟩)
  have hgb : g < w3.heap.size := hg2
  have hs4 : (w3.alloc (.cells #[.pointer (some ⟨g, 0, none⟩)] 24)).heap.size = w3.heap.size + 1 := by simp
  clear X7 X8 B3 G3
  generalize w3.alloc (.cells #[.pointer (some ⟨g, 0, none⟩)] 24) = w4 at *
  generalize w3.heap.size = gb at *
  refine (pick_any _ _ _ Hc.out (by omega) (by omega)).mono ?_
  rintro e w' ⟨rfl, rfl⟩
  have hpk := pk_range c0 9 (by omega)
  generalize pk c0 9 = q at *
  clear Hc
  have hx10 := X10.out.cell
  go_wp2_with fail
  refine (lines_any _ g q).mono ?_
  rintro e w5 ⟨rfl, hw⟩
  have hw5 := Lib.hid hw; clear hw
  have X7 := Lib.hid (show Boxed w5 w.heap.size 35 (.slice A3 ds.length cap3) from by rw [← hw5.out]; exact (X7'.out.alloc _).alloc _)
  have X8 := Lib.hid (show Boxed w5 (w.heap.size + 1) 4 (.bool false) from by rw [← hw5.out]; exact (X8'.out.alloc _).alloc _)
  have Y10 := Lib.hid (show Boxed w5 gb 24 (.pointer (some ⟨g, 0, none⟩)) from by rw [← hw5.out]; exact (X10.out.alloc _).alloc _)
  have XL := Lib.hid (show Boxed w5 w4.heap.size 24 (.pointer (some ⟨g, 0, none⟩)) from by rw [← hw5.out]; exact (Boxed.new w4 24 _).alloc _)
  have XC := Lib.hid (show Boxed w5 (w4.heap.size + 1) 3 (.int .i64 q) from by rw [← hw5.out]; have := Boxed.new (w4.alloc (.cells #[.pointer (some ⟨g, 0, none⟩)] 24)) 3 (.int .i64 q); rwa [World.size_alloc] at this)
  have B5 := Lib.hid (show Below w.heap.size w w5 from by rw [← hw5.out]; exact ((B4.out.alloc B4.out.size _).alloc (by have := B4.out.size; simp; omega) _))
  have G5 := Lib.hid (show Gs w5 g from by rw [← hw5.out]; obtain ⟨r, p, m, h⟩ := G4.out; exact ⟨r, p, m, (h.kept (World.grownBy_alloc w4 _ none) (by simp)).kept (World.grownBy_alloc _ _ none) (by simp)⟩)
  have hs5 : w5.heap.size = gb + 1 + 1 + 1 := by rw [← hw5.out]; simp [hs4]
  clear X7' X8' X10 B4 G4 hx10 hw5
  generalize w4.heap.size = lb at *
  subst hs4
  have hx10 := Y10.out.cell
  have I0 := Lib.hid (show Gs w5 g ∧ Chg w5 w5 g from ⟨G5.out, Chg.refl _ _⟩)
  have hB5 := B5.out.size
  have hnf := eql_func (.pointer (some ⟨gb + 1, 0, none⟩)) (.pointer (some ⟨gb + 1 + 1, 0, none⟩))
  go_upto_block 0 with (fail)
  go_cut [13] from 34 to 57 (fun _ wx => Hid (Gs wx g ∧ Chg w5 wx g))
  case first =>
    go_wp2_with fail
    go_loopw [13] (fun i wr => ∃ k : Nat, k ≤ ah.length ∧ i = .int .i64 k ∧ Hid (Gs wr g ∧ Chg w5 wr g)) (fun i _ => ah.length - (intOf i).toNat)
    case atStart => exact ⟨0, by omega, rfl, I0⟩
    case round =>
      obtain ⟨k, hk, rfl, I⟩ := hrel
      clear I0 hx10
      have B6 := Lib.hid (chg_below B5.out B5.out.size (show w.heap.size ≤ g by omega) I.out.2)
      have hx10 := (Y10.out.kept I.out.2 (fun e => by have := Option.some.inj e; omega)).cell
      by_cases hlt : k < ah.length
      · by_cases h40 : k < 40
        · obtain ⟨ab, aoff, hA, hcell⟩ := (H2.out _ B6.out).at_ k hlt
          subst hA
          have HD := Lib.hid (HO2.out k)
          have hl1 : wr.cell? ⟨ab, aoff + k * 38 + 1, none⟩ = some (.int .i64 (dth ah k).line) := hcell 1 _ (by simp [opCells])
          have hl2 : wr.cell? ⟨ab, aoff + k * 38 + 2, none⟩ = some (.int .i64 (dth ah k).cell) := hcell 2 _ (by simp [opCells])
          clear hcell
          go_wp2_with fail
          refine wp_region_tail 13 (by kernel_rfl) (by kernel_rfl) ?_
          simp only [List.take_succ_cons, List.take_zero, List.drop_succ_cons, List.drop_zero]
          iterate 6 still_step
          still_call (pick_still _ _ _ HD.out.line (by omega) (by omega))
          iterate 5 still_step
          still_call (pick_still _ _ _ HD.out.cell (by omega) (by omega))
          refine wpStill_nil ?_
          go_wp2_with fail
          obtain ⟨r, p, m, hg⟩ := I.out.1
          have hq1 := pk_range (dth ah k).line 32 (by omega)
          have hq2 := isC_pk9 (dth ah k).cell
          refine (route_pick _ g r p m _ _ hg.drew hq1 hq2).mono ?_
          rintro e w7 ⟨rfl, g7, c7⟩
          have I7 := Lib.hid (show Gs w7 g ∧ Chg w5 w7 g from ⟨g7, (I.out.2.drew).trans c7⟩)
          clear g7 c7 hg hq1 hq2
          go_wp2
          go_roundw
          case rel => exact ⟨k + 1, by omega, by go_num, I7⟩
          case measure => simp [intOf]; omega
        · go_wp2_with fail
          go_meet
          exact I
      · go_wp2_with fail
        go_meet
        exact I
  case rest =>
    have E0 := Lib.hid (show Env w wc g gb (.slice A3 ds.length cap3) q [] from
      ⟨hcut.out.1, X7.out.kept hcut.out.2 (fun e => by have := Option.some.inj e; omega), X8.out.kept hcut.out.2 (fun e => by have := Option.some.inj e; omega), Y10.out.kept hcut.out.2 (fun e => by have := Option.some.inj e; omega),
        XL.out.kept hcut.out.2 (fun e => by have := Option.some.inj e; omega), XC.out.kept hcut.out.2 (fun e => by have := Option.some.inj e; omega), chg_below B5.out B5.out.size (by omega) hcut.out.2, fun D h => by cases h⟩)
    clear I0 hx10 hcut hnf X7 X8 Y10 XL XC B5 G5 hs5 hB5
    have h1g : w.heap.size + 1 < g := by omega
    have h2g : g < gb := hgb
    go_wp2_with fail
    refine wp_loop_rounds 3 ?_
    rw [rounds_succ]
    -- round 1
    have hx10 := E0.out.b10.cell
    obtain ⟨r1, p1, m1, hG⟩ := E0.out.gs
    have HG := Lib.hid hG; clear hG
    have hsz1 := E0.out.size
    go_wp2_with fail
    refine (ownl_any _ g r1 p1 m1 q HG.out).mono ?_
    rintro e w9 ⟨vv, rfl, ow, b9⟩
    obtain ⟨AA1, cp1, rfl, hlist⟩ := ow.at_
    have OW1 := Lib.hid hlist
    have HG' := Lib.hid (HG.out.below b9 HG.out.lt)
    have E9 := Lib.hid (E0.out.grown h1g h2g (row := none) ⟨b9.os, b9.tape, b9.output, b9.size, fun j hj _ => b9.block j hj⟩ (fun j e => by cases e) ⟨_, _, _, HG'.out⟩)
    have hw91 := b9.size
    have hLl := Lc_le r1 q 32
    have LL1 := Lib.hid (bl_Lc r1 q)
    clear b9 ow hlist HG hx10
    go_wp2_with fail
    have EA := Lib.hid ((E9.out.alloc h1g h2g (.cells #[.slice AA1 (Lc r1 q 32).length cp1] 22)).alloc h1g h2g (.cells #[.int .i64 0] 3))
    have HGA := Lib.hid ((HG'.out.kept (World.grownBy_alloc w9 (.cells #[.slice AA1 (Lc r1 q 32).length cp1] 22) none) (by simp)).kept (World.grownBy_alloc (w9.alloc (.cells #[.slice AA1 (Lc r1 q 32).length cp1] 22)) (.cells #[.int .i64 0] 3) none) (by simp))
    have B15 := Lib.hid ((Boxed.new w9 22 (.slice AA1 (Lc r1 q 32).length cp1)).alloc (.cells #[.int .i64 0] 3))
    have B16 := Lib.hid (show Boxed ((w9.alloc (.cells #[.slice AA1 (Lc r1 q 32).length cp1] 22)).alloc (.cells #[.int .i64 0] 3)) (w9.heap.size + 1) 3 (.int .i64 0) from by have := Boxed.new (w9.alloc (.cells #[.slice AA1 (Lc r1 q 32).length cp1] 22)) 3 (.int .i64 0); rwa [World.size_alloc] at this)
    have CL1 := Lib.hid (show ∀ gl, AA1 = some ⟨gl, 0, none⟩ → 0 < (Lc r1 q 32).length → gb + 1 + 1 < gl ∧ gl < w9.heap.size ∧ ∀ j, j < (Lc r1 q 32).length → ((w9.alloc (.cells #[.slice AA1 (Lc r1 q 32).length cp1] 22)).alloc (.cells #[.int .i64 0] 3)).cell? ⟨gl, j, none⟩ = some (.int .i64 ((Lc r1 q 32).getD j 0 : Nat)) from fun gl e hp => by
      obtain ⟨g2, e2, h2, h3, h4⟩ := OW1.out hp
      rw [e] at e2; cases e2
      refine ⟨by omega, h3, fun j hj => ?_⟩
      exact cell_alloc_l _ (cell_alloc_l _ (h4 j hj)))
    have AS1 := Lib.hid (show 0 < (Lc r1 q 32).length → ∃ gl, AA1 = some ⟨gl, 0, none⟩ from fun hp => by obtain ⟨g2, e2, _⟩ := OW1.out hp; exact ⟨g2, e2⟩)
    have hsA : ((w9.alloc (.cells #[.slice AA1 (Lc r1 q 32).length cp1] 22)).alloc (.cells #[.int .i64 0] 3)).heap.size = w9.heap.size + 1 + 1 := by simp
    clear E9 HG' OW1
    generalize (w9.alloc (.cells #[.slice AA1 (Lc r1 q 32).length cp1] 22)).alloc (.cells #[.int .i64 0] 3) = wA1 at *
    generalize w9.heap.size = nb1 at *
    generalize hLd : Lc r1 q 32 = L1 at *
    have hnD : nb1 + 1 ∉ ([] : List Nat) := by simp
    have hbl := bl_own r1 q
    refine (wpIn_wide (n := 4)).1 ?_
    refine wpIn_rangeFunc_ownG (F := Fence.wide) rfl (by omega) (gf := 34) (lb := #[.pointer (some ⟨gb + 1, 0, none⟩), .pointer (some ⟨gb + 1 + 1, 0, none⟩)]) rfl trivial (enters_of Tryd.func34 (by kernel_rfl) rfl)
      (lines_stops (4 - 1) (gb + 1) (gb + 1 + 1) g (by omega) r1 p1 m1 q wA1 (by omega) (by omega) EA.out.bl.cell EA.out.bc.cell HGA.out (HT.out _ EA.out.below)) (fun h k => kpT_t h k) (fun W l o o' _ hl ho _ => kpT_b W l o o' hl ho) (Below.refl _ _) (fun _ => rfl)
      (St wA1 g (nb1 + 1) L1) (Sx L1) (st_own wA1 g (nb1 + 1) L1 (by omega) (by omega)) (fun c => sx_own _ L1 c) ⟨⟨_, _, _, HGA.out⟩, B16.out, Old2.refl _ _ _, List.nil_prefix⟩
      (fun x => { tmps := #[v0, Value.int IntKind.i64 c0, Value.slice A2 ah.length cap2, Value.slice A3 ds.length cap3, undef, undef, undef, Value.pointer (some { block := w.heap.size, off := 0 }), Value.pointer (some { block := w.heap.size + 1, off := 0 }), Value.bool true, Value.pointer (some { block := gb, off := 0 }), Value.int IntKind.i64 q, Value.func (Fn.func 34) #[] #[Value.pointer (some { block := gb + 1, off := 0 }), Value.pointer (some { block := gb + 1 + 1, off := 0 })], u13, Value.int IntKind.i64 0, Value.pointer (some { block := nb1, off := 0 }), Value.pointer (some { block := nb1 + 1, off := 0 }), .int .i64 (x : Nat), Value.bool true, v0, Value.pointer (some { block := g, off := 0 }), Value.bool true, Value.bool false, Value.bool false, Value.pointer (some { block := g, off := 0 }), Value.bool false, Value.bool false, Value.int IntKind.i64 c0, Value.int IntKind.i64 q, Value.pointer (some { block := g, off := 0 }), Value.int IntKind.i64 q, Value.func (Fn.func 34) #[] #[Value.pointer (some { block := gb + 1, off := 0 }), Value.pointer (some { block := gb + 1 + 1, off := 0 })], Value.func (Fn.func 34) #[] #[Value.pointer (some { block := gb + 1, off := 0 }), Value.pointer (some { block := gb + 1 + 1, off := 0 })], Value.bool false, u34, u35, u36, u37, u38, u39, u40, u41, u42, u43, u44, u45, u46, u47, u48, u49, u50, u51, u52, u53, u54, u55, u56, u57, Value.int IntKind.i64 0, Value.bool true, undef, undef, Value.pointer (some { block := g, off := 0 }), Value.int IntKind.i64 q, Value.slice AA1 L1.length cp1, Value.func (Fn.func 34) #[] #[Value.pointer (some { block := gb + 1, off := 0 }), Value.pointer (some { block := gb + 1 + 1, off := 0 })], .int .i64 (x : Nat), undef, undef, undef, undef, undef, undef, undef, undef, undef, undef, undef, undef, undef, undef, undef, undef, undef, undef, undef, undef, undef, undef, undef, undef, undef, undef, undef, undef, undef, undef, undef, undef, undef, undef, undef, undef, undef, undef, undef, undef, undef, undef], defers := [] }) ?assign ?body ?done ?stop
    case assign =>
      intro l x W K hK
      gi_wp2
      exact hK
    case body =>
      rintro l pre x W ⟨⟨r, p, m, hgs⟩, hn, ho, hp⟩ hl32
      have ST := Lib.hid (show St wA1 g (nb1 + 1) L1 pre W from ⟨⟨r, p, m, hgs⟩, hn, ho, hp⟩)
      have HGS := Lib.hid hgs
      have BW := Lib.hid (EA.out.below.trans (ho.below (B := w.heap.size) (by omega) (by omega) EA.out.below.size))
      have hx16 := hn.cell
      have hf16 := hn.frozen
      have hx7 := ho.cell EA.out.b7.cell (by omega) (by omega)
      have hx10 := ho.cell EA.out.b10.cell (by omega) (by omega)
      have hx15 := ho.cell B15.out.cell (by omega) (by omega)
      have Y8 : Boxed W (w.heap.size + 1) 4 (.bool false) := (ho.block _ EA.out.b8.lt (by omega) (by omega)).trans EA.out.b8
      have hx8 := Y8.cell
      have hf8 := Y8.frozen
      have KF8 := Lib.hid (kf_chg (B := wA1.heap.size) (set_chg W (w.heap.size + 1) (.bool false)) (by omega))
      by_cases hlt : pre.length < L1.length
      · obtain ⟨gl, rfl⟩ := AS1.out (by omega)
        obtain ⟨hg5, hg6, hcl⟩ := CL1.out gl rfl (by omega)
        have hxl := ho.cell (hcl _ hlt) (by omega) (by omega)
        have PN := Lib.hid (pre_next (x := x) hp hlt)
        clear hcl ho hn hp Y8 hgs
        generalize hy : L1.getD pre.length 0 = y at *
        clear hy
        by_cases hxy : x = y
        · subst hxy
          have PY := Lib.hid (PN.out.2 rfl)
          clear PN
          by_cases hw : pre.length < ds.length
          · obtain ⟨ab, aoff, hA, hcell⟩ := (H3.out _ BW.out).at_ pre.length hw
            subst hA
            have HD := Lib.hid (HO3.out pre.length)
            have hl1 : W.cell? ⟨ab, aoff + pre.length * 38 + 1, none⟩ = some (.int .i64 (dth ds pre.length).line) := hcell 1 _ (by simp [opCells])
            have hl2 : W.cell? ⟨ab, aoff + pre.length * 38 + 2, none⟩ = some (.int .i64 (dth ds pre.length).cell) := hcell 2 _ (by simp [opCells])
            clear hcell
            gi_wp2
            refine region_round 13 (by kernel_rfl) (by kernel_rfl) (by kernel_rfl) ?hq ?_
            case hq => intro _ _ h; first | exact h | (trace_state; sorry)
            simp only [List.take_succ_cons, List.take_zero, List.drop_succ_cons, List.drop_zero]
            iterate 6 still_step
            still_call (pick_still _ _ _ HD.out.line (by omega) (by omega))
            iterate 5 still_step
            still_call (pick_still _ _ _ HD.out.cell (by omega) (by omega))
            refine wpStill_nil ?_
            go_wp2_with fail
            refine (route_pick _ g r p m _ _ HGS.out.drew (pk_range (dth ds pre.length).line 32 (by omega)) (isC_pk9 (dth ds pre.length).cell)).mono ?_
            rintro e w7 ⟨rfl, ⟨r7, p7, m7, g7⟩, c7⟩
            have G7 := Lib.hid g7
            have C7 := Lib.hid (((Chg.refl W g).drew).trans c7)
            have B7 := Lib.hid (chg_below BW.out BW.out.size (by omega) C7.out)
            have hy16 := (ST.out.2.1.kept C7.out (fun e => by have := Option.some.inj e; omega)).cell
            have hy7 := cell_of_kept C7.out hx7 (by omega)
            have hy10 := cell_of_kept C7.out hx10 (by omega)
            obtain ⟨b', o', e, hcell⟩ := (H3.out _ B7.out).at_ pre.length hw
            injection e with e; injection e with e1 e2; subst e1 e2
            have HX := Lib.hid (show w7.drew.rangeAt ab (aoff + pre.length * 38) (opCells (dth ds pre.length)) from hcell)
            clear hcell g7 c7
            go_wp2_with fail
            gi_wp2
            refine region_round 5 (by kernel_rfl) (by kernel_rfl) (by kernel_rfl) ?hq ?_
            case hq => intro _ _ h; first | exact h | (trace_state; sorry)
            simp only [List.take_succ_cons, List.take_zero, List.drop_succ_cons, List.drop_zero]
            iterate 4 still_step
            refine wpStill_load_mid rfl 41 (.tmp 100) rfl ab (aoff + pre.length * 38) rfl (opCells (dth ds pre.length)) _ HX.out Tryd.underlying41 rfl (opInfo HD.out) ?_
            refine wpStill_nil ?_
            go_wp2_with fail
            refine (does_any _ g r7 p7 m7 (dth ds pre.length) G7.out.drew (HT.out _ (B7.out.drew)) HD.out).mono ?_
            rintro e w8 ⟨rfl, g8, c8⟩
            have G8 := Lib.hid g8
            have C8 := Lib.hid (C7.out.trans (((Chg.refl w7 g).drew).trans c8))
            have N8 := (ST.out.2.1.kept C8.out (fun e => by have := Option.some.inj e; omega))
            have hz16 := N8.cell
            have hzf16 := N8.frozen
            clear g8 c8 N8 hy16 hy7 hy10 hx16 hf16
            go_wp2_with fail
            gi_wp2
            exact st_next ST.out (by omega) (by omega) (by omega) (by omega) (by omega) C8.out ⟨_, _, _, G8.out⟩ PY.out
          · gi_wp2
            exact st_next ST.out (by omega) (by omega) (by omega) (by omega) (by omega) (Chg.refl W g) ⟨r, p, m, HGS.out⟩ PY.out
        · have hne : (((x : Nat) : Int) != (y : Nat)) = true := by simp; omega
          gi_wp2
          exact ⟨KF8.out, rfl, fun h => hxy (PN.out.1 h)⟩
      · have PO := Lib.hid (pre_over (x := x) hlt)
        clear ho hn hp Y8 hgs
        gi_wp2
        exact ⟨KF8.out, rfl, PO.out⟩
    case stop =>
      rintro D c pre W _ hsp ⟨_, hx⟩ _
      rw [LL1.out] at hsp
      exact absurd hsp hx
    case done =>
      rintro D1 ys W1 hD rfl ⟨hgs, hn, ho, hp⟩ hK
      rw [LL1.out] at hn
      have ED1 := Lib.hid ((EA.out.old h1g h2g ho (by omega) hnD hgs).mark (D := D1) (by omega) hK)
      have hx16 := hn.cell
      have hx15 := ho.cell B15.out.cell (by omega) (by omega)
      have HDD1 := Lib.hid (show ∀ D ∈ ([] : List Nat), D < D1 from fun D h => by have := (Array.getElem?_eq_some_iff.1 (EA.out.marks D h).2).1; omega)
      clear hgs hn ho hp hK hD
      go_wp2_with fail
      rw [rounds_succ]
      clear EA B15 HGA HDD1 hx15 hx16
      -- round 2
      have hx10 := ED1.out.b10.cell
      obtain ⟨r2, p2, m2, hG⟩ := ED1.out.gs
      have HG := Lib.hid hG; clear hG
      have hsz2 := ED1.out.size
      go_wp2_with fail
      refine (ownl_any _ g r2 p2 m2 q HG.out).mono ?_
      rintro e w9 ⟨vv, rfl, ow, b9⟩
      obtain ⟨AA2, cp2, rfl, hlist⟩ := ow.at_
      have OW2 := Lib.hid hlist
      have HG' := Lib.hid (HG.out.below b9 HG.out.lt)
      have E9 := Lib.hid (ED1.out.grown h1g h2g (row := none) ⟨b9.os, b9.tape, b9.output, b9.size, fun j hj _ => b9.block j hj⟩ (fun j e => by cases e) ⟨_, _, _, HG'.out⟩)
      have hw92 := b9.size
      have hLl := Lc_le r2 q 32
      have LL2 := Lib.hid (bl_Lc r2 q)
      clear b9 ow hlist HG hx10
      go_wp2_with fail
      have EA := Lib.hid ((E9.out.alloc h1g h2g (.cells #[.slice AA2 (Lc r2 q 32).length cp2] 22)).alloc h1g h2g (.cells #[.int .i64 0] 3))
      have HGA := Lib.hid ((HG'.out.kept (World.grownBy_alloc w9 (.cells #[.slice AA2 (Lc r2 q 32).length cp2] 22) none) (by simp)).kept (World.grownBy_alloc (w9.alloc (.cells #[.slice AA2 (Lc r2 q 32).length cp2] 22)) (.cells #[.int .i64 0] 3) none) (by simp))
      have B15 := Lib.hid ((Boxed.new w9 22 (.slice AA2 (Lc r2 q 32).length cp2)).alloc (.cells #[.int .i64 0] 3))
      have B16 := Lib.hid (show Boxed ((w9.alloc (.cells #[.slice AA2 (Lc r2 q 32).length cp2] 22)).alloc (.cells #[.int .i64 0] 3)) (w9.heap.size + 1) 3 (.int .i64 0) from by have := Boxed.new (w9.alloc (.cells #[.slice AA2 (Lc r2 q 32).length cp2] 22)) 3 (.int .i64 0); rwa [World.size_alloc] at this)
      have CL2 := Lib.hid (show ∀ gl, AA2 = some ⟨gl, 0, none⟩ → 0 < (Lc r2 q 32).length → gb + 1 + 1 < gl ∧ gl < w9.heap.size ∧ ∀ j, j < (Lc r2 q 32).length → ((w9.alloc (.cells #[.slice AA2 (Lc r2 q 32).length cp2] 22)).alloc (.cells #[.int .i64 0] 3)).cell? ⟨gl, j, none⟩ = some (.int .i64 ((Lc r2 q 32).getD j 0 : Nat)) from fun gl e hp => by
        obtain ⟨g2, e2, h2, h3, h4⟩ := OW2.out hp
        rw [e] at e2; cases e2
        refine ⟨by omega, h3, fun j hj => ?_⟩
        exact cell_alloc_l _ (cell_alloc_l _ (h4 j hj)))
      have AS2 := Lib.hid (show 0 < (Lc r2 q 32).length → ∃ gl, AA2 = some ⟨gl, 0, none⟩ from fun hp => by obtain ⟨g2, e2, _⟩ := OW2.out hp; exact ⟨g2, e2⟩)
      have hsA : ((w9.alloc (.cells #[.slice AA2 (Lc r2 q 32).length cp2] 22)).alloc (.cells #[.int .i64 0] 3)).heap.size = w9.heap.size + 1 + 1 := by simp
      clear E9 HG' OW2
      generalize (w9.alloc (.cells #[.slice AA2 (Lc r2 q 32).length cp2] 22)).alloc (.cells #[.int .i64 0] 3) = wA2 at *
      generalize w9.heap.size = nb2 at *
      generalize hLd : Lc r2 q 32 = L2 at *
      have hnD : nb2 + 1 ∉ ([D1] : List Nat) := by have := (Array.getElem?_eq_some_iff.1 (ED1.out.marks D1 (by simp)).2).1; simp; omega
      have hbl := bl_own r2 q
      refine (wpIn_wide (n := 4)).1 ?_
      refine wpIn_rangeFunc_ownG (F := Fence.wide) rfl (by omega) (gf := 34) (lb := #[.pointer (some ⟨gb + 1, 0, none⟩), .pointer (some ⟨gb + 1 + 1, 0, none⟩)]) rfl trivial (enters_of Tryd.func34 (by kernel_rfl) rfl)
        (lines_stops (4 - 1) (gb + 1) (gb + 1 + 1) g (by omega) r2 p2 m2 q wA2 (by omega) (by omega) EA.out.bl.cell EA.out.bc.cell HGA.out (HT.out _ EA.out.below)) (fun h k => kpT_t h k) (fun W l o o' _ hl ho _ => kpT_b W l o o' hl ho) (Below.refl _ _) (fun _ => rfl)
        (St wA2 g (nb2 + 1) L2) (Sx L2) (st_own wA2 g (nb2 + 1) L2 (by omega) (by omega)) (fun c => sx_own _ L2 c) ⟨⟨_, _, _, HGA.out⟩, B16.out, Old2.refl _ _ _, List.nil_prefix⟩
        (fun x => { tmps := #[v0, Value.int IntKind.i64 c0, Value.slice A2 ah.length cap2, Value.slice A3 ds.length cap3, undef, undef, undef, Value.pointer (some { block := w.heap.size, off := 0 }), Value.pointer (some { block := w.heap.size + 1, off := 0 }), Value.bool true, Value.pointer (some { block := gb, off := 0 }), Value.int IntKind.i64 q, Value.func (Fn.func 34) #[] #[Value.pointer (some { block := gb + 1, off := 0 }), Value.pointer (some { block := gb + 1 + 1, off := 0 })], u13, Value.int IntKind.i64 1, Value.pointer (some { block := nb2, off := 0 }), Value.pointer (some { block := nb2 + 1, off := 0 }), .int .i64 (x : Nat), Value.bool true, v0, Value.pointer (some { block := g, off := 0 }), Value.bool true, Value.bool false, Value.bool false, Value.pointer (some { block := g, off := 0 }), Value.bool false, Value.bool false, Value.int IntKind.i64 c0, Value.int IntKind.i64 q, Value.pointer (some { block := g, off := 0 }), Value.int IntKind.i64 q, Value.func (Fn.func 34) #[] #[Value.pointer (some { block := gb + 1, off := 0 }), Value.pointer (some { block := gb + 1 + 1, off := 0 })], Value.func (Fn.func 34) #[] #[Value.pointer (some { block := gb + 1, off := 0 }), Value.pointer (some { block := gb + 1 + 1, off := 0 })], Value.bool false, u34, u35, u36, u37, u38, u39, u40, u41, u42, u43, u44, u45, u46, u47, u48, u49, u50, u51, u52, u53, u54, u55, u56, u57, Value.int IntKind.i64 1, Value.bool true, Value.int IntKind.i64 0, Value.int IntKind.i64 1, Value.pointer (some { block := g, off := 0 }), Value.int IntKind.i64 q, Value.slice AA2 L2.length cp2, Value.func (Fn.func 34) #[] #[Value.pointer (some { block := gb + 1, off := 0 }), Value.pointer (some { block := gb + 1 + 1, off := 0 })], .int .i64 (x : Nat), undef, undef, undef, undef, undef, undef, undef, undef, undef, undef, undef, undef, undef, undef, undef, undef, undef, undef, undef, undef, undef, undef, undef, undef, undef, undef, undef, undef, undef, undef, undef, undef, undef, undef, undef, undef, undef, undef, Value.int IntKind.i64 ↑L1.length, Value.slice AA1 L1.length cp1, Value.int IntKind.i64 ↑L1.length, Value.bool false], defers := [] }) ?assign ?body ?done ?stop
      case assign =>
        intro l x W K hK
        gi_wp2
        exact hK
      case body =>
        rintro l pre x W ⟨⟨r, p, m, hgs⟩, hn, ho, hp⟩ hl32
        have ST := Lib.hid (show St wA2 g (nb2 + 1) L2 pre W from ⟨⟨r, p, m, hgs⟩, hn, ho, hp⟩)
        have HGS := Lib.hid hgs
        have BW := Lib.hid (EA.out.below.trans (ho.below (B := w.heap.size) (by omega) (by omega) EA.out.below.size))
        have hx16 := hn.cell
        have hf16 := hn.frozen
        have hx7 := ho.cell EA.out.b7.cell (by omega) (by omega)
        have hx10 := ho.cell EA.out.b10.cell (by omega) (by omega)
        have hx15 := ho.cell B15.out.cell (by omega) (by omega)
        have Y8 : Boxed W (w.heap.size + 1) 4 (.bool false) := (ho.block _ EA.out.b8.lt (by omega) (by omega)).trans EA.out.b8
        have hx8 := Y8.cell
        have hf8 := Y8.frozen
        have KF8 := Lib.hid (kf_chg (B := wA2.heap.size) (set_chg W (w.heap.size + 1) (.bool false)) (by omega))
        by_cases hlt : pre.length < L2.length
        · obtain ⟨gl, rfl⟩ := AS2.out (by omega)
          obtain ⟨hg5, hg6, hcl⟩ := CL2.out gl rfl (by omega)
          have hxl := ho.cell (hcl _ hlt) (by omega) (by omega)
          have PN := Lib.hid (pre_next (x := x) hp hlt)
          clear hcl ho hn hp Y8 hgs
          generalize hy : L2.getD pre.length 0 = y at *
          clear hy
          by_cases hxy : x = y
          · subst hxy
            have PY := Lib.hid (PN.out.2 rfl)
            clear PN
            by_cases hw : pre.length < ds.length
            · obtain ⟨ab, aoff, hA, hcell⟩ := (H3.out _ BW.out).at_ pre.length hw
              subst hA
              have HD := Lib.hid (HO3.out pre.length)
              have hl1 : W.cell? ⟨ab, aoff + pre.length * 38 + 1, none⟩ = some (.int .i64 (dth ds pre.length).line) := hcell 1 _ (by simp [opCells])
              have hl2 : W.cell? ⟨ab, aoff + pre.length * 38 + 2, none⟩ = some (.int .i64 (dth ds pre.length).cell) := hcell 2 _ (by simp [opCells])
              clear hcell
              gi_wp2
              refine region_round 13 (by kernel_rfl) (by kernel_rfl) (by kernel_rfl) ?hq ?_
              case hq => intro _ _ h; first | exact h | (trace_state; sorry)
              simp only [List.take_succ_cons, List.take_zero, List.drop_succ_cons, List.drop_zero]
              iterate 6 still_step
              still_call (pick_still _ _ _ HD.out.line (by omega) (by omega))
              iterate 5 still_step
              still_call (pick_still _ _ _ HD.out.cell (by omega) (by omega))
              refine wpStill_nil ?_
              go_wp2_with fail
              refine (route_pick _ g r p m _ _ HGS.out.drew (pk_range (dth ds pre.length).line 32 (by omega)) (isC_pk9 (dth ds pre.length).cell)).mono ?_
              rintro e w7 ⟨rfl, ⟨r7, p7, m7, g7⟩, c7⟩
              have G7 := Lib.hid g7
              have C7 := Lib.hid (((Chg.refl W g).drew).trans c7)
              have B7 := Lib.hid (chg_below BW.out BW.out.size (by omega) C7.out)
              have hy16 := (ST.out.2.1.kept C7.out (fun e => by have := Option.some.inj e; omega)).cell
              have hy7 := cell_of_kept C7.out hx7 (by omega)
              have hy10 := cell_of_kept C7.out hx10 (by omega)
              obtain ⟨b', o', e, hcell⟩ := (H3.out _ B7.out).at_ pre.length hw
              injection e with e; injection e with e1 e2; subst e1 e2
              have HX := Lib.hid (show w7.drew.rangeAt ab (aoff + pre.length * 38) (opCells (dth ds pre.length)) from hcell)
              clear hcell g7 c7
              go_wp2_with fail
              gi_wp2
              refine region_round 5 (by kernel_rfl) (by kernel_rfl) (by kernel_rfl) ?hq ?_
              case hq => intro _ _ h; first | exact h | (trace_state; sorry)
              simp only [List.take_succ_cons, List.take_zero, List.drop_succ_cons, List.drop_zero]
              iterate 4 still_step
              refine wpStill_load_mid rfl 41 (.tmp 100) rfl ab (aoff + pre.length * 38) rfl (opCells (dth ds pre.length)) _ HX.out Tryd.underlying41 rfl (opInfo HD.out) ?_
              refine wpStill_nil ?_
              go_wp2_with fail
              refine (does_any _ g r7 p7 m7 (dth ds pre.length) G7.out.drew (HT.out _ (B7.out.drew)) HD.out).mono ?_
              rintro e w8 ⟨rfl, g8, c8⟩
              have G8 := Lib.hid g8
              have C8 := Lib.hid (C7.out.trans (((Chg.refl w7 g).drew).trans c8))
              have N8 := (ST.out.2.1.kept C8.out (fun e => by have := Option.some.inj e; omega))
              have hz16 := N8.cell
              have hzf16 := N8.frozen
              clear g8 c8 N8 hy16 hy7 hy10 hx16 hf16
              go_wp2_with fail
              gi_wp2
              exact st_next ST.out (by omega) (by omega) (by omega) (by omega) (by omega) C8.out ⟨_, _, _, G8.out⟩ PY.out
            · gi_wp2
              exact st_next ST.out (by omega) (by omega) (by omega) (by omega) (by omega) (Chg.refl W g) ⟨r, p, m, HGS.out⟩ PY.out
          · have hne : (((x : Nat) : Int) != (y : Nat)) = true := by simp; omega
            gi_wp2
            exact ⟨KF8.out, rfl, fun h => hxy (PN.out.1 h)⟩
        · have PO := Lib.hid (pre_over (x := x) hlt)
          clear ho hn hp Y8 hgs
          gi_wp2
          exact ⟨KF8.out, rfl, PO.out⟩
      case stop =>
        rintro D c pre W _ hsp ⟨_, hx⟩ _
        rw [LL2.out] at hsp
        exact absurd hsp hx
      case done =>
        rintro D2 ys W2 hD rfl ⟨hgs, hn, ho, hp⟩ hK
        rw [LL2.out] at hn
        have ED2 := Lib.hid ((EA.out.old h1g h2g ho (by omega) hnD hgs).mark (D := D2) (by omega) hK)
        have hx16 := hn.cell
        have hx15 := ho.cell B15.out.cell (by omega) (by omega)
        have HDD2 := Lib.hid (show ∀ D ∈ ([D1] : List Nat), D < D2 from fun D h => by have := (Array.getElem?_eq_some_iff.1 (EA.out.marks D h).2).1; omega)
        clear hgs hn ho hp hK hD
        go_wp2_with fail
        rw [rounds_succ]

        have hx8 := ED2.out.b8.cell
        have hf8 := ED2.out.b8.frozen
        have hm2 := (ED2.out.marks D2 (by simp)).2
        have hm1 := (ED2.out.marks D1 (by simp)).2
        have hlt12 := HDD2.out D1 (by simp)
        have g2D := (ED2.out.marks D2 (by simp)).1
        have g1D := (ED2.out.marks D1 (by simp)).1
        have K2 := Lib.hid ((KeepsOthers.setCell W2 ⟨w.heap.size + 1, 0, none⟩ (.bool true)).same D2 _ hm2 rfl)
        have K1 := Lib.hid ((KeepsOthers.setCell W2 ⟨w.heap.size + 1, 0, none⟩ (.bool true)).same D1 _ hm1 rfl)
        have X2 := Lib.hid (ED2.out.b8.set (.bool true))
        have BF := Lib.hid (ED2.out.below.setCell (p := ⟨w.heap.size + 1, 0, none⟩) (by show w.heap.size ≤ w.heap.size + 1; omega) (.bool true))
        clear hm2 hm1
        go_wp2_with fail
        have K1' : ((W2.setCell ⟨w.heap.size + 1, 0, none⟩ (.bool true)).putObj D2 (.deferred none)).heap[D1]? = some (.deferred (some [])) := (World.putObj_heap_other (by omega)).trans K1.out
        have X3 := (X2.out.kept (grownBy_putObj' _ D2 (.deferred none)) (fun e => by have := Option.some.inj e; omega)).kept (grownBy_putObj' _ D1 (.deferred none)) (fun e => by have := Option.some.inj e; omega)
        have hc5 := X3.cell
        have BF2 := BF.out.grown (grownBy_putObj' _ D2 (.deferred none)) BF.out.size (fun k e => by cases e; omega)
        have BF3 := BF2.grown (grownBy_putObj' _ D1 (.deferred none)) BF2.size (fun k e => by cases e; omega)
        refine ⟨by simp, .inl ⟨_, _, rfl, run_takeDeferred K2.out, ?_⟩⟩
        refine ⟨by simp, .inl ⟨_, _, rfl, run_takeDeferred K1', ?_⟩⟩
        refine ⟨.bool true, ?_, rfl, BF3⟩
        simp [results, Tryd.f6, go_sem, hc5]
end Go.Proofs.YtpedciapkalhgaaDoor.Gk
