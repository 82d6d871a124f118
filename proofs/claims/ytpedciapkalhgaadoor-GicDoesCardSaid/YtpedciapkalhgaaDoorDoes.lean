/- GicDoes: the walk. -/
import Derived.Test.YtpedciapkalhgaaDoorDoesA
namespace Go.Proofs.YtpedciapkalhgaaDoor.Gk
open Go.RowKit Go.Proofs.YtpedciapkalhgaaDoor.Kit
set_option linter.unusedSimpArgs false
set_option linter.unusedVariables false

theorem info24 : (Tryd.prog.info? 24).map (fun i => (i.zero, i.size, i.bytes)) = some (some (.pointer none), 1, 8) := by kernel_rfl
theorem new_box (w : World) : Calls Tryd.prog 23 #[] w fun e w' => ∃ g, e = .returned (.pointer (some ⟨g, 0, none⟩)) ∧ g = w.heap.size ∧ w'.heap.size = w.heap.size + 1 ∧ GicAt w' g z0 0 0 ∧ Below w.heap.size w w' := by
  refine (new_any w).mono ?_
  rintro e w' ⟨rfl, rfl⟩
  exact ⟨_, rfl, rfl, by simp, new_at w, (Below.refl _ w).alloc (Nat.le_refl _) _⟩
set_option maxRecDepth 100000 in
set_option maxHeartbeats 8000000 in
theorem does_walk (w : World) (hT : TabAt w) (v1 : Value) (ds : List OpD) (h1 : Ro w v1 ds) :
    Calls Tryd.prog 8 #[v1] w fun e w' => e = .returned (.bool true) ∧ Below w.heap.size w w' := by
  have h0 : 0 < w.heap.size := World.block_lt_of_cell? w _ (hT 0 (by omega))
  have HT := Lib.hid (fun w' (h : Below w.heap.size w w') => hT.below h h0)
  have H1 := Lib.hid (fun w' (h : Below w.heap.size w w') => h1.below h)
  obtain ⟨⟨A1, cap1, rfl, _⟩, hfew, hok⟩ := h1
  have HO := Lib.hid hok
  obtain ⟨i0, hi, hz0, hz1, hz2⟩ := info_parts info24
  clear hT hok
  go_enter Tryd.func8, Tryd.ntmps8
  go_wp2_with fail
  refine (new_box _).mono ?_
  rintro e w1 ⟨ga, rfl, hga, hs1, g1, b1⟩
  have GA1 := Lib.hid g1
  have B1 := Lib.hid b1
  have HS1 := Lib.hid (And.intro hga hs1)
  clear g1 b1 hs1 hga
  go_wp2_with fail
  refine (new_box _).mono ?_
  rintro e w2 ⟨gb, rfl, hgb, hs2, g2, b2⟩
  have GA2 := Lib.hid (GA1.out.below b2 GA1.out.lt)
  have GB2 := Lib.hid g2
  have B2 := Lib.hid (B1.out.trans (b2.mono (by have := HS1.out; omega)))
  have HS2 := Lib.hid (show ga = w.heap.size ∧ gb = w.heap.size + 1 ∧ w2.heap.size = w.heap.size + 2 by have := HS1.out; omega)
  clear g2 b2 hs2 hgb GA1 B1 HS1
  have I0 := Lib.hid (show Fy w2 (w.heap.size + 2) w2.heap.size (.slice none 0 0) [] ∧ Below w2.heap.size w2 w2 from ⟨⟨World.ownsRow_nil _ _ _ _, fun g e => (by cases e), fun k hk => (by simp at hk)⟩, Below.refl _ _⟩)
  go_upto_block 0 with (fail)
  go_cut [5, 6, 7] from 33 to 54 (fun v _ _ wx => ∃ gs : List Nat, gs.length = 40 ∧ Hid (Fy wx (w.heap.size + 2) wx.heap.size v gs ∧ Below w2.heap.size w2 wx))
  case first =>
    go_wp2_with fail
    go_loopw [5, 6, 7] (fun v i _ wr => ∃ (k : Nat) (gs : List Nat), k ≤ 40 ∧ i = .int .i64 k ∧ gs.length = k ∧ Hid (Fy wr (w.heap.size + 2) wr.heap.size v gs ∧ Below w2.heap.size w2 wr)) (fun _ i _ _ => 40 - (intOf i).toNat)
    case atStart => exact ⟨0, [], by omega, rfl, rfl, I0⟩
    case round =>
      obtain ⟨k, gs, hk, rfl, hgs, I⟩ := hrel
      clear I0
      have HGS := Lib.hid hgs
      clear hgs
      by_cases hlt : k < 40
      · go_wp2_with fail
        refine (new_box _).mono ?_
        rintro e w5 ⟨gn, rfl, hgn, hs5, g5, b5⟩
        have G5 := Lib.hid g5
        have B5 := Lib.hid b5
        have HS5 := Lib.hid (And.intro hgn hs5)
        clear g5 b5 hs5 hgn
        go_wp2_with fail
        have RT := groute w5 gn z0 0 0 ((k % 32 : Nat) : Int) (1 + ((k % 8 : Nat) : Int)) G5.out
        rw [(fr_route k).1, (fr_route k).2] at RT
        simp only [Int.natCast_emod, Int.cast_ofNat_Int] at RT
        refine RT.mono ?_
        rintro e w6 ⟨rfl, g6, c6⟩
        have G6 := Lib.hid g6
        have C6 := Lib.hid c6
        clear g6 c6 RT
        generalize rcode _ _ = rcv
        go_wp2_with fail
        have RS := graise w6 gn (rk k) 0 0 ((k % 32 : Nat) : Int) G6.out
        rw [fr_raise k] at RS
        simp only [Int.natCast_emod, Int.cast_ofNat_Int] at RS
        refine RS.mono ?_
        rintro e w7 ⟨rfl, g7, c7⟩
        have G7 := Lib.hid g7
        have C7 := Lib.hid c7
        clear g7 c7 RS
        generalize nw _ _ _ = nwv
        generalize lcode _ = lcv
        have hkw : w.heap.size + 2 ≤ wr.heap.size := by have := I.out.2.size; have := HS2.out; omega
        have X7 := Lib.hid (((Ex.of_below B5.out (fun j => j = gn)).chg C6.out (.inl rfl)).chg C7.out (.inl rfl))
        have F7 := Lib.hid (show Fy w7 (w.heap.size + 2) wr.heap.size u5 gs from I.out.1.ex X7.out (fun i (e : i = gn) => by have := HS5.out.1; omega))
        have B7 := Lib.hid (show Below w2.heap.size w2 w7 from I.out.2.trans (X7.out.below (B := w2.heap.size) I.out.2.size (fun i (e : i = gn) => by have := HS5.out.1; have := I.out.2.size; omega)))
        have hs7 := X7.out.size
        have hgn : gn < w7.heap.size := G7.out.lt
        have hgnw : w.heap.size + 2 ≤ gn := by have := HS5.out.1; omega
        have hlg := HGS.out
        clear I G5 G6 C6 C7 B5 X7
        have O2 := Lib.hid (F7.out.own.alloc (.cells #[.pointer (some ⟨gn, 0, none⟩)] 24))
        have TN := Lib.hid (fun (q : Nat) (u : Value) (hu : ([.pointer (some ⟨gn, 0, none⟩)] : List Value)[q]? = some u) => show (w7.alloc (.cells #[.pointer (some ⟨gn, 0, none⟩)] 24)).cell? ((⟨w7.heap.size, 0, none⟩ : Addr).add q) = some u by
          rw [Addr.add_mid, Nat.zero_add, cell_of_row _ _ _ _ _ _ (heap_alloc_last w7 (.cells #[.pointer (some ⟨gn, 0, none⟩)] 24))]
          show ([.pointer (some ⟨gn, 0, none⟩)] : List Value).toArray[q]? = some u
          rw [List.getElem?_toArray]; exact hu)
        have hlen : gs.length ≤ 40 := by omega
        clear hlg
        go_wp2_with (at_builtin; refine wpList_append_own _ rfl (.tmp 51) (.tmp 53) 55 rfl (w.heap.size + 2) 24 i0 (.pointer none) 1 8 Tryd.underlying55 hi hz0 hz1 hz2 rfl (by decide) _ gs.length (ptrs gs) rfl O2.out ⟨w7.heap.size, 0, none⟩ 1 1 [.pointer (some ⟨gn, 0, none⟩)] rfl rfl TN.out ?qa ?qb ?qc ?qd ?_)
        case qa =>
          intro u hu
          simp only [List.mem_cons, List.not_mem_nil, or_false] at hu
          subst hu; rfl
        case qb => simp only [maxLen]; omega
        case qc => omega
        case qd => simp; omega
        intro v8 w8 hown hg hnil
        have F9 := Lib.hid (show Fy w8 (w.heap.size + 2) w8.heap.size v8 (gs ++ [gn]) ∧ Below w2.heap.size w2 w8 from by
          have XE := (Ex.refl (fun j => u5.ownBlock = some j) w7).alloc (.cells #[.pointer (some ⟨gn, 0, none⟩)] 24) |>.grown hg (fun j e => .inl e)
          have hown2 : w8.ownsRow (w.heap.size + 2) 24 1 v8 (gs ++ [gn]).length (ptrs (gs ++ [gn])) := by
            rw [List.length_append, ptrs, List.map_append]; exact hown
          refine ⟨⟨hown2, fun g e => ?_, fun j hj => ?_⟩, B7.out.trans (XE.below (B := w2.heap.size) B7.out.size (fun i e => ?_))⟩
          · rcases hown2.2 with ⟨h1, _⟩ | ⟨g2, cap, cur, hv, hb, hrow, _⟩
            · rw [h1] at e; cases e
            · rw [hv] at e; cases e; exact (Array.getElem?_eq_some_iff.1 hrow).1
          · rw [List.length_append, List.length_cons, List.length_nil] at hj
            by_cases e : j < gs.length
            · have h := F7.out.each j e
              have e2 : (gs ++ [gn]).getD j 0 = gs.getD j 0 := by simp [List.getD_eq_getElem?_getD, List.getElem?_append, e]
              rw [e2]
              exact ⟨h.1, by have := XE.size; omega, h.2.2.ex XE (fun x => by
                rcases F7.out.own.2 with ⟨h1, _⟩ | ⟨g2, cap, cur, hv, hb, hrow, _⟩
                · rw [h1] at x; cases x
                · rw [hv] at x; cases x
                  have := hrow.symm.trans h.2.2.heap; simp at this)⟩
            · have ej : j = gs.length := by omega
              subst ej
              have e2 : (gs ++ [gn]).getD gs.length 0 = gn := by simp
              rw [e2, HGS.out]
              exact ⟨hgnw, by have := XE.size; omega, G7.out.ex XE (fun x => by
                rcases F7.out.own.2 with ⟨h1, _⟩ | ⟨g2, cap, cur, hv, hb, hrow, _⟩
                · rw [h1] at x; cases x
                · rw [hv] at x; cases x
                  have := hrow.symm.trans G7.out.heap; simp at this)⟩
          · have := F7.out.lt i e; have := HS2.out; omega)
        have HG9 := Lib.hid (show (gs ++ [gn]).length = k + 1 by rw [List.length_append, HGS.out]; rfl)
        clear hown hg hnil
        go_wp2
        go_roundw
        case rel => exact ⟨k + 1, gs ++ [gn], by omega, by go_num, HG9.out, F9⟩
        case measure => simp [intOf]; omega
      · go_wp2_with fail
        go_meet
        exact ⟨gs, by have := HGS.out; omega, I⟩
  case rest =>
    obtain ⟨gs, hgs, FY⟩ := hcut
    have GA3 := Lib.hid (GA2.out.below FY.out.2 GA2.out.lt)
    have GB3 := Lib.hid (GB2.out.below FY.out.2 GB2.out.lt)
    have B3 := Lib.hid (B2.out.trans (FY.out.2.mono (by have := HS2.out; omega)))
    have F3 := Lib.hid FY.out.1
    have hw3 : w.heap.size + 2 ≤ wc.heap.size := by have := FY.out.2.size; have := HS2.out; omega
    have HGS := Lib.hid hgs
    clear hgs FY GA2 GB2 B2 I0
    go_wp2_with fail
    refine (rnew_any _).mono ?_
    rintro e w4 ⟨b1, x1, y1, z1, rfl, r4, hr4, bl4⟩
    have R4 := Lib.hid r4
    have HR4 := Lib.hid hr4
    have B4 := Lib.hid bl4
    clear r4 hr4 bl4
    go_wp2_with fail
    have PA5 := Lib.hid (show PAt (w4.alloc (.cells #[.pointer (some ⟨ga, 0, none⟩), .pointer (some ⟨b1, 0, none⟩)] 60)) w4.heap.size ga b1 x1 y1 z1 z0 0 0 from
      ⟨heap_alloc_last w4 _, (GA3.out.below B4.out GA3.out.lt).kept (World.grownBy_alloc w4 _ none) (by simp), R4.out.below ((Below.refl _ w4).alloc (Nat.le_refl _) _)⟩)
    have B5 := Lib.hid (B4.out.alloc B4.out.size (.cells #[.pointer (some ⟨ga, 0, none⟩), .pointer (some ⟨b1, 0, none⟩)] 60))
    have hs5 : (w4.alloc (.cells #[.pointer (some ⟨ga, 0, none⟩), .pointer (some ⟨b1, 0, none⟩)] 60)).heap.size = w4.heap.size + 1 := by simp
    have HLT4 := Lib.hid R4.out.ltb
    clear R4 B4
    generalize w4.alloc (.cells #[.pointer (some ⟨ga, 0, none⟩), .pointer (some ⟨b1, 0, none⟩)] 60) = w5 at *
    generalize hq1 : w4.heap.size = q1 at *
    clear hq1
    refine (rnew_any _).mono ?_
    rintro e w6 ⟨b2, x2, y2, z2, rfl, r6, hr6, bl6⟩
    have R6 := Lib.hid r6
    have HR6 := Lib.hid hr6
    have B6 := Lib.hid bl6
    clear r6 hr6 bl6
    have hb1 := b41_1
    have hb2 := b41_2
    have hb3 := b41_3
    go_wp2_with ((with_reducible show wpList _ _ _ (_ :: _) _ _); first | refine wpList_of_wp (o := ⟨some 64, _, _, _, _, _⟩) rfl (Kit.wp_build 41 _ rfl _ (by simp [Act.eval]) (.agg (opArr s1)) (b41_1 _) ?_))
    have hs7 : (w6.alloc (.cells #[.pointer (some ⟨gb, 0, none⟩), .pointer (some ⟨b2, 0, none⟩)] 60)).heap.size = w6.heap.size + 1 := by simp
    have LT6 := R6.out.ltb
    have LT4 := HLT4.out
    have hr4 := HR4.out
    have hr6 := HR6.out
    have hgab := HS2.out
    have I7 := Lib.hid (show In2 w (w6.alloc (.cells #[.pointer (some ⟨gb, 0, none⟩), .pointer (some ⟨b2, 0, none⟩)] 60)) ⟨q1, ga, b1, x1, y1, z1⟩ ⟨w6.heap.size, gb, b2, x2, y2, z2⟩ (w.heap.size + 2) wc.heap.size u5 gs from by
      have bb6 : Below wc.heap.size wc w6 := B5.out.trans (B6.out.mono (by omega))
      have bb7 : Below wc.heap.size wc (w6.alloc (.cells #[.pointer (some ⟨gb, 0, none⟩), .pointer (some ⟨b2, 0, none⟩)] 60)) := bb6.alloc bb6.size _
      have bw : Below w.heap.size w (w6.alloc (.cells #[.pointer (some ⟨gb, 0, none⟩), .pointer (some ⟨b2, 0, none⟩)] 60)) := B3.out.trans (bb7.mono (by omega))
      refine ⟨⟨_, _, _, (PA5.out.below B6.out).alloc _⟩, ⟨z0, 0, 0, heap_alloc_last w6 _, (GB3.out.below bb7 GB3.out.lt), R6.out.below ((Below.refl _ w6).alloc (Nat.le_refl _) _)⟩, ?_, ?_, ?_, ?_, ?_, ?_, F3.out.ex (Ex.of_below bb7 (fun _ => False)) (fun _ x => x.elim), HT.out _ bw, bw⟩
      · simp only [Dis, Pd.S, F4]; omega
      · simp only [Dis, Pd.S, F4]; omega
      · intro i; simp only [Pd.S, F4]; omega
      · intro i; simp only [Pd.S, F4]; omega
      · intro i; simp only [Pd.S, F4]; omega
      · intro i; simp only [Pd.S, F4]; omega)
    have PA7 := Lib.hid ((PA5.out.below B6.out).alloc (.cells #[.pointer (some ⟨gb, 0, none⟩), .pointer (some ⟨b2, 0, none⟩)] 60))
    clear PA5 B5 B6 R6 F3 GA3 GB3 B3 HLT4 HR4 HR6 LT6 LT4 hr4 hr6 hgab hs5 hs7
    generalize w6.alloc (.cells #[.pointer (some ⟨gb, 0, none⟩), .pointer (some ⟨b2, 0, none⟩)] 60) = w7 at *
    generalize w6.heap.size = q2 at *
    generalize wc.heap.size = hh at *
    refine (step_route w7 q1 ga b1 x1 y1 z1 z0 0 0 PA7.out I7.out.tab s1 s1_ok rfl).mono ?_
    rintro e w8 ⟨rfl, p8, x8⟩
    have I8 := Lib.hid (I7.out.step ⟨_, _, _, p8⟩ x8)
    have PA8 := Lib.hid p8
    clear p8 x8 I7 PA7
    go_wp2_with ((with_reducible show wpList _ _ _ (_ :: _) _ _); first | refine wpList_of_wp (o := ⟨some 68, _, _, _, _, _⟩) rfl (Kit.wp_build 41 _ rfl _ (by simp [Act.eval]) (.agg (opArr s2)) (b41_2 _) ?_))
    refine (step_raise w8 q1 ga b1 x1 y1 z1 _ _ _ PA8.out I8.out.tab s2 s2_ok rfl).mono ?_
    rintro e w9 ⟨rfl, p9, x9⟩
    have I9 := Lib.hid (I8.out.step ⟨_, _, _, p9⟩ x9)
    have PA9 := Lib.hid p9
    clear p9 x9 I8 PA8
    go_wp2_with ((with_reducible show wpList _ _ _ (_ :: _) _ _); first | refine wpList_of_wp (o := ⟨some 73, _, _, _, _, _⟩) rfl (Kit.wp_build 41 _ rfl _ (by simp [Act.eval]) (.agg (opArr s3)) (b41_3 _) ?_))
    refine (step_told w9 q1 ga b1 x1 y1 z1 _ _ _ PA9.out I9.out.tab s3 s3_ok rfl).mono ?_
    rintro e w10 ⟨rfl, p10, x10⟩
    have I10 := Lib.hid (I9.out.step ⟨_, _, _, p10⟩ x10)
    have PA10 := Lib.hid p10
    have hcg := p10.cg
    clear p10 x10 I9 PA9 hb1 hb2 hb3
    go_wp2_with fail
    refine (gtake _ ga _ _ _ 2 PA10.out.gc I10.out.tab).mono ?_
    rw [show someOf (roR s1.line s1.cell z0) 2 (wait (rsd (roR s1.line s1.cell z0) (roP s1.line s1.cell z0 0) s2.line) (roP s1.line s1.cell z0 0)) = 32 from known_set, known_nt, known_tk]
    rintro e w11 ⟨rfl, g11, c11⟩
    obtain ⟨R11, hcb11, _⟩ := PA10.out.mid c11
    have G11 := Lib.hid g11
    have C11 := Lib.hid c11
    have HR11 := Lib.hid R11
    clear g11 c11 R11 hcg
    go_wp2_with fail
    refine (rtake_any _ b1 x1 y1 z1 _ _ _ 2 HR11.out).mono ?_
    rw [show someOf (roR s1.line s1.cell z0) 2 (wait (rsd (roR s1.line s1.cell z0) (roP s1.line s1.cell z0 0) s2.line) (roP s1.line s1.cell z0 0)) = 32 from known_set]
    rintro e w12 ⟨rfl, r12, x12⟩
    obtain ⟨q12, y12⟩ := PA10.out.both G11.out C11.out r12 x12
    have I12 := Lib.hid (I10.out.step ⟨_, _, _, q12⟩ y12)
    clear r12 x12 q12 y12 I10 PA10 G11 C11 HR11 hcb11
    generalize nx 32 = nxv
    have HO2 := Lib.hid (fun (W : World) (D E : Pd) (h : In2 w W D E (w.heap.size + 2) hh u5 gs) => H1.out W h.below)
    have I0 := I12
    clear I12
    go_wp2_with fail
    go_loopw [8, 9, 10, 13, 14] (fun a8 a9 _ i _ wr => ∃ (k : Nat) (D E : Pd), k ≤ ds.length ∧ i = .int .i64 k ∧ a8 = .pointer (some ⟨D.q, 0, none⟩) ∧ a9 = .pointer (some ⟨E.q, 0, none⟩) ∧ Hid (In2 w wr D E (w.heap.size + 2) hh u5 gs)) (fun _ _ _ i _ _ => ds.length - (intOf i).toNat)
    case atStart => exact ⟨0, ⟨q1, ga, b1, x1, y1, z1⟩, ⟨q2, gb, b2, x2, y2, z2⟩, by omega, rfl, rfl, rfl, I0⟩
    case round =>
      obtain ⟨k, D, E, hk, rfl, rfl, rfl, I⟩ := hrel
      clear I0
      by_cases hlt : k < ds.length
      · obtain ⟨ab, aoff, hA, hcell⟩ := (H1.out _ I.out.below).at_ k hlt
        subst hA
        have HD := Lib.hid (HO.out k)
        have HX := Lib.hid hcell
        have hl0 : wr.cell? ⟨ab, aoff + k * 38, none⟩ = some (.int .i64 (dth ds k).kind) := by simpa using hcell 0 _ (by simp [opCells])
        clear hcell
        by_cases hk11 : (dth ds k).kind = 11
        · have hd : ((dth ds k).kind == 11) = true := by simp [hk11]
          have I' := Lib.hid I.out.swap
          clear hk11
          go_wp2
          go_roundw
          case rel => exact ⟨k + 1, E, D, by omega, by go_num, rfl, rfl, I'⟩
          case measure => simp [intOf]; omega
        · have hd : ((dth ds k).kind == 11) = false := by simp [hk11]
          clear hk11
          go_wp2_with (refine wpList_load_mid (op := ⟨some 118, _, _, _, _, _⟩) rfl 41 (.tmp 117) rfl ab (aoff + k * 38) rfl (opCells (dth ds k)) _ HX.out Tryd.underlying41 rfl (opInfo HD.out) ?_)
          obtain ⟨r, p, m, hp⟩ := I.out.d
          refine (step_any wr D.q D.g D.b D.x D.y D.z r p m hp I.out.tab (dth ds k) HD.out).mono ?_
          rintro e w9 ⟨rfl, p9, x9⟩
          have I' := Lib.hid (I.out.step p9 x9)
          clear p9 x9 hp
          go_wp2
          go_roundw
          case rel => exact ⟨k + 1, D, E, by omega, by go_num, rfl, rfl, I'⟩
          case measure => simp [intOf]; omega
      · go_wp2_with fail
        have J0 := I
        clear I
        go_loopw [15, 16, 17, 18, 19] (fun i _ _ _ _ wr => ∃ c : Nat, c ≤ 11 ∧ i = .int .i64 ((c : Int) - 1) ∧ Hid (In2 w wr D E (w.heap.size + 2) hh u5 gs)) (fun i _ _ _ _ _ => (10 - intOf i).toNat)
        case atStart => exact ⟨0, by omega, rfl, J0⟩
        case round =>
          obtain ⟨c, hc, rfl, J⟩ := hrel
          clear J0
          by_cases hlt : c < 11
          · obtain ⟨r, p, m, hp⟩ := J.out.d
            have hcle : (c : Int) - 1 ≤ 9 := by omega
            have hclo : -1 ≤ (c : Int) - 1 := by omega
            have PD := Lib.hid hp
            clear hp
            generalize hcv : (c : Int) - 1 = cv at *
            have HCV := Lib.hid hcv
            clear hcv
            go_wp2_with fail
            refine (told_any _ D.q D.g D.b D.x D.y D.z r p m _ PD.out J.out.tab).mono ?_
            rintro e w9 ⟨rfl, n9, rfl⟩
            obtain ⟨r2, p2, m2, hp2⟩ := J.out.e
            have PE := Lib.hid (hp2.drewN n9)
            clear hp2
            have J9 := Lib.hid (show In2 w (wr.drewN n9) D E (w.heap.size + 2) hh u5 gs from J.out.quiet (pw_drewN (Below.refl _ wr) n9))
            go_wp2_with fail
            refine (told_any _ E.q E.g E.b E.x E.y E.z r2 p2 m2 _ PE.out J9.out.tab).mono ?_
            rintro e w10 ⟨rfl, n10, rfl⟩
            have J10 := Lib.hid (show In2 w ((wr.drewN n9).drewN n10) D E (w.heap.size + 2) hh u5 gs from J9.out.quiet (pw_drewN (Below.refl _ _) n10))
            have PD10 := Lib.hid ((PD.out.drewN n9).drewN n10)
            have PE10 := Lib.hid (PE.out.drewN n10)
            clear J9 PE PD J
            generalize (wr.drewN n9).drewN n10 = w10 at *
            go_wp2_with fail
            refine (plines_any _ D.q D.g D.b D.x D.y D.z r p m PD10.out J10.out.tab _ 1).mono ?_
            rintro e w11 ⟨rfl, b11⟩
            have J11 := Lib.hid (J10.out.quiet b11)
            have PE11 := Lib.hid (PE10.out.below b11)
            clear b11 J10 PD10 PE10
            go_wp2_with fail
            refine (plines_any _ E.q E.g E.b E.x E.y E.z r2 p2 m2 PE11.out J11.out.tab _ 0).mono ?_
            rintro e w12 ⟨rfl, b12⟩
            have J12 := Lib.hid (J11.out.quiet b12)
            clear b12 J11 PE11
            go_wp2
            go_roundw
            case rel => exact ⟨c + 1, by omega, by have := HCV.out; have e : cv + 1 = ((c + 1 : Nat) : Int) - 1 := by omega
                                                   rw [e], J12⟩
            case measure => simp [intOf]; omega
          · obtain rfl : c = 11 := by omega
            have hc10 : ((11 : Nat) : Int) - 1 = 10 := rfl
            rw [hc10]
            clear hc10
            obtain ⟨gl, capf, hu5, _⟩ := J.out.fy.at_ (by rw [HGS.out]; omega)
            subst hu5
            have K0 := J
            clear J
            go_wp2_with fail
            go_loopw [20, 21, 22] (fun i _ _ wr => ∃ k : Nat, k ≤ 40 ∧ i = .int .i64 k ∧ Hid (In2 w wr D E (w.heap.size + 2) hh (.slice (some ⟨gl, 0, none⟩) gs.length capf) gs)) (fun i _ _ _ => 40 - (intOf i).toNat)
            case atStart => exact ⟨0, by omega, rfl, K0⟩
            case round =>
              obtain ⟨k, hk, rfl, J⟩ := hrel
              clear K0
              by_cases hlt : k < 40
              · have hkg : k < gs.length := by rw [HGS.out]; exact hlt
                obtain ⟨gl2, cap2, hu, hcell⟩ := J.out.fy.at_ (by omega)
                injection hu with hu1 hu5 hu6
                injection hu1 with hu2
                injection hu2 with hu3 hu7 hu8
                subst hu3
                clear hu5 hu6
                have hcg := hcell k hkg
                obtain ⟨_, _, hG⟩ := J.out.fy.each k hkg
                have HG := Lib.hid hG
                clear hcell hG
                generalize gs.getD k 0 = gk at *
                have HE1 := Lib.hid (show gz.setIfInBounds (k % 32) (.int .i64 (1 + (k : Int) % 8)) = gcells (rk k) 0 0 from gcells_set_r z0_len (by omega))
                have HE2 := Lib.hid (show (gcells (rk k) 0 0).setIfInBounds 32 (.int .u32 ((2 ^ (k % 32) : Nat) : Int)) = gcells (rk k) (pk2 k) 0 from gcells_set_p (rk_len k))
                have HRL := Lib.hid (rk_len k)
                have HPL := Lib.hid (pk2_lt k)
                have HRO := Lib.hid (fun i => rk_ok k i)
                generalize rk k = R at *
                generalize pk2 k = Pn at *
                have hz := zero39
                go_wp2_with fail
                refine (state_any _ gk R Pn 0 HG.out).mono ?_
                rintro e w5 ⟨rfl, g5, c5⟩
                have B5 := Lib.hid (show Below wr.heap.size wr w5 from ⟨c5.os, c5.tape, c5.output, c5.size, fun i hi => by
                  by_cases e : i = gk
                  · subst e; rw [g5.heap, HG.out.heap]
                  · exact c5.block i hi (fun e2 => e (Option.some.inj e2))⟩)
                clear g5 c5 hcg HG
                go_upto_region 46 with (refine wpList_store_new (o := ⟨none, .store 39 (.tmp 21) (.tmp 160), _, _, _, _⟩) rfl 39 (.tmp 21) (.tmp 160) rfl gz (gcells R Pn 0) 39 rfl rfl (by rw [gcells_size R HRL.out]; exact info39) (by rw [gcells_size R HRL.out]; rfl) (gcells_one R Pn 0) ?_)
                have S9 := Lib.hid ((heap_alloc_old (w5.alloc (.cells (gcells R Pn 0) 39)) (.cells gz 39) (show w5.heap.size < _ by simp)).trans (heap_alloc_last w5 (.cells (gcells R Pn 0) 39)))
                have W9 := Lib.hid (heap_alloc_last (w5.alloc (.cells (gcells R Pn 0) 39)) (.cells gz 39))
                have BZ := Lib.hid ((B5.out.alloc B5.out.size (.cells (gcells R Pn 0) 39)).alloc (by have := B5.out.size; simp; omega) (.cells gz 39))
                have e9 : (w5.alloc (.cells (gcells R Pn 0) 39)).heap.size = w5.heap.size + 1 := by simp
                rw [e9] at W9
                have hwb := B5.out.size
                clear hz B5 e9
                generalize (w5.alloc (.cells (gcells R Pn 0) 39)).alloc (.cells gz 39) = wz at *
                generalize w5.heap.size = sb at *
                have hcz : wz.cell? ⟨sb + 1, k % 32, none⟩ = some (.int .i64 0) := by rw [cell_of_row _ _ _ _ _ _ W9.out]; exact (gcells_route z0_len (by omega)).trans (by rw [nth_z0])
                have hcp : wz.cell? ⟨sb + 1, 32, none⟩ = some (.int .u32 0) := by rw [cell_of_row _ _ _ _ _ _ W9.out]; exact gcells_p z0_len
                have hfz : wz.frozen? ⟨sb + 1, k % 32, none⟩ = false := frozen_of_row wz _ _ _ _ W9.out
                have hfp : wz.frozen? ⟨sb + 1, 32, none⟩ = false := frozen_of_row wz _ _ _ _ W9.out
                go_upto_region 48 with (fail)
                have W10 := Lib.hid (show ((wz.setCell ⟨sb + 1, k % 32, none⟩ (.int .i64 (1 + (k : Int) % 8))).setCell ⟨sb + 1, 32, none⟩ (.int .u32 ((2 : Int) ^ (k % 32) % 4294967296))).heap[sb + 1]? = some (.cells (gcells R Pn 0) 39 (0, 0)) from by
                  have a1 := heap_setCell_same wz (sb + 1) (k % 32) _ _ (.int .i64 (1 + (k : Int) % 8)) W9.out
                  have a2 := heap_setCell_same _ (sb + 1) 32 _ _ (.int .u32 ((2 : Int) ^ (k % 32) % 4294967296)) a1
                  rw [a2, bit_nat (k % 32) (by omega)]
                  rw [HE1.out, HE2.out])
                have S10 := Lib.hid (show ((wz.setCell ⟨sb + 1, k % 32, none⟩ (.int .i64 (1 + (k : Int) % 8))).setCell ⟨sb + 1, 32, none⟩ (.int .u32 ((2 : Int) ^ (k % 32) % 4294967296))).heap[sb]? = some (.cells (gcells R Pn 0) 39 (0, 0)) from
                  (heap_other _ _ _ _ _ (by omega)).trans ((heap_other _ _ _ _ _ (by omega)).trans S9.out))
                have B10 := Lib.hid ((BZ.out.setCell (p := ⟨sb + 1, k % 32, none⟩) (show wr.heap.size ≤ sb + 1 by omega) (.int .i64 (1 + (k : Int) % 8))).setCell (p := ⟨sb + 1, 32, none⟩) (show wr.heap.size ≤ sb + 1 by omega) (.int .u32 ((2 : Int) ^ (k % 32) % 4294967296)))
                clear S9 W9 BZ hcz hcp hfz hfp
                generalize (wz.setCell ⟨sb + 1, k % 32, none⟩ (.int .i64 (1 + (k : Int) % 8))).setCell ⟨sb + 1, 32, none⟩ (.int .u32 ((2 : Int) ^ (k % 32) % 4294967296)) = wy at *
                have HE := Lib.hid (eq39 R Pn 0 HRL.out HPL.out (by decide) (fun i _ => HRO.out i) wy)
                have R1 := Lib.hid (gc_all S10.out)
                have R2 := Lib.hid (gc_all W10.out)
                have hn39 : Tryd.prog.eqGuardType Tryd.prog.depth 39 = false := by kernel_rfl
                have HSZ := Lib.hid (show (Tryd.prog.info? 39).map (·.size) = some (gcells R Pn 0).toList.length by rw [Array.length_toList, gcells_size _ HRL.out]; exact info39)
                generalize gcells R Pn 0 = GC at *
                refine wp_region_lit ?_
                refine wpList_load_mid rfl 39 (.tmp 21) rfl sb 0 rfl GC.toList _ R1.out Tryd.underlying39 rfl HSZ.out ?_
                refine wpList_load_mid rfl 39 (.tmp 22) rfl (sb + 1) 0 rfl GC.toList _ R2.out Tryd.underlying39 rfl HSZ.out ?_
                refine wpList_of_wp rfl (wp_neq_agg 39 _ (.tmp 172) (.tmp 173) rfl GC GC rfl rfl hn39 true HE.out ?_)
                go_wp2
                exact ⟨⟨k + 1, by omega, by go_num, Lib.hid (J.out.quiet B10.out)⟩, by simp [intOf]; omega⟩
              · obtain rfl : k = 40 := by omega
                obtain ⟨r, p, m, hp⟩ := J.out.d
                have PD := Lib.hid hp
                clear hp
                go_wp2_with fail
                refine (pstate_any _ D.q D.g D.b D.x D.y D.z r p m PD.out).mono ?_
                rintro e w11 ⟨rfl, b11⟩
                have J11 := Lib.hid (J.out.quiet b11)
                obtain ⟨r2, p2, m2, hp2⟩ := J11.out.e
                have PE := Lib.hid hp2
                clear hp2 b11 PD J
                go_wp2_with fail
                refine (pstate_any _ E.q E.g E.b E.x E.y E.z r2 p2 m2 PE.out).mono ?_
                rintro e w12 ⟨rfl, b12⟩
                have J12 := Lib.hid (J11.out.quiet b12)
                clear b12 PE J11
                go_wp2
                go_ret
                exact ⟨rfl, J12.out.below⟩
end Go.Proofs.YtpedciapkalhgaaDoor.Gk
