/- lines: the walk. No statement of the seat is proved here. -/
import Derived.Test.YtpedciapkalhgaaDoorLinesA
namespace Go.Proofs.YtpedciapkalhgaaDoor.Gk
open Go.RowKit Go.Shelf Go.Proofs.YtpedciapkalhgaaDoor.Kit
attribute [local go_sem] Oper.semAt_some
set_option linter.unusedSimpArgs false
set_option linter.unusedVariables false

set_option maxRecDepth 100000 in
set_option maxHeartbeats 8000000 in
theorem plines_any (w : World) (q g b x y z : Nat) (r : List Int) (p m : Nat) (h : PAt w q g b x y z r p m) (hT : TabAt w) (c most : Int) :
    Calls Tryd.prog 28 #[.pointer (some ⟨q, 0, none⟩), .int .i64 c, .int .i64 most] w fun e w' => e = .returned (.bool true) ∧ Below w.heap.size w w' := by
  have h0 : 0 < w.heap.size := World.block_lt_of_cell? w _ (hT 0 (by omega))
  have HT := Lib.hid (fun w' (h : Below w.heap.size w w') => hT.below h h0)
  obtain ⟨ln1, bl1⟩ := ln_start w q g b x y z r p m h c most
  have LN1 := Lib.hid ln1
  have B1 := Lib.hid bl1
  have hs1 : w.heap.size + 1 + 1 + 1 < ((((w.alloc (.cells #[.pointer (some ⟨q, 0, none⟩)] 56)).alloc (.cells #[.int .i64 c] 3)).alloc (.cells #[.int .i64 most] 3)).alloc (.cells #[.bool false] 4)).heap.size := ln1.b6.lt
  clear h hT ln1 bl1
  refine (callsIn_wide (n := 8)).1 (callsIn_of_wp_marks Tryd.func28 rfl trivial ?_ rfl)
  simp only [Tryd.ntmps28, List.size_toArray, List.length_cons, List.length_nil, Nat.reduceAdd, Nat.reduceSub, Array.replicate_succ, Array.replicate_zero, List.push_toArray, List.append_toArray, List.nil_append, List.cons_append]
  refine wpIn_wide.2 (wp_mono ?_ nopanic)
  go_upto_region 1 with (fail)
  generalize (((w.alloc (.cells #[.pointer (some ⟨q, 0, none⟩)] 56)).alloc (.cells #[.int .i64 c] 3)).alloc (.cells #[.int .i64 most] 3)).alloc (.cells #[.bool false] 4) = w1 at *
  go_cut [7] from 14 to 19 (fun s7 wx => ∃ tb AA cp, s7 = .pointer (some ⟨tb, 0, none⟩) ∧ Hid (Want w1 wx tb AA cp (Lc r c 32)))
  case first =>
    have d3 := LN1.out.b3.cell
    have d4 := LN1.out.b4.cell
    have dq := LN1.out.pa.cb
    have LA := Lib.hid (LN1.out.below ((Below.refl w1.heap.size w1).alloc (Nat.le_refl _) (.cells #[.slice none 0 0] 22)))
    have e3 := LA.out.b3.cell
    have e4 := LA.out.b4.cell
    have eq := LA.out.pa.cb
    go_region_with (go_at_call 47; refine (rown_any _ b x y z r p m c (by first | exact LN1.out.pa.rf.drew | exact LA.out.pa.rf.drew)).mono ?_; rintro e w2 ⟨v, rfl, ow, b2⟩; obtain ⟨AA, cp, rfl, hlist⟩ := ow.at_; have OW := Lib.hid hlist; have B2 := Lib.hid b2; try (have k1 : Boxed w2 w1.heap.size 22 (.slice none 0 0) := (b2.block w1.heap.size (by simp)).trans (World.alloc_heap_new w1 _); have k2 := k1.cell; have k3 := k1.frozen; have K1 := Lib.hid k1; clear k1); clear ow hlist b2)
    all_goals
      go_wp2
      go_meet
      first
        | exact ⟨_, _, _, rfl, Lib.hid (wantA B2.out OW.out)⟩
        | exact ⟨_, _, _, rfl, Lib.hid (wantB B2.out K1.out (by simp) OW.out)⟩
  case rest =>
    obtain ⟨tb, AA, cp, rfl, WT⟩ := hcut
    have LN2 := Lib.hid (LN1.out.below WT.out.2.2.1)
    have B2 := Lib.hid (B1.out.trans (WT.out.2.2.1.mono (by omega)))
    have hs2 : w1.heap.size ≤ wc.heap.size := WT.out.2.2.1.size
    have htb := WT.out.1
    have htl := WT.out.2.1.lt
    clear LN1 B1
    generalize wc = wd at *
    go_upto_region 2 with (fail)
    go_cut [8] from 20 to 25 (fun s8 wx => ∃ sb cb, s8 = .pointer (some ⟨sb, 0, none⟩) ∧ Hid (Seqb wd wx sb cb g c))
    case first =>
      have d3 := LN2.out.b3.cell
      have d4 := LN2.out.b4.cell
      have dq := LN2.out.pa.cg
      have LA := Lib.hid (LN2.out.below ((Below.refl wd.heap.size wd).alloc (Nat.le_refl _) (.cells #[.nilFunc] 47)))
      have e3 := LA.out.b3.cell
      have e4 := LA.out.b4.cell
      have eq := LA.out.pa.cg
      go_region_with (go_at_call 19; refine (lines_box _ g c).mono ?_; rintro e w2 ⟨cb, rfl, hcb, xl, xc, b2⟩; have B2 := Lib.hid b2; have XL := Lib.hid xl; have XC := Lib.hid xc; try (have k1 : Boxed w2 wd.heap.size 47 .nilFunc := (b2.block wd.heap.size (by simp)).trans (World.alloc_heap_new wd _); have k2 := k1.cell; have k3 := k1.frozen; have K1 := Lib.hid k1; clear k1); clear xl xc b2)
      all_goals
        go_wp2
        go_meet
        first
          | exact ⟨_, _, rfl, Lib.hid (seqA B2.out XL.out XC.out)⟩
          | exact ⟨_, _, rfl, Lib.hid (seqB B2.out K1.out (by simp at hcb; omega) XL.out XC.out)⟩
    case rest =>
      obtain ⟨sb, cb, rfl, SQ⟩ := hcut
      have LN3 := Lib.hid (LN2.out.below SQ.out.2.2.2.2)
      have X7 := Lib.hid (show Boxed wc tb 22 (.slice AA (Lc r c 32).length cp) from (SQ.out.2.2.2.2.block _ htl).trans WT.out.2.1)
      have X8 := Lib.hid SQ.out.2.1
      have XL := Lib.hid SQ.out.2.2.1
      have XC := Lib.hid SQ.out.2.2.2.1
      have B3 := Lib.hid (B2.out.trans (SQ.out.2.2.2.2.mono (by omega)))
      have AS := Lib.hid WT.out.2.2.2.1
      have CL := Lib.hid (show ∀ gl, AA = some ⟨gl, 0, none⟩ → 0 < (Lc r c 32).length → ∀ j, j < (Lc r c 32).length → wc.cell? ⟨gl, j, none⟩ = some (.int .i64 ((Lc r c 32).getD j 0 : Nat)) from fun gl e hp j hj => by
        have h := WT.out.2.2.2.2 gl e hp j hj
        exact (SQ.out.2.2.2.2.cell (World.block_lt_of_cell? wd _ h)).trans h)
      have hs3 : wd.heap.size ≤ wc.heap.size := SQ.out.2.2.2.2.size
      have hLl := Lc_le r c 32
      have LL := Lib.hid (bl_Lc r c)
      have hx8 := X8.out.cell
      have hnf := eql_func (.pointer (some ⟨cb, 0, none⟩)) (.pointer (some ⟨cb + 1, 0, none⟩))
      clear WT SQ LN2 B2
      generalize Lc r c 32 = L at *
      have lt7 := X7.out.lt
      have lt8 := X8.out.lt
      have ltC := XC.out.lt
      have LN4 := Lib.hid (LN3.out.below ((Below.refl wc.heap.size wc).alloc (Nat.le_refl _) (.cells #[.int .i64 0] 3)))
      have hx8' := (X8.out.alloc (.cells #[.int .i64 0] 3)).cell
      have B16 := Lib.hid (Boxed.new wc 3 (.int .i64 0))
      have hsA : wc.heap.size + 1 ≤ (wc.alloc (.cells #[.int .i64 0] 3)).heap.size := by simp
      have BcA := Lib.hid ((Below.refl wc.heap.size wc).alloc (Nat.le_refl _) (.cells #[.int .i64 0] 3))
      go_upto_block 0 with (fail)
      generalize wc.alloc (.cells #[.int .i64 0] 3) = wA at *
      clear hnf hx8
      generalize hnb : wc.heap.size = nb at *
      have HNB := Lib.hid hnb
      clear hnb
      have XLA := Lib.hid (show Boxed wA cb 24 (.pointer (some ⟨g, 0, none⟩)) from (BcA.out.block _ (by omega)).trans XL.out)
      have XCA := Lib.hid (show Boxed wA (cb + 1) 3 (.int .i64 c) from (BcA.out.block _ (by omega)).trans XC.out)
      have X7A := Lib.hid (show Boxed wA tb 22 (.slice AA L.length cp) from (BcA.out.block _ (by omega)).trans X7.out)
      refine wp_mono (Q := AfterR #[Value.pointer (some { block := q, off := 0 }), Value.int IntKind.i64 c, Value.int IntKind.i64 most, Value.pointer (some { block := w.heap.size, off := 0 }), Value.pointer (some { block := w.heap.size + 1, off := 0 }), Value.pointer (some { block := w.heap.size + 1 + 1, off := 0 }), Value.pointer (some { block := w.heap.size + 1 + 1 + 1, off := 0 }), Value.pointer (some { block := tb, off := 0 }), Value.pointer (some { block := sb, off := 0 }), Value.pointer (some { block := nb, off := 0 }), undef, undef, undef, undef, u14, u15, u16, u17, u18, u19, u20, u21, u22, u23, u24, u25, Value.func (Fn.func 34) #[] #[Value.pointer (some { block := cb, off := 0 }), Value.pointer (some { block := cb + 1, off := 0 })], Value.bool false, Value.func (Fn.func 34) #[] #[Value.pointer (some { block := cb, off := 0 }), Value.pointer (some { block := cb + 1, off := 0 })], undef, undef, undef, undef, undef, undef, undef, undef, undef, undef, undef, undef, undef, undef, undef, undef, undef, undef, undef, undef, undef, undef, undef, undef, undef, undef, undef, undef, undef, undef, undef, undef, undef, undef, undef, undef, undef, undef, undef, undef, undef, undef, undef, undef, undef, undef, undef, undef, undef, undef, undef, undef, undef, undef, undef, undef, undef, undef, undef, undef, undef, undef, undef, undef, undef, undef, undef] [] wA nb (fun k => (k : Int) = most ∨ k = L.length)) ?range1 ?after1
      case range1 =>
        refine (wpIn_wide (n := 8)).1 ?_
        gi_wp2
        refine wpIn_rangeFunc_ownG (F := Fence.wide) rfl (by omega) (gf := 34) (lb := #[.pointer (some ⟨cb, 0, none⟩), .pointer (some ⟨cb + 1, 0, none⟩)]) rfl trivial (enters_of Tryd.func34 (by kernel_rfl) rfl)
          (lines_stops (8 - 1) cb (cb + 1) g (by omega) r p m c wA (by omega) (by omega) XLA.out.cell XCA.out.cell LN4.out.pa.gc (HT.out _ (B3.out.trans (BcA.out.mono (by omega))))) (fun h k => kpT_t h k) (fun W l o o' _ hl ho _ => kpT_b W l o o' hl ho) (Below.refl _ _) (fun _ => rfl)
          (S1 wA nb L) (fun cd pre W => (cd = .ret ∧ ¬ pre <+: L) ∨ (cd = .exit 0 ∧ S1 wA nb L pre W ∧ (pre.length : Int) = most)) (s1_own wA nb L (by omega)) (fun cd s X Y row hs hg hr => by rcases hs with hs | ⟨e, hs, h3⟩; exact .inl hs; exact .inr ⟨e, s1_own wA nb L (by omega) s X Y row hs hg hr, h3⟩) ⟨B16.out, Ex.refl _ _, List.nil_prefix⟩
          (fun x => { tmps := #[Value.pointer (some { block := q, off := 0 }), Value.int IntKind.i64 c, Value.int IntKind.i64 most, Value.pointer (some { block := w.heap.size, off := 0 }), Value.pointer (some { block := w.heap.size + 1, off := 0 }), Value.pointer (some { block := w.heap.size + 1 + 1, off := 0 }), Value.pointer (some { block := w.heap.size + 1 + 1 + 1, off := 0 }), Value.pointer (some { block := tb, off := 0 }), Value.pointer (some { block := sb, off := 0 }), Value.pointer (some { block := nb, off := 0 }), .int .i64 (x : Nat), undef, undef, undef, u14, u15, u16, u17, u18, u19, u20, u21, u22, u23, u24, u25, Value.func (Fn.func 34) #[] #[Value.pointer (some { block := cb, off := 0 }), Value.pointer (some { block := cb + 1, off := 0 })], Value.bool false, Value.func (Fn.func 34) #[] #[Value.pointer (some { block := cb, off := 0 }), Value.pointer (some { block := cb + 1, off := 0 })], .int .i64 (x : Nat), undef, undef, undef, undef, undef, undef, undef, undef, undef, undef, undef, undef, undef, undef, undef, undef, undef, undef, undef, undef, undef, undef, undef, undef, undef, undef, undef, undef, undef, undef, undef, undef, undef, undef, undef, undef, undef, undef, undef, undef, undef, undef, undef, undef, undef, undef, undef, undef, undef, undef, undef, undef, undef, undef, undef, undef, undef, undef, undef, undef, undef, undef, undef, undef, undef, undef], defers := [] }) ?assign ?body ?done ?stop
        case assign =>
          intro l x W K hK
          gi_wp2
          exact hK
        case body =>
          rintro l pre x W ⟨hn, ho, hp⟩ hl32
          have ST := Lib.hid (show S1 wA nb L pre W from ⟨hn, ho, hp⟩)
          have LNW := LN3.out.below (by rw [HNB.out]; exact BcA.out.trans (ho.below (B := nb) (by omega) (fun i e => by omega)))
          have hx16 := hn.cell
          have hf16 := hn.frozen
          have hx7 : W.cell? ⟨tb, 0, none⟩ = some (.slice AA L.length cp) := ho.cell X7A.out.cell (by omega)
          have hx5 := LNW.b5.cell
          have hx6 := LNW.b6.cell
          have hf6 := LNW.b6.frozen
          have KF8 := Lib.hid (kf_chg (B := wA.heap.size) (set_chg W (w.heap.size + 1 + 1 + 1) (.bool false)) (by omega))
          by_cases hlt : pre.length < L.length
          · obtain ⟨gl, rfl⟩ := AS.out (by omega)
            have hcl := CL.out gl rfl (by omega) _ hlt
            have hgl : gl < nb := by have h : gl < wc.heap.size := World.block_lt_of_cell? wc ⟨gl, _, none⟩ hcl; rw [HNB.out] at h; exact h
            have hxl := ho.cell ((BcA.out.cell (p := ⟨gl, pre.length, none⟩) hgl).trans hcl) (by omega)
            have PN := Lib.hid (pre_next (x := x) hp hlt)
            clear hcl ho hn hp LNW
            generalize hy : L.getD pre.length 0 = y at *
            clear hy
            by_cases hxy : x = y
            · subst hxy
              have PY := Lib.hid (PN.out.2 rfl)
              have NXT := Lib.hid (s1_next ST.out (by omega) (by omega) PY.out)
              clear PN
              by_cases hm : (pre.length : Int) + 1 = most
              · have hd : ((pre.length : Int) + 1 == most) = true := by simp [hm]
                have HM := Lib.hid hm
                clear hm
                gi_wp2
                exact ⟨NXT.out.1, .inr ⟨rfl, NXT.out.2.2, by rw [List.length_append]; exact HM.out⟩⟩
              · have hd : ((pre.length : Int) + 1 == most) = false := by simp [hm]
                clear hm
                gi_wp2
                exact NXT.out
            · have hne : (((x : Nat) : Int) != (y : Nat)) = true := by simp; omega
              gi_wp2
              exact ⟨KF8.out, .inl ⟨rfl, fun h => hxy (PN.out.1 h)⟩⟩
          · have PO := Lib.hid (pre_over (x := x) hlt)
            clear ho hn hp LNW
            gi_wp2
            exact ⟨KF8.out, .inl ⟨rfl, PO.out⟩⟩
        case stop =>
          rintro D cd pre W hD hsp hx hK
          rw [LL.out] at hsp
          rcases hx with ⟨_, hx⟩ | ⟨rfl, ⟨hn, ho, hp⟩, hm⟩
          · exact absurd hsp hx
          · have FS := Lib.hid (show Boxed W nb 3 (.int .i64 (pre.length : Nat)) ∧ Ex (fun j => j = nb) wA W ∧ (((pre.length : Nat) : Int) = most ∨ pre.length = L.length) ∧ wA.heap.size ≤ D ∧ W.heap[D]? = some (.deferred (some [])) from ⟨hn, ho, .inl hm, hD, hK⟩)
            clear hn ho hp hm hK hD
            gi_wp2
            exact ⟨rfl, D, pre.length, rfl, FS⟩
        case done =>
          rintro D ys W hD rfl ⟨hn, ho, hp⟩ hK
          have FS := Lib.hid (show Boxed W nb 3 (.int .i64 ((bl (own r c)).length : Nat)) ∧ Ex (fun j => j = nb) wA W ∧ ((((bl (own r c)).length : Nat) : Int) = most ∨ (bl (own r c)).length = L.length) ∧ wA.heap.size ≤ D ∧ W.heap[D]? = some (.deferred (some [])) from ⟨hn, ho, .inr (by rw [LL.out]), hD, hK⟩)
          clear hn ho hp hK hD
          gi_wp2
          exact ⟨rfl, D, _, rfl, FS⟩
      case after1 =>
        rintro e a' W1 ⟨rfl, D1, k, rfl, FS⟩
        dsimp only
        have LNX := Lib.hid (fun X (h : Ex (fun j => j = nb) wA X) => LN3.out.below (by rw [HNB.out]; exact BcA.out.trans (h.below (B := nb) (by omega) (fun i e => by omega))))
        have X7X := Lib.hid (fun X (h : Ex (fun j => j = nb) wA X) => h.cell X7A.out.cell (by omega))
        have X8X := Lib.hid (fun X (h : Ex (fun j => j = nb) wA X) => h.cell (show wA.cell? ⟨sb, 0, none⟩ = _ from hx8') (by omega))
        have BWX := Lib.hid (fun X (h : Ex (fun j => j = nb) wA X) => B3.out.trans ((show Below nb wc X from BcA.out.trans (h.below (B := nb) (by omega) (fun i e => by omega))).mono (by omega)))
        have CLX := Lib.hid (fun X (h : Ex (fun j => j = nb) wA X) (gl : Nat) (e : AA = some ⟨gl, 0, none⟩) (hp : 0 < L.length) (j : Nat) (hj : j < L.length) => show X.cell? ⟨gl, j, none⟩ = some (.int .i64 (L.getD j 0 : Nat)) from by
          have hcl := CL.out gl e hp j hj
          have hgl : gl < nb := by have h : gl < wc.heap.size := World.block_lt_of_cell? wc ⟨gl, _, none⟩ hcl; rw [HNB.out] at h; exact h
          exact h.cell ((BcA.out.cell (p := ⟨gl, j, none⟩) hgl).trans hcl) (by omega))
        have E1 := Lib.hid FS.out.2.1
        have hx16 := FS.out.1.cell
        have hf16 := FS.out.1.frozen
        have hx5 := (LNX.out _ E1.out).b5.cell
        have hx7 := X7X.out _ E1.out
        have FP := Lib.hid FS.out.2.2.1
        have HD1 := Lib.hid FS.out.2.2.2
        have N1 := Lib.hid FS.out.1
        clear FS hx8'
        go_upto_region 12 with (fail)
        go_cut [55] from 47 to 55 (fun s55 wx => s55 = .bool false ∧ wx = W1)
        case first =>
          by_cases hm : (k : Int) = most
          · have hd : ((k : Int) != most) = false := by simp [hm]
            clear hm
            go_wp2
            go_meet
            exact ⟨rfl, rfl⟩
          · have hd : ((k : Int) != most) = true := by simp [hm]
            have hk : k = L.length := by rcases FP.out with h | h; exact absurd h hm; exact h
            subst hk
            clear hm
            go_wp2
            go_meet
            exact ⟨rfl, rfl⟩
        case rest =>
          obtain ⟨rfl, rfl⟩ := hcut
          have N2 := Lib.hid (N1.out.set (.int .i64 0))
          have E2 := Lib.hid (E1.out.chg (set_chg wc nb (.int .i64 0)) (.inl rfl))
          have HD2 := Lib.hid (show wA.heap.size ≤ D1 ∧ (wc.setCell ⟨nb, 0, none⟩ (.int .i64 0)).heap[D1]? = some (.deferred (some [])) from ⟨HD1.out.1, (KeepsOthers.setCell wc ⟨nb, 0, none⟩ (.int .i64 0)).same D1 _ HD1.out.2 rfl⟩)
          have hy8 := X8X.out _ E2.out
          clear N1 E1 HD1 hx5 hx7
          go_upto_block 2 with (fail)
          clear hx16 hf16
          generalize wc.setCell ⟨nb, 0, none⟩ (.int .i64 0) = W2 at *
          have hW2 := N2.out.lt
          have hWA2 := E2.out.size
          refine wp_mono (Q := AfterR #[Value.pointer (some { block := q, off := 0 }), Value.int IntKind.i64 c, Value.int IntKind.i64 most, Value.pointer (some { block := w.heap.size, off := 0 }), Value.pointer (some { block := w.heap.size + 1, off := 0 }), Value.pointer (some { block := w.heap.size + 1 + 1, off := 0 }), Value.pointer (some { block := w.heap.size + 1 + 1 + 1, off := 0 }), Value.pointer (some { block := tb, off := 0 }), Value.pointer (some { block := sb, off := 0 }), Value.pointer (some { block := nb, off := 0 }), undef, undef, undef, undef, u14, u15, u16, u17, u18, u19, u20, u21, u22, u23, u24, u25, Value.func (Fn.func 34) #[] #[Value.pointer (some { block := cb, off := 0 }), Value.pointer (some { block := cb + 1, off := 0 })], Value.bool false, Value.func (Fn.func 34) #[] #[Value.pointer (some { block := cb, off := 0 }), Value.pointer (some { block := cb + 1, off := 0 })], undef, undef, undef, undef, undef, undef, undef, undef, undef, undef, undef, undef, undef, undef, undef, undef, undef, undef, u47, u48, u49, u50, u51, u52, u53, u54, Value.bool false, Value.func (Fn.func 34) #[] #[Value.pointer (some { block := cb, off := 0 }), Value.pointer (some { block := cb + 1, off := 0 })], undef, undef, undef, undef, undef, undef, undef, undef, undef, undef, undef, undef, undef, undef, undef, undef, undef, undef, undef, undef, undef, undef, undef, undef, undef, undef, undef, undef, undef, undef, undef, undef, undef, undef, undef, undef, undef, undef, undef] [{ target := .collected D1, args := #[] }] W2 nb (fun k => k = L.length)) ?range2 ?after2
          case range2 =>
            refine (wpIn_wide (n := 8)).1 ?_
            gi_wp2
            have LN2 := LNX.out _ E2.out
            refine wpIn_rangeFunc_ownH (F := Fence.wide) rfl (by omega) (gf := 34) (lb := #[.pointer (some ⟨cb, 0, none⟩), .pointer (some ⟨cb + 1, 0, none⟩)]) rfl trivial (enters_of Tryd.func34 (by kernel_rfl) rfl)
              (lines_stops (8 - 1) cb (cb + 1) g (by omega) r p m c W2 (by omega) (by omega) (E2.out.cell XLA.out.cell (by omega)) (E2.out.cell XCA.out.cell (by omega)) LN2.pa.gc (HT.out _ (BWX.out _ E2.out))) (fun h k => kpT_t h k) (fun W l o o' _ hl ho _ => kpT_b W l o o' hl ho) (Below.refl _ _) (fun _ => rfl)
              (S1 W2 nb L) (Sx L) (s1_own W2 nb L (by omega)) (fun cd => sx_own _ L cd) ⟨N2.out, Ex.refl _ _, List.nil_prefix⟩
              (fun x a' _ => a' = { tmps := #[Value.pointer (some { block := q, off := 0 }), Value.int IntKind.i64 c, Value.int IntKind.i64 most, Value.pointer (some { block := w.heap.size, off := 0 }), Value.pointer (some { block := w.heap.size + 1, off := 0 }), Value.pointer (some { block := w.heap.size + 1 + 1, off := 0 }), Value.pointer (some { block := w.heap.size + 1 + 1 + 1, off := 0 }), Value.pointer (some { block := tb, off := 0 }), Value.pointer (some { block := sb, off := 0 }), Value.pointer (some { block := nb, off := 0 }), undef, .int .i64 (x : Nat), undef, undef, u14, u15, u16, u17, u18, u19, u20, u21, u22, u23, u24, u25, Value.func (Fn.func 34) #[] #[Value.pointer (some { block := cb, off := 0 }), Value.pointer (some { block := cb + 1, off := 0 })], Value.bool false, Value.func (Fn.func 34) #[] #[Value.pointer (some { block := cb, off := 0 }), Value.pointer (some { block := cb + 1, off := 0 })], undef, undef, undef, undef, undef, undef, undef, undef, undef, undef, undef, undef, undef, undef, undef, undef, undef, undef, u47, u48, u49, u50, u51, u52, u53, u54, Value.bool false, Value.func (Fn.func 34) #[] #[Value.pointer (some { block := cb, off := 0 }), Value.pointer (some { block := cb + 1, off := 0 })], .int .i64 (x : Nat), undef, undef, undef, undef, undef, undef, undef, undef, undef, undef, undef, undef, undef, undef, undef, undef, undef, undef, undef, undef, undef, undef, undef, undef, undef, undef, undef, undef, undef, undef, undef, undef, undef, undef, undef, undef, undef, undef], defers := [] }) (fun _ _ _ _ _ _ hs _ _ => hs) ?assign ?body ?done ?stop
            case assign =>
              rintro l pre x W K hi hK
              gi_wp2
              exact hK _ _ (KeepsFrom.refl _ _) (fun h => h) hi rfl
            case stop =>
              rintro D cd pre W _ hsp ⟨_, hx⟩ _
              rw [LL.out] at hsp
              exact absurd hsp hx
            case done =>
              rintro D ys W hD rfl ⟨hn, ho, hp⟩ hK
              have FS := Lib.hid (show Boxed W nb 3 (.int .i64 ((bl (own r c)).length : Nat)) ∧ Ex (fun j => j = nb) W2 W ∧ (bl (own r c)).length = L.length ∧ W2.heap.size ≤ D ∧ W.heap[D]? = some (.deferred (some [])) from ⟨hn, ho, by rw [LL.out], hD, hK⟩)
              clear hn ho hp hK hD
              gi_wp2
              exact ⟨rfl, D, _, rfl, FS⟩
            case body =>
              rintro l pre x a' W hl ⟨rr, hrr⟩ ⟨hn, ho, hp⟩ rfl hl32
              have ST := Lib.hid (show S1 W2 nb L pre W from ⟨hn, ho, hp⟩)
              have EW := Lib.hid (E2.out.trans ho)
              have hx16 := hn.cell
              have hf16 := hn.frozen
              have LNW := LNX.out _ EW.out
              have hx7 := X7X.out _ EW.out
              have hx6 := LNW.b6.cell
              have hf6 := LNW.b6.frozen
              have KF8 := Lib.hid (kf_chg (B := W2.heap.size) (set_chg W (w.heap.size + 1 + 1 + 1) (.bool false)) (by omega))
              by_cases hlt : pre.length < L.length
              · obtain ⟨gl, rfl⟩ := AS.out (by omega)
                have hxl := CLX.out _ EW.out gl rfl (by omega) _ hlt
                have PN := Lib.hid (pre_next (x := x) hp hlt)
                have hWs : W2.heap.size ≤ W.heap.size := ho.size
                have HRR := Lib.hid hrr
                have HPL := Lib.hid hlt
                clear ho hn hp LNW hrr
                generalize hy : L.getD pre.length 0 = y at *
                clear hy
                by_cases hxy : x = y
                · subst hxy
                  have PY := Lib.hid (PN.out.2 rfl)
                  have EK := Lib.hid ((EW.out.chg (set_chg W nb (.int .i64 ((pre.length : Int) + 1))) (.inl rfl)).alloc (.cells #[.int .i64 0] 3))
                  have EKW := Lib.hid (((Ex.refl (fun j => j = nb) W).chg (set_chg W nb (.int .i64 ((pre.length : Int) + 1))) (.inl rfl)).alloc (.cells #[.int .i64 0] 3))
                  have hk8 := X8X.out _ EK.out
                  clear PN
                  gi_wp2
                  have KB := Lib.hid (Boxed.new (W.setCell ⟨nb, 0, none⟩ (.int .i64 ((pre.length : Int) + 1))) 3 (.int .i64 0))
                  have NK := Lib.hid ((ST.out.1.set (.int .i64 ((pre.length : Int) + 1))).alloc (.cells #[.int .i64 0] 3))
                  have RK := Lib.hid (show ((W.setCell ⟨nb, 0, none⟩ (.int .i64 ((pre.length : Int) + 1))).alloc (.cells #[.int .i64 0] 3)).heap[l]? = some (.loop rr) from
                    (Below.heap_alloc _ _ l (by rw [World.size_setCell]; exact (Array.getElem?_eq_some_iff.1 HRR.out).1)).trans ((KeepsOthers.setCell W ⟨nb, 0, none⟩ (.int .i64 ((pre.length : Int) + 1))).same l _ HRR.out rfl))
                  rw [World.size_setCell] at KB
                  have hkk : ((W.setCell ⟨nb, 0, none⟩ (.int .i64 ((pre.length : Int) + 1))).alloc (.cells #[.int .i64 0] 3)).heap.size = W.heap.size + 1 := by simp
                  generalize (W.setCell ⟨nb, 0, none⟩ (.int .i64 ((pre.length : Int) + 1))).alloc (.cells #[.int .i64 0] 3) = WK at *
                  have hWn : nb < W.heap.size := by omega
                  generalize hkb : W.heap.size = kb at *
                  have HKB := Lib.hid hkb
                  clear hkb hx16 hf16 hx7 hx6 hf6
                  have LNK := LNX.out _ EK.out
                  refine wpIn_rangeFunc_ownN (F := Fence.wide.inRound l) (l₀ := l) (r₀ := rr) rfl RK.out (by omega) (gf := 34) (lb := #[.pointer (some ⟨cb, 0, none⟩), .pointer (some ⟨cb + 1, 0, none⟩)]) rfl trivial (enters_of Tryd.func34 (by kernel_rfl) rfl)
                    ((lines_stops (8 - 1 - 1 - 1) cb (cb + 1) g (by omega) r p m c WK (by omega) (by omega) (EK.out.cell XLA.out.cell (by omega)) (EK.out.cell XCA.out.cell (by omega)) LNK.pa.gc (HT.out _ (BWX.out _ EK.out))).inRound l) (fun h k => kpT_t h k) (fun W l o o' _ hl ho _ => kpT_b W l o o' hl ho) (Below.refl _ _) (fun _ => rfl)
                    (fun pre' W' => Boxed W' kb 3 (.int .i64 pre'.length) ∧ Ex (fun j => j = kb) WK W') (fun cd pre' W' => cd = .ret ∧ L.length < pre'.length)
                    (fun s X Y row hs hg hr => ⟨hs.1.kept hg (fun e => by have := (hr _ e.symm).1; omega), hs.2.grown hg (fun j e => .inr (hr j e).1)⟩) (fun cd _ _ _ _ hs _ _ => hs) ⟨KB.out, Ex.refl _ _⟩
                    (fun y a'' _ => a'' = { tmps := #[Value.pointer (some { block := q, off := 0 }), Value.int IntKind.i64 c, Value.int IntKind.i64 most, Value.pointer (some { block := w.heap.size, off := 0 }), Value.pointer (some { block := w.heap.size + 1, off := 0 }), Value.pointer (some { block := w.heap.size + 1 + 1, off := 0 }), Value.pointer (some { block := w.heap.size + 1 + 1 + 1, off := 0 }), Value.pointer (some { block := tb, off := 0 }), Value.pointer (some { block := sb, off := 0 }), Value.pointer (some { block := nb, off := 0 }), undef, Value.int IntKind.i64 ↑x, Value.pointer (some { block := kb, off := 0 }), undef, u14, u15, u16, u17, u18, u19, u20, u21, u22, u23, u24, u25, Value.func (Fn.func 34) #[] #[Value.pointer (some { block := cb, off := 0 }), Value.pointer (some { block := cb + 1, off := 0 })], Value.bool false, Value.func (Fn.func 34) #[] #[Value.pointer (some { block := cb, off := 0 }), Value.pointer (some { block := cb + 1, off := 0 })], undef, undef, undef, undef, undef, undef, undef, undef, undef, undef, undef, undef, undef, undef, undef, undef, undef, undef, u47, u48, u49, u50, u51, u52, u53, u54, Value.bool false, Value.func (Fn.func 34) #[] #[Value.pointer (some { block := cb, off := 0 }), Value.pointer (some { block := cb + 1, off := 0 })], Value.int IntKind.i64 ↑x, Value.int IntKind.i64 ↑pre.length, Value.slice (some { block := gl, off := 0 }) L.length cp, Value.int IntKind.i64 ↑L.length, Value.bool false, Value.bool false, Value.int IntKind.i64 ↑x, Value.slice (some { block := gl, off := 0 }) L.length cp, Value.int IntKind.i64 ↑pre.length, Value.pointer (some { block := gl, off := pre.length }), Value.int IntKind.i64 ↑x, Value.bool false, Value.bool false, Value.int IntKind.i64 ↑pre.length, Value.int IntKind.i64 (↑pre.length + 1), Value.func (Fn.func 34) #[] #[Value.pointer (some { block := cb, off := 0 }), Value.pointer (some { block := cb + 1, off := 0 })], .int .i64 (y : Nat), undef, undef, undef, undef, undef, undef, undef, undef, undef, undef, undef, undef, undef, undef, undef, undef, undef, undef, undef, undef, undef, undef], defers := [] }) (fun _ _ _ _ _ _ hs _ _ => hs) ?assign2 ?body2 ?done2 ?stop2
                  case assign2 =>
                    rintro l2 pre' y W' K hi hK
                    gi_wp2
                    exact hK _ _ (KeepsFrom.refl _ _) (fun h => h) hi rfl
                  case stop2 =>
                    rintro cd pre' W' hsp ⟨_, hx⟩
                    rw [LL.out] at hsp
                    have := hsp.length_le
                    omega
                  case body2 =>
                    rintro l2 pre' y a'' W' _ _ ⟨hk1, hk2⟩ rfl hk3
                    have EW' := Lib.hid (EK.out.more hk2 fun i hi (e : i = kb) => by omega)
                    have hxk := hk1.cell
                    have hfk := hk1.frozen
                    have hx7 := X7X.out _ EW'.out
                    have LNW := LNX.out _ EW'.out
                    have hx6 := LNW.b6.cell
                    have hf6 := LNW.b6.frozen
                    have S1' := Lib.hid (hk1.set (.int .i64 ((pre'.length : Int) + 1)))
                    have S2' := Lib.hid (hk2.chg (set_chg W' kb (.int .i64 ((pre'.length : Int) + 1))) (.inl rfl))
                    have KK := Lib.hid (kf_chg (B := WK.heap.size) (set_chg W' kb (.int .i64 ((pre'.length : Int) + 1))) (by omega))
                    have T' := Lib.hid (show KpT W' (W'.setCell ⟨kb, 0, none⟩ (.int .i64 ((pre'.length : Int) + 1))) from fun hT => hT.kept (set_chg W' kb _) (by omega))
                    have KF9 := Lib.hid ((kf_chg (B := WK.heap.size) (set_chg W' kb (.int .i64 ((pre'.length : Int) + 1))) (by omega)).trans (kf_chg (B := WK.heap.size) (set_chg (W'.setCell ⟨kb, 0, none⟩ (.int .i64 ((pre'.length : Int) + 1))) (w.heap.size + 1 + 1 + 1) (.bool false)) (by omega)))
                    have hne6 : w.heap.size + 1 + 1 + 1 ≠ kb := by omega
                    have hne7 : tb ≠ kb := by omega
                    clear hk1 hk2 LNW
                    by_cases hkl : L.length < pre'.length + 1
                    · have HKL := Lib.hid hkl
                      gi_wp2
                      exact ⟨KF9.out, rfl, by rw [List.length_append]; exact HKL.out⟩
                    · gi_wp2
                      exact ⟨KK.out, T'.out, by rw [List.length_append]; exact S1'.out, S2'.out⟩
                  case done2 =>
                    rintro ys W' rfl ⟨hk1, hk2⟩
                    rw [LL.out] at hk1
                    have EW' := Lib.hid (EK.out.more hk2 fun i hi (e : i = kb) => by omega)
                    have EWW := Lib.hid (EKW.out.more hk2 fun i hi (e : i = kb) => by have := HKB.out; omega)
                    have NW := Lib.hid (show Boxed W' nb 3 (.int .i64 ((pre.length : Int) + 1)) from (hk2.block _ NK.out.lt (fun (e : nb = kb) => by omega)).trans NK.out)
                    have LNW := Lib.hid (LNX.out _ EW'.out)
                    have hxk := hk1.cell
                    have hx7 := X7X.out _ EW'.out
                    have hx3 := LNW.out.b3.cell
                    have hx4 := LNW.out.b4.cell
                    have hkb1 := hk1.lt
                    have HK1 := Lib.hid hk1
                    clear hk1 hk2
                    gi_wp2_with fail
                    refine ⟨trivial, ?_⟩
                    refine (CallsIn.inRound l (callsIn_wide.2 (others_any W' q g b _ _ z r p m LNW.out.pa (HT.out _ (BWX.out _ EW'.out)) (wrap64 (c + 1))))).mono ?_
                    rintro e w9 ⟨rfl, b9⟩
                    have B9 := Lib.hid b9
                    have hz7 := (b9.cell (p := ⟨tb, 0, none⟩) (World.block_lt_of_cell? W' _ hx7)).trans hx7
                    have hzk := (show Boxed w9 kb 3 _ from (b9.block _ hkb1).trans HK1.out).cell
                    clear b9 hx7 hxk
                    gi_wp2
                    have EW9 := EWW.out.more (Ex.of_below B9.out (fun _ => False)) fun i hi e => e.elim
                    exact ⟨kf_ex EW9 (fun i (e : i = nb) => by omega), fun hT => hT.ex EW9 (fun (e : 0 = nb) => by omega),
                      by rw [List.length_append]; exact (B9.out.block _ NW.out.lt).trans NW.out, ST.out.2.1.trans EW9, PY.out⟩
                · have hne : (((x : Nat) : Int) != (y : Nat)) = true := by simp; omega
                  gi_wp2
                  exact ⟨KF8.out, rfl, fun h => hxy (PN.out.1 h)⟩
              · have PO := Lib.hid (pre_over (x := x) hlt)
                clear ho hn hp LNW
                gi_wp2
                exact ⟨KF8.out, rfl, PO.out⟩
          case after2 =>
            rintro e a' W3 ⟨rfl, D2, k, rfl, FS⟩
            dsimp only
            obtain ⟨fn1, fe, fk, fD, fh⟩ := FS.out
            subst fk
            have E3 := Lib.hid (E2.out.trans fe)
            have LN5 := LNX.out _ E3.out
            have hx16 := fn1.cell
            have hx7 := X7X.out _ E3.out
            have hx6 := LN5.b6.cell
            have hf6 := LN5.b6.frozen
            have hd1 : W3.heap[D1]? = some (.deferred (some [])) := (fe.block D1 (Array.getElem?_eq_some_iff.1 HD2.out.2).1 (fun (e : D1 = nb) => by have := HD2.out.1; omega)).trans HD2.out.2
            have hlt12 : D1 < D2 := by have := (Array.getElem?_eq_some_iff.1 HD2.out.2).1; omega
            have hD1 : w.heap.size + 1 + 1 + 1 < D1 := by have := HD2.out.1; omega
            have K2 := Lib.hid ((KeepsOthers.setCell W3 ⟨w.heap.size + 1 + 1 + 1, 0, none⟩ (.bool true)).same D2 _ fh rfl)
            have K1 := Lib.hid ((KeepsOthers.setCell W3 ⟨w.heap.size + 1 + 1 + 1, 0, none⟩ (.bool true)).same D1 _ hd1 rfl)
            have X2 := Lib.hid (LN5.b6.set (.bool true))
            have BF := Lib.hid ((BWX.out _ E3.out).setCell (p := ⟨w.heap.size + 1 + 1 + 1, 0, none⟩) (show w.heap.size ≤ w.heap.size + 1 + 1 + 1 by omega) (.bool true))
            clear FS fn1 fe fh hd1 LN5
            go_wp2_with fail
            have K1' : ((W3.setCell ⟨w.heap.size + 1 + 1 + 1, 0, none⟩ (.bool true)).putObj D2 (.deferred none)).heap[D1]? = some (.deferred (some [])) := (World.putObj_heap_other (by omega)).trans K1.out
            have X3 := (X2.out.kept (grownBy_putObj' _ D2 (.deferred none)) (fun e => by have := Option.some.inj e; omega)).kept (grownBy_putObj' _ D1 (.deferred none)) (fun e => by have := Option.some.inj e; omega)
            have hc5 := X3.cell
            have BF2 := BF.out.grown (grownBy_putObj' _ D2 (.deferred none)) BF.out.size (fun j e => by have := Option.some.inj e; omega)
            have BF3 := BF2.grown (grownBy_putObj' _ D1 (.deferred none)) BF2.size (fun j e => by have := Option.some.inj e; omega)
            refine ⟨by simp, .inl ⟨_, _, rfl, run_takeDeferred K2.out, ?_⟩⟩
            refine ⟨by simp, .inl ⟨_, _, rfl, run_takeDeferred K1', ?_⟩⟩
            refine ⟨.bool true, ?_, rfl, BF3⟩
            simp [results, Tryd.f28, go_sem, hc5]
end Go.Proofs.YtpedciapkalhgaaDoor.Gk
