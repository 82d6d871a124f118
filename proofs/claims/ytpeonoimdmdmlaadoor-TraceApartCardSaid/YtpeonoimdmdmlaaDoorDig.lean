/- Digest: contract (under way). No statement of the seat is proved here. -/
import Derived.Test.YtpeonoimdmdmlaaDoorStops
import Derived.Test.YtpeonoimdmdmlaaDoorWrC
import Derived.Test.YtpeonoimdmdmlaaDoorDone
import Derived.Test.YtpeonoimdmdmlaaDoorSum
namespace Go.Proofs.YtpeonoimdmdmlaaDoor.Tr
open Go.RowKit Go.Shelf Go.Proofs.YtpeonoimdmdmlaaDoor.Kit
attribute [local go_sem] Oper.semAt_some
set_option linter.unusedSimpArgs false
set_option linter.unusedVariables false
theorem eql_func (a b : Value) : ∀ w, (binOp .eql 41 (.func (.func 18) #[] #[a, b]) .nilFunc).run Tryd.prog w = .ok (.bool false) w := fun _ => by kernel_rfl
/-- The rows of a list. -/
def rowsB : List Ob → List Int
  | [] => []
  | o :: L => rowB o ++ rowsB L
theorem blt {W : World} {B : Nat} {t : TypeId} {v : Value} (h : Boxed W B t v) : B < W.heap.size := (Array.getElem?_eq_some_iff.1 h).1
theorem inb_le (k : Nat) (x : Int) : inb (le k x) := fun y hy => by
  simp only [le, List.mem_map] at hy
  obtain ⟨i, _, rfl⟩ := hy
  simp [IntKind.wrap, IntKind.signed, IntKind.bits]; omega
theorem inb_app {a b : List Int} (ha : inb a) (hb : inb b) : inb (a ++ b) := fun y hy => (List.mem_append.1 hy).elim (ha y) (hb y)
theorem inb_rowsB : ∀ L, inb (rowsB L)
  | [] => fun y hy => by cases hy
  | o :: L => inb_app (inb_app (inb_app (inb_app (inb_app (inb_app (inb_le _ _) (inb_le _ _)) (inb_le _ _)) (inb_le _ _)) (inb_le _ _)) (inb_le _ _)) (inb_rowsB L)
theorem rowsB_len : ∀ L : List Ob, (rowsB L).length = 22 * L.length
  | [] => rfl
  | o :: L => by rw [rowsB, List.length_append, rowB_len, rowsB_len L, List.length_cons]; omega
theorem TabS.kept {w w' : World} {n : Nat} (h : TabS w) (hb : Below n w w') (hn : 0 < n) : TabS w' := fun i hi => (hb.cell (p := ⟨0, i, none⟩) hn).trans (h i hi)
theorem own_below {W W' : World} {base size n : Nat} {e : TypeId} {v : Value} {xs : List Value} (h : W.ownsRow base e size v n xs) (hb : Below W.heap.size W W') : W'.ownsRow base e size v n xs := by
  refine ⟨h.1, ?_⟩
  rcases h.2 with h | ⟨g, cap, cur, h1, h2, h3, r⟩
  · exact .inl h
  · exact .inr ⟨g, cap, cur, h1, h2, (hb.block g (Array.getElem?_eq_some_iff.1 h3).1).trans h3, r⟩
theorem kf_below {B : Nat} {W W' : World} (hb : Below W.heap.size W W') : KeepsFrom B W W' := ⟨hb.size, fun k o _ hk _ => (hb.block k (Array.getElem?_eq_some_iff.1 hk).1).trans hk⟩
theorem rowsB_snoc (o : Ob) : ∀ L, rowsB (L ++ [o]) = rowsB L ++ rowB o
  | [] => by simp [rowsB]
  | a :: L => by rw [List.cons_append, rowsB, rowsB_snoc o L, rowsB, List.append_assoc]
theorem eb_one (L : List Int) : ∀ u ∈ rows eb L, u.oneCell' = true := by
  induction L with
  | nil => intro u hu; cases hu
  | cons a L ih => intro u hu; simp only [rows, eb, List.cons_append, List.nil_append, List.mem_cons] at hu; rcases hu with rfl | hu; rfl; exact ih u hu
/-- Between two rounds: the box holds the rows of what came; nothing else turned. -/
def DI (w2 : World) (nb : Nat) (pre : List OkO) (W : World) : Prop := (∃ v, Boxed W nb 39 v ∧ W.ownsRow w2.heap.size 5 1 v (rowsB (pre.map (·.1))).length (rows eb (rowsB (pre.map (·.1)))) ∧ True) ∧ w2.grownBy W (some nb)
theorem di_own (w2 : World) (nb : Nat) : OwnFrom w2.heap.size (DI w2 nb) :=
  OwnFrom.and (Own.from (holdsRow_own w2.heap.size nb 39 5 1 (fun pre : List OkO => (rowsB (pre.map (·.1))).length) (fun pre => rows eb (rowsB (pre.map (·.1)))) (fun _ _ => True)) _)
    (fun _ A B row hs hg hr => ⟨hg.os.trans hs.os, hg.tape.trans hs.tape, hg.output.trans hs.output, Nat.le_trans hs.size hg.size, fun i hi hn => (hg.block i (Nat.lt_of_lt_of_le hi hs.size) (fun e => by have := (hr i e.symm).1; omega)).trans (hs.block i hi hn)⟩)
set_option maxRecDepth 100000 in
set_option maxHeartbeats 4000000 in
theorem digest_any (w : World) (hT : TabS w) (c : Int) (base : Nat) (v : Value) (L : List Ob) (h : Os w base v L) (hok : ∀ o ∈ L, Ok o) (hl : L.length ≤ 1000) :
    Calls Tryd.prog 6 #[.int .i64 c, v] w fun e w' => e = .returned (.int .u32 (crc (rowsB (flt c L)) : Nat)) ∧ Below w.heap.size w w' := by
  obtain ⟨A0, cap0, rfl⟩ := h.slice
  have H1 := Lib.hid (h.alloc (.cells #[.slice none 0 0] 39))
  have X1 := Lib.hid (show Boxed (w.alloc (.cells #[.slice none 0 0] 39)) w.heap.size 39 (.slice none 0 0) from heap_alloc_last w _)
  have B1 := Lib.hid ((Below.refl w.heap.size w).alloc (Nat.le_refl _) (.cells #[.slice none 0 0] 39))
  have h0 : 0 < w.heap.size := World.block_lt_of_cell? w _ (hT 0 (by omega))
  have HT := Lib.hid hT
  have HOK := Lib.hid hok
  have hs1 : (w.alloc (.cells #[.slice none 0 0] 39)).heap.size = w.heap.size + 1 := by simp
  clear h hT hok
  refine (callsIn_wide (n := 4)).1 (callsIn_of_wp_marks Tryd.func6 rfl trivial ?_ rfl)
  simp only [Tryd.ntmps6, List.size_toArray, List.length_cons, List.length_nil, Nat.reduceAdd, Nat.reduceSub, Array.replicate_succ, Array.replicate_zero, List.push_toArray, List.append_toArray, List.nil_append, List.cons_append]
  refine wpIn_wide.2 ?_
  go_wp2_with fail
  generalize w.alloc (.cells #[.slice none 0 0] 39) = w1 at *
  refine (of_any w1 c base _ L H1.out (by omega)).mono ?_
  rintro e w2 ⟨rfl, v', b1, b0, ho, bl⟩
  obtain ⟨A, cap, rfl⟩ := ho.slice
  have OW := Lib.hid ho
  have X0 := Lib.hid (show Boxed w2 w.heap.size 39 (.slice none 0 0) from (bl.block _ (by omega)).trans X1.out)
  have BB := Lib.hid (B1.out.trans (bl.mono (by omega)))
  have XL := Lib.hid b1
  have XC := Lib.hid b0
  clear ho bl b1 b0 X1 B1 H1
  have XL' := Lib.hid (show Boxed w2 (w.heap.size + 1 + 1) 25 (.slice A L.length cap) from hs1 ▸ XL.out)
  have XC' := Lib.hid (show Boxed w2 (w.heap.size + 1) 3 (.int .i64 c) from hs1 ▸ XC.out)
  have hnb := blt X0.out
  have hsl := blt XL'.out
  have hsc := blt XC'.out
  obtain ⟨gl, hgl, hgA, hel⟩ := os_gl OW.out (by omega)
  have HEL := Lib.hid hel
  have HGN := Lib.hid (show gl ≠ w.heap.size from by omega)
  clear hel hgA XL XC OW
  have hnf := eql_func (.pointer (some ⟨w.heap.size + 1 + 1, 0, none⟩)) (.pointer (some ⟨w.heap.size + 1, 0, none⟩))
  go_wp2_with fail
  refine (wpIn_wide (n := 4)).1 ?_
  refine wpIn_rangeFunc_ownH (F := Fence.wide) rfl (by omega) (gf := 18) (lb := #[.pointer (some ⟨w.heap.size + 1 + 1, 0, none⟩), .pointer (some ⟨w.heap.size + 1, 0, none⟩)]) rfl trivial (enters_of Tryd.func18 (by kernel_rfl) rfl)
    (of_stops (4 - 1) (w.heap.size + 1) gl (by omega) A cap L HOK.out c w2 (by omega) hgl XC'.out.cell XL'.out.cell HEL.out (by omega)) (fun h k => kpO_t h k) ?kb (Below.refl _ _) (fun _ => rfl)
    (DI w2 w.heap.size) (fun _ _ _ => False) (di_own w2 w.heap.size) (fun _ _ _ _ _ hs _ _ => hs.elim) ?start
    (fun x a' W => ∃ q, q < W.heap.size ∧ W.heap[q]? = some (.cells (oc x.1).toArray 31 (0, 0)) ∧ a' = { tmps := #[Value.int IntKind.i64 c, .slice A0 L.length cap0, undef, undef, Value.int IntKind.u32 0,
          Value.pointer (some { block := w.heap.size, off := 0 }), .pointer (some ⟨q, 0, none⟩), undef, undef, undef, undef,
          Value.int IntKind.i64 c, .slice A0 L.length cap0,
          Value.func (Fn.func 18) #[] #[Value.pointer (some { block := w.heap.size + 1 + 1, off := 0 }), Value.pointer (some { block := w.heap.size + 1, off := 0 })],
          .agg (oc x.1).toArray, undef, undef, undef, undef, undef, undef, undef, undef, undef, undef, undef, undef, undef, undef, undef, undef, undef, undef, undef, undef], defers := [] }) ?ax ?assign ?body ?done ?stop
  case kb =>
    intro W l o o' hl ho hc _
    exact ⟨World.putObj_heap_other (by omega), World.putObj_heap_other (by omega)⟩
  case start => exact ⟨⟨_, X0.out, World.ownsRow_nil _ _ _ _, trivial⟩, ⟨rfl, rfl, rfl, Nat.le_refl _, fun _ _ _ => rfl⟩⟩
  case ax =>
    rintro x a' s A B row ⟨q, hq, hr, e⟩ hg hrow
    exact ⟨q, Nat.lt_of_lt_of_le hq hg.size, (hg.block q hq (fun e2 => by obtain ⟨_, o, ho, hc⟩ := hrow q e2.symm; rw [hr] at ho; cases ho; cases hc)).trans hr, e⟩
  case assign =>
    rintro l pre ⟨⟨tick, cell, kind, pc, a, b⟩, hx⟩ W K hI hK
    have hz := zero31
    simp only [oc] at hK ⊢
    have hsz := hI.2.size
    gi_wp2
    exact hK _ _ ((KeepsOthers.alloc W _).from _) ⟨Below.heap_alloc _ _ _ (by omega), Below.heap_alloc _ _ _ (by omega)⟩ ((di_own w2 _).alloc _ hI) ⟨W.heap.size, by simp, heap_alloc_last W _, rfl⟩
  case body =>
    rintro l pre ⟨⟨tick, cell, kind, pc, a, b⟩, hx⟩ a' W hl hr ⟨⟨v, hv, hv2, _⟩, hg⟩ ⟨q, hq, hrow, rfl⟩ hN
    dsimp only [oc] at hrow ⊢
    have hsz := hg.size
    have e0 : W.cell? ⟨q, 0, none⟩ = some (.int .u64 tick) := by rw [cell_of_row _ _ _ _ _ _ hrow]; rfl
    have e1 : W.cell? ⟨q, 1, none⟩ = some (.int .i64 cell) := by rw [cell_of_row _ _ _ _ _ _ hrow]; rfl
    have e2 : W.cell? ⟨q, 2, none⟩ = some (.int .i64 kind) := by rw [cell_of_row _ _ _ _ _ _ hrow]; rfl
    have e3 : W.cell? ⟨q, 3, none⟩ = some (.int .u32 pc) := by rw [cell_of_row _ _ _ _ _ _ hrow]; rfl
    have e4 : W.cell? ⟨q, 4, none⟩ = some (.int .u32 a) := by rw [cell_of_row _ _ _ _ _ _ hrow]; rfl
    have e5 : W.cell? ⟨q, 5, none⟩ = some (.int .u32 b) := by rw [cell_of_row _ _ _ _ _ _ hrow]; rfl
    have RW := Lib.hid hrow
    have MY := Lib.hid (may_yes W ⟨tick, cell, kind, pc, a, b⟩ hx)
    have HX := Lib.hid hx
    have HV := Lib.hid hv
    have HV2 := Lib.hid hv2
    have HG := Lib.hid hg
    clear hrow hv hv2 hg
    gi_wp2_with fail
    refine ⟨trivial, ?_⟩
    refine (CallsIn.inRound l (callsIn_wide.2 MY.out)).mono ?_
    rintro e w' ⟨rfl, rfl⟩
    clear e0 e1 e2 e3 e4 e5 MY
    gi_wp2_with fail
    refine ⟨trivial, ?_⟩
    refine (CallsIn.inRound l (callsIn_wide.2 (new_any _ (W.heap.size + 1) (by simp)))).mono ?_
    rintro e W2 ⟨bw, rfl, hw, hb⟩
    have B2 := Lib.hid (show Below W.heap.size W W2 from ((Below.refl _ W).alloc (Nat.le_refl _) _).trans (hb.mono (by simp)))
    have hsz2 : W.heap.size + 1 ≤ W2.heap.size := by have := hb.size; simpa using this
    have WW := Lib.hid hw
    clear hw hb
    have hrow := (B2.out.block q hq).trans RW.out
    have e0 : W2.cell? ⟨q, 0, none⟩ = some (.int .u64 tick) := by rw [cell_of_row _ _ _ _ _ _ hrow]; rfl
    have e1 : W2.cell? ⟨q, 1, none⟩ = some (.int .i64 cell) := by rw [cell_of_row _ _ _ _ _ _ hrow]; rfl
    have e2 : W2.cell? ⟨q, 2, none⟩ = some (.int .i64 kind) := by rw [cell_of_row _ _ _ _ _ _ hrow]; rfl
    have e3 : W2.cell? ⟨q, 3, none⟩ = some (.int .u32 pc) := by rw [cell_of_row _ _ _ _ _ _ hrow]; rfl
    have e4 : W2.cell? ⟨q, 4, none⟩ = some (.int .u32 a) := by rw [cell_of_row _ _ _ _ _ _ hrow]; rfl
    have e5 : W2.cell? ⟨q, 5, none⟩ = some (.int .u32 b) := by rw [cell_of_row _ _ _ _ _ _ hrow]; rfl
    clear hrow
    gi_wp2_with fail
    refine ⟨trivial, ?_⟩
    refine (CallsIn.inRound l (callsIn_wide.2 (row_any W2 (W.heap.size + 1) bw WW.out ⟨tick, cell, kind, pc, a, b⟩ HX.out hsz2))).mono ?_
    rintro e W3 ⟨⟨vr, rfl⟩, hw, hb⟩
    have B3 := Lib.hid (B2.out.trans (hb.mono (by omega)))
    have WW3 := Lib.hid hw
    clear hw hb e0 e1 e2 e3 e4 e5 WW B2
    gi_wp2_with fail
    refine ⟨trivial, ?_⟩
    refine (CallsIn.inRound l (callsIn_wide.2 (done_any W3 (W.heap.size + 1) bw 22 _ WW3.out (by rw [rowB_len]; omega) (by rw [rowB_len]; omega)))).mono ?_
    rintro e W4 ⟨v4, rfl, ho, hb⟩
    have B4 := Lib.hid (B3.out.trans (hb.mono B3.out.size))
    have HV4 := Lib.hid (show Boxed W4 w.heap.size 39 v from (B4.out.block _ (by omega)).trans HV.out)
    have OW4 := Lib.hid (own_below HV2.out B4.out)
    obtain ⟨g4, cap4, e4v, _, _, x1, x2, x3⟩ := Ol.at_ ho eb_len (show 0 < (rowB ⟨tick, cell, kind, pc, a, b⟩).length by rw [rowB_len]; omega)
    clear x1 x2 x3
    have e4v' := e4v
    rw [rowB_len] at e4v'
    have NW := Lib.hid (show ∀ j u, (rows eb (rowB ⟨tick, cell, kind, pc, a, b⟩))[j]? = some u → W4.cell? ((⟨g4, 0, none⟩ : Addr).add j) = some u from fun j u hu => by
      rw [e4v] at ho
      have := Ol.news ho eb_len 0 (rowB ⟨tick, cell, kind, pc, a, b⟩).length (by omega) j u (by rw [List.drop_zero, List.take_length]; exact hu)
      rwa [Nat.zero_mul] at this)
    have RL := Lib.hid (show (rows eb (rowB ⟨tick, cell, kind, pc, a, b⟩)).length = 22 * 1 from by rw [rows_length eb_len, rowB_len])
    clear ho hb e4v
    subst e4v'
    obtain ⟨A5, cap5, rfl⟩ := Ol.slice (show By W w2.heap.size v (rowsB (pre.map (·.1))) from HV2.out)
    have hnn : (rowsB (pre.map (·.1))).length ≤ 22 * 1001 := by rw [rowsB_len, List.length_map]; omega
    obtain ⟨i0, hi, hz0, hz1, hz2⟩ := info_parts info5
    have hc0 := HV4.out.cell
    have hf0 := HV4.out.frozen
    have hsz4 := B4.out.size
    have FIN := Lib.hid (show ∀ v5 W5, W5.ownsRow w2.heap.size 5 1 v5 ((rowsB (pre.map (·.1))).length + 22) (rows eb (rowsB (pre.map (·.1))) ++ rows eb (rowB ⟨tick, cell, kind, pc, a, b⟩)) → W4.grownBy W5 (Value.slice A5 (rowsB (pre.map (·.1))).length cap5).ownBlock →
        Boxed W5 w.heap.size 39 (.slice A5 (rowsB (pre.map (·.1))).length cap5) ∧ KeepsFrom w2.heap.size W (W5.setCell ⟨w.heap.size, 0, none⟩ v5) ∧ KpO (w.heap.size + 1) gl W (W5.setCell ⟨w.heap.size, 0, none⟩ v5) ∧ DI w2 w.heap.size (pre ++ [⟨⟨tick, cell, kind, pc, a, b⟩, hx⟩]) (W5.setCell ⟨w.heap.size, 0, none⟩ v5) from fun v5 W5 hown hgr => by
      have hnr := HV4.out.not_row (by decide) OW4.out
      have h5 := HV4.out.kept hgr hnr
      have hr5 : ∀ k, (Value.slice A5 (rowsB (pre.map (·.1))).length cap5).ownBlock = some k → w2.heap.size ≤ k ∧ ∃ o : Obj, W4.heap[k]? = some o ∧ o.isCells = true := fun k e => by
        rcases OW4.out.2 with ⟨h, _⟩ | ⟨g, cap, cur, h, h1, h2, _⟩
        · rw [h] at e; cases e
        · rw [h] at e; cases e; exact ⟨h1, _, h2, rfl⟩
      refine ⟨h5, ?_, ⟨?_, ?_⟩, ⟨_, h5.set v5, ?_, trivial⟩, ?_⟩
      · refine (kf_below B4.out).trans (((KeepsOthers.of_grownBy hgr (fun k o e ho => ?_)).from _).trans ((KeepsOthers.setCell _ _ _).from _))
        obtain ⟨_, o2, h1, h2⟩ := hr5 k e
        rw [ho] at h1; cases h1; exact h2
      · exact (Below.heap_setCell _ _ _ _ (by show w.heap.size + 1 ≠ w.heap.size; omega)).trans ((hgr.block _ (by omega) (fun e => by have := (hr5 _ e.symm).1; omega)).trans (B4.out.block _ (by omega)))
      · exact (Below.heap_setCell _ _ _ _ (by show gl ≠ w.heap.size; exact HGN.out)).trans ((hgr.block _ (by omega) (fun e => by have := (hr5 _ e.symm).1; omega)).trans (B4.out.block _ (by omega)))
      · have h6 := hown.kept (grownBy_setCell' W5 w.heap.size v5) (.inr (h5.not_row (by decide) hown).symm)
        rw [List.map_append, List.map_cons, List.map_nil, rowsB_snoc, List.length_append, rowB_len, rows_append]; exact h6
      · exact ⟨hgr.os.trans (B4.out.os.trans HG.out.os), hgr.tape.trans (B4.out.tape.trans HG.out.tape), hgr.output.trans (B4.out.output.trans HG.out.output), by have := hgr.size; have := (KeepsWalks.setCell W5 ⟨w.heap.size, 0, none⟩ v5).size; omega,
          fun i hi hn => (Below.heap_setCell _ _ _ _ (by show i ≠ w.heap.size; exact fun e => hn (by rw [e]))).trans ((hgr.block i (by omega) (fun e => by have := (hr5 i e.symm).1; omega)).trans ((B4.out.block i (by omega)).trans (HG.out.block i hi hn)))⟩)
    generalize (rowsB (pre.map (·.1))).length = nn at *
    gi_wp2_with (gi_at_builtin; refine wpListIn_append_own _ rfl (.tmp 29) (.tmp 30) 39 rfl w2.heap.size 5 i0 (.int .u8 0) 1 1 Tryd.underlying39 hi hz0 hz1 hz2 rfl (by decide) (.slice A5 nn cap5) nn (rows eb (rowsB (pre.map (·.1)))) rfl OW4.out ⟨g4, 0, none⟩ 22 cap4 (rows eb (rowB ⟨tick, cell, kind, pc, a, b⟩)) rfl RL.out NW.out ?qa ?qb ?qc ?qd ?_)
    case qa => exact eb_one _
    case qb => simp only [maxLen]; omega
    case qc => omega
    case qd => omega
    intro v5 W5 hown hgr hnil
    obtain ⟨h5, FF⟩ := FIN.out v5 W5 hown hgr
    have F := Lib.hid FF
    obtain ⟨g5, cap6, rfl⟩ := ownsRow_succ (k := nn + 21) hown
    have hc5 := h5.cell
    have hf5 := h5.frozen
    clear hown hgr hnil FF hc0 hf0 h5
    gi_wp2
    exact F.out
  case done =>
    rintro D ys W hD hys ⟨⟨v, hv, hv2, _⟩, hg⟩ hK
    rw [hys] at hv2
    have hfl : (flt c L).length ≤ L.length := List.length_filter_le _ _
    have hbw : Below w.heap.size w W := BB.out.grown hg BB.out.size (fun k e => by cases e; exact Nat.le_refl _)
    obtain ⟨A2, cap2, rfl⟩ := Ol.slice (show By W w2.heap.size v (rowsB (flt c L)) from hv2)
    have S := Lib.hid (sum_any (W.alloc (.cells #[.slice A2 (rowsB (flt c L)).length cap2] 39)) (HT.out.kept (hbw.alloc hbw.size _) h0) W.heap.size w2.heap.size _ (rowsB (flt c L)) (World.ownsRow.alloc hv2 _) (inb_rowsB _) (by rw [cell_of_row _ _ _ _ _ _ (heap_alloc_last W _)]; rfl) (by rw [rowsB_len]; omega))
    have hc0 := hv.cell
    have HK := Lib.hid ((Below.heap_alloc W (.cells #[.slice A2 (rowsB (flt c L)).length cap2] 39) D (Array.getElem?_eq_some_iff.1 hK).1).trans hK)
    have BF := Lib.hid (hbw.alloc hbw.size (.cells #[.slice A2 (rowsB (flt c L)).length cap2] 39))
    clear hv hv2 hg hK hbw
    obtain ⟨z, hz⟩ : ∃ z, z = crc (rowsB (flt c L)) := ⟨_, rfl⟩
    have HZ := Lib.hid hz
    rw [← hz] at S
    clear hz
    generalize (rowsB (flt c L)).length = nn at *
    dsimp only
    go_wp2_with (go_at_call 15; refine S.out.mono ?_; rintro e w' ⟨rfl, rfl⟩)
    refine ⟨by simp, .inl ⟨_, _, rfl, run_takeDeferred HK.out, ?_⟩⟩
    refine ⟨.int .u32 z, ?_, by rw [HZ.out], ?_⟩
    · simp [results, Tryd.f6, go_sem]
    · exact BF.out.grown (grownBy_putObj' _ D (.deferred none)) BF.out.size (fun k e => by cases e; have := BB.out.size; omega)
  case stop => rintro D c pre W _ _ h _; exact h.elim
end Go.Proofs.YtpeonoimdmdmlaaDoor.Tr
