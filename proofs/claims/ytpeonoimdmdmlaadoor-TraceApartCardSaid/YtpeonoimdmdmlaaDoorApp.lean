/- slices.AppendSeq, slices.Collect of what Of gives: contracts. No statement of the seat is proved here. -/
import Derived.Test.YtpeonoimdmdmlaaDoorDig
namespace Go.Proofs.YtpeonoimdmdmlaaDoor.Tr
open Go.RowKit Go.Shelf Go.Proofs.YtpeonoimdmdmlaaDoor.Kit
attribute [local go_sem] Oper.semAt_some
set_option linter.unusedSimpArgs false
set_option linter.unusedVariables false
/-- Between two rounds: the box holds what came; nothing else turned. -/
def SI (w1 : World) (nb : Nat) (pre : List OkO) (W : World) : Prop := (∃ v, Boxed W nb 25 v ∧ W.ownsRow w1.heap.size 31 6 v (pre.map (·.1)).length (rows oc (pre.map (·.1))) ∧ True) ∧ w1.grownBy W (some nb)
theorem si_own (w1 : World) (nb : Nat) : OwnFrom w1.heap.size (SI w1 nb) :=
  OwnFrom.and (Own.from (holdsRow_own w1.heap.size nb 25 31 6 (fun pre : List OkO => (pre.map (·.1)).length) (fun pre => rows oc (pre.map (·.1))) (fun _ _ => True)) _)
    (fun _ A B row hs hg hr => ⟨hg.os.trans hs.os, hg.tape.trans hs.tape, hg.output.trans hs.output, Nat.le_trans hs.size hg.size, fun i hi hn => (hg.block i (Nat.lt_of_lt_of_le hi hs.size) (fun e => by have := (hr i e.symm).1; omega)).trans (hs.block i hi hn)⟩)
set_option maxRecDepth 100000 in
set_option maxHeartbeats 4000000 in
theorem appseq_any (w : World) (c : Int) (s gl : Nat) (A : Option Addr) (cap : Nat) (L : List Ob) (hok : ∀ o ∈ L, Ok o) (hl : L.length ≤ 1000) (hc : Boxed w s 3 (.int .i64 c)) (hb : Boxed w (s + 1) 25 (.slice A L.length cap)) (hgl : gl < w.heap.size)
    (hel : ∀ k, k < L.length → A = some ⟨gl, 0, none⟩ ∧ ∀ (hk : k < L.length) i u, (oc L[k])[i]? = some u → w.cell? ⟨gl, k * 6 + i, none⟩ = some u) :
    Calls Tryd.prog 22 #[.slice none 0 0, .func (.func 18) #[] #[.pointer (some ⟨s + 1, 0, none⟩), .pointer (some ⟨s, 0, none⟩)]] w fun e w' => ∃ v, e = .returned v ∧ Os w' w.heap.size v (flt c L) ∧ Below w.heap.size w w' := by
  have hs1 := blt hb
  have B1 := Lib.hid ((Below.refl w.heap.size w).alloc (Nat.le_refl _) (.cells #[.slice none 0 0] 25))
  have X1 := Lib.hid (show Boxed (w.alloc (.cells #[.slice none 0 0] 25)) w.heap.size 25 (.slice none 0 0) from heap_alloc_last w _)
  have XC := Lib.hid (show Boxed (w.alloc (.cells #[.slice none 0 0] 25)) s 3 (.int .i64 c) from (Below.heap_alloc _ _ _ (by omega)).trans hc)
  have XL := Lib.hid (show Boxed (w.alloc (.cells #[.slice none 0 0] 25)) (s + 1) 25 (.slice A L.length cap) from (Below.heap_alloc _ _ _ (by omega)).trans hb)
  have HEL := Lib.hid (show ∀ k, k < L.length → A = some ⟨gl, 0, none⟩ ∧ ∀ (hk : k < L.length) i u, (oc L[k])[i]? = some u → (w.alloc (.cells #[.slice none 0 0] 25)).cell? ⟨gl, k * 6 + i, none⟩ = some u from fun k hk => ⟨(hel k hk).1, fun hk i u hu => (World.cell?_of_block (Below.heap_alloc w _ gl hgl)).trans ((hel k hk).2 hk i u hu)⟩)
  have HOK := Lib.hid hok
  have hsz1 : (w.alloc (.cells #[.slice none 0 0] 25)).heap.size = w.heap.size + 1 := by simp
  have hnf := eql_func (.pointer (some ⟨s + 1, 0, none⟩)) (.pointer (some ⟨s, 0, none⟩))
  clear hok hc hb hel
  refine (callsIn_wide (n := 4)).1 (callsIn_of_wp_marks Tryd.func22 rfl trivial ?_ rfl)
  simp only [Tryd.ntmps22, List.size_toArray, List.length_cons, List.length_nil, Nat.reduceAdd, Nat.reduceSub, Array.replicate_succ, Array.replicate_zero, List.push_toArray, List.append_toArray, List.nil_append, List.cons_append]
  refine wpIn_wide.2 ?_
  go_wp2_with fail
  generalize w.alloc (.cells #[.slice none 0 0] 25) = w1 at *
  refine (wpIn_wide (n := 4)).1 ?_
  refine wpIn_rangeFunc_ownH (F := Fence.wide) rfl (by omega) (gf := 18) (lb := #[.pointer (some ⟨s + 1, 0, none⟩), .pointer (some ⟨s, 0, none⟩)]) rfl trivial (enters_of Tryd.func18 (by kernel_rfl) rfl)
    (of_stops (4 - 1) s gl (by omega) A cap L HOK.out c w1 (by omega) (by omega) XC.out.cell XL.out.cell HEL.out (by omega)) (fun h k => kpO_t h k) ?kb (Below.refl _ _) (fun _ => rfl)
    (SI w1 w.heap.size) (fun _ _ _ => False) (si_own w1 w.heap.size) (fun _ _ _ _ _ hs _ _ => hs.elim) ?start
    (fun x a' W => ∃ q, q < W.heap.size ∧ W.heap[q]? = some (.cells (oc x.1).toArray 31 (0, 0)) ∧ a' = { tmps := #[Value.slice none 0 0, Value.func (Fn.func 18) #[] #[Value.pointer (some { block := s + 1, off := 0 }), Value.pointer (some { block := s, off := 0 })], .pointer (some ⟨w.heap.size, 0, none⟩), undef, .slice none 0 0, .pointer (some ⟨q, 0, none⟩), Value.func (Fn.func 18) #[] #[Value.pointer (some { block := s + 1, off := 0 }), Value.pointer (some { block := s, off := 0 })], .agg (oc x.1).toArray, undef, undef, undef, undef, undef], defers := [] }) ?ax ?assign ?body ?done ?stop
  case kb =>
    intro W l o o' hl ho hc _
    exact ⟨World.putObj_heap_other (by omega), World.putObj_heap_other (by omega)⟩
  case start => exact ⟨⟨_, X1.out, World.ownsRow_nil _ _ _ _, trivial⟩, ⟨rfl, rfl, rfl, Nat.le_refl _, fun _ _ _ => rfl⟩⟩
  case ax =>
    rintro x a' s A B row ⟨q, hq, hr, e⟩ hg hrow
    exact ⟨q, Nat.lt_of_lt_of_le hq hg.size, (hg.block q hq (fun e2 => by obtain ⟨_, o, ho, hc⟩ := hrow q e2.symm; rw [hr] at ho; cases ho; cases hc)).trans hr, e⟩
  case assign =>
    rintro l pre ⟨⟨tick, cell, kind, pc, a, b⟩, hx⟩ W K hI hK
    have hz := zero31
    simp only [oc] at hK ⊢
    have hsz := hI.2.size
    gi_wp2
    exact hK _ _ ((KeepsOthers.alloc W _).from _) ⟨Below.heap_alloc _ _ _ (by omega), Below.heap_alloc _ _ _ (by omega)⟩ ((si_own w1 _).alloc _ hI) ⟨W.heap.size, by simp, heap_alloc_last W _, rfl⟩
  case body =>
    rintro l pre ⟨⟨tick, cell, kind, pc, a, b⟩, hx⟩ a' W hl hr ⟨⟨v, hv, hv2, _⟩, hg⟩ ⟨q, hq, hrow, rfl⟩ hN
    dsimp only [oc] at hrow ⊢
    have hsz := hg.size
    have e0 : W.cell? ⟨q, 0, none⟩ = some (.int .u64 tick) := by rw [cell_of_row _ _ _ _ _ _ hrow]; rfl
    have e1 : W.cell? ⟨q, 1, none⟩ = some (.int .i64 cell) := by rw [cell_of_row _ _ _ _ _ _ hrow]; rfl
    have e2 : W.cell? ⟨q, 2, none⟩ = some (.int .i64 kind) := by rw [cell_of_row _ _ _ _ _ _ hrow]; rfl
    have e3 : W.cell? ⟨q, 3, none⟩ = some (.int .u32 pc) := by rw [cell_of_row _ _ _ _ _ _ hrow]; rfl
    have e4 : W.cell? ⟨q, 4, none⟩ = some (.int .u32 a) := by rw [cell_of_row _ _ _ _ _ _ hrow]; rfl
    have e5 : W.cell? ⟨q, 5, none⟩ = some (.int .u32 b) := by rw [cell_of_row _ _ _ _ _ _ hrow]; rfl
    obtain ⟨A5, cap5, rfl⟩ := Ol.slice (show Os W w1.heap.size v (pre.map (·.1)) from hv2)
    have hnn : (pre.map (·.1)).length ≤ 1000 := by rw [List.length_map]; omega
    obtain ⟨i0, hi, hz0, hz1, hz2⟩ := info_parts info31'
    have hc0 := hv.cell
    have hf0 := hv.frozen
    have NEW := Lib.hid (show ∀ j u, (rows oc [(⟨tick, cell, kind, pc, a, b⟩ : Ob)])[j]? = some u → (W.alloc (.cells #[.int .u64 tick, .int .i64 cell, .int .i64 kind, .int .u32 pc, .int .u32 a, .int .u32 b] 31)).cell? ((⟨W.heap.size, 0, none⟩ : Addr).add j) = some u from fun j u hu => by
      rw [Addr.add_mid, Nat.zero_add, cell_of_row _ _ _ _ _ _ (heap_alloc_last W _), ← Array.getElem?_toList]; simpa [rows, oc] using hu)
    have HV := Lib.hid hv
    have HV2 := Lib.hid hv2
    have HG := Lib.hid hg
    have FIN := Lib.hid (show ∀ v5 W5, W5.ownsRow w1.heap.size 31 6 v5 ((pre.map (·.1)).length + 1) (rows oc (pre.map (·.1)) ++ rows oc [(⟨tick, cell, kind, pc, a, b⟩ : Ob)]) → (W.alloc (.cells #[.int .u64 tick, .int .i64 cell, .int .i64 kind, .int .u32 pc, .int .u32 a, .int .u32 b] 31)).grownBy W5 (Value.slice A5 (pre.map (·.1)).length cap5).ownBlock →
        Boxed W5 w.heap.size 25 (.slice A5 (pre.map (·.1)).length cap5) ∧ KeepsFrom w1.heap.size W (W5.setCell ⟨w.heap.size, 0, none⟩ v5) ∧ KpO s gl W (W5.setCell ⟨w.heap.size, 0, none⟩ v5) ∧ SI w1 w.heap.size (pre ++ [⟨⟨tick, cell, kind, pc, a, b⟩, hx⟩]) (W5.setCell ⟨w.heap.size, 0, none⟩ v5) from fun v5 W5 hown hgr => by
      have hb4 := (Below.refl W.heap.size W).alloc (Nat.le_refl _) (.cells #[.int .u64 tick, .int .i64 cell, .int .i64 kind, .int .u32 pc, .int .u32 a, .int .u32 b] 31)
      have hv4 : Boxed (W.alloc (.cells #[.int .u64 tick, .int .i64 cell, .int .i64 kind, .int .u32 pc, .int .u32 a, .int .u32 b] 31)) w.heap.size 25 (.slice A5 (pre.map (·.1)).length cap5) := (hb4.block _ (by omega)).trans HV.out
      have ow4 := own_below HV2.out hb4
      have hs4 : (W.alloc (.cells #[.int .u64 tick, .int .i64 cell, .int .i64 kind, .int .u32 pc, .int .u32 a, .int .u32 b] 31)).heap.size = W.heap.size + 1 := by simp
      have hnr := hv4.not_row (by decide) ow4
      have h5 := hv4.kept hgr hnr
      have hr5 : ∀ k, (Value.slice A5 (pre.map (·.1)).length cap5).ownBlock = some k → w1.heap.size ≤ k ∧ ∃ o : Obj, (W.alloc (.cells #[.int .u64 tick, .int .i64 cell, .int .i64 kind, .int .u32 pc, .int .u32 a, .int .u32 b] 31)).heap[k]? = some o ∧ o.isCells = true := fun k e => by
        rcases ow4.2 with ⟨h, _⟩ | ⟨g, cap, cur, h, h1, h2, _⟩
        · rw [h] at e; cases e
        · rw [h] at e; cases e; exact ⟨h1, _, h2, rfl⟩
      refine ⟨h5, ?_, ⟨?_, ?_⟩, ⟨_, h5.set v5, ?_, trivial⟩, ?_⟩
      · refine (kf_below hb4).trans (((KeepsOthers.of_grownBy hgr (fun k o e ho => ?_)).from _).trans ((KeepsOthers.setCell _ _ _).from _))
        obtain ⟨_, o2, h1, h2⟩ := hr5 k e
        rw [ho] at h1; cases h1; exact h2
      · exact (Below.heap_setCell _ _ _ _ (by show s ≠ w.heap.size; omega)).trans ((hgr.block _ (by omega) (fun e => by have := (hr5 _ e.symm).1; omega)).trans (hb4.block _ (by omega)))
      · exact (Below.heap_setCell _ _ _ _ (by show gl ≠ w.heap.size; omega)).trans ((hgr.block _ (by omega) (fun e => by have := (hr5 _ e.symm).1; omega)).trans (hb4.block _ (by omega)))
      · have h6 := hown.kept (grownBy_setCell' W5 w.heap.size v5) (.inr (h5.not_row (by decide) hown).symm)
        rw [List.map_append, List.map_cons, List.map_nil, List.length_append, rows_append]; exact h6
      · exact ⟨hgr.os.trans (hb4.os.trans HG.out.os), hgr.tape.trans (hb4.tape.trans HG.out.tape), hgr.output.trans (hb4.output.trans HG.out.output), by have := hgr.size; have := (KeepsWalks.setCell W5 ⟨w.heap.size, 0, none⟩ v5).size; omega,
          fun i hi hn => (Below.heap_setCell _ _ _ _ (by show i ≠ w.heap.size; exact fun e => hn (by rw [e]))).trans ((hgr.block i (by omega) (fun e => by have := (hr5 i e.symm).1; omega)).trans ((hb4.block i (by omega)).trans (HG.out.block i hi hn)))⟩)
    have OW4 := Lib.hid (own_below HV2.out ((Below.refl W.heap.size W).alloc (Nat.le_refl _) (.cells #[.int .u64 tick, .int .i64 cell, .int .i64 kind, .int .u32 pc, .int .u32 a, .int .u32 b] 31)))
    have ONE := Lib.hid (oc_one [(⟨tick, cell, kind, pc, a, b⟩ : Ob)])
    clear hrow hv hv2 hg
    generalize rows oc (pre.map (·.1)) = rr at *
    generalize (pre.map (·.1)).length = nn at *
    gi_wp2_with (gi_at_builtin; refine wpListIn_append_own _ rfl (.tmp 8) (.tmp 10) 25 rfl w1.heap.size 31 i0 (.agg #[.int .u64 0, .int .i64 0, .int .i64 0, .int .u32 0, .int .u32 0, .int .u32 0]) 6 40 Tryd.underlying25 hi hz0 hz1 hz2 rfl (by decide) (.slice A5 nn cap5) nn rr rfl OW4.out ⟨W.heap.size, 0, none⟩ 1 1 (rows oc [(⟨tick, cell, kind, pc, a, b⟩ : Ob)]) rfl rfl NEW.out ?qa ?qb ?qc ?qd ?_)
    case qa => exact ONE.out
    case qb => simp only [maxLen]; omega
    case qc => omega
    case qd => simp; omega
    intro v5 W5 hown hgr hnil
    obtain ⟨h5, FF⟩ := FIN.out v5 W5 (by rw [hsz1]; exact hown) hgr
    have F := Lib.hid FF
    obtain ⟨g5, cap6, rfl⟩ := ownsRow_succ (k := nn) hown
    have hc5 := h5.cell
    have hf5 := h5.frozen
    clear hown hgr hnil FF hc0 hf0 h5 e0 e1 e2 e3 e4 e5
    gi_wp2
    exact F.out
  case done =>
    rintro D ys W hD hys ⟨⟨v, hv, hv2, _⟩, hg⟩ hK
    rw [hys] at hv2
    have hbw : Below w.heap.size w W := B1.out.grown hg B1.out.size (fun k e => by cases e; exact Nat.le_refl _)
    obtain ⟨A2, cap2, rfl⟩ := Ol.slice (show Os W w1.heap.size v (flt c L) from hv2)
    have hc0 := hv.cell
    have HK := Lib.hid hK
    have F := Lib.hid (show Os (W.putObj D (.deferred none)) w.heap.size (.slice A2 (flt c L).length cap2) (flt c L) ∧ Below w.heap.size w (W.putObj D (.deferred none)) from ⟨?os, hbw.grown (grownBy_putObj' _ D (.deferred none)) hbw.size (fun k e => by cases e; omega)⟩)
    case os =>
      refine ⟨hv2.1, ?_⟩
      rcases hv2.2 with h | ⟨g, cap, cur, h1, h2, h3, r⟩
      · exact .inl h
      · refine .inr ⟨g, cap, cur, h1, by omega, (World.putObj_heap_other (fun e => ?_)).trans h3, r⟩
        subst e
        rw [h3] at hK; cases hK
    clear hv hv2 hg hK hbw
    generalize (flt c L).length = nn at *
    dsimp only
    go_wp2
    refine ⟨by simp, .inl ⟨_, _, rfl, run_takeDeferred HK.out, ?_⟩⟩
    refine ⟨_, ?_, _, rfl, F.out⟩
    simp [results, Tryd.f22, go_sem]
  case stop => rintro D c pre W _ _ h _; exact h.elim
set_option maxHeartbeats 1000000 in
theorem collect_any (w : World) (c : Int) (s gl : Nat) (A : Option Addr) (cap : Nat) (L : List Ob) (hok : ∀ o ∈ L, Ok o) (hl : L.length ≤ 1000) (hc : Boxed w s 3 (.int .i64 c)) (hb : Boxed w (s + 1) 25 (.slice A L.length cap)) (hgl : gl < w.heap.size)
    (hel : ∀ k, k < L.length → A = some ⟨gl, 0, none⟩ ∧ ∀ (hk : k < L.length) i u, (oc L[k])[i]? = some u → w.cell? ⟨gl, k * 6 + i, none⟩ = some u) :
    Calls Tryd.prog 16 #[.func (.func 18) #[] #[.pointer (some ⟨s + 1, 0, none⟩), .pointer (some ⟨s, 0, none⟩)]] w fun e w' => ∃ v, e = .returned v ∧ Os w' w.heap.size v (flt c L) ∧ Below w.heap.size w w' := by
  have H := Lib.hid (appseq_any w c s gl A cap L hok hl hc hb hgl hel)
  clear hok hl hc hb hgl hel
  go_enter Tryd.func16, Tryd.ntmps16
  go_wp2_with fail
  refine H.out.mono ?_
  rintro e w' ⟨v, rfl, ho, hb⟩
  obtain ⟨A2, cap2, rfl⟩ := Ol.slice ho
  have F := Lib.hid (And.intro ho hb)
  clear ho hb H
  generalize (flt c L).length = nn at *
  go_wp2
  go_ret
  exact ⟨_, rfl, F.out⟩
end Go.Proofs.YtpeonoimdmdmlaaDoor.Tr
