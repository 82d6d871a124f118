/- A controller beside the document's: told, state, load, many. No statement of the seat is proved here. -/
import Derived.Test.YtpedciapkalhgaaDoorPairA
namespace Go.Proofs.YtpedciapkalhgaaDoor.Gk
open Go.RowKit Go.Proofs.YtpedciapkalhgaaDoor.Kit
set_option linter.unusedSimpArgs false
set_option linter.unusedVariables false

theorem drewN_drewN (w : World) (a b : Nat) : ∃ n, (w.drewN a).drewN b = w.drewN n := ⟨a + b, by simp [World.drewN, Nat.add_assoc]⟩
set_option maxHeartbeats 2000000 in
theorem told_any (w : World) (q g b x y z : Nat) (r : List Int) (p m : Nat) (c : Int) (h : PAt w q g b x y z r p m) (hT : TabAt w) :
    Calls Tryd.prog 27 #[.pointer (some ⟨q, 0, none⟩), .int .i64 c] w fun e w' => e = .returned (.bool true) ∧ Drw w w' := by
  have hcg := h.cg
  have hcb := h.cb
  have H := Lib.hid h
  have HT := Lib.hid hT
  obtain ⟨s0, s1⟩ := same_next (someOf r c (wait p m))
  by_cases hz : someOf r c (wait p m) = 0
  · obtain ⟨e1, e2, e3⟩ := s0 hz
    have HZ := Lib.hid hz
    have E3 := Lib.hid e3
    clear s0 s1 h hT e1 e2 e3 hz
    go_enter Tryd.func27, Tryd.ntmps27
    go_wp2_with fail
    refine (masked_any _ g r p m c H.out.gc).mono ?_
    rintro e w' ⟨rfl, rfl⟩
    go_wp2_with fail
    refine (waiting_any _ g r p m c H.out.gc).mono ?_
    rintro e w' ⟨rfl, n1, rfl⟩
    go_wp2_with fail
    refine (next_none _ g r p m c (H.out.gc.drewN _) HZ.out).mono ?_
    rintro e w' ⟨rfl, n2, rfl⟩
    go_wp2_with fail
    refine (rnext_any _ b x y z r p m c (H.out.rf.drewN _)).mono ?_
    rintro e w' ⟨rfl, rfl⟩
    rw [E3.out]
    go_wp2_with fail
    refine (rset_one _ b x y z r p m c (H.out.rf.drewN _)).mono ?_
    rintro e w' ⟨rfl, rfl⟩
    go_wp2_with fail
    refine (rset_two _ b x y z r p m c (H.out.rf.drewN _)).mono ?_
    rintro e w' ⟨rfl, rfl⟩
    go_wp2
    go_ret
    exact ⟨rfl, _, rfl⟩
  · obtain ⟨e1, e2, e3⟩ := s1 hz
    have HZ := Lib.hid hz
    have E3 := Lib.hid (show nx (someOf r c (wait p m)) = (Lib.ctz 32 (someOf r c (wait p m)) : Nat) from by unfold nx; rw [if_neg hz])
    clear s0 s1 h hT e1 e2 e3 hz
    go_enter Tryd.func27, Tryd.ntmps27
    go_wp2_with fail
    refine (masked_any _ g r p m c H.out.gc).mono ?_
    rintro e w' ⟨rfl, rfl⟩
    go_wp2_with fail
    refine (waiting_any _ g r p m c H.out.gc).mono ?_
    rintro e w' ⟨rfl, n1, rfl⟩
    go_wp2_with fail
    refine (next_some _ g r p m c (H.out.gc.drewN _) (HT.out.drewN _) HZ.out).mono ?_
    rintro e w' ⟨rfl, n2, rfl⟩
    go_wp2_with fail
    refine (rnext_any _ b x y z r p m c (H.out.rf.drewN _)).mono ?_
    rintro e w' ⟨rfl, rfl⟩
    rw [E3.out]
    go_wp2_with fail
    refine (rset_one _ b x y z r p m c (H.out.rf.drewN _)).mono ?_
    rintro e w' ⟨rfl, rfl⟩
    go_wp2_with fail
    refine (rset_two _ b x y z r p m c (H.out.rf.drewN _)).mono ?_
    rintro e w' ⟨rfl, rfl⟩
    go_wp2
    go_ret
    exact ⟨rfl, _, rfl⟩

set_option maxHeartbeats 2000000 in
theorem pstate_any (w : World) (q g b x y z : Nat) (r : List Int) (p m : Nat) (h : PAt w q g b x y z r p m) :
    Calls Tryd.prog 29 #[.pointer (some ⟨q, 0, none⟩)] w fun e w' => e = .returned (.bool true) ∧ Below w.heap.size w w' := by
  have hcg := h.cg
  have hz := zero39
  have H := Lib.hid h
  clear h
  go_enter Tryd.func29, Tryd.ntmps29
  go_wp2_with fail
  refine (state_any _ g r p m H.out.gc).mono ?_
  rintro e w5 ⟨rfl, g5, c5⟩
  have B5 := Lib.hid (show Below w.heap.size w w5 from ⟨c5.os, c5.tape, c5.output, c5.size, fun i hi => by
    by_cases e : i = g
    · subst e; rw [g5.heap, H.out.gc.heap]
    · exact c5.block i hi (fun e2 => e (Option.some.inj e2))⟩)
  have hlen := Lib.hid g5.len
  have H5 := Lib.hid (H.out.below B5.out)
  clear g5 c5 hcg
  have hcb := (H5.out.alloc (.cells (gcells r p m) 39)).cb
  go_wp2_with (refine wpList_store_new (o := ⟨none, .store 39 (.tmp 3) (.tmp 11), _, _, _, _⟩) rfl 39 (.tmp 3) (.tmp 11) rfl gz (gcells r p m) 39 rfl rfl (by rw [gcells_size r hlen.out]; exact info39) (by rw [gcells_size r hlen.out]; rfl) (gcells_one r p m) ?_)
  have H9 := Lib.hid (H5.out.alloc (.cells (gcells r p m) 39))
  have B9 := Lib.hid (B5.out.alloc B5.out.size (.cells (gcells r p m) 39))
  have S9 := Lib.hid (heap_alloc_last w5 (.cells (gcells r p m) 39))
  clear hz B5 H5
  generalize w5.alloc (.cells (gcells r p m) 39) = w9 at *
  generalize w5.heap.size = sb at *
  refine (rtold_any _ b x y z r p m H9.out.rf).mono ?_
  rintro e w' ⟨rfl, rfl⟩
  have d0 := H9.out.rf.c0
  go_wp2_with fail
  go_loopw [6] (fun i wr => ∃ k n : Nat, k ≤ 32 ∧ i = .int .i64 k ∧ wr = w9.drewN n) (fun i _ => 32 - (intOf i).toNat)
  case atStart => exact ⟨0, 0, by omega, rfl, rfl⟩
  case round =>
    obtain ⟨k, n, hk, rfl, rfl⟩ := hrel
    by_cases hlt : k < 32
    · have hs : w9.cell? ⟨sb, k, none⟩ = some (.int .i64 (nth r k)) := by rw [cell_of_row _ _ _ _ _ _ S9.out]; exact gcells_route hlen.out hlt
      have hx := H9.out.rf.cx k hlt
      go_wp2_with fail
      go_quiet (fail)
      go_wp2
      go_roundw
      case rel => exact ⟨k + 1, n + nq, by omega, by go_num, by simp [World.drewN, Nat.add_assoc]⟩
      case measure => simp [intOf]; omega
    · obtain rfl : k = 32 := by omega
      have hp : w9.cell? ⟨sb, 32, none⟩ = some (.int .u32 p) := by rw [cell_of_row _ _ _ _ _ _ S9.out]; exact gcells_p hlen.out
      have hm : w9.cell? ⟨sb, 33, none⟩ = some (.int .u32 m) := by rw [cell_of_row _ _ _ _ _ _ S9.out]; exact gcells_m hlen.out
      go_wp2
      go_ret
      exact ⟨rfl, pw_drewN B9.out _⟩

/-! ### load -/
abbrev Oi (w : World) (base : Nat) (v : Value) (l : List Int) : Prop := w.ownsRow base 3 1 v l.length (l.map (Value.int .i64))
theorem Oi.lt {w : World} {base : Nat} {v : Value} {l : List Int} (h : Oi w base v l) (g : Nat) (e : v.ownBlock = some g) : base ≤ g ∧ g < w.heap.size := by
  rcases h.2 with ⟨h1, _⟩ | ⟨g2, cap, cur, hv, hb, hrow, _⟩
  · rw [h1] at e; cases e
  · rw [hv] at e; cases e; exact ⟨hb, (Array.getElem?_eq_some_iff.1 hrow).1⟩
theorem Oi.at_ {w : World} {base : Nat} {v : Value} {l : List Int} (h : Oi w base v l) (h0 : 0 < l.length) : ∃ g cap, v = .slice (some ⟨g, 0, none⟩) l.length cap ∧ base ≤ g ∧ g < w.heap.size ∧ ∀ j, j < l.length → w.cell? ⟨g, j, none⟩ = some (.int .i64 (nth l j)) := by
  rcases h.2 with ⟨h1, h2⟩ | ⟨g, cap, cur, hv, hb, hrow, hn, hm, hs, htk⟩
  · omega
  · refine ⟨g, cap, hv, hb, (Array.getElem?_eq_some_iff.1 hrow).1, fun j hj => ?_⟩
    rw [cell_of_row _ _ _ _ _ _ hrow, ← Array.getElem?_toList]
    have hl : (l.map (Value.int .i64))[j]? = some (.int .i64 (nth l j)) := by simp [nth, List.getD_eq_getElem?_getD, List.getElem?_eq_getElem hj]
    rw [← htk, List.getElem?_take] at hl
    split at hl
    · exact hl
    · cases hl
theorem take_nth {r : List Int} {k : Nat} (h : k < r.length) : r.take (k + 1) = r.take k ++ [nth r k] := by
  rw [List.take_succ_eq_append_getElem h]; simp [nth, List.getD_eq_getElem?_getD, List.getElem?_eq_getElem h]
set_option maxHeartbeats 4000000 in
theorem pload_any (w : World) (q g b x y z : Nat) (r0 : List Int) (p0 m0 : Nat) (h : PAt w q g b x y z r0 p0 m0) (r : List Int) (p m : Nat) (hl : r.length = 32) (hp : p < 4294967296) (hm : m < 4294967296) :
    Calls Tryd.prog 43 #[.pointer (some ⟨q, 0, none⟩), .agg (gcells r p m)] w fun e w' => e = .returned (.bool true) ∧ (∃ r' p' m', PAt w' q g b x y z r' p' m') ∧ Ex (F4 g x y z) w w' := by
  have HL := Lib.hid hl
  have HP := Lib.hid hp
  have HM := Lib.hid hm
  have H1 := Lib.hid (heap_alloc_last w (.cells (gcells r p m) 39))
  have Q1 := Lib.hid (h.alloc (.cells (gcells r p m) 39))
  have C1 := Lib.hid ((Below.refl w.heap.size w).alloc (Nat.le_refl _) (.cells (gcells r p m) 39))
  have hs1 : w.heap.size + 1 ≤ (w.alloc (.cells (gcells r p m) 39)).heap.size := by simp
  obtain ⟨i0, hi, hz0, hz1, hz2⟩ := info_parts info3
  have hg0 := h.gc.lt
  clear h hl hp hm
  go_enter Tryd.func43, Tryd.ntmps43
  go_wp2_with fail
  generalize w.alloc (.cells (gcells r p m) 39) = w1 at *
  have I0 := Lib.hid (show Below w1.heap.size w1 w1 ∧ Oi w1 w1.heap.size (.slice none 0 0) (r.take 0) from ⟨Below.refl _ _, World.ownsRow_nil _ _ _ _⟩)
  go_loopw [5, 6] (fun v i wr => ∃ k : Nat, k ≤ 32 ∧ i = .int .i64 k ∧ Hid (Below w1.heap.size w1 wr ∧ Oi wr w1.heap.size v (r.take k))) (fun _ i _ => 32 - (intOf i).toNat)
  case atStart => exact ⟨0, by omega, rfl, I0⟩
  case round =>
    obtain ⟨k, hk, rfl, I⟩ := hrel
    clear I0
    by_cases hlt : k < 32
    · have hs : wr.cell? ⟨w.heap.size, k, none⟩ = some (.int .i64 (nth r k)) := by
        rw [I.out.1.cell (p := ⟨w.heap.size, k, none⟩) (by show w.heap.size < _; omega), cell_of_row _ _ _ _ _ _ H1.out]; exact gcells_route HL.out hlt
      have hws := I.out.1.size
      have hlk : (r.take k).length = k := by rw [List.length_take, HL.out]; omega
      have NX := Lib.hid (take_nth (r := r) (k := k) (by rw [HL.out]; exact hlt))
      generalize hv : nth r k = v0 at *
      generalize hL : r.take k = L at *
      have hLK := Lib.hid hlk
      clear hlk hv hL
      have O2 := Lib.hid (I.out.2.alloc (.cells #[.int .i64 v0] 3))
      have K2 := Lib.hid (I.out.1.alloc I.out.1.size (.cells #[.int .i64 v0] 3))
      have TN := Lib.hid (fun (q : Nat) (u : Value) (hu : ([.int .i64 v0] : List Value)[q]? = some u) => show (wr.alloc (.cells #[.int .i64 v0] 3)).cell? ((⟨wr.heap.size, 0, none⟩ : Addr).add q) = some u by
        rw [Addr.add_mid, Nat.zero_add, cell_of_row _ _ _ _ _ _ (heap_alloc_last wr (.cells #[.int .i64 v0] 3))]
        show ([.int .i64 v0] : List Value).toArray[q]? = some u
        rw [List.getElem?_toArray]; exact hu)
      go_wp2_with (at_builtin; refine wpList_append_own _ rfl (.tmp 12) (.tmp 17) 22 rfl w1.heap.size 3 i0 (.int .i64 0) 1 8 Tryd.underlying22 hi hz0 hz1 hz2 rfl (by decide) _ L.length (L.map (Value.int .i64)) rfl O2.out ⟨wr.heap.size, 0, none⟩ 1 1 [.int .i64 v0] rfl rfl TN.out ?qa ?qb ?qc ?qd ?_)
      case qa =>
        intro u hu
        simp only [List.mem_cons, List.not_mem_nil, or_false] at hu
        subst hu; rfl
      case qb => rw [hLK.out]; simp only [maxLen]; omega
      case qc => rw [hLK.out]; omega
      case qd => simp; omega
      intro v7 w8 hown hg hnil
      have F9 := Lib.hid (show Below w1.heap.size w1 w8 ∧ Oi w8 w1.heap.size v7 (r.take (k + 1)) from
        ⟨K2.out.grown hg K2.out.size (fun g e => (I.out.2.lt g e).1), by
          rw [NX.out]
          show w8.ownsRow _ _ _ _ (L ++ [v0]).length ((L ++ [v0]).map (Value.int .i64))
          rw [List.length_append, List.map_append]; exact hown⟩)
      clear hown hg hnil
      go_wp2
      go_roundw
      case rel => exact ⟨k + 1, by omega, by go_num, F9⟩
      case measure => simp [intOf]; omega
    · obtain rfl : k = 32 := by omega
      have hoi := I.out.2
      rw [List.take_of_length_le (by rw [HL.out]; omega)] at hoi
      obtain ⟨lg, cap, hv, hlg, hlg2, hlc⟩ := hoi.at_ (by rw [HL.out]; omega)
      rw [HL.out] at hv hlc
      subst hv
      have LC := Lib.hid hlc
      have QQ := Lib.hid (Q1.out.below I.out.1)
      have BB := Lib.hid (C1.out.trans (I.out.1.mono (by omega)))
      have HS := Lib.hid (show wr.heap[w.heap.size]? = some (.cells (gcells r p m) 39 (0, 0)) from (I.out.1.block _ (by omega)).trans H1.out)
      have hlq := Q1.out.lt
      have hgl := Q1.out.gc.lt
      have hrl := Q1.out.rf.ltb
      have hsw : w.heap.size < wr.heap.size := by have := I.out.1.size; omega
      have hcg := QQ.out.cg
      clear hoi hlc I H1 Q1 C1
      have HRG := Lib.hid (show wr.drew.rangeAt w.heap.size 0 (gcells r p m).toList from gc_all HS.out)
      go_wp2_with fail
      refine wp_region_tail 5 (by kernel_rfl) (by kernel_rfl) ?_
      simp only [List.take_succ_cons, List.take_zero, List.drop_succ_cons, List.drop_zero]
      iterate 4 still_step
      refine wpStill_load_mid rfl 39 (.tmp 3) rfl w.heap.size 0 rfl (gcells r p m).toList _ HRG.out Tryd.underlying39 rfl (by rw [Array.length_toList, gcells_size r HL.out]; exact info39) ?_
      refine wpStill_nil ?_
      go_wp2_with fail
      refine (gload _ g r0 p0 m0 QQ.out.gc.drew r p m HL.out HP.out HM.out).mono ?_
      rintro e w5 ⟨rfl, g5, c5⟩
      have c5' := Lib.hid ((Chg.refl wr g).drew.trans c5)
      obtain ⟨R5, hcb5, hcg5⟩ := QQ.out.mid c5'.out
      have HR5 := Lib.hid R5
      have G5 := Lib.hid g5
      have hgw : g ≠ w.heap.size := by omega
      have H5 := Lib.hid (show w5.heap[w.heap.size]? = some (.cells (gcells r p m) 39 (0, 0)) from (c5'.out.block _ hsw (fun e => hgw (Option.some.inj e).symm)).trans HS.out)
      have hpc : w5.cell? ⟨w.heap.size, 32, none⟩ = some (.int .u32 p) := by rw [cell_of_row _ _ _ _ _ _ H5.out]; exact gcells_p HL.out
      have hmc : w5.cell? ⟨w.heap.size, 33, none⟩ = some (.int .u32 m) := by rw [cell_of_row _ _ _ _ _ _ H5.out]; exact gcells_m HL.out
      have hlgg : lg ≠ g := by omega
      have LC5 := Lib.hid (show ∀ j, j < 32 → w5.drew.cell? ⟨lg, j, none⟩ = some (.int .i64 (nth r j)) from fun j hj => (show w5.cell? ⟨lg, j, none⟩ = _ from cell_of_kept c5'.out (LC.out j hj) hlgg))
      clear g5 c5 R5 hcg
      go_wp2_with fail
      refine wp_region_tail 11 (by kernel_rfl) (by kernel_rfl) ?_
      simp only [List.take_succ_cons, List.take_zero, List.drop_succ_cons, List.drop_zero]
      still_step
      still_call ((num_any _ _).mono fun _ _ h => ⟨h.1, h.2.symm⟩)
      iterate 9 still_step
      refine wpStill_nil ?_
      go_wp2_with fail
      refine (rload_any _ b x y z r0 p0 m0 HR5.out.drew lg cap r p m HL.out HP.out HM.out LC5.out (by omega) (by omega) (by omega)).mono ?_
      rintro e w6 ⟨rfl, l6, x6⟩
      have L6 := Lib.hid l6
      have X6 := Lib.hid ((Ex.refl _ w5).drew.trans x6)
      clear l6 x6
      go_wp2
      go_ret
      obtain ⟨f1, f2⟩ := QQ.out.both G5.out c5'.out L6.out X6.out
      exact ⟨rfl, ⟨_, _, _, f1⟩, (Ex.of_below BB.out _).trans f2⟩
end Go.Proofs.YtpedciapkalhgaaDoor.Gk
