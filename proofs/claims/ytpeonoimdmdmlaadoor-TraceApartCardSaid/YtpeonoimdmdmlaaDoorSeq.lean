/- What Of gives, ranged over: its contract for every loop's body. No statement of the seat is proved here. -/
import Derived.Test.YtpeonoimdmdmlaaDoorOf
import Derived.RangeFuncNested
import Derived.RangeFuncBound
import Derived.RangeFuncCalls
import Derived.RangeFuncLeaves
import Derived.Shelf.Abstract
import Derived.Shelf.RegionOpen
import Derived.OwnWalkIn
import Derived.TacticsInMore
import Derived.LoopNIn
import Derived.LoopIn
namespace Go.Proofs.YtpeonoimdmdmlaaDoor.Tr
open Go.RowKit Go.Shelf Go.Proofs.YtpeonoimdmdmlaaDoor.Kit
attribute [local go_sem] Oper.semAt_some
set_option linter.unusedSimpArgs false
set_option linter.unusedVariables false

/-- A cell's observations. -/
def flt (c : Int) (L : List Ob) : List Ob := L.filter fun o => decide (o.cell = c)
theorem flt_yes {c : Int} {L : List Ob} {k : Nat} (hk : k < L.length) (h : L[k].cell = c) : flt c (L.take (k + 1)) = flt c (L.take k) ++ [L[k]] := by
  unfold flt; rw [List.take_succ_eq_append_getElem hk, List.filter_append]; simp [List.filter_cons, h]
theorem flt_no {c : Int} {L : List Ob} {k : Nat} (hk : k < L.length) (h : ¬ L[k].cell = c) : flt c (L.take (k + 1)) = flt c (L.take k) := by
  unfold flt; rw [List.take_succ_eq_append_getElem hk, List.filter_append]; simp [List.filter_cons, h]
theorem flt_len (c : Int) (L : List Ob) (k : Nat) (hk : k ≤ L.length) : (flt c (L.take k)).length ≤ k := Nat.le_trans (List.length_filter_le _ _) (by simp; omega)
theorem flt_pre (c : Int) (L : List Ob) (k : Nat) : flt c (L.take k) <+: flt c L := by
  unfold flt
  conv => rhs; rw [← List.take_append_drop k L, List.filter_append]
  exact List.prefix_append _ _
/-- What a round that goes on keeps: the iterator's own. -/
def KpO (s gl : Nat) (W W' : World) : Prop := W'.heap[s]? = W.heap[s]? ∧ W'.heap[gl]? = W.heap[gl]?
theorem kpO_t {s gl : Nat} {A B C : World} (h : KpO s gl A B) (k : KpO s gl B C) : KpO s gl A C := ⟨k.1.trans h.1, k.2.trans h.2⟩
theorem AbidesFrom.alloc {β : Type} {B : Nat} {J : β → World → Prop} (h : AbidesFrom B J) {s : β} {W : World} (o : Obj) (hs : J s W) : J s (W.alloc o) :=
  h s W _ none hs (World.grownBy_alloc W o none) (fun r e => by cases e)
set_option maxHeartbeats 4000000 in
theorem of_in (n l s gl : Nat) (hn : 1 ≤ n) (A : Option Addr) (cap : Nat) (L : List Ob) (c : Int) (J Jx : List Ob → World → Prop) (N : Nat) (hN : L.length < N) (W : World) (hJ : AbidesFrom W.heap.size J)
    (hY : ∀ pre x W1, x ∈ L → J pre W1 → pre.length < N → YieldAt Fence.wide (n - 1) Tryd.prog l #[.agg (oc x).toArray] W1 fun e W' =>
      (e = .returned (.bool true) ∧ J (pre ++ [x]) W' ∧ KpO s gl W1 W') ∨ (e = .returned (.bool false) ∧ Jx (pre ++ [x]) W'))
    (hs : W.cell? ⟨s, 0, none⟩ = some (.int .i64 c)) (hl : W.cell? ⟨s + 1, 0, none⟩ = some (.slice A L.length cap))
    (hel : ∀ k, k < L.length → A = some ⟨gl, 0, none⟩ ∧ ∀ (hk : k < L.length) i u, (oc L[k])[i]? = some u → W.cell? ⟨gl, k * 6 + i, none⟩ = some u) (hlen : L.length ≤ 1000000) (h0 : J [] W) :
    CallsIn Fence.wide n Tryd.prog 18 #[.func (.yield l) #[] #[], .pointer (some ⟨s + 1, 0, none⟩), .pointer (some ⟨s, 0, none⟩)] W fun e W' => (∃ v, e = .returned v) ∧
      ((∃ ys, ys = flt c L ∧ J ys W') ∨ (∃ pre, pre <+: flt c L ∧ Jx pre W')) := by
  have HJ := Lib.hid h0; clear h0
  have HS := Lib.hid hs
  have HE := Lib.hid hel
  have hz := zero31
  have hsl : s < W.heap.size := World.block_lt_of_cell? W _ hs
  obtain ⟨m, hm⟩ : ∃ m, m = L.length := ⟨_, rfl⟩
  have HM := Lib.hid hm
  rw [← hm] at hl hlen
  clear hel hm
  refine callsIn_of_wp Tryd.func18 rfl trivial ?_ rfl
  simp only [Tryd.ntmps18, List.size_toArray, List.length_cons, List.length_nil, Nat.reduceAdd, Nat.reduceSub, Array.replicate_succ, Array.replicate_zero, List.push_toArray, List.append_toArray, List.nil_append, List.cons_append]
  gi_wp2_with fail
  gi_loopw [8] (fun u wr => ∃ k : Nat, k ≤ m ∧ u = .int .i64 k ∧ Hid (J (flt c (L.take k)) wr ∧ KpO s gl W wr))
    (fun u _ => m - (intOf u).toNat)
  case atStart => exact ⟨0, by omega, rfl, Lib.hid ⟨HJ.out, rfl, rfl⟩⟩
  case round =>
    obtain ⟨k, hk, rfl, I⟩ := hrel
    by_cases hlt : k < m
    · have hk2 : k < L.length := by rw [← HM.out]; exact hlt
      obtain ⟨hA, hc⟩ := HE.out k hk2
      subst hA
      have hs2 : wr.cell? ⟨s, 0, none⟩ = some (.int .i64 c) := by rw [World.cell?_of_block (show wr.heap[(⟨s, 0, none⟩ : Addr).block]? = W.heap[s]? from I.out.2.1)]; exact HS.out
      have hsw : s < wr.heap.size := World.block_lt_of_cell? wr _ hs2
      have hcr : ∀ i u, (oc L[k])[i]? = some u → wr.cell? ⟨gl, k * 6 + i, none⟩ = some u := fun i u hu => by
        rw [World.cell?_of_block (show wr.heap[(⟨gl, k * 6 + i, none⟩ : Addr).block]? = W.heap[gl]? from I.out.2.2)]; exact hc hk2 i u hu
      have LP := Lib.hid (flt_len c L k (by omega))
      have FY := Lib.hid (fun h => flt_yes (c := c) hk2 h)
      have FN := Lib.hid (fun h => flt_no (c := c) hk2 h)
      have PR := Lib.hid (flt_pre c L (k + 1))
      have HY := Lib.hid (fun W1 hj => hY (flt c (L.take k)) L[k] W1 (List.getElem_mem hk2) hj (by have := LP.out; omega))
      clear hc
      generalize L[k] = x at *
      obtain ⟨tick, cell, kind, pc, a, b⟩ := x
      have e0 := hcr 0 _ rfl
      have e1 := hcr 1 _ rfl
      have e2 := hcr 2 _ rfl
      have e3 := hcr 3 _ rfl
      have e4 := hcr 4 _ rfl
      have e5 := hcr 5 _ rfl
      rw [Nat.add_zero] at e0
      clear hcr
      dsimp only at e0 e1 e2 e3 e4 e5 FY FN
      by_cases hce : cell = c
      · have hd : (cell == c) = true := by simp [hce]
        have FYc := Lib.hid (FY.out hce)
        obtain ⟨fn, tmps, assign, body, hy, hR⟩ := HY.out (wr.alloc (.cells #[.int .u64 tick, .int .i64 cell, .int .i64 kind, .int .u32 pc, .int .u32 a, .int .u32 b] 31)) (AbidesFrom.alloc hJ _ I.out.1)
        simp only [oc] at hy
        clear hce FY FN
        have KA := Lib.hid (show KpO s gl W (wr.alloc (.cells #[.int .u64 tick, .int .i64 cell, .int .i64 kind, .int .u32 pc, .int .u32 a, .int .u32 b] 31)) from kpO_t I.out.2 ⟨Below.heap_alloc _ _ _ hsw, Below.heap_alloc _ _ _ (World.block_lt_of_cell? wr _ e0)⟩)
        gi_wp2_with fail
        refine hR.mono ?_
        rintro e W3 (⟨rfl, hJ3, hk3⟩ | ⟨rfl, hJx3⟩)
        · have F3 := Lib.hid (show J (flt c (L.take (k + 1))) W3 ∧ KpO s gl W W3 from ⟨by rw [FYc.out]; exact hJ3, kpO_t KA.out hk3⟩)
          clear hJ3 hk3
          gi_wp2
          go_roundw
          case rel => exact ⟨k + 1, by omega, by go_num, F3⟩
          case measure => simp [intOf]; omega
        · have FX := Lib.hid (show Jx (flt c (L.take (k + 1))) W3 from by rw [FYc.out]; exact hJx3)
          clear hJx3
          gi_wp2
          refine bodyPost_ret (results_none rfl _ _ _) rfl ?_
          exact ⟨⟨_, rfl⟩, .inr ⟨_, PR.out, FX.out⟩⟩
      · have hd : (cell == c) = false := by simp [hce]
        have FNc := Lib.hid (FN.out hce)
        have F3 := Lib.hid (show J (flt c (L.take (k + 1))) (wr.alloc (.cells #[.int .u64 tick, .int .i64 cell, .int .i64 kind, .int .u32 pc, .int .u32 a, .int .u32 b] 31)) ∧ KpO s gl W (wr.alloc (.cells #[.int .u64 tick, .int .i64 cell, .int .i64 kind, .int .u32 pc, .int .u32 a, .int .u32 b] 31)) from
          ⟨by rw [FNc.out]; exact AbidesFrom.alloc hJ _ I.out.1, kpO_t I.out.2 ⟨Below.heap_alloc _ _ _ hsw, Below.heap_alloc _ _ _ (World.block_lt_of_cell? wr _ e0)⟩⟩)
        clear hce FY FN
        gi_wp2_with fail
        refine ⟨fun f h => (by cases h), ?_⟩
        gi_wp2
        go_roundw
        case rel => exact ⟨k + 1, by omega, by go_num, F3⟩
        case measure => simp [intOf]; omega
    · obtain rfl : k = m := by omega
      gi_wp2
      go_end0
      refine ⟨⟨_, rfl⟩, .inl ⟨_, rfl, ?_⟩⟩
      have := I.out.1
      rwa [HM.out, List.take_length] at this
end Go.Proofs.YtpeonoimdmdmlaaDoor.Tr
