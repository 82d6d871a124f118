/- Lines as an iterator: its contract for every loop's body; a region that draws its order within a round. No statement of the seat is proved here. -/
import Derived.Test.YtpedciapkalhgaaDoorRo
import Derived.RangeFuncNested
import Derived.RangeFuncBound
import Derived.RangeFuncCalls
import Derived.RangeFuncLeaves
import Derived.Shelf.Abstract
import Derived.Shelf.RegionOpen
import Derived.OwnWalkIn
import Derived.TacticsInMore
import Derived.LoopNIn
import Derived.LoopIn
namespace Go.Proofs.YtpedciapkalhgaaDoor.Gk
open Go.RowKit Go.Shelf Go.Proofs.YtpedciapkalhgaaDoor.Kit
attribute [local go_sem] Oper.semAt_some
set_option linter.unusedSimpArgs false
set_option linter.unusedVariables false

/-! ### a region that draws its order, in a round of a range over a function, no fence beside -/
section
variable {P : Program} {ops : Array Oper} {Q : Exit → Act → World → Prop} {l n : Nat}
/-- No operation is a 'defer'. -/
def Calm (ops : Array Oper) : Prop := ∀ (i : Nat) (o : Oper), ops[i]? = some o → ∀ c, o.op ≠ Op.defer c
def calmB (o : Oper) : Bool := match o.op with
  | .defer _ => false
  | _ => true
theorem calm_of {L : List Oper} (h : L.all calmB = true) : Calm L.toArray := fun i o ho c hc => by
  have hm : o ∈ L := List.mem_of_getElem? (by simpa using ho)
  have := List.all_eq_true.1 h o hm
  simp [calmB, hc] at this
theorem oper_round {o : Oper} {a : Act} {w : World} {K : Act → World → Prop} (hd : ∀ c, o.op ≠ Op.defer c)
    (h : o.wp P a w K Q) : o.wpIn (Fence.wide.inRound l) n P a w K Q := by
  refine ⟨fun _ _ => trivial, ?_⟩
  unfold Oper.wp at h
  rw [Oper.semAt_eq _ _ _ hd]
  generalize (execOp a.eval o).run P w = r at *
  cases r with
  | ok x w' =>
    cases x <;> first | exact h | exact h.elim | skip
    · exact ⟨fun h => (by cases h), CallsIn.inRound l (callsIn_wide.2 h)⟩
    · exact ⟨fun h => (by cases h), fun c cs _ => let ⟨v, w', r, s⟩ := h c cs; ⟨v, w', r, stepsIn_wide.2 s⟩⟩
  | halt x w' => cases x <;> first | exact h | exact h.elim
theorem op_round (hd : Calm ops) (hQ : ∀ a w, ¬ Q .outgrown a w) {i : Nat} {a : Act} {w : World} {K : Act → World → Prop} (h : wpOp P ops Q i K a w) : wpOpIn (Fence.wide.inRound l) n P ops Q i K a w := by
  unfold wpOp at h
  unfold wpOpIn
  split
  · rename_i ho; simp only [ho] at h; exact h
  · rename_i o ho
    simp only [ho] at h
    split
    · rename_i hw
      simp only [hw, if_true] at h
      rcases h with h | ⟨_, a0, w0, h⟩
      · exact oper_round (hd i o ho) h
      · exact absurd h (hQ a0 w0)
    · rename_i hw
      simp only [hw] at h
      exact ⟨fun _ _ => trivial, h⟩
theorem any_round {md : Region.Mode} (hd : Calm ops) (hQ : ∀ a w, ¬ Q .outgrown a w) : ∀ (fuel : Nat) (listed : Array Bool) (a : Act) (w : World),
    wpAny P md ops Q fuel listed a w → wpAnyIn (Fence.wide.inRound l) n P md ops Q fuel listed a w
  | 0, _, _, _, h => h
  | fuel + 1, listed, a, w, h => ⟨h.1, fun i hi => wpOpIn_mono (fun a' w' h' => any_round hd hQ fuel _ a' w' h') (op_round hd hQ (h.2 i hi))⟩
/-- Of a region that draws its order, in a round: the first m operations only read (or call what only reads), the others come behind them one by one. -/
theorem region_round {id : Nat} {a : Act} {w : World} {L : List Oper} (m : Nat) (hm : P.follows .mixedOrders = true) (hB : Region.lexTailB .any L.toArray m = true) (hd : L.all calmB = true) (hQ : ∀ a w, ¬ Q .outgrown a w)
    (h : wpStill P L.toArray w.drew (fun a' => wpList P L.toArray Q (L.drop m) a' w.drew) (L.take m) a) : (Code.region id L.toArray true).wpIn (Fence.wide.inRound l) n P Q a w := by
  refine wpIn_region_any hm (any_round (calm_of hd) hQ _ _ _ _ ?_)
  simp only [Region.lexTailB, Bool.and_eq_true, decide_eq_true_eq] at hB
  obtain ⟨⟨⟨⟨hsel, hn⟩, hs⟩, hc⟩, hlex⟩ := hB
  have hn' : m < L.length := by simpa using hn
  have htl : (L.take m).length = m := by simp; omega
  have hdl : (L.drop m).length = L.toArray.size - m := by simp
  have inv0 : HeadInv .any L.toArray m (Array.replicate L.toArray.size false) :=
    ⟨by simp, fun j oj _ hl => (by rw [getD_replicate_false] at hl; cases hl), fun t _ ht => getD_in (by simpa using ht) (getD_replicate_false _ _)⟩
  have H := wpAnyL_lex (md := .any) (g := L.toArray.size - m) hsel hs hc hn (L.take m) 0 _ a (fun j hj => by simp [show j < m by omega]) (by simpa using htl) inv0 (by rw [htl]; exact hlex) h
  have H2 := wpAny_of_head (Q' := Q) (g := L.toArray.size - m) (fun listed a' hL => by
    have := wpAny_of_seq (md := .any) (Q' := Q) (L.drop m) m listed a' w.drew (fun j => by simp [List.getElem?_drop]) (by rw [hdl]; exact hL.1) hL.2
    rwa [hdl] at this) _ _ _ H
  rw [htl, show m + (L.toArray.size - m) = L.toArray.size by omega] at H2
  exact H2
end

/-! ### a set's lines, in their order -/
def bl (v : Nat) : List Nat := (List.range 32).filter fun i => v.testBit i
theorem filter_least (p q : Nat → Bool) (k : Nat) (hk : p k = true) (hl : ∀ j, j < k → p j = false) (hq : ∀ i, q i = (p i && decide (i ≠ k))) : ∀ n, k < n → (List.range n).filter p = k :: (List.range n).filter q := by
  intro n
  induction n with
  | zero => intro h; omega
  | succ n ih =>
    intro h
    rw [List.range_succ, List.filter_append, List.filter_append]
    by_cases hkn : k < n
    · rw [ih hkn, List.cons_append, show List.filter q [n] = List.filter p [n] by simp [List.filter_cons, hq n, show n ≠ k by omega]]
    · obtain rfl : k = n := by omega
      have e1 : (List.range k).filter p = [] := List.filter_eq_nil_iff.2 fun a ha => by rw [hl a (List.mem_range.1 ha)]; simp
      have e2 : (List.range k).filter q = [] := List.filter_eq_nil_iff.2 fun a ha => by rw [hq, hl a (List.mem_range.1 ha)]; simp
      rw [e1, e2]
      simp [List.filter_cons, hk, hq k]
theorem bl_zero : bl 0 = [] := by decide
theorem less_bit (v k : Nat) (hk : v.testBit k = true) (hl : ∀ j, j < k → v.testBit j = false) (i : Nat) : (v &&& (v - 1)).testBit i = (v.testBit i && decide (i ≠ k)) := by
  have e0 : v % 2 ^ k = 0 := by
    apply Nat.eq_of_testBit_eq; intro j
    rw [Nat.testBit_mod_two_pow, Nat.zero_testBit]
    by_cases h : j < k
    · simp [hl j h]
    · simp [h]
  have e1 : v / 2 ^ k % 2 = 1 := by rw [Nat.testBit_eq_decide_div_mod_eq] at hk; simpa using hk
  have hp : 0 < 2 ^ k := Nat.two_pow_pos k
  have ev : v = 2 ^ k * (2 * (v / 2 ^ k / 2) + 1) + 0 := by
    have := Nat.div_add_mod v (2 ^ k)
    have h2 : 2 * (v / 2 ^ k / 2) + 1 = v / 2 ^ k := by omega
    rw [h2]; omega
  generalize v / 2 ^ k / 2 = q at ev
  have es : v - 1 = 2 ^ k * (2 * q) + (2 ^ k - 1) := by
    rw [ev, Nat.mul_add, Nat.mul_one]; omega
  rw [Nat.testBit_and, es, Nat.testBit_two_pow_mul_add _ (by omega)]
  by_cases h : i < k
  · rw [hl i h]; simp
  · rw [if_neg h]
    by_cases e : i = k
    · subst e; simp
    · have : v.testBit i = (2 * q + 1).testBit (i - k) := by
        rw [ev, Nat.testBit_two_pow_mul_add _ (by omega), if_neg h]
      rw [this]
      obtain ⟨d, hd⟩ : ∃ d, i - k = d + 1 := ⟨i - k - 1, by omega⟩
      rw [hd, Nat.testBit_succ, Nat.testBit_succ]
      have a1 : (2 * q + 1) / 2 = q := by omega
      have a2 : 2 * q / 2 = q := by omega
      rw [a1, a2]; simp [e]
theorem bl_step (v : Nat) (h0 : v ≠ 0) (h : v < 4294967296) : bl v = Lib.ctz 32 v :: bl (v &&& (v - 1)) := by
  obtain ⟨h1, h2, h3⟩ := ctz_bit v h0 h
  exact filter_least _ _ _ h1 h3 (less_bit v _ h1 h3) 32 h2
theorem bl_own (r : List Int) (c : Int) : bl (own r c) = (List.range 32).filter fun i => decide (nth r i = c) := by
  refine List.filter_congr fun i hi => ?_
  rw [own_bit]; simp [List.mem_range.1 hi]
theorem less_lt (v : Nat) (h0 : v ≠ 0) : v &&& (v - 1) < v := Nat.lt_of_le_of_lt Nat.and_le_right (by omega)
theorem less_u32 (v : Nat) (h0 : v ≠ 0) (h : v < 4294967296) : bits .and .u32 (v : Int) (((v : Int) - 1) % 4294967296) = ((v &&& (v - 1) : Nat) : Int) := by
  rw [show ((v : Int) - 1) % 4294967296 = ((v - 1 : Nat) : Int) by omega, u32_and_nat v _ h (by omega)]

/-! ### Lines -/
theorem lines_any (w : World) (b : Nat) (c : Int) :
    Calls Tryd.prog 19 #[.pointer (some ⟨b, 0, none⟩), .int .i64 c] w fun e w' => e = .returned (.func (.func 34) #[] #[.pointer (some ⟨w.heap.size, 0, none⟩), .pointer (some ⟨w.heap.size + 1, 0, none⟩)]) ∧
      (w.alloc (.cells #[.pointer (some ⟨b, 0, none⟩)] 24)).alloc (.cells #[.int .i64 c] 3) = w' := by
  go_enter Tryd.func19, Tryd.ntmps19
  go_wp2
  go_ret
  exact ⟨rfl, rfl⟩
/-- What a round that goes on keeps: the library's table. -/
def KpT (W W' : World) : Prop := TabAt W → TabAt W'
theorem kpT_t {A B C : World} (h : KpT A B) (k : KpT B C) : KpT A C := fun x => k (h x)
theorem kpT_b (W : World) (l : Nat) (o o' : Obj) (hl : W.heap[l]? = some o) (ho : o.isCells = false) : KpT W (W.putObj l o') := fun h i hi => by
  have hc := h i hi
  exact cell_kept hc (grownBy_putObj' W l o') (fun r e => by cases e; exact ⟨o, hl, ho⟩)
set_option maxHeartbeats 1000000 in
theorem lines_in (n l Bg Bc b : Nat) (hn : 1 ≤ n) (r : List Int) (p m : Nat) (c : Int) (J Jx : List Nat → World → Prop)
    (hY : ∀ pre x W, J pre W → pre.length < 32 → YieldAt Fence.wide (n - 1) Tryd.prog l #[.int .i64 (x : Nat)] W fun e W' =>
      (e = .returned (.bool true) ∧ J (pre ++ [x]) W' ∧ KpT W W') ∨ (e = .returned (.bool false) ∧ Jx (pre ++ [x]) W'))
    (W : World) (hg : W.cell? ⟨Bg, 0, none⟩ = some (.pointer (some ⟨b, 0, none⟩))) (hc : W.cell? ⟨Bc, 0, none⟩ = some (.int .i64 c)) (G : GicAt W b r p m) (hT : TabAt W) (h0 : J [] W) :
    CallsIn Fence.wide n Tryd.prog 34 #[.func (.yield l) #[] #[], .pointer (some ⟨Bg, 0, none⟩), .pointer (some ⟨Bc, 0, none⟩)] W fun e W' => (∃ v, e = .returned v) ∧
      ((∃ ys, ys = bl (own r c) ∧ J ys W') ∨ (∃ pre, pre <+: bl (own r c) ∧ Jx pre W')) := by
  have G := Lib.hid G
  have HT := Lib.hid hT; clear hT
  have HJ := Lib.hid h0; clear h0
  refine callsIn_of_wp Tryd.func34 rfl trivial ?_ rfl
  simp only [Tryd.ntmps34, List.size_toArray, List.length_cons, List.length_nil, Nat.reduceAdd, Nat.reduceSub, Array.replicate_succ, Array.replicate_zero, List.push_toArray, List.append_toArray, List.nil_append, List.cons_append]
  gi_wp2_with (refine ⟨trivial, ?_⟩; gi_at_call 35; refine (callsIn_wide.2 (own_any _ b r p m c G.out)).mono ?_; rintro e w' ⟨rfl, rfl⟩)
  gi_loopw [4] (fun u wr => ∃ (pre : List Nat) (v : Nat), u = .int .u32 v ∧ v < 4294967296 ∧ bl (own r c) = pre ++ bl v ∧ Hid (TabAt wr) ∧ Hid (J pre wr))
    (fun u _ => (intOf u).toNat)
  case atStart => exact ⟨[], own r c, rfl, own_lt r c, rfl, HT, HJ⟩
  case round =>
    obtain ⟨pre, v, rfl, hv, hx, hT, hJ⟩ := hrel
    have HX := Lib.hid hx; clear hx
    by_cases hz : v = 0
    · subst hz
      gi_wp2
      go_end0
      exact ⟨⟨_, rfl⟩, .inl ⟨pre, by rw [HX.out, bl_zero, List.append_nil], hJ.out⟩⟩
    · have hs := Lib.hid (bl_step v hz hv)
      have hlen : pre.length < 32 := by
        have := congrArg List.length HX.out
        have h2 : (bl (own r c)).length ≤ 32 := Nat.le_trans (List.length_filter_le _ _) (by simp)
        rw [hs.out, List.length_append, List.length_cons] at this; omega
      obtain ⟨fn, tmps, assign, body, hy, hR⟩ := hY pre (Lib.ctz 32 v) wr hJ.out hlen
      have hne : (((v : Nat) : Int) != 0) = true := by simp; omega
      have HZ := Lib.hid hz; clear hz
      have HV := Lib.hid hv
      gi_wp2_with (refine ⟨trivial, ?_⟩; gi_at_call 36; refine (callsIn_wide.2 (tz_any v HV.out HZ.out _ hT.out)).mono ?_; rintro e w' ⟨rfl, rfl⟩)
      refine hR.mono ?_
      rintro e W3 (⟨rfl, hJ3, hk3⟩ | ⟨rfl, hJx3⟩)
      · gi_wp2
        go_roundw
        case rel => exact ⟨pre ++ [Lib.ctz 32 v], v &&& (v - 1), by rw [less_u32 v HZ.out HV.out], by have := less_lt v HZ.out; omega, by rw [HX.out, hs.out]; simp, Lib.hid (hk3 hT.out), Lib.hid hJ3⟩
        case measure => rw [less_u32 v HZ.out HV.out]; have := less_lt v HZ.out; simp [intOf]; omega
      · gi_wp2
        refine bodyPost_ret (results_none rfl _ _ _) rfl ?_
        exact ⟨⟨_, rfl⟩, .inr ⟨pre ++ [Lib.ctz 32 v], ⟨bl (v &&& (v - 1)), by rw [HX.out, hs.out]; simp⟩, hJx3⟩⟩
/-- Lines gives the lines that there are when it is ranged over. -/
theorem lines_stops (n Bg Bc b : Nat) (hn : 1 ≤ n) (r : List Int) (p m : Nat) (c : Int) (w : World) (hBg : Bg < w.heap.size) (hBc : Bc < w.heap.size)
    (hg : w.cell? ⟨Bg, 0, none⟩ = some (.pointer (some ⟨b, 0, none⟩))) (hc : w.cell? ⟨Bc, 0, none⟩ = some (.int .i64 c)) (G : GicAt w b r p m) (hT : TabAt w) :
    SeqStopsK Fence.wide n Tryd.prog 34 #[.pointer (some ⟨Bg, 0, none⟩), .pointer (some ⟨Bc, 0, none⟩)] (fun x : Nat => #[Value.int .i64 (x : Nat)]) KpT (fun ys => ys = bl (own r c)) (fun pre => pre <+: bl (own r c)) 32 w := fun l J Jx W hW _ _ hY h0 =>
  lines_in n l Bg Bc b hn r p m c J Jx hY W ((hW.cell (p := ⟨Bg, 0, none⟩) hBg).trans hg) ((hW.cell (p := ⟨Bc, 0, none⟩) hBc).trans hc)
    ⟨(hW.block b G.lt).trans G.heap, G.len, G.hp, G.hm⟩ (hT.below hW (Nat.lt_of_le_of_lt (Nat.zero_le _) hBg)) h0
end Go.Proofs.YtpedciapkalhgaaDoor.Gk
