/- The controller in memory, and what is plain about it: own lines as a set of bits. No statement of the seat is proved here. -/
import Derived.Test.YtpedciapkalhgaaDoorProg
import Derived.Test.YtpedciapkalhgaaDoorKit
import Derived.Lib.TrailingZeros
namespace Go.Proofs.YtpedciapkalhgaaDoor.Gk
open Go.RowKit Go.Proofs.YtpedciapkalhgaaDoor.Kit
set_option linter.unusedSimpArgs false
set_option linter.unusedVariables false

def nth (r : List Int) (i : Nat) : Int := r.getD i 0
theorem nth_set (r : List Int) (i j : Nat) (c : Int) (hi : i < r.length) : nth (r.set i c) j = if i = j then c else nth r j := by
  unfold nth
  simp only [List.getD_eq_getElem?_getD, List.getElem?_set]
  by_cases h : i = j
  · subst h; simp [hi]
  · simp [h]
/-! ### memory -/
def gcells (r : List Int) (p m : Nat) : Array Value := (r.map (Value.int .i64) ++ [Value.int .u32 p, Value.int .u32 m]).toArray

structure GicAt (w : World) (b : Nat) (r : List Int) (p m : Nat) : Prop where
  heap : w.heap[b]? = some (.cells (gcells r p m) 67 (0, 0))
  len : r.length = 32
  hp : p < 4294967296
  hm : m < 4294967296

theorem gcells_route {r : List Int} {p m i : Nat} (hl : r.length = 32) (h : i < 32) : (gcells r p m)[i]? = some (.int .i64 (nth r i)) := by
  simp [gcells, List.getElem?_append, hl, h, nth]
theorem gcells_p {r : List Int} {p m : Nat} (hl : r.length = 32) : (gcells r p m)[32]? = some (.int .u32 p) := by
  simp [gcells, List.getElem?_append, hl]
theorem gcells_m {r : List Int} {p m : Nat} (hl : r.length = 32) : (gcells r p m)[33]? = some (.int .u32 m) := by
  simp [gcells, List.getElem?_append, hl]

theorem GicAt.route {w : World} {b : Nat} {r : List Int} {p m : Nat} (h : GicAt w b r p m) (i : Nat) (hi : i < 32) : w.cell? ⟨b, i, none⟩ = some (.int .i64 (nth r i)) := by
  rw [cell_of_row w b i _ _ _ h.heap]; exact gcells_route h.len hi
theorem GicAt.pend {w : World} {b : Nat} {r : List Int} {p m : Nat} (h : GicAt w b r p m) : w.cell? ⟨b, 32, none⟩ = some (.int .u32 p) := by
  rw [cell_of_row w b 32 _ _ _ h.heap]; exact gcells_p h.len
theorem GicAt.mask {w : World} {b : Nat} {r : List Int} {p m : Nat} (h : GicAt w b r p m) : w.cell? ⟨b, 33, none⟩ = some (.int .u32 m) := by
  rw [cell_of_row w b 33 _ _ _ h.heap]; exact gcells_m h.len
theorem GicAt.free {w : World} {b : Nat} {r : List Int} {p m : Nat} (h : GicAt w b r p m) (j : Nat) : w.frozen? ⟨b, j, none⟩ = false := frozen_of_row w b j _ _ h.heap
theorem GicAt.lt {w : World} {b : Nat} {r : List Int} {p m : Nat} (h : GicAt w b r p m) : b < w.heap.size := (Array.getElem?_eq_some_iff.1 h.heap).1
theorem GicAt.range {w : World} {b : Nat} {r : List Int} {p m : Nat} (h : GicAt w b r p m) : w.rangeAt b 0 (r.map (Value.int .i64)) := by
  intro j v hv
  have hj : j < 32 := by have := (List.getElem?_eq_some_iff.1 hv).1; simpa [h.len] using this
  rw [Nat.zero_add, h.route j hj]
  simp [List.getElem?_map, List.getElem?_eq_getElem (show j < r.length by rw [h.len]; exact hj)] at hv
  rw [← hv]; simp [nth, List.getD_eq_getElem?_getD, List.getElem?_eq_getElem (show j < r.length by rw [h.len]; exact hj)]
theorem gcells_set_p {r : List Int} {p m p' : Nat} (hl : r.length = 32) : (gcells r p m).setIfInBounds 32 (.int .u32 p') = gcells r p' m := by
  apply Array.ext'; simp [gcells, List.set_append, hl]
theorem gcells_set_m {r : List Int} {p m m' : Nat} (hl : r.length = 32) : (gcells r p m).setIfInBounds 33 (.int .u32 m') = gcells r p m' := by
  apply Array.ext'; simp [gcells, List.set_append, hl]
theorem gcells_set_r {r : List Int} {p m i : Nat} {c : Int} (hl : r.length = 32) (hi : i < 32) : (gcells r p m).setIfInBounds i (.int .i64 c) = gcells (r.set i c) p m := by
  apply Array.ext'; simp [gcells, List.set_append, hl, hi, List.map_set]
theorem GicAt.setP {w : World} {b : Nat} {r : List Int} {p m : Nat} (h : GicAt w b r p m) (p' : Nat) (hp' : p' < 4294967296) : GicAt (w.setCell ⟨b, 32, none⟩ (.int .u32 p')) b r p' m :=
  ⟨by rw [heap_setCell_same w b 32 _ _ _ h.heap, gcells_set_p h.len], h.len, hp', h.hm⟩
theorem GicAt.setM {w : World} {b : Nat} {r : List Int} {p m : Nat} (h : GicAt w b r p m) (m' : Nat) (hm' : m' < 4294967296) : GicAt (w.setCell ⟨b, 33, none⟩ (.int .u32 m')) b r p m' :=
  ⟨by rw [heap_setCell_same w b 33 _ _ _ h.heap, gcells_set_m h.len], h.len, h.hp, hm'⟩
theorem GicAt.setR {w : World} {b : Nat} {r : List Int} {p m : Nat} (h : GicAt w b r p m) (i : Nat) (hi : i < 32) (c : Int) : GicAt (w.setCell ⟨b, i, none⟩ (.int .i64 c)) b (r.set i c) p m :=
  ⟨by rw [heap_setCell_same w b i _ _ _ h.heap, gcells_set_r h.len hi], by simp [h.len], h.hp, h.hm⟩
theorem GicAt.drew {w : World} {b : Nat} {r : List Int} {p m : Nat} (h : GicAt w b r p m) : GicAt w.drew b r p m := ⟨h.heap, h.len, h.hp, h.hm⟩
theorem GicAt.kept {w w' : World} {b : Nat} {r : List Int} {p m : Nat} (h : GicAt w b r p m) {row : Option Nat} (hg : w.grownBy w' row) (hn : row ≠ some b) : GicAt w' b r p m :=
  ⟨by rw [hg.block b h.lt (fun e => hn e.symm)]; exact h.heap, h.len, h.hp, h.hm⟩

/-! ### own lines -/
def ownTo (r : List Int) (c : Int) : Nat → Nat
  | 0 => 0
  | k + 1 => if nth r k = c then ownTo r c k ||| 2 ^ k else ownTo r c k
def own (r : List Int) (c : Int) : Nat := ownTo r c 32
theorem ownTo_lt (r : List Int) (c : Int) (k : Nat) : ownTo r c k < 2 ^ k := by
  induction k with
  | zero => simp [ownTo]
  | succ k ih =>
    have h2 : 2 ^ (k + 1) = 2 ^ k + 2 ^ k := by rw [Nat.pow_succ]; omega
    unfold ownTo
    split
    · exact Nat.or_lt_two_pow (by omega) (by omega)
    · omega
theorem ownTo_lt32 (r : List Int) (c : Int) (k : Nat) (h : k ≤ 32) : ownTo r c k < 4294967296 :=
  Nat.lt_of_lt_of_le (ownTo_lt r c k) (show 2 ^ k ≤ 2 ^ 32 from Nat.pow_le_pow_right (by decide) h)
theorem ownTo_bit (r : List Int) (c : Int) (k i : Nat) : (ownTo r c k).testBit i = (decide (i < k) && decide (nth r i = c)) := by
  induction k with
  | zero => simp [ownTo]
  | succ k ih =>
    unfold ownTo
    split
    · rename_i h
      rw [Nat.testBit_or, ih, Nat.testBit_two_pow]
      by_cases e : k = i
      · subst e; simp [h]
      · by_cases e2 : i < k
        · simp [e, e2, show i < k + 1 by omega]
        · simp [e, e2, show ¬ i < k + 1 by omega]
    · rename_i h
      rw [ih]
      by_cases e : k = i
      · subst e; simp [h]
      · by_cases e2 : i < k
        · simp [e2, show i < k + 1 by omega]
        · simp [e2, show ¬ i < k + 1 by omega]
theorem own_lt (r : List Int) (c : Int) : own r c < 4294967296 := ownTo_lt32 r c 32 (by decide)
theorem own_bit (r : List Int) (c : Int) (i : Nat) : (own r c).testBit i = (decide (i < 32) && decide (nth r i = c)) := ownTo_bit r c 32 i

/-! ### closed facts on the program's types -/
theorem size3 : ∀ w, (sizeOf 3).run Tryd.prog w = .ok 1 w := fun _ => by kernel_rfl
theorem agg3 : ∀ w, (isAgg 3).run Tryd.prog w = .ok false w := fun _ => by kernel_rfl
theorem index37 (r : List Int) (hl : r.length = 32) (k : Nat) (hk : k < 32) (w : World) : (Instr.index 37 (.agg (r.map (Value.int .i64)).toArray) (.int .i64 k)).run Tryd.prog w = .ok (.int .i64 (nth r k)) w :=
  run_index_array .i64 k Tryd.underlying37 hk size3 agg3 (by simp [nth, List.getElem?_eq_getElem (show k < r.length by omega)]) w

theorem bit_nat (k : Nat) (hk : k < 32) : ((2 : Int) ^ k % 4294967296) = ((2 ^ k : Nat) : Int) := by
  have h : 2 ^ k < 4294967296 := Nat.lt_of_lt_of_le (Nat.pow_lt_pow_right (by decide) hk) (by decide)
  have e : ((2 : Int) ^ k) = ((2 ^ k : Nat) : Int) := by simp
  rw [e]; exact Int.emod_eq_of_lt (Int.natCast_nonneg _) (Int.ofNat_lt.2 h)
theorem two_lt (k : Nat) (hk : k < 32) : 2 ^ k < 4294967296 := Nat.lt_of_lt_of_le (Nat.pow_lt_pow_right (by decide) hk) (by decide)
theorem or_bit (x k : Nat) (hx : x < 4294967296) (hk : k < 32) : bits .or .u32 (x : Int) ((2 : Int) ^ k % 4294967296) = ((x ||| 2 ^ k : Nat) : Int) := by
  rw [bit_nat k hk, u32_or_nat x _ hx (two_lt k hk)]
theorem andNot_bit (x k : Nat) (hx : x < 4294967296) (hk : k < 32) : bits .andNot .u32 (x : Int) ((2 : Int) ^ k % 4294967296) = ((x &&& (4294967295 - 2 ^ k) : Nat) : Int) := by
  rw [bit_nat k hk, u32_andNot_nat x _ hx (two_lt k hk)]

theorem or_new (p k : Nat) (hp : p < 4294967296) : (((p ||| 2 ^ k : Nat) : Int) != (p : Int)) = !(p.testBit k) := by
  cases hb : p.testBit k with
  | true =>
    have : p ||| 2 ^ k = p := by
      apply Nat.eq_of_testBit_eq; intro i
      rw [Nat.testBit_or, Nat.testBit_two_pow]
      by_cases e : k = i
      · subst e; simp [hb]
      · simp [e]
    simp [this]
  | false =>
    have : p ||| 2 ^ k ≠ p := by
      intro e
      have := congrArg (fun x => x.testBit k) e
      simp [Nat.testBit_or, Nat.testBit_two_pow, hb] at this
    have h2 : ¬ (((p ||| 2 ^ k : Nat) : Int) = (p : Int)) := fun e => this (Int.ofNat.inj e)
    simpa using h2
theorem own_or (r : List Int) (c : Int) (k : Nat) (hk : k < 32) (h : nth r k = c) : ownTo r c k ||| 2 ^ k = ownTo r c (k + 1) := by simp [ownTo, h]
theorem own_skip (r : List Int) (c : Int) (k : Nat) (h : ¬ nth r k = c) : ownTo r c k = ownTo r c (k + 1) := by simp [ownTo, h]

set_option maxHeartbeats 400000 in
theorem own_any (w : World) (b : Nat) (r : List Int) (p m : Nat) (c : Int) (h : GicAt w b r p m) :
    Calls Tryd.prog 35 #[.pointer (some ⟨b, 0, none⟩), .int .i64 c] w fun e w' => e = .returned (.int .u32 (own r c)) ∧ w = w' := by
  have hr := Lib.hid h.range
  have hlen := Lib.hid h.len
  clear h
  go_enter Tryd.func35, Tryd.ntmps35
  go_wp2_with (refine wpList_load_mid (op := ⟨some 11, _, _, _, _, _⟩) rfl 37 (.tmp 10) rfl b 0 rfl (r.map (Value.int .i64)) _ hr.out Tryd.underlying37 rfl (by rw [List.length_map, hlen.out]; kernel_rfl) ?_)
  go_loop [5, 6, 7, 12] (fun o _ _ i => ∃ k : Nat, k ≤ 32 ∧ i = .int .i64 k ∧ o = .int .u32 (ownTo r c k)) (fun _ _ _ i => 32 - (intOf i).toNat)
  case atStart => exact ⟨0, by omega, rfl, rfl⟩
  case round =>
    obtain ⟨k, hk, rfl, rfl⟩ := hrel
    by_cases hlt : k < 32
    · have hix := index37 r hlen.out k hlt w
      by_cases hc : nth r k = c
      · have hd : (nth r k == c) = true := by simp [hc]
        go_wp2
        go_round
        case rel => exact ⟨k + 1, by omega, by go_num, by rw [or_bit _ k (ownTo_lt32 r c k hk) hlt, own_or r c k hlt hc]⟩
        case measure => simp [intOf]; omega
      · have hd : (nth r k == c) = false := by simp [hc]
        go_wp2
        go_round
        case rel => exact ⟨k + 1, by omega, by go_num, by rw [own_skip r c k hc]⟩
        case measure => simp [intOf]; omega
    · go_wp2
      have : k = 32 := by omega
      subst this
      go_ret
      exact ⟨rfl, rfl⟩

/-- A cell's number? -/
def isC (c : Int) : Bool := decide (1 ≤ c) && decide (c ≤ 8)
theorem is_any (w : World) (c : Int) : Calls Tryd.prog 37 #[.int .i64 c] w fun e w' => e = .returned (.bool (isC c)) ∧ w = w' := by
  by_cases h1 : 1 ≤ c
  · by_cases h2 : c ≤ 8
    · go_enter Tryd.func37, Tryd.ntmps37
      go_wp2
      go_ret
      exact ⟨by simp [isC, h1, h2], rfl⟩
    · go_enter Tryd.func37, Tryd.ntmps37
      go_wp2
      go_ret
      exact ⟨by simp [isC, h1, h2], rfl⟩
  · have hd : decide (1 ≤ c) = false := by simp [h1]
    go_enter Tryd.func37, Tryd.ntmps37
    go_wp2
    go_ret
    exact ⟨by simp [isC]; omega, rfl⟩

/-- some: those of a set that are routed to a cell. -/
def someOf (r : List Int) (c : Int) (x : Nat) : Nat := if isC c = true then x &&& own r c else 0
theorem someOf_lt (r : List Int) (c : Int) (x : Nat) : someOf r c x < 4294967296 := by
  unfold someOf; split
  · exact Nat.and_lt_two_pow _ (n := 32) (own_lt r c)
  · decide
theorem some_any (w : World) (b : Nat) (r : List Int) (p m : Nat) (c : Int) (x : Nat) (hx : x < 4294967296) (h : GicAt w b r p m) :
    Calls Tryd.prog 30 #[.pointer (some ⟨b, 0, none⟩), .int .i64 c, .int .u32 x] w fun e w' => e = .returned (.int .u32 (someOf r c x)) ∧ w = w' := by
  have H := Lib.hid h; clear h
  by_cases hc : isC c = true
  · have e : someOf r c x = x &&& own r c := by unfold someOf; rw [if_pos hc]
    have ho := Lib.hid (own_lt r c)
    rw [e]; clear e
    have HX := Lib.hid hx; clear hx
    go_enter Tryd.func30, Tryd.ntmps30
    go_wp2_with (first | (go_at_call 37; refine (is_any _ _).mono ?_; rintro e w' ⟨rfl, rfl⟩) | (go_at_call 35; refine (own_any _ b r p m c H.out).mono ?_; rintro e w' ⟨rfl, rfl⟩))
    go_ret
    exact ⟨by rw [← u32_and_nat x _ HX.out ho.out]; rfl, rfl⟩
  · have hc' : isC c = false := by simpa using hc
    have e : someOf r c x = 0 := by unfold someOf; rw [if_neg hc]
    rw [e]; clear e hc
    go_enter Tryd.func30, Tryd.ntmps30
    go_wp2_with (first | (go_at_call 37; refine (is_any _ _).mono ?_; rintro e w' ⟨rfl, rfl⟩))
    go_ret
    exact ⟨rfl, rfl⟩

/-! ### the calls that write -/
/-- What a call may have done: block b is another one's, or has turned; new blocks; draws. -/
abbrev Chg (w w' : World) (b : Nat) : Prop := w.grownBy w' (some b)
theorem Chg.refl (w : World) (b : Nat) : Chg w w b := ⟨rfl, rfl, rfl, Nat.le_refl _, fun _ _ _ => rfl⟩
theorem Chg.trans {w w1 w2 : World} {b : Nat} (h : Chg w w1 b) (k : Chg w1 w2 b) : Chg w w2 b :=
  ⟨k.os.trans h.os, k.tape.trans h.tape, k.output.trans h.output, Nat.le_trans h.size k.size, fun i hi hn => (k.block i (Nat.lt_of_lt_of_le hi h.size) hn).trans (h.block i hi hn)⟩
theorem Chg.set {w w1 : World} {b : Nat} (h : Chg w w1 b) (j : Nat) (v : Value) : Chg w (w1.setCell ⟨b, j, none⟩ v) b :=
  ⟨h.os, h.tape, h.output, by simpa using h.size, fun i hi hn => by rw [heap_setCell_other w1 ⟨b, j, none⟩ i v (fun e => hn (by rw [e]))]; exact h.block i hi hn⟩
theorem Chg.drew {w w1 : World} {b : Nat} (h : Chg w w1 b) : Chg w w1.drew b := ⟨h.os, h.tape, h.output, h.size, h.block⟩
theorem Chg.alloc {w w1 : World} {b : Nat} (h : Chg w w1 b) (o : Obj) : Chg w (w1.alloc o) b :=
  ⟨h.os, h.tape, h.output, by have := h.size; simp; omega, fun i hi hn => by rw [heap_alloc_old (h := Nat.lt_of_lt_of_le hi h.size)]; exact h.block i hi hn⟩
theorem Chg.below {w w1 : World} {b B : Nat} (h : Chg w w1 b) (hB : B ≤ b) (hw : B ≤ w.heap.size) : Below B w w1 := (Below.refl B w).grown h hw (fun k e => by cases e; exact hB)

/-- Raise: the errors, and the set of pending lines behind it. -/
theorem raise_out (w : World) (b : Nat) (r : List Int) (p m : Nat) (l : Int) (h : GicAt w b r p m) (hl : l < 0 ∨ 32 ≤ l) :
    Calls Tryd.prog 12 #[.pointer (some ⟨b, 0, none⟩), .int .i64 l] w fun e w' => e = .returned (.tuple #[.bool false, .int .i64 90]) ∧ w = w' := by
  rcases hl with hl | hl
  · go_enter Tryd.func12, Tryd.ntmps12
    go_wp2
    go_ret2
    exact ⟨rfl, rfl⟩
  · have hd : decide (l < 0) = false := by simp only [decide_eq_false_iff_not]; omega
    go_enter Tryd.func12, Tryd.ntmps12
    go_wp2
    go_ret2
    exact ⟨rfl, rfl⟩
set_option maxHeartbeats 400000 in
theorem raise_yes (w : World) (b : Nat) (r : List Int) (p m : Nat) (k : Nat) (h : GicAt w b r p m) (hk : k < 32) (hr : nth r k ≠ 0) :
    Calls Tryd.prog 12 #[.pointer (some ⟨b, 0, none⟩), .int .i64 k] w fun e w' => e = .returned (.tuple #[.bool (!(p.testBit k)), .int .i64 0]) ∧ GicAt w' b r (p ||| 2 ^ k) m ∧ Chg w w' b := by
  have hp := Lib.hid h.hp
  have hc1 := h.route k hk
  have hc2 := h.pend
  have hf := h.free 32
  have H := Lib.hid h
  have hn : (nth r k != 0) = true := by simpa using hr
  have hd : decide ((k : Int) < 0) = false := by simp only [decide_eq_false_iff_not]; omega
  clear hr h
  go_enter Tryd.func12, Tryd.ntmps12
  go_wp2
  go_region
  go_wp2
  rw [or_bit p k hp.out hk]
  go_ret2
  exact ⟨by rw [or_new p k hp.out]; rfl, (H.out.setP _ (Nat.or_lt_two_pow (n := 32) hp.out (two_lt k hk))).drew, ((Chg.refl w b).set 32 _).drew⟩
set_option maxHeartbeats 400000 in
theorem raise_no (w : World) (b : Nat) (r : List Int) (p m : Nat) (k : Nat) (h : GicAt w b r p m) (hk : k < 32) (hr : nth r k = 0) :
    Calls Tryd.prog 12 #[.pointer (some ⟨b, 0, none⟩), .int .i64 k] w fun e w' => e = .returned (.tuple #[.bool false, .int .i64 0]) ∧ w = w' := by
  have hc1 := h.route k hk
  have hc2 := h.pend
  have hn : (nth r k != 0) = false := by simpa using hr
  have hd : decide ((k : Int) < 0) = false := by simp only [decide_eq_false_iff_not]; omega
  clear hr h
  go_enter Tryd.func12, Tryd.ntmps12
  go_wp2
  go_ret2
  exact ⟨by simp, rfl⟩

/-! ### Route -/
theorem route_line (w : World) (b : Nat) (l c : Int) (hl : l < 0 ∨ 32 ≤ l) :
    Calls Tryd.prog 20 #[.pointer (some ⟨b, 0, none⟩), .int .i64 l, .int .i64 c] w fun e w' => e = .returned (.int .i64 90) ∧ w = w' := by
  rcases hl with hl | hl
  · go_enter Tryd.func20, Tryd.ntmps20
    go_wp2
    go_ret
    exact ⟨rfl, rfl⟩
  · have hd : decide (l < 0) = false := by simp only [decide_eq_false_iff_not]; omega
    go_enter Tryd.func20, Tryd.ntmps20
    go_wp2
    go_ret
    exact ⟨rfl, rfl⟩
theorem route_cell (w : World) (b : Nat) (k : Nat) (c : Int) (hk : k < 32) (hc : c ≠ 0) (hi : isC c = false) :
    Calls Tryd.prog 20 #[.pointer (some ⟨b, 0, none⟩), .int .i64 k, .int .i64 c] w fun e w' => e = .returned (.int .i64 91) ∧ w = w' := by
  have hd : decide ((k : Int) < 0) = false := by simp only [decide_eq_false_iff_not]; omega
  have hn : (c != 0) = true := by simpa using hc
  clear hc
  go_enter Tryd.func20, Tryd.ntmps20
  go_wp2_with (go_at_call 37; refine (is_any _ _).mono ?_; rintro e w' ⟨rfl, rfl⟩)
  go_ret
  exact ⟨rfl, rfl⟩
/-- What Route makes of the three parts. -/
def drop (x k : Nat) : Nat := x &&& (4294967295 - 2 ^ k)
theorem drop_lt (x k : Nat) : drop x k < 4294967296 := Nat.and_lt_two_pow (n := 32) _ (Nat.lt_of_le_of_lt (Nat.sub_le _ _) (by decide))
set_option maxHeartbeats 1000000 in
theorem route_new (w : World) (b : Nat) (r : List Int) (p m : Nat) (k : Nat) (c : Int) (h : GicAt w b r p m) (hk : k < 32) (hc : c = 0 ∨ isC c = true) (hr : nth r k ≠ c) :
    Calls Tryd.prog 20 #[.pointer (some ⟨b, 0, none⟩), .int .i64 k, .int .i64 c] w fun e w' => e = .returned (.int .i64 0) ∧ GicAt w' b (r.set k c) (drop p k) (drop m k) ∧ Chg w w' b := by
  have hp := Lib.hid h.hp
  have hm := Lib.hid h.hm
  have hc1 := h.route k hk
  have hc2 := h.pend
  have hc3 := h.mask
  have hf1 := h.free k
  have hf2 := h.free 32
  have hf3 := h.free 33
  have H := Lib.hid h
  have hn : (nth r k != c) = true := by simpa using hr
  have hd : decide ((k : Int) < 0) = false := by simp only [decide_eq_false_iff_not]; omega
  clear hr h
  have ed : ∀ x : Nat, x < 4294967296 → bits .andNot .u32 (x : Int) ((2 : Int) ^ k % 4294967296) = ((drop x k : Nat) : Int) := fun x hx => andNot_bit x k hx hk
  have Hed := Lib.hid ed; clear ed
  have fin : ∀ e w', e = Ending.returned (.int .i64 0) ∧ w' = (((w.setCell ⟨b, k, none⟩ (.int .i64 c)).setCell ⟨b, 32, none⟩ (.int .u32 (bits .andNot .u32 (p : Int) ((2 : Int) ^ k % 4294967296)))).setCell ⟨b, 33, none⟩ (.int .u32 (bits .andNot .u32 (m : Int) ((2 : Int) ^ k % 4294967296)))).drew.drew →
      e = Ending.returned (.int .i64 0) ∧ GicAt w' b (r.set k c) (drop p k) (drop m k) ∧ Chg w w' b := by
    rintro e w' ⟨rfl, rfl⟩
    rw [Hed.out p hp.out, Hed.out m hm.out]
    exact ⟨rfl, ((((H.out.setR k hk c).setP _ (drop_lt p k)).setM _ (drop_lt m k)).drew).drew, (((((Chg.refl w b).set k _).set 32 _).set 33 _).drew).drew⟩
  refine Calls.mono ?_ fin
  clear fin
  rcases hc with rfl | hi
  · go_enter Tryd.func20, Tryd.ntmps20
    go_wp2
    go_region
    go_wp2
    go_region
    go_wp2
    go_ret
    exact ⟨rfl, rfl⟩
  · by_cases h0 : c = 0
    · subst h0; simp [isC] at hi
    · have hz : (c != 0) = true := by simpa using h0
      clear h0
      go_enter Tryd.func20, Tryd.ntmps20
      go_wp2_with (go_at_call 37; refine (is_any _ _).mono ?_; rintro e w' ⟨rfl, rfl⟩)
      go_region
      go_wp2
      go_region
      go_wp2
      go_ret
      exact ⟨rfl, rfl⟩
set_option maxHeartbeats 1000000 in
theorem route_same (w : World) (b : Nat) (r : List Int) (p m : Nat) (k : Nat) (c : Int) (h : GicAt w b r p m) (hk : k < 32) (hc : c = 0 ∨ isC c = true) (hr : nth r k = c) :
    Calls Tryd.prog 20 #[.pointer (some ⟨b, 0, none⟩), .int .i64 k, .int .i64 c] w fun e w' => e = .returned (.int .i64 0) ∧ w = w' := by
  have hc1 := h.route k hk
  rw [hr] at hc1
  have hd : decide ((k : Int) < 0) = false := by simp only [decide_eq_false_iff_not]; omega
  clear hr h
  rcases hc with rfl | hi
  · go_enter Tryd.func20, Tryd.ntmps20
    go_wp2
    go_ret
    exact ⟨rfl, rfl⟩
  · by_cases h0 : c = 0
    · subst h0; simp [isC] at hi
    · have hz : (c != 0) = true := by simpa using h0
      clear h0
      go_enter Tryd.func20, Tryd.ntmps20
      go_wp2_with (go_at_call 37; refine (is_any _ _).mono ?_; rintro e w' ⟨rfl, rfl⟩)
      go_ret
      exact ⟨rfl, rfl⟩
end Go.Proofs.YtpedciapkalhgaaDoor.Gk
