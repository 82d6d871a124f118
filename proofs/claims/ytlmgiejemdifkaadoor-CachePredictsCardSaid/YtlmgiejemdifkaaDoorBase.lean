/- TrailingZeros of small powers of two; where an address is of: contracts. No statement of the seat is proved here. -/
import Derived.Test.YtlmgiejemdifkaaDoorProg
import Derived.Test.YtlmgiejemdifkaaDoorKit
import Derived.Test.YtlmgiejemdifkaaDoorModel
import Derived.Shelf.RegionOpenPlain
import Derived.Lib.TrailingZeros
import Derived.Lib.SliceRun
import Derived.OwnWalk
import Derived.Laws.AppendOwn
import Derived.Deep.RegionHeld
namespace Go.Proofs.YtlmgiejemdifkaaDoor.Ca
open Go.RowKit Go.Proofs.YtlmgiejemdifkaaDoor.Kit
set_option linter.unusedSimpArgs false
set_option linter.unusedVariables false

abbrev Chg (w w' : World) (r : Option Nat) : Prop := w.grownBy w' r
theorem Chg.refl (w : World) (r : Option Nat) : Chg w w r := ⟨rfl, rfl, rfl, Nat.le_refl _, fun _ _ _ => rfl⟩
theorem Chg.trans {w w1 w2 : World} {r : Option Nat} (h : Chg w w1 r) (k : Chg w1 w2 r) : Chg w w2 r :=
  ⟨k.os.trans h.os, k.tape.trans h.tape, k.output.trans h.output, Nat.le_trans h.size k.size, fun i hi hn => (k.block i (Nat.lt_of_lt_of_le hi h.size) hn).trans (h.block i hi hn)⟩
theorem Chg.trans_new {w w1 w2 : World} {r : Option Nat} {c : Nat} (h : Chg w w1 r) (k : Chg w1 w2 (some c)) (hc : w.heap.size ≤ c) : Chg w w2 r :=
  ⟨k.os.trans h.os, k.tape.trans h.tape, k.output.trans h.output, Nat.le_trans h.size k.size, fun i hi hn => (k.block i (Nat.lt_of_lt_of_le hi h.size) (fun e => by cases e; omega)).trans (h.block i hi hn)⟩
theorem Chg.any {w w1 : World} (h : Chg w w1 none) (r : Option Nat) : Chg w w1 r := ⟨h.os, h.tape, h.output, h.size, fun i hi _ => h.block i hi (by simp)⟩
theorem Chg.set {w w1 : World} {b : Nat} (h : Chg w w1 (some b)) (j : Nat) (v : Value) : Chg w (w1.setCell ⟨b, j, none⟩ v) (some b) :=
  ⟨h.os, h.tape, h.output, by simpa using h.size, fun i hi hn => by rw [heap_setCell_other w1 ⟨b, j, none⟩ i v (fun e => hn (by rw [e]))]; exact h.block i hi hn⟩
theorem Chg.set_new {w w1 : World} {r : Option Nat} {b : Nat} (h : Chg w w1 r) (j : Nat) (v : Value) (hb : w.heap.size ≤ b) : Chg w (w1.setCell ⟨b, j, none⟩ v) r :=
  ⟨h.os, h.tape, h.output, by simpa using h.size, fun i hi hn => by rw [heap_setCell_other w1 ⟨b, j, none⟩ i v (by show i ≠ b; omega)]; exact h.block i hi hn⟩
theorem Chg.drewN {w w1 : World} {r : Option Nat} (h : Chg w w1 r) (n : Nat) : Chg w (w1.drewN n) r := ⟨h.os, h.tape, h.output, h.size, h.block⟩
theorem Chg.alloc {w w1 : World} {r : Option Nat} (h : Chg w w1 r) (o : Obj) : Chg w (w1.alloc o) r :=
  ⟨h.os, h.tape, h.output, by have := h.size; simp; omega, fun i hi hn => by rw [heap_alloc_old (h := Nat.lt_of_lt_of_le hi h.size)]; exact h.block i hi hn⟩

/-! ### TrailingZeros -/
/-- The library's table, as its initialiser lays it. -/
def TabAt (w : World) : Prop := ∀ i, i < 64 → w.cell? ⟨1, i, none⟩ = some (.int .u8 ((Lib.deBruijn64tab.getD i 0 : Nat) : Int))
theorem TabAt.kept {w w' : World} {r : Option Nat} (h : TabAt w) (hg : Chg w w' r) (hb : r ≠ some 1) : TabAt w' := fun i hi => by
  have h0 : 1 < w.heap.size := World.block_lt_of_cell? w _ (h i hi)
  rw [World.cell?_of_block (hg.block 1 h0 (fun e => hb e.symm))]; exact h i hi
theorem tz_core (x k idx : Nat) (w : World) (hx0 : ((x : Int) == 0) = false)
    (key : IntKind.u64.wrap (bits BinOp.and IntKind.u64 (x : Int) (IntKind.u64.wrap (-(x : Int))) * 285870213051353865) / 288230376151711744 = (idx : Int))
    (hi : idx < 64) (hk : k < 64) (hcell : w.cell? ⟨1, idx, none⟩ = some (.int .u8 k)) :
    Calls Tryd.prog 65 #[.int .u64 x] w fun e w' => e = .returned (.int .i64 k) ∧ w = w' := by
  go_enter Tryd.func65, Tryd.ntmps65
  go_wp2
  go_ret
  exact ⟨rfl, rfl⟩
theorem tz64_pow (x j : Nat) (hx : x = 2 ^ j) (hj : j ≤ 8) (w : World) (hT : TabAt w) : Calls Tryd.prog 65 #[.int .u64 x] w fun e w' => e = .returned (.int .i64 j) ∧ w = w' := by
  have h := Lib.deBruijn64_at j (by omega)
  have hc := hT _ h.1
  rw [h.2] at hc
  subst hx
  refine tz_core (2 ^ j) j _ w ?_ ?_ h.1 (by omega) hc
  · have : 0 < 2 ^ j := Nat.two_pow_pos j
    simp only [beq_eq_false_iff_ne]; omega
  · rcases (show j = 0 ∨ j = 1 ∨ j = 2 ∨ j = 3 ∨ j = 4 ∨ j = 5 ∨ j = 6 ∨ j = 7 ∨ j = 8 by omega) with rfl | rfl | rfl | rfl | rfl | rfl | rfl | rfl | rfl <;> decide +kernel
theorem tz_pow (x j : Nat) (hx : x = 2 ^ j) (hj : j ≤ 8) (w : World) (hT : TabAt w) : Calls Tryd.prog 51 #[.int .u64 x] w fun e w' => e = .returned (.int .i64 j) ∧ w = w' := by
  have H := Lib.hid hT
  have HX := Lib.hid hx
  clear hT hx
  go_enter Tryd.func51, Tryd.ntmps51
  go_wp2_with fail
  refine (tz64_pow x j HX.out hj _ H.out).mono ?_
  rintro e w' ⟨rfl, rfl⟩
  go_wp2
  go_ret
  exact ⟨rfl, rfl⟩

/-! ### where an address is of -/
/-- A shape whose Sets and Line are powers of two. -/
structure Shp where
  S : Nat
  W : Nat
  L : Nat
  i : Nat
  j : Nat
  hS : S = 2 ^ i
  hL : L = 2 ^ j
  hi : i ≤ 8
  hj : j ≤ 8
  hj4 : 4 ≤ j
  hW : 1 ≤ W ∧ W ≤ 8
theorem Shp.Sle (s : Shp) : 1 ≤ s.S ∧ s.S ≤ 256 := by
  rw [s.hS]
  exact ⟨Nat.two_pow_pos _, (Nat.pow_le_pow_right (by decide) s.hi : 2 ^ s.i ≤ 2 ^ 8)⟩
theorem Shp.Lle (s : Shp) : 16 ≤ s.L ∧ s.L ≤ 256 := by
  rw [s.hL]
  exact ⟨(Nat.pow_le_pow_right (by decide) s.hj4 : 2 ^ 4 ≤ 2 ^ s.j), (Nat.pow_le_pow_right (by decide) s.hj : 2 ^ s.j ≤ 2 ^ 8)⟩
theorem ofInt_64 (a : Nat) (ha : a < 18446744073709551616) : (BitVec.ofInt 64 (a : Int)).toNat = a := by
  rw [BitVec.ofInt_natCast, BitVec.toNat_ofNat]; exact Nat.mod_eq_of_lt (by omega)
theorem i64_and_nat (a b : Nat) (ha : a < 4611686018427387904) (hb : b < 4611686018427387904) : bits .and .i64 (a : Int) (b : Int) = ((a &&& b : Nat) : Int) := by
  have hx : a &&& b < 2 ^ 62 := Nat.and_lt_two_pow _ (by omega)
  show IntKind.i64.wrap ((BitVec.ofInt 64 (a : Int) &&& BitVec.ofInt 64 (b : Int)).toNat : Int) = _
  rw [BitVec.toNat_and, ofInt_64 a (by omega), ofInt_64 b (by omega)]
  have hm : ((a &&& b : Nat) : Int) % 2 ^ 64 = ((a &&& b : Nat) : Int) := by omega
  simp only [IntKind.wrap, IntKind.signed, IntKind.bits, hm]
  rw [if_neg (by simp; omega)]
theorem shr_pow {n x j : Nat} (hx : x = 2 ^ j) (hj : j ≤ 8) : (n : Int) / 2 ^ (min j 32) = ((n / x : Nat) : Int) := by
  subst hx
  rw [Nat.min_eq_left (by omega)]
  push_cast
  rfl
theorem and_pow {n x i : Nat} (hx : x = 2 ^ i) (hn : n < 4294967296) (hi : i ≤ 8) : bits BinOp.and IntKind.i64 (n : Int) ((x : Int) - 1) = ((n % x : Nat) : Int) := by
  have h1 : 1 ≤ x := by rw [hx]; exact Nat.two_pow_pos _
  have h2 : x ≤ 256 := by rw [hx]; exact (Nat.pow_le_pow_right (by decide) hi : 2 ^ i ≤ 2 ^ 8)
  rw [show (x : Int) - 1 = ((x - 1 : Nat) : Int) by omega, i64_and_nat n (x - 1) (by omega) (by omega), hx, Nat.and_two_pow_sub_one_eq_mod]
theorem wrap_u64_small {n : Nat} (h : n ≤ 256) : IntKind.u64.wrap (n : Int) = n := by
  rw [IntKind.wrap_u64]; omega
theorem place_any (w : World) (hT : TabAt w) (s : Shp) (a : Nat) (ha : a < 4294967296) : Calls Tryd.prog 33 #[.agg #[.int .i64 s.S, .int .i64 s.W, .int .i64 s.L], .int .u32 a] w fun e w' =>
    e = .returned (.tuple #[.int .i64 (setOf s.S s.L a : Nat), .int .u32 (tagOf s.S s.L a : Nat)]) ∧ Chg w w' none := by
  have H := Lib.hid (hT.kept ((Chg.refl w none).alloc (.cells #[.int .i64 s.S, .int .i64 s.W, .int .i64 s.L] 23)) (by simp))
  clear hT
  have HS := Lib.hid s.hS
  have HL := Lib.hid s.hL
  have hSb := s.Sle
  have hLb := s.Lle
  have hwL := wrap_u64_small hLb.2
  have hwS := wrap_u64_small hSb.2
  have hsh := shr_pow (n := a) s.hL s.hj
  have e1 : setOf s.S s.L a = a / s.L % s.S := rfl
  have e2 : tagOf s.S s.L a = a / s.L / s.S := rfl
  rw [e1, e2]
  clear e1 e2
  have hn : a / s.L < 4294967296 := Nat.lt_of_le_of_lt (Nat.div_le_self _ _) ha
  generalize a / s.L = n at *
  have hsh2 := shr_pow (n := n) s.hS s.hi
  have han := and_pow (n := n) s.hS hn s.hi
  go_enter Tryd.func33, Tryd.ntmps33
  go_wp2_with fail
  refine (tz_pow s.L s.j HL.out s.hj _ H.out).mono ?_
  rintro e w' ⟨rfl, rfl⟩
  go_wp2_with fail
  go_quiet ((go_at_call 51; exact Calls.quiet_of_same ((tz_pow s.S s.i HS.out s.hi _ (H.out.kept ((Chg.refl _ none).drewN _) (by simp))).mono (fun e w' h => ⟨h.1, h.2.symm⟩))))
  go_wp2
  go_ret2
  exact ⟨by simp, ((Chg.refl w none).alloc _).drewN _⟩
end Go.Proofs.YtlmgiejemdifkaaDoor.Ca
