/- What a call may turn; TrailingZeros of 16; pagePerm, Encode, Decode: contracts. No statement of the seat is proved here. -/
import Derived.Test.YthppjmlcehjjlaaDoorProg
import Derived.Test.YthppjmlcehjjlaaDoorKit
import Derived.Test.YthppjmlcehjjlaaDoorModel
import Derived.Shelf.RegionOpenPlain
import Derived.Lib.TrailingZeros
import Derived.Lib.SliceRun
import Derived.OwnWalk
import Derived.Laws.AppendOwn
import Derived.Deep.RegionHeld
namespace Go.Proofs.YthppjmlcehjjlaaDoor.En
open Go.RowKit Go.Proofs.YthppjmlcehjjlaaDoor.Kit
set_option linter.unusedSimpArgs false
set_option linter.unusedVariables false

abbrev Chg (w w' : World) (r : Option Nat) : Prop := w.grownBy w' r
theorem Chg.refl (w : World) (r : Option Nat) : Chg w w r := ⟨rfl, rfl, rfl, Nat.le_refl _, fun _ _ _ => rfl⟩
theorem Chg.trans {w w1 w2 : World} {r : Option Nat} (h : Chg w w1 r) (k : Chg w1 w2 r) : Chg w w2 r :=
  ⟨k.os.trans h.os, k.tape.trans h.tape, k.output.trans h.output, Nat.le_trans h.size k.size, fun i hi hn => (k.block i (Nat.lt_of_lt_of_le hi h.size) hn).trans (h.block i hi hn)⟩
theorem Chg.trans_new {w w1 w2 : World} {r : Option Nat} {c : Nat} (h : Chg w w1 r) (k : Chg w1 w2 (some c)) (hc : w.heap.size ≤ c) : Chg w w2 r :=
  ⟨k.os.trans h.os, k.tape.trans h.tape, k.output.trans h.output, Nat.le_trans h.size k.size, fun i hi hn => (k.block i (Nat.lt_of_lt_of_le hi h.size) (fun e => by cases e; omega)).trans (h.block i hi hn)⟩
theorem Chg.any {w w1 : World} (h : Chg w w1 none) (r : Option Nat) : Chg w w1 r := ⟨h.os, h.tape, h.output, h.size, fun i hi _ => h.block i hi (by simp)⟩
theorem Chg.set {w w1 : World} {b : Nat} (h : Chg w w1 (some b)) (j : Nat) (v : Value) : Chg w (w1.setCell ⟨b, j, none⟩ v) (some b) :=
  ⟨h.os, h.tape, h.output, by simpa using h.size, fun i hi hn => by rw [heap_setCell_other w1 ⟨b, j, none⟩ i v (fun e => hn (by rw [e]))]; exact h.block i hi hn⟩
theorem Chg.set_new {w w1 : World} {r : Option Nat} {b : Nat} (h : Chg w w1 r) (j : Nat) (v : Value) (hb : w.heap.size ≤ b) : Chg w (w1.setCell ⟨b, j, none⟩ v) r :=
  ⟨h.os, h.tape, h.output, by simpa using h.size, fun i hi hn => by rw [heap_setCell_other w1 ⟨b, j, none⟩ i v (by show i ≠ b; omega)]; exact h.block i hi hn⟩
theorem Chg.drewN {w w1 : World} {r : Option Nat} (h : Chg w w1 r) (n : Nat) : Chg w (w1.drewN n) r := ⟨h.os, h.tape, h.output, h.size, h.block⟩
theorem Chg.alloc {w w1 : World} {r : Option Nat} (h : Chg w w1 r) (o : Obj) : Chg w (w1.alloc o) r :=
  ⟨h.os, h.tape, h.output, by have := h.size; simp; omega, fun i hi hn => by rw [heap_alloc_old (h := Nat.lt_of_lt_of_le hi h.size)]; exact h.block i hi hn⟩

theorem Chg.of_below {w w' : World} (h : Below w.heap.size w w') : Chg w w' none := ⟨h.os, h.tape, h.output, h.size, fun i hi _ => h.block i hi⟩
theorem Chg.below {w w' : World} (h : Chg w w' none) : Below w.heap.size w w' := ⟨h.os, h.tape, h.output, h.size, fun i hi => h.block i hi (by simp)⟩
theorem cell_kept {w w' : World} {b x : Nat} {v : Value} {r : Option Nat} (h : w.cell? ⟨b, x, none⟩ = some v) (hC : Chg w w' r) (hn : r ≠ some b) : w'.cell? ⟨b, x, none⟩ = some v := by
  rw [World.cell?_of_block (hC.block b (World.block_lt_of_cell? w _ h) (fun e => hn e.symm))]; exact h
/-- What the library's variables hold: the table of TrailingZeros; two errors. -/
structure Lb (w : World) : Prop where
  tab : ∀ i, i < 64 → w.cell? ⟨5, i, none⟩ = some (.int .u8 ((Lib.deBruijn64tab.getD i 0 : Nat) : Int))
  syn : ∃ t p, w.cell? ⟨1, 0, none⟩ = some (.iface t p)
  rng : ∃ t p, w.cell? ⟨2, 0, none⟩ = some (.iface t p)
theorem Lb.kept {w w' : World} (h : Lb w) (hg : Chg w w' none) : Lb w' := by
  obtain ⟨t1, p1, h1⟩ := h.syn
  obtain ⟨t2, p2, h2⟩ := h.rng
  exact ⟨fun i hi => cell_kept (h.tab i hi) hg (by simp), ⟨t1, p1, cell_kept h1 hg (by simp)⟩, ⟨t2, p2, cell_kept h2 hg (by simp)⟩⟩
theorem tz_core (x k idx : Nat) (w : World) (hx0 : ((x : Int) == 0) = false)
    (key : IntKind.u64.wrap (bits BinOp.and IntKind.u64 (x : Int) (IntKind.u64.wrap (-(x : Int))) * 285870213051353865) / 288230376151711744 = (idx : Int))
    (hi : idx < 64) (hk : k < 64) (hcell : w.cell? ⟨5, idx, none⟩ = some (.int .u8 k)) :
    Calls Tryd.prog 61 #[.int .u64 x] w fun e w' => e = .returned (.int .i64 k) ∧ w = w' := by
  go_enter Tryd.func61, Tryd.ntmps61
  go_wp2
  go_ret
  exact ⟨rfl, rfl⟩
theorem tz64_16 (w : World) (hT : Lb w) : Calls Tryd.prog 61 #[.int .u64 (16 : Nat)] w fun e w' => e = .returned (.int .i64 (4 : Nat)) ∧ w = w' := by
  have h := Lib.deBruijn64_at 4 (by omega)
  have hc := hT.tab _ h.1
  rw [h.2] at hc
  exact tz_core 16 4 _ w (by decide) (by decide +kernel) h.1 (by omega) hc
theorem tz_16 (w : World) (hT : Lb w) : Calls Tryd.prog 54 #[.int .u64 16] w fun e w' => e = .returned (.int .i64 4) ∧ w = w' := by
  have H := Lib.hid hT
  clear hT
  go_enter Tryd.func54, Tryd.ntmps54
  go_wp2_with fail
  refine (tz64_16 _ H.out).mono ?_
  rintro e w' ⟨rfl, rfl⟩
  go_wp2
  go_ret
  exact ⟨rfl, rfl⟩

/-! ### pagePerm -/
theorem pageB_key : ∀ p : Fin 256, ((bits BinOp.andNot IntKind.u8 (p.val : Int) 7 == 0) && ((bits BinOp.and IntKind.u8 (p.val : Int) 5 != 0) && ((bits BinOp.and IntKind.u8 (p.val : Int) 2 == 0) || (bits BinOp.and IntKind.u8 (p.val : Int) 1 != 0)))) = pagep p.val := by decide +kernel
theorem page_core (w : World) (p a b c d : Int) (ha : bits BinOp.andNot IntKind.u8 p 7 = a) (hb : bits BinOp.and IntKind.u8 p 5 = b) (hc : bits BinOp.and IntKind.u8 p 2 = c) (hd : bits BinOp.and IntKind.u8 p 1 = d)
    (x1 x2 x3 x4 : Bool) (h1 : (a == 0) = x1) (h2 : (b != 0) = x2) (h3 : (c == 0) = x3) (h4 : (d != 0) = x4) :
    Calls Tryd.prog 11 #[.int .u8 p] w fun e w' => e = .returned (.bool (x1 && (x2 && (x3 || x4)))) ∧ w = w' := by
  cases x1 <;> cases x2 <;> cases x3 <;> cases x4
  all_goals
    go_enter Tryd.func11, Tryd.ntmps11
    go_wp2
    go_ret
    exact ⟨rfl, rfl⟩
theorem page_any (w : World) (p : Nat) (hp : p < 256) : Calls Tryd.prog 11 #[.int .u8 p] w fun e w' => e = .returned (.bool (pagep p)) ∧ w = w' := by
  have K := pageB_key ⟨p, hp⟩
  simp only at K
  rw [← K]
  exact page_core w p _ _ _ _ rfl rfl rfl rfl _ _ _ _ rfl rfl rfl rfl

/-! ### Encode -/
theorem ofInt_32 (a : Nat) (ha : a < 4294967296) : (BitVec.ofInt 32 (a : Int)).toNat = a := by
  rw [BitVec.ofInt_natCast, BitVec.toNat_ofNat]; exact Nat.mod_eq_of_lt (by omega)
theorem or_u32 (a b : Nat) (ha : a < 4294967296) (hb : b < 4294967296) : bits .or .u32 (a : Int) (b : Int) = ((a ||| b : Nat) : Int) := by
  have hx : a ||| b < 2 ^ 32 := Nat.or_lt_two_pow (by omega) (by omega)
  show IntKind.u32.wrap ((BitVec.ofInt 32 (a : Int) ||| BitVec.ofInt 32 (b : Int)).toNat : Int) = _
  rw [BitVec.toNat_or, ofInt_32 a ha, ofInt_32 b hb, IntKind.wrap_u32']
  omega
theorem or_add (a b i : Nat) (h : b < 2 ^ i) : 2 ^ i * a ||| b = 2 ^ i * a + b := (Nat.two_pow_add_eq_or_of_lt h a).symm
theorem word_low (p : Nat) (hp : p < 8) : bits BinOp.or IntKind.u32 1 ((p : Int) * 2) = ((2 * p + 1 : Nat) : Int) := by
  have h := or_u32 1 (p * 2) (by omega) (by omega)
  have e : 1 ||| p * 2 = 2 * p + 1 := by
    rw [Nat.or_comm, Nat.mul_comm]
    exact or_add p 1 1 (by decide)
  rw [e] at h
  exact h
theorem word_page (p f : Nat) (hp : p < 8) (hf : f < 4096) : bits BinOp.or IntKind.u32 ((f : Int) * 4096 % 4294967296) (bits BinOp.or IntKind.u32 1 ((p : Int) * 2)) = ((4096 * f + 2 * p + 1 : Nat) : Int) := by
  rw [word_low p hp, show (f : Int) * 4096 % 4294967296 = ((4096 * f : Nat) : Int) by omega, or_u32 _ _ (by omega) (by omega)]
  rw [or_add f (2 * p + 1) 12 (by omega)]
  rfl
theorem word_table (f : Nat) (hf : f < 4096) : bits BinOp.or IntKind.u32 ((f : Int) * 4096 % 4294967296) 17 = ((4096 * f + 17 : Nat) : Int) := by
  have h := or_u32 (4096 * f) 17 (by omega) (by omega)
  rw [or_add f 17 12 (by omega)] at h
  rw [show (f : Int) * 4096 % 4294967296 = ((4096 * f : Nat) : Int) by omega]
  exact h
def entV (k : Int) (p f : Nat) : Value := .agg #[.int .i64 k, .int .u8 p, .int .u32 f]
set_option maxHeartbeats 1000000 in
theorem enc_any (w : World) (k : Int) (p f : Nat) (hp : p < 256) (hf : f < 4294967296) (hk : -9223372036854775808 ≤ k ∧ k ≤ 9223372036854775807) :
    Calls Tryd.prog 7 #[.agg #[.int .i64 k, .int .u8 p, .int .u32 f]] w fun e w' => e = .returned (.tuple #[.int .u32 (encW ⟨k, p, f⟩).1, .int .i64 (encW ⟨k, p, f⟩).2]) ∧ Chg w w' none := by
  have C1 := Lib.hid ((Chg.refl w none).alloc (.cells #[.int .i64 k, .int .u8 p, .int .u32 f] 27))
  by_cases h0 : k = 0
  · subst h0
    by_cases h1 : p = 0
    · subst h1
      by_cases h2 : f = 0
      · subst h2
        go_enter Tryd.func7, Tryd.ntmps7
        go_wp2
        go_ret2
        exact ⟨rfl, C1.out⟩
      · have e : encW ⟨0, 0, f⟩ = (0, 42) := by simp [encW, h2]
        rw [e]
        have hx : decide ((0 : Int) < (f : Int)) = true := by simp; omega
        have hy : decide (0 < f) = true := by simp; omega
        clear e h2
        go_enter Tryd.func7, Tryd.ntmps7
        go_wp2
        go_ret2
        exact ⟨rfl, C1.out⟩
    · have e : encW ⟨0, p, f⟩ = (0, 41) := by simp [encW, h1]
      rw [e]
      have hx : ((p : Int) == 0) = false := by simp; omega
      clear e h1
      go_enter Tryd.func7, Tryd.ntmps7
      go_wp2
      go_ret2
      exact ⟨rfl, C1.out⟩
  · by_cases h1 : k = 1
    · subst h1
      cases hq : pagep p with
      | false =>
        have e : encW ⟨1, p, f⟩ = (0, 41) := by simp [encW, hq]
        rw [e]
        have HQ := Lib.hid hq
        clear e h0 hq
        go_enter Tryd.func7, Tryd.ntmps7
        go_wp2_with fail
        go_quiet ((go_at_call 11; exact Calls.quiet_of_same ((page_any _ p hp).mono (fun e w' h => ⟨(by rw [HQ.out] at h; exact h.1), h.2.symm⟩))))
        go_wp2
        go_ret2
        exact ⟨rfl, C1.out.drewN _⟩
      | true =>
        by_cases h2 : 4095 < f
        · have e : encW ⟨1, p, f⟩ = (0, 42) := by simp [encW, hq, h2]
          rw [e]
          have HQ := Lib.hid hq
          have hx : decide ((4095 : Int) < (f : Int)) = true := by simp; omega
          have hy : decide (4095 < f) = true := by simp; omega
          clear e h0 hq h2
          go_enter Tryd.func7, Tryd.ntmps7
          go_wp2_with fail
          go_quiet ((go_at_call 11; exact Calls.quiet_of_same ((page_any _ p hp).mono (fun e w' h => ⟨(by rw [HQ.out] at h; exact h.1), h.2.symm⟩))))
          go_wp2
          go_ret2
          exact ⟨rfl, C1.out.drewN _⟩
        · have e : encW ⟨1, p, f⟩ = (4096 * f + 2 * p + 1, 0) := by simp [encW, hq, h2]
          rw [e]
          have HQ := Lib.hid hq
          have WP := Lib.hid (word_page p f (by rcases pagep_cases hq with rfl | rfl | rfl | rfl | rfl <;> decide) (by omega))
          have hx : decide ((4095 : Int) < (f : Int)) = false := by simp; omega
          have hy : decide (4095 < f) = false := by simp; omega
          clear e h0 hq h2
          go_enter Tryd.func7, Tryd.ntmps7
          go_wp2_with fail
          go_quiet ((go_at_call 11; exact Calls.quiet_of_same ((page_any _ p hp).mono (fun e w' h => ⟨(by rw [HQ.out] at h; exact h.1), h.2.symm⟩))))
          go_wp2
          go_ret2
          exact ⟨by rw [← WP.out]; rfl, C1.out.drewN _⟩
    · by_cases h2 : k = 2
      · subst h2
        by_cases h3 : p = 0
        · subst h3
          by_cases h4 : 4095 < f
          · have e : encW ⟨2, 0, f⟩ = (0, 42) := by simp [encW, h4]
            rw [e]
            have hx : decide ((4095 : Int) < (f : Int)) = true := by simp; omega
            have hy : decide (4095 < f) = true := by simp; omega
            clear e h0 h1 h4
            go_enter Tryd.func7, Tryd.ntmps7
            go_wp2
            go_ret2
            exact ⟨rfl, C1.out⟩
          · have e : encW ⟨2, 0, f⟩ = (4096 * f + 17, 0) := by simp [encW, h4]
            rw [e]
            have WP := Lib.hid (word_table f (by omega))
            have hx : decide ((4095 : Int) < (f : Int)) = false := by simp; omega
            have hy : decide (4095 < f) = false := by simp; omega
            clear e h0 h1 h4
            go_enter Tryd.func7, Tryd.ntmps7
            go_wp2
            go_ret2
            exact ⟨by rw [← WP.out]; rfl, C1.out⟩
        · have e : encW ⟨2, p, f⟩ = (0, 41) := by simp [encW, h3]
          rw [e]
          have hx : ((p : Int) == 0) = false := by simp; omega
          clear e h0 h1 h3
          go_enter Tryd.func7, Tryd.ntmps7
          go_wp2
          go_ret2
          exact ⟨rfl, C1.out⟩
      · have e : encW ⟨k, p, f⟩ = (0, 40) := by simp [encW, h0, h1, h2]
        rw [e]
        have x0 : (k == 0) = false := by simpa using h0
        have x1 : (k == 1) = false := by simpa using h1
        have x2 : (k == 2) = false := by simpa using h2
        clear e h0 h1 h2
        go_enter Tryd.func7, Tryd.ntmps7
        go_wp2
        go_ret2
        exact ⟨rfl, C1.out⟩
end Go.Proofs.YthppjmlcehjjlaaDoor.En
