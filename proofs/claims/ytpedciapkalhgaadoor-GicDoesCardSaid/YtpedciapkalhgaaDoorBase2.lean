/- The controller's other calls: contracts. No statement of the seat is proved here. -/
import Derived.Test.YtpedciapkalhgaaDoorBase
import Derived.Deep.RegionWith
namespace Go.Proofs.YtpedciapkalhgaaDoor.Gk
open Go.RowKit Go.Proofs.YtpedciapkalhgaaDoor.Kit
set_option linter.unusedSimpArgs false
set_option linter.unusedVariables false

/-- Some draws, nothing else. -/
def Drw (w w' : World) : Prop := ∃ n, w' = w.drewN n
theorem drewN_heap (w : World) (n : Nat) : (w.drewN n).heap = w.heap := rfl
theorem GicAt.drewN {w : World} {b : Nat} {r : List Int} {p m : Nat} (h : GicAt w b r p m) (n : Nat) : GicAt (w.drewN n) b r p m := ⟨h.heap, h.len, h.hp, h.hm⟩
theorem Chg.drewN {w w1 : World} {b : Nat} (h : Chg w w1 b) (n : Nat) : Chg w (w1.drewN n) b := ⟨h.os, h.tape, h.output, h.size, h.block⟩

/-! ### Masked, Waiting -/
theorem masked_any (w : World) (b : Nat) (r : List Int) (p m : Nat) (c : Int) (h : GicAt w b r p m) :
    Calls Tryd.prog 17 #[.pointer (some ⟨b, 0, none⟩), .int .i64 c] w fun e w' => e = .returned (.int .u32 (someOf r c m)) ∧ w = w' := by
  have hc3 := h.mask
  have hm := Lib.hid h.hm
  have H := Lib.hid h
  clear h
  go_enter Tryd.func17, Tryd.ntmps17
  go_wp2_with (go_at_call 30; refine (some_any _ b r p m c m hm.out H.out).mono ?_; rintro e w' ⟨rfl, rfl⟩)
  go_ret
  exact ⟨rfl, rfl⟩
/-- The lines that wait. -/
def wait (p m : Nat) : Nat := p &&& (4294967295 - m)
theorem wait_lt (p m : Nat) : wait p m < 4294967296 := Nat.and_lt_two_pow (n := 32) _ (Nat.lt_of_le_of_lt (Nat.sub_le _ _) (by decide))
theorem wait_eq (p m : Nat) (hp : p < 4294967296) (hm : m < 4294967296) : bits .andNot .u32 (p : Int) (m : Int) = ((wait p m : Nat) : Int) := u32_andNot_nat p m hp hm
theorem waiting_any (w : World) (b : Nat) (r : List Int) (p m : Nat) (c : Int) (h : GicAt w b r p m) :
    Calls Tryd.prog 13 #[.pointer (some ⟨b, 0, none⟩), .int .i64 c] w fun e w' => e = .returned (.int .u32 (someOf r c (wait p m))) ∧ Drw w w' := by
  have hc2 := h.pend
  have hc3 := h.mask
  have hw := wait_eq p m h.hp h.hm
  have hl := Lib.hid (wait_lt p m)
  have H := Lib.hid h
  clear h
  go_enter Tryd.func13, Tryd.ntmps13
  go_wp2
  go_quiet ((go_at_call 30; exact Calls.quiet_of_same ((some_any _ b r p m c (wait p m) hl.out (H.out.drewN _)).mono (fun e w' h => ⟨h.1, h.2.symm⟩))))
  go_wp2
  go_ret
  exact ⟨rfl, _, rfl⟩

/-! ### TrailingZeros32 -/
/-- The library's table, as its initialiser lays it. -/
def TabAt (w : World) : Prop := ∀ i, i < 32 → w.cell? ⟨0, i, none⟩ = some (.int .u8 ((Lib.deBruijn32tab.getD i 0 : Nat) : Int))
theorem TabAt.kept {w w' : World} (h : TabAt w) {b : Nat} (hg : Chg w w' b) (hb : b ≠ 0) : TabAt w' := fun i hi => by
  have h0 : 0 < w.heap.size := World.block_lt_of_cell? w _ (h i hi)
  rw [World.cell?_of_block (hg.block 0 h0 (fun e => hb (Option.some.inj e).symm))]; exact h i hi
theorem TabAt.drewN {w : World} (h : TabAt w) (n : Nat) : TabAt (w.drewN n) := fun i hi => h i hi
theorem tz_core (x k idx : Nat) (w : World) (hx0 : ((x : Int) == 0) = false)
    (key : bits BinOp.and IntKind.u32 (x : Int) (-(x : Int) % 4294967296) * 125613361 % 4294967296 / 134217728 = (idx : Int))
    (hi : idx < 32) (hk : k < 32) (hcell : w.cell? ⟨0, idx, none⟩ = some (.int .u8 k)) :
    Calls Tryd.prog 36 #[.int .u32 x] w fun e w' => e = .returned (.int .i64 k) ∧ w = w' := by
  go_enter Tryd.func36, Tryd.ntmps36
  go_wp2_with (simp only [key])
  go_ret
  exact ⟨rfl, rfl⟩
theorem tz_key (x a : Nat) (hx : x < 4294967296) (hx0 : x ≠ 0) (hlow : x &&& (4294967296 - x) = a) :
    bits BinOp.and IntKind.u32 (x : Int) (-(x : Int) % 4294967296) * 125613361 % 4294967296 / 134217728 = ((a * 125613361 % 4294967296 / 134217728 : Nat) : Int) := by
  have e1 : -(x : Int) % 4294967296 = ((4294967296 - x : Nat) : Int) := by omega
  rw [e1, u32_and_nat x _ hx (by omega), hlow]
  omega
theorem tz_any (x : Nat) (hx : x < 4294967296) (hx0 : x ≠ 0) (w : World) (hT : TabAt w) :
    Calls Tryd.prog 36 #[.int .u32 x] w fun e w' => e = .returned (.int .i64 (Lib.ctz 32 x)) ∧ w = w' := by
  obtain ⟨hlow, hk⟩ := Lib.lowest_bit 32 x hx0 hx
  obtain ⟨hi, htab⟩ := Lib.deBruijn32_at _ hk
  have hcell := hT _ hi
  rw [htab] at hcell
  exact tz_core x _ _ w (by simp; omega) (tz_key x _ hx hx0 hlow) hi hk hcell

/-! ### Next, Take -/
theorem next_none (w : World) (b : Nat) (r : List Int) (p m : Nat) (c : Int) (h : GicAt w b r p m) (hz : someOf r c (wait p m) = 0) :
    Calls Tryd.prog 31 #[.pointer (some ⟨b, 0, none⟩), .int .i64 c] w fun e w' => e = .returned (.tuple #[.int .i64 0, .bool false]) ∧ Drw w w' := by
  have H := Lib.hid h; clear h
  have Hz := Lib.hid hz; clear hz
  go_enter Tryd.func31, Tryd.ntmps31
  go_wp2_with (go_at_call 13; refine (waiting_any _ b r p m c H.out).mono ?_; rintro e w' ⟨rfl, n, rfl⟩; rw [Hz.out])
  go_ret2
  exact ⟨rfl, _, rfl⟩
theorem next_some (w : World) (b : Nat) (r : List Int) (p m : Nat) (c : Int) (h : GicAt w b r p m) (hT : TabAt w) (hz : someOf r c (wait p m) ≠ 0) :
    Calls Tryd.prog 31 #[.pointer (some ⟨b, 0, none⟩), .int .i64 c] w fun e w' => e = .returned (.tuple #[.int .i64 (Lib.ctz 32 (someOf r c (wait p m))), .bool true]) ∧ Drw w w' := by
  have H := Lib.hid h; clear h
  have HT := Lib.hid hT; clear hT
  have hl := Lib.hid (someOf_lt r c (wait p m))
  have he : (((someOf r c (wait p m) : Nat) : Int) == 0) = false := by simp; omega
  have Hz := Lib.hid hz; clear hz
  go_enter Tryd.func31, Tryd.ntmps31
  go_wp2_with (first | (go_at_call 13; refine (waiting_any _ b r p m c H.out).mono ?_; rintro e w' ⟨rfl, n, rfl⟩) | (go_at_call 36; refine (tz_any _ hl.out Hz.out _ (HT.out.drewN _)).mono ?_; rintro e w' ⟨rfl, rfl⟩))
  go_ret2
  exact ⟨rfl, _, rfl⟩
theorem take_none (w : World) (b : Nat) (r : List Int) (p m : Nat) (c : Int) (h : GicAt w b r p m) (hz : someOf r c (wait p m) = 0) :
    Calls Tryd.prog 14 #[.pointer (some ⟨b, 0, none⟩), .int .i64 c] w fun e w' => e = .returned (.tuple #[.int .i64 0, .bool false]) ∧ GicAt w' b r p m ∧ Chg w w' b := by
  have H := Lib.hid h; clear h
  have Hz := Lib.hid hz; clear hz
  go_enter Tryd.func14, Tryd.ntmps14
  go_wp2_with (go_at_call 31; refine (next_none _ b r p m c H.out Hz.out).mono ?_; rintro e w' ⟨rfl, n, rfl⟩)
  go_ret2
  exact ⟨rfl, H.out.drewN _, (Chg.refl w b).drewN _⟩
set_option maxHeartbeats 400000 in
theorem take_some (w : World) (b : Nat) (r : List Int) (p m : Nat) (c : Int) (k : Nat) (h : GicAt w b r p m) (hT : TabAt w) (hz : someOf r c (wait p m) ≠ 0) (hk : Lib.ctz 32 (someOf r c (wait p m)) = k) :
    Calls Tryd.prog 14 #[.pointer (some ⟨b, 0, none⟩), .int .i64 c] w fun e w' => e = .returned (.tuple #[.int .i64 k, .bool true]) ∧ GicAt w' b r (drop p k) m ∧ Chg w w' b := by
  have hk32 : k < 32 := by rw [← hk]; exact (Lib.lowest_bit 32 _ hz (someOf_lt r c _)).2
  have hc2 := h.pend
  have hf2 := h.free 32
  have hp := Lib.hid h.hp
  have H := Lib.hid h; clear h
  have HT := Lib.hid hT; clear hT
  have Hz := Lib.hid hz; clear hz
  have HK := Lib.hid hk; clear hk
  go_enter Tryd.func14, Tryd.ntmps14
  go_wp2_with (go_at_call 31; refine (next_some _ b r p m c H.out HT.out Hz.out).mono ?_; rw [HK.out]; rintro e w' ⟨rfl, n, rfl⟩)
  go_region
  go_wp2
  go_ret2
  refine ⟨rfl, ?_, ?_⟩
  · rw [andNot_bit p k hp.out hk32]
    exact (H.out.drewN _).setP _ (drop_lt p k)
  · exact ((Chg.refl w b).drewN _).set 32 _

/-! ### Mask, Clear -/
def maskTo (r : List Int) (c : Int) (m x : Nat) : Nat := (m &&& (4294967295 - own r c)) ||| (x &&& own r c)
theorem maskTo_lt (r : List Int) (c : Int) (m x : Nat) : maskTo r c m x < 4294967296 :=
  Nat.or_lt_two_pow (n := 32) (Nat.and_lt_two_pow (n := 32) _ (Nat.lt_of_le_of_lt (Nat.sub_le _ _) (by decide))) (Nat.and_lt_two_pow (n := 32) _ (own_lt r c))
theorem mask_not (w : World) (b : Nat) (c : Int) (x : Nat) (hi : isC c = false) :
    Calls Tryd.prog 32 #[.pointer (some ⟨b, 0, none⟩), .int .i64 c, .int .u32 x] w fun e w' => e = .returned (.tuple #[]) ∧ w = w' := by
  go_enter Tryd.func32, Tryd.ntmps32
  go_wp2_with (go_at_call 37; refine (is_any _ _).mono ?_; rintro e w' ⟨rfl, rfl⟩)
  go_end0
  exact ⟨rfl, rfl⟩
set_option maxHeartbeats 400000 in
theorem mask_yes (w : World) (b : Nat) (r : List Int) (p m : Nat) (c : Int) (x : Nat) (hx : x < 4294967296) (h : GicAt w b r p m) (hi : isC c = true) :
    Calls Tryd.prog 32 #[.pointer (some ⟨b, 0, none⟩), .int .i64 c, .int .u32 x] w fun e w' => e = .returned (.tuple #[]) ∧ GicAt w' b r p (maskTo r c m x) ∧ Chg w w' b := by
  have hc3 := h.mask
  have hf3 := h.free 33
  have HX := Lib.hid hx; clear hx
  have hm := Lib.hid h.hm
  have ho := Lib.hid (own_lt r c)
  have H := Lib.hid h; clear h
  go_enter Tryd.func32, Tryd.ntmps32
  go_wp2_with (first | (go_at_call 37; refine (is_any _ _).mono ?_; rintro e w' ⟨rfl, rfl⟩) | (go_at_call 35; refine (own_any _ b r p m c H.out).mono ?_; rintro e w' ⟨rfl, rfl⟩))
  go_end0
  refine ⟨rfl, ?_, (Chg.refl w b).set 33 _⟩
  rw [u32_andNot_nat m _ hm.out ho.out, u32_and_nat x _ HX.out ho.out, u32_or_nat _ _ (Nat.and_lt_two_pow (n := 32) _ (Nat.lt_of_le_of_lt (Nat.sub_le _ _) (by decide))) (Nat.and_lt_two_pow (n := 32) _ ho.out)]
  exact H.out.setM _ (maskTo_lt r c m x)
set_option maxHeartbeats 400000 in
theorem clear_any (w : World) (b : Nat) (r : List Int) (p m : Nat) (c : Int) (h : GicAt w b r p m) :
    Calls Tryd.prog 33 #[.pointer (some ⟨b, 0, none⟩), .int .i64 c] w fun e w' => e = .returned (.tuple #[]) ∧ GicAt w' b r (wait p (someOf r c 4294967295)) m ∧ Chg w w' b := by
  have hc2 := h.pend
  have hf2 := h.free 32
  have hp := Lib.hid h.hp
  have hs := Lib.hid (someOf_lt r c 4294967295)
  have H := Lib.hid h; clear h
  go_enter Tryd.func33, Tryd.ntmps33
  go_region_with (go_at_call 30; refine (some_any _ b r p m c 4294967295 (by omega) H.out.drew).mono ?_; rintro e w' ⟨rfl, rfl⟩)
  all_goals
    go_end0
    refine ⟨rfl, ?_, ((Chg.refl w b).set 32 _).drew⟩
    rw [wait_eq p _ hp.out hs.out]
    exact (H.out.setP _ (wait_lt p _)).drew
end Go.Proofs.YtpedciapkalhgaaDoor.Gk
