/- awake of the statements' own text: its contract. No statement of the seat is proved here. -/
import Derived.Test.YtpedciapkalhgaaDoorBase4
namespace Go.Proofs.YtpedciapkalhgaaDoor.Gk
open Go.RowKit Go.Proofs.YtpedciapkalhgaaDoor.Kit
set_option linter.unusedSimpArgs false
set_option linter.unusedVariables false

theorem TabAt.below {w w' : World} {B : Nat} (h : TabAt w) (hb : Below B w w') (hB : 0 < B) : TabAt w' := fun i hi => (hb.cell (p := ⟨0, i, none⟩) hB).trans (h i hi)

def R2 : List Int := rt (fr [1, 2]) 32
theorem R2_1 : nth R2 1 = 2 := by decide +kernel
theorem R2_9 : nth R2 9 = 0 := by decide +kernel
theorem R2_w1 : someOf R2 2 (wait (0 ||| 2 ^ 1 ||| 2 ^ 1) 0) = 2 := by decide +kernel
theorem R2_c1 : Lib.ctz 32 (someOf R2 2 (wait (0 ||| 2 ^ 1 ||| 2 ^ 1) 0)) = 1 := by decide +kernel
theorem R2_w2 : someOf R2 2 (wait (drop (0 ||| 2 ^ 1 ||| 2 ^ 1) 1) 0) = 0 := by decide +kernel

theorem chg_below {w w1 w2 : World} {B b : Nat} (h : Below B w w1) (hw : B ≤ w1.heap.size) (hB : B ≤ b) (hc : Chg w1 w2 b) : Below B w w2 := below_chg h hB hc hw

/-- An array that the call's own text lays, as a slice. -/
theorem Rd.two (w : World) (a c : Int) (ha : i64ok a) (hc : i64ok c) : Rd (w.alloc (.cells #[.int .i64 a, .int .i64 c] 3)) (.slice (some ⟨w.heap.size, 0, none⟩) 2 2) [a, c] := by
  refine ⟨⟨_, _, rfl, fun _ => ⟨_, rfl, fun j hj => ?_⟩⟩, by simp, fun j => ?_⟩
  · rw [Addr.add_mid, Nat.zero_add, cell_of_row _ _ _ _ _ _ (heap_alloc_last w _)]
    match j, hj with
    | 0, _ => rfl
    | 1, _ => rfl
  · match j with
    | 0 => exact ha
    | 1 => exact hc
    | n + 2 => simp [nth, i64ok]

set_option maxHeartbeats 1000000 in
theorem awake_any (w : World) (hT : TabAt w) : Calls Tryd.prog 9 #[] w fun e w' => e = .returned (.bool true) ∧ Below w.heap.size w w' := by
  have h0 : 0 < w.heap.size := World.block_lt_of_cell? w _ (hT 0 (by omega))
  have HT := Lib.hid (fun w' (h : Below w.heap.size w w') => hT.below h h0); clear hT
  go_enter Tryd.func9, Tryd.ntmps9
  go_wp2_with fail
  refine (routed_any _ _ [1, 2] (Rd.two w 1 2 ⟨by decide, by decide⟩ ⟨by decide, by decide⟩)).mono ?_
  rintro e w1 ⟨rfl, g1, b1⟩
  have hs : (w.alloc (.cells #[.int .i64 1, .int .i64 2] 3)).heap.size = w.heap.size + 1 := by simp
  rw [hs] at g1 b1 ⊢
  have B1 := Lib.hid (((Below.refl w.heap.size w).alloc (Nat.le_refl _) (.cells #[.int .i64 1, .int .i64 2] 3)).trans (b1.mono (by omega)))
  have G1 := Lib.hid g1
  clear g1 b1 hs
  go_wp2_with fail
  refine (raise_yes _ _ R2 0 0 1 G1.out (by omega) (by rw [R2_1]; decide)).mono ?_
  rintro e w2 ⟨rfl, g2, c2⟩
  have B2 := Lib.hid (chg_below B1.out B1.out.size (by omega) c2)
  have G2 := Lib.hid g2
  clear g2 c2
  go_wp2_with fail
  refine (raise_yes _ _ R2 _ 0 1 G2.out (by omega) (by rw [R2_1]; decide)).mono ?_
  rintro e w3 ⟨rfl, g3, c3⟩
  have B3 := Lib.hid (chg_below B2.out B2.out.size (by omega) c3)
  have G3 := Lib.hid g3
  clear g3 c3
  go_wp2_with fail
  refine (raise_no _ _ R2 _ 0 9 G3.out (by omega) R2_9).mono ?_
  rintro e w4 ⟨rfl, rfl⟩
  go_wp2_with fail
  refine (take_some _ _ R2 _ 0 2 1 G3.out (HT.out _ B3.out) (by rw [R2_w1]; decide) R2_c1).mono ?_
  rintro e w5 ⟨rfl, g5, c5⟩
  have B5 := Lib.hid (chg_below B3.out B3.out.size (by omega) c5)
  have G5 := Lib.hid g5
  clear g5 c5
  go_wp2_with fail
  refine (take_none _ _ R2 _ 0 2 G5.out R2_w2).mono ?_
  rintro e w6 ⟨rfl, g6, c6⟩
  have B6 := Lib.hid (chg_below B5.out B5.out.size (by omega) c6)
  clear g6 c6
  go_wp2
  go_ret
  exact ⟨rfl, B6.out⟩
end Go.Proofs.YtpedciapkalhgaaDoor.Gk
