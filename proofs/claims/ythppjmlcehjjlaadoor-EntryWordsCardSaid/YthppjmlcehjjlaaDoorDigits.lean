/- A number in base 16, and in three digits: contracts. No statement of the seat is proved here. -/
import Derived.Test.YthppjmlcehjjlaaDoorBase
import Derived.Test.YthppjmlcehjjlaaDoorShelf
import Derived.Laws.IdiomStrings
namespace Go.Proofs.YthppjmlcehjjlaaDoor.En
open Go.RowKit Go.Proofs.YthppjmlcehjjlaaDoor.Kit
set_option linter.unusedSimpArgs false
set_option linter.unusedVariables false

theorem two_16 (w : World) : Calls Tryd.prog 53 #[.int .i64 16] w fun e w' => e = .returned (.bool true) ∧ w = w' := by
  have hb : bits BinOp.and IntKind.i64 16 15 = 0 := by decide
  go_enter Tryd.func53, Tryd.ntmps53
  go_wp2
  go_ret
  exact ⟨rfl, rfl⟩
theorem digs_get (c : Nat) (hc : c < 16) (h : c < (⟨#[48, 49, 50, 51, 52, 53, 54, 55, 56, 57, 97, 98, 99, 100, 101, 102, 103, 104, 105, 106, 107, 108, 109, 110, 111, 112, 113, 114, 115, 116, 117, 118, 119, 120, 121, 122]⟩ : ByteArray).size) : (⟨#[48, 49, 50, 51, 52, 53, 54, 55, 56, 57, 97, 98, 99, 100, 101, 102, 103, 104, 105, 106, 107, 108, 109, 110, 111, 112, 113, 114, 115, 116, 117, 118, 119, 120, 121, 122]⟩ : ByteArray)[c] = hexd c := by
  have key : ∀ c : Fin 16, (⟨#[48, 49, 50, 51, 52, 53, 54, 55, 56, 57, 97, 98, 99, 100, 101, 102, 103, 104, 105, 106, 107, 108, 109, 110, 111, 112, 113, 114, 115, 116, 117, 118, 119, 120, 121, 122]⟩ : ByteArray).data[c.val]? = some (hexd c.val) := by decide
  have k := key ⟨c, hc⟩
  simp only at k
  exact (Array.getElem?_eq_some_iff.1 k).2
theorem and_u64 (a : Nat) (ha : a < 18446744073709551616) : bits BinOp.and IntKind.u64 (a : Int) 15 = ((a % 16 : Nat) : Int) := by
  have hx : a &&& 15 < 2 ^ 64 := Nat.and_lt_two_pow _ (by omega)
  show IntKind.u64.wrap ((BitVec.ofInt 64 (a : Int) &&& BitVec.ofInt 64 ((15 : Nat) : Int)).toNat : Int) = _
  have e1 : (BitVec.ofInt 64 (a : Int)).toNat = a := by rw [BitVec.ofInt_natCast, BitVec.toNat_ofNat]; exact Nat.mod_eq_of_lt (by omega)
  have e2 : (BitVec.ofInt 64 ((15 : Nat) : Int)).toNat = 15 := by decide
  rw [BitVec.toNat_and, e1, e2, show a &&& 15 = a % 16 from Nat.and_two_pow_sub_one_eq_mod a 4, IntKind.wrap_u64]
  omega
/-- What stands in the array from place i on. -/
def Dg (w : World) (b i : Nat) (ds : List UInt8) : Prop := ∃ cur, w.heap[b]? = some (.cells cur 89 (0, 0)) ∧ cur.size = 65 ∧ i + ds.length = 65 ∧ ∀ j (hj : j < ds.length), cur[i + j]? = some (.int .u8 (ds[j].toNat : Int))
theorem Dg.put {w : World} {b i : Nat} {ds : List UInt8} (h : Dg w b i ds) (h0 : 0 < i) (c : UInt8) : Dg (w.setCell ⟨b, i - 1, none⟩ (.int .u8 c.toNat)) b (i - 1) (c :: ds) := by
  obtain ⟨cur, h1, h2, h3, h4⟩ := h
  refine ⟨_, heap_setCell_same w b (i - 1) cur _ _ h1, by simpa using h2, by simp; omega, fun j hj => ?_⟩
  cases j with
  | zero =>
    rw [Nat.add_zero, Array.getElem?_setIfInBounds_self_of_lt (by omega)]
    rfl
  | succ j =>
    rw [Array.getElem?_setIfInBounds_ne (by omega), show i - 1 + (j + 1) = i + j by omega]
    exact h4 j (by simpa using hj)
theorem zeros93 : Tryd.zeroCells89 = Array.replicate 65 (.int .u8 0) := by kernel_rfl
theorem u93 : Tryd.prog.underlying 89 = some (.array (Tryd.prog.arrayLen 89) (Tryd.prog.elem 89)) := by kernel_rfl
theorem n93 : Tryd.prog.arrayLen 89 = 65 := by kernel_rfl
theorem s5 (w : World) : (sizeOf (Tryd.prog.elem 89)).run Tryd.prog w = .ok 1 w := by kernel_rfl
theorem slice_l (b k : Nat) (hk : 1 ≤ k ∧ k ≤ 65) (w : World) : (Instr.sliceAt 89 (.pointer (some ⟨b, 0, none⟩)) (some (.int .i64 ((k : Int) - 1))) none none).run Tryd.prog w = .ok (.slice (some ⟨b, k - 1, none⟩) (65 - (k - 1)) (65 - (k - 1))) w := by
  rw [run_sliceAt_array_l w 89 _ u93 .i64 ((k : Int) - 1) (by omega) (by rw [n93]; omega), s5, n93]
  have e : ((k : Int) - 1).toNat = k - 1 := by omega
  by_cases h : k - 1 < 65
  · simp [Result.andThen, slicedAt, e, Addr.add_mid]
    omega
  · omega
set_option maxRecDepth 100000 in
set_option maxHeartbeats 4000000 in
theorem fmt_any (w : World) (hL : Lb w) (n : Nat) (hn : n < 4096) : Calls Tryd.prog 37 #[.slice none 0 0, .int .u64 n, .int .i64 16, .bool false, .bool false] w fun e w' => e = .returned (.tuple #[.slice none 0 0, .string ⟨(hexS 2 n).toArray⟩]) ∧ Chg w w' none := by
  have C1 := Lib.hid ((Chg.refl w none).alloc (.cells Tryd.zeroCells89 89))
  have L1 := Lib.hid (hL.kept C1.out)
  have I0 := Lib.hid (show Chg w (w.alloc (.cells Tryd.zeroCells89 89)) none ∧ Dg (w.alloc (.cells Tryd.zeroCells89 89)) w.heap.size 65 [] ∧ hexS 2 n = hexS (65 - 63) n ++ [] from
    ⟨C1.out, ⟨_, heap_alloc_last w _, by rw [zeros93]; simp, rfl, fun j hj => by simp at hj⟩, by simp⟩)
  clear hL
  go_enter Tryd.func37, Tryd.ntmps37
  go_wp2_with fail
  refine (two_16 _).mono ?_
  rintro e w' ⟨rfl, rfl⟩
  go_wp2_with fail
  refine (tz_16 _ L1.out).mono ?_
  rintro e w' ⟨rfl, rfl⟩
  go_wp2_with fail
  generalize w.alloc (.cells Tryd.zeroCells89 89) = w1 at *
  go_loopw [1, 13] (fun v i wr => ∃ (u k : Nat) (ds : List UInt8), v = .int .u64 u ∧ i = .int .i64 k ∧ u < 4096 ∧ 63 ≤ k ∧ k ≤ 65 ∧ (k = 64 → u < 256) ∧ (k = 63 → u < 16) ∧ Hid (Chg w wr none ∧ Dg wr w.heap.size k ds ∧ hexS 2 n = hexS (k - 63) u ++ ds)) (fun _ i _ => (intOf i).toNat)
  case atStart => exact ⟨n, 65, [], rfl, rfl, hn, by omega, by omega, by omega, by omega, I0⟩
  case round =>
    obtain ⟨u, k, ds, rfl, rfl, hu, hk1, hk2, hk3, hk4, I⟩ := hrel
    clear I0
    by_cases h16 : 16 ≤ u
    · have ha := and_u64 u (by omega)
      have hdx := digs_get (u % 16) (by omega) (show u % 16 < 36 by omega)
      have hi : 0 ≤ (k : Int) - 1 := by omega
      obtain ⟨cur, g1, g2, g3, g4⟩ := I.out.2.1
      have s0 : ∃ v, wr.cell? ⟨w.heap.size, k - 1, none⟩ = some v := ⟨cur[k - 1], by rw [cell_of_row _ _ _ _ _ _ g1, Array.getElem?_eq_getElem]⟩
      obtain ⟨v0, s0⟩ := s0
      have f0 := frozen_of_row wr w.heap.size (k - 1) _ _ g1
      have hkn : ((k : Int) - 1).toNat = k - 1 := by omega
      have F := Lib.hid (show Chg w (wr.setCell ⟨w.heap.size, k - 1, none⟩ (.int .u8 (hexd (u % 16)).toNat)) none ∧ Dg (wr.setCell ⟨w.heap.size, k - 1, none⟩ (.int .u8 (hexd (u % 16)).toNat)) w.heap.size (k - 1) (hexd (u % 16) :: ds) ∧ hexS 2 n = hexS (k - 1 - 63) (u / 16) ++ hexd (u % 16) :: ds from
        ⟨I.out.1.set_new _ _ (Nat.le_refl _), I.out.2.1.put (by omega) _, by
          rw [I.out.2.2, show k - 63 = (k - 1 - 63) + 1 by omega]
          show (if u < 16 then _ else _) ++ ds = _
          rw [if_neg (by omega), List.append_assoc]; rfl⟩)
      clear g1 g2 g3 g4
      go_wp2_with fail
      go_roundw
      case rel => exact ⟨u / 16, k - 1, hexd (u % 16) :: ds, by congr 1, by congr 1; omega, by omega, by omega, by omega, by omega, by omega, F⟩
      case measure => simp [intOf]; omega
    · have h16' : (u : Int) < 16 := by omega
      have hdx := digs_get u (by omega) (show u < 36 by omega)
      obtain ⟨cur, g1, g2, g3, g4⟩ := I.out.2.1
      obtain ⟨v0, s0⟩ : ∃ v, wr.cell? ⟨w.heap.size, k - 1, none⟩ = some v := ⟨cur[k - 1], by rw [cell_of_row _ _ _ _ _ _ g1, Array.getElem?_eq_getElem]⟩
      have f0 := frozen_of_row wr w.heap.size (k - 1) _ _ g1
      have hi : 0 ≤ (k : Int) - 1 := by omega
      have hsl := slice_l w.heap.size k (by omega)
      have hkn : ((k : Int) - 1).toNat = k - 1 := by omega
      have D2 := I.out.2.1.put (show 0 < k by omega) (hexd u)
      obtain ⟨cur2, q1, q2, q3, q4⟩ := D2
      have hcv := run_convert_bytes_back (P := Tryd.prog) (wr.setCell ⟨w.heap.size, k - 1, none⟩ (.int .u8 (hexd u).toNat)) 41 9 5 ⟨w.heap.size, k - 1, none⟩ (65 - (k - 1)) (hexd u :: ds) Tryd.underlying41 Tryd.underlying5 Tryd.underlying9 (fun j hj => by
        rw [Addr.add_mid, cell_of_row _ _ _ _ _ _ q1]; exact q4 j hj)
      have hlen : (hexd u :: ds).length = 65 - (k - 1) := by omega
      rw [hlen] at hcv
      have E := Lib.hid (show hexS 2 n = hexd u :: ds by
        rw [I.out.2.2]
        rcases (show k = 63 ∨ k = 64 ∨ k = 65 by omega) with rfl | rfl | rfl
        · rfl
        · show (if u < 16 then _ else _) ++ ds = _
          rw [if_pos (by omega)]; rfl
        · show (if u < 16 then _ else _) ++ ds = _
          rw [if_pos (by omega)]; rfl)
      have C9 := Lib.hid (I.out.1.set_new (k - 1) (.int .u8 (hexd u).toNat) (Nat.le_refl w.heap.size))
      clear g1 g2 g3 g4 q1 q2 q3 q4 hlen
      go_wp2_with fail
      go_ret2
      exact ⟨by rw [E.out]; rfl, C9.out⟩
theorem fu_any (w : World) (hL : Lb w) (n : Nat) (hn : n < 4096) : Calls Tryd.prog 20 #[.int .u64 n, .int .i64 16] w fun e w' => e = .returned (.string ⟨(hexS 2 n).toArray⟩) ∧ Chg w w' none := by
  have H := Lib.hid (fmt_any w hL n hn)
  clear hL
  generalize (hexS 2 n).toArray = A at *
  go_enter Tryd.func20, Tryd.ntmps20
  go_wp2_with fail
  refine H.out.mono ?_
  rintro e w1 ⟨rfl, hC⟩
  have C1 := Lib.hid hC
  clear hC
  go_wp2
  go_ret
  exact ⟨rfl, C1.out⟩
theorem fup_any (w : World) (hL : Lb w) (n : Nat) (hn : n < 4096) : Calls Tryd.prog 15 #[.int .u64 n, .int .i64 16] w fun e w' => e = .returned (.string ⟨(hexS 2 n).toArray⟩) ∧ Chg w w' none := by
  have H := Lib.hid (fu_any w hL n hn)
  clear hL
  generalize (hexS 2 n).toArray = A at *
  go_enter Tryd.func15, Tryd.ntmps15
  go_wp2_with fail
  refine H.out.mono ?_
  rintro e w1 ⟨rfl, hC⟩
  have C1 := Lib.hid hC
  clear hC
  go_wp2
  go_ret
  exact ⟨rfl, C1.out⟩

/-! ### Repeat of "0" -/
theorem hp_any (w : World) (s : ByteArray) (b : Bool) (h : Lib.hasPrefix s.data.toList [48] = b) : Calls Tryd.prog 22 #[.string s, .string ⟨#[48]⟩] w fun e w' => e = .returned (.bool b) ∧ w = w' := by
  subst h
  exact (Tryd.strings_HasPrefix s ⟨#[48]⟩ w).mono fun e w' ⟨h1, h2⟩ => ⟨h1, h2.symm⟩
set_option maxRecDepth 100000 in
theorem rep_any (w : World) (k : Nat) (hk : k ≤ 2) : Calls Tryd.prog 16 #[.string ⟨#[48]⟩, .int .i64 k] w fun e w' => e = .returned (.string ⟨(List.replicate k (48 : UInt8)).toArray⟩) ∧ w = w' := by
  rcases (show k = 0 ∨ k = 1 ∨ k = 2 by omega) with rfl | rfl | rfl
  · go_enter Tryd.func16, Tryd.ntmps16
    go_wp2
    go_ret
    exact ⟨rfl, rfl⟩
  · go_enter Tryd.func16, Tryd.ntmps16
    go_wp2
    go_ret
    exact ⟨rfl, rfl⟩
  · have M := Lib.hid (fun X => Tryd.bits_Mul 1 2 (by decide) (by decide) X)
    go_enter Tryd.func16, Tryd.ntmps16
    go_wp2_with fail
    refine (M.out _).mono ?_
    rintro e w1 ⟨rfl, rfl⟩
    go_wp2_with fail
    refine (hp_any _ _ false (by kernel_rfl)).mono ?_
    rintro e w1 ⟨rfl, rfl⟩
    go_wp2_with fail
    refine (hp_any _ _ false (by kernel_rfl)).mono ?_
    rintro e w1 ⟨rfl, rfl⟩
    go_wp2_with fail
    refine (hp_any _ _ true (by kernel_rfl)).mono ?_
    rintro e w1 ⟨rfl, rfl⟩
    go_wp2
    go_ret
    exact ⟨rfl, rfl⟩

/-! ### digits -/
theorem dig_any (w : World) (hL : Lb w) (n : Nat) (hn : n < 4096) : Calls Tryd.prog 12 #[.int .u32 n] w fun e w' => e = .returned (.string ⟨(hex3 n).toArray⟩) ∧ Chg w w' none := by
  have hl := hexS_len n
  have HP := Lib.hid (hexS_pad n hn)
  have H := Lib.hid (fup_any w hL n hn)
  have wn : IntKind.u64.wrap (n : Int) = (n : Int) := by rw [IntKind.wrap_u64]; omega
  generalize hexS 2 n = L at *
  have RP := Lib.hid (fun X => rep_any X (3 - L.length) (by omega))
  have hsz : (⟨L.toArray⟩ : ByteArray).size = L.length := by simp [ByteArray.size]
  have hs3 : (3 : Int) - (L.length : Int) = ((3 - L.length : Nat) : Int) := by omega
  clear hL
  go_enter Tryd.func12, Tryd.ntmps12
  go_wp2_with fail
  refine H.out.mono ?_
  rintro e w1 ⟨rfl, hC⟩
  have C1 := Lib.hid hC
  clear hC
  go_wp2_with fail
  refine (RP.out _).mono ?_
  rintro e w2 ⟨rfl, rfl⟩
  go_wp2
  go_ret
  exact ⟨by rw [← HP.out]; rfl, C1.out⟩
end Go.Proofs.YthppjmlcehjjlaaDoor.En
