/- wire.Sum: contract. No statement of the seat is proved here. -/
import Derived.Test.YtpeonoimdmdmlaaDoorWrB
import Derived.Laws.BitsAllLaws
namespace Go.Proofs.YtpeonoimdmdmlaaDoor.Tr
open Go.RowKit Go.Proofs.YtpeonoimdmdmlaaDoor.Kit
set_option linter.unusedSimpArgs false
set_option linter.unusedVariables false

def tabL : List Nat := [0, 498536548, 997073096, 651767980, 1994146192, 1802195444, 1303535960, 1342533948, 3988292384, 4027552580, 3604390888, 3412177804, 2607071920, 2262029012, 2685067896, 3183342108]
def TabS (w : World) : Prop := ∀ i, i < 16 → w.cell? ⟨0, i, none⟩ = some (.int .u32 (tabL.getD i 0 : Nat))
theorem tab_lt (i : Nat) : tabL.getD i 0 < 4294967296 := by
  by_cases h : i < 16
  · rcases (show i = 0 ∨ i = 1 ∨ i = 2 ∨ i = 3 ∨ i = 4 ∨ i = 5 ∨ i = 6 ∨ i = 7 ∨ i = 8 ∨ i = 9 ∨ i = 10 ∨ i = 11 ∨ i = 12 ∨ i = 13 ∨ i = 14 ∨ i = 15 by omega) with rfl | rfl | rfl | rfl | rfl | rfl | rfl | rfl | rfl | rfl | rfl | rfl | rfl | rfl | rfl | rfl <;> decide
  · simp [tabL, List.getD_eq_getElem?_getD, List.getElem?_eq_none (show ([0, 498536548, 997073096, 651767980, 1994146192, 1802195444, 1303535960, 1342533948, 3988292384, 4027552580, 3604390888, 3412177804, 2607071920, 2262029012, 2685067896, 3183342108] : List Nat).length ≤ i by simp; omega)]
/-- Half a byte. -/
def nib (s : Nat) : Nat := (s / 16) ^^^ tabL.getD (s &&& 15) 0
def crcS (s : Nat) (y : Int) : Nat := nib (nib (s ^^^ y.toNat))
def crcN (s : Nat) : List Int → Nat
  | [] => s
  | y :: L => crcN (crcS s y) L
theorem crcN_append (L : List Int) (y : Int) : ∀ s, crcN s (L ++ [y]) = crcS (crcN s L) y := by
  induction L with
  | nil => intro s; rfl
  | cons a L ih => intro s; exact ih _
theorem nib_lt (s : Nat) (h : s < 4294967296) : nib s < 4294967296 := Nat.xor_lt_two_pow (n := 32) (by show s / 16 < 4294967296; omega) (tab_lt _)
def inb (L : List Int) : Prop := ∀ y ∈ L, 0 ≤ y ∧ y < 256
theorem crcS_lt (s : Nat) (y : Int) (h : s < 4294967296) (hy : 0 ≤ y ∧ y < 256) : crcS s y < 4294967296 :=
  nib_lt _ (nib_lt _ (Nat.xor_lt_two_pow (n := 32) h (by show y.toNat < 4294967296; omega)))
theorem crcN_lt : ∀ (L : List Int) (s : Nat), s < 4294967296 → inb L → crcN s L < 4294967296
  | [], s, h, _ => h
  | y :: L, s, h, hl => crcN_lt L _ (crcS_lt s y h (hl y (by simp))) (fun z hz => hl z (by simp [hz]))
/-- The sum of bytes. -/
def crc (L : List Int) : Nat := 4294967295 ^^^ crcN 4294967295 L
theorem crc_nil : crc [] = 0 := by decide
set_option maxRecDepth 10000 in
set_option maxHeartbeats 4000000 in
theorem sum_any (w : World) (hT : TabS w) (g base : Nat) (v : Value) (L : List Int) (hb : By w base v L) (hi : inb L) (hg : w.cell? ⟨g, 0, none⟩ = some v) (hlen : L.length ≤ 1000000) :
    Calls Tryd.prog 15 #[.slice (some ⟨g, 0, none⟩) 1 1] w fun e w' => e = .returned (.int .u32 (crc L : Nat)) ∧ w = w' := by
  have hxm : bits .xor .u32 IntKind.u32.max 0 = 4294967295 := by decide
  have hsg : IntKind.u32.signed = false := rfl
  obtain ⟨A, cap, rfl⟩ := hb.slice
  have H := Lib.hid (fun (j : Nat) (hj : j < L.length) => Ol.at_ hb eb_len hj)
  have HI := Lib.hid hi
  have HT := Lib.hid hT
  obtain ⟨n, hn⟩ : ∃ n, n = L.length := ⟨_, rfl⟩
  have HN := Lib.hid hn
  rw [← hn] at hg hlen
  have CL := Lib.hid (crcN_lt L 4294967295 (by omega) hi)
  clear hb hi hT
  go_enter Tryd.func15, Tryd.ntmps15
  go_wp2_with fail
  go_loopw [3, 10] (fun s i wr => w = wr ∧ ((i = .int .i64 0 ∧ s = .int .u32 4294967295) ∨ (i = .int .i64 1 ∧ s = .int .u32 (crcN 4294967295 L : Nat)))) (fun _ i _ => 1 - (intOf i).toNat)
  case atStart => exact ⟨rfl, .inl ⟨rfl, rfl⟩⟩
  case round =>
    obtain ⟨rfl, hrel⟩ := hrel
    rcases hrel with ⟨rfl, rfl⟩ | ⟨rfl, rfl⟩
    · go_wp2_with fail
      go_loopw [3, 16] (fun s i wr => w = wr ∧ ∃ k : Nat, k ≤ n ∧ i = .int .i64 k ∧ s = .int .u32 (crcN 4294967295 (L.take k) : Nat)) (fun _ i _ => n - (intOf i).toNat)
      case atStart => exact ⟨rfl, 0, by omega, rfl, rfl⟩
      case round =>
        obtain ⟨rfl, k, hk, rfl, rfl⟩ := hrel
        by_cases hlt : k < n
        · obtain ⟨g2, cap2, hv, _, _, hc, _, _⟩ := H.out k (by rw [← HN.out]; exact hlt)
          have hk2 : k < L.length := by rw [← HN.out]; exact hlt
          have hcy := hc 0 (.int .u8 L[k]) (by omega) rfl
          rw [Nat.mul_one, Nat.add_zero] at hcy
          injection hv with hA _ _
          subst hA
          have hy := HI.out L[k] (List.getElem_mem hk2)
          have NX : crcN 4294967295 (L.take (k + 1)) = crcS (crcN 4294967295 (L.take k)) L[k] := by rw [List.take_succ_eq_append_getElem hk2, crcN_append]
          have SL := crcN_lt (L.take k) 4294967295 (by omega) (fun z hz => HI.out z (List.mem_of_mem_take hz))
          have NXh := Lib.hid NX
          clear NX hc
          generalize L[k] = y at *
          generalize crcN 4294967295 (L.take k) = s at *
          obtain ⟨hy0, hy1⟩ := hy
          obtain ⟨yn, rfl⟩ := Int.eq_ofNat_of_zero_le hy0
          have hyn : yn < 256 := by omega
          have x1 : s ^^^ yn < 4294967296 := Nat.xor_lt_two_pow (n := 32) SL (by show yn < 4294967296; omega)
          have hx1 := u32_xor_nat s yn SL (by omega)
          obtain ⟨s1, hs1⟩ : ∃ s1, s1 = s ^^^ yn := ⟨_, rfl⟩
          rw [← hs1] at hx1 x1
          have hx2 : bits .and .u32 (s1 : Int) 15 = ((s1 &&& 15 : Nat) : Int) := u32_and_nat s1 15 x1 (by omega)
          have hj1 : s1 &&& 15 < 16 := Nat.lt_of_le_of_lt Nat.and_le_right (by omega)
          have ht1 := HT.out (s1 &&& 15) hj1
          have x2 := nib_lt s1 x1
          have hx3 : bits .xor .u32 ((s1 : Int) / 16) ((tabL.getD (s1 &&& 15) 0 : Nat) : Int) = ((nib s1 : Nat) : Int) := u32_xor_nat (s1 / 16) _ (by omega) (tab_lt _)
          obtain ⟨s2, hs2⟩ : ∃ s2, s2 = nib s1 := ⟨_, rfl⟩
          rw [← hs2] at hx3 x2
          generalize tabL.getD (s1 &&& 15) 0 = t1 at *
          generalize s1 &&& 15 = j1 at *
          have hx4 : bits .and .u32 (s2 : Int) 15 = ((s2 &&& 15 : Nat) : Int) := u32_and_nat s2 15 x2 (by omega)
          have hj2 : s2 &&& 15 < 16 := Nat.lt_of_le_of_lt Nat.and_le_right (by omega)
          have ht2 := HT.out (s2 &&& 15) hj2
          have hx5 : bits .xor .u32 ((s2 : Int) / 16) ((tabL.getD (s2 &&& 15) 0 : Nat) : Int) = ((nib s2 : Nat) : Int) := u32_xor_nat (s2 / 16) _ (by omega) (tab_lt _)
          have NZ := Lib.hid (show crcN 4294967295 (L.take (k + 1)) = nib s2 by rw [NXh.out, hs2, hs1]; rfl)
          generalize nib s2 = s3 at *
          generalize tabL.getD (s2 &&& 15) 0 = t2 at *
          generalize s2 &&& 15 = j2 at *
          have hcv : IntKind.u32.wrap (yn : Int) = yn := by simp [IntKind.wrap, IntKind.signed, IntKind.bits]; omega
          clear hs1 hs2
          go_wp2
          go_roundw
          case rel => exact ⟨trivial, k + 1, by omega, by go_num, by rw [NZ.out]⟩
          case measure => simp [intOf]; omega
        · obtain rfl : k = n := by omega
          rw [HN.out, List.take_length]
          go_wp2
          go_roundw
          case rel => simp
          case measure => decide
    · generalize hS : crcN 4294967295 L = s at *
      have hx : bits .xor .u32 4294967295 (s : Int) = ((4294967295 ^^^ s : Nat) : Int) := u32_xor_nat 4294967295 s (by omega) CL.out
      go_wp2
      go_ret
      refine ⟨?_, rfl⟩
      rw [show crc L = 4294967295 ^^^ s by unfold crc; rw [hS], ← hx]
      rfl
end Go.Proofs.YtpeonoimdmdmlaaDoor.Tr
