/- A number read in base 16; a text cut at its first blank: contracts. No statement of the seat is proved here. -/
import Derived.Test.YthppjmlcehjjlaaDoorBase
import Derived.Test.YthppjmlcehjjlaaDoorShelf
import Derived.Lib.ConvBytes
import Derived.Lib.Strings
import Derived.Lib.IfaceEq
import Derived.Laws.Strings3
import Derived.Outline
namespace Go.Proofs.YthppjmlcehjjlaaDoor.En
open Go.RowKit Go.Proofs.YthppjmlcehjjlaaDoor.Kit
set_option linter.unusedSimpArgs false
set_option linter.unusedVariables false

/-- What a byte is worth; 99: it is no digit. -/
def dvl (c : UInt8) : Nat := if 48 ≤ c.toNat ∧ c.toNat ≤ 57 then c.toNat - 48 else if 97 ≤ (c ||| 32).toNat ∧ (c ||| 32).toNat ≤ 122 then (c ||| 32).toNat - 87 else 99
inductive Pr where
  | ok (n : Nat)
  | syn
  | rng
def pu : Nat → List UInt8 → Pr
  | acc, [] => .ok acc
  | acc, c :: r => if dvl c < 16 then (if 4294967295 < acc * 16 + dvl c then .rng else pu (acc * 16 + dvl c) r) else .syn
def prT : Pr → Value
  | .ok n => .tuple #[.int .u64 n, .nilIface]
  | .syn => .tuple #[.int .u64 0, .iface 64 (.int .i64 2)]
  | .rng => .tuple #[.int .u64 4294967295, .iface 64 (.int .i64 1)]
theorem low_key : ∀ a : Fin 16, ∀ b : Fin 16, bits BinOp.or IntKind.u8 ((16 * a.val + b.val : Nat) : Int) 32 = ((UInt8.ofNat (16 * a.val + b.val) ||| 32 : UInt8).toNat : Int) := by decide +kernel
theorem low_bits (c : UInt8) : bits BinOp.or IntKind.u8 (c.toNat : Int) 32 = ((c ||| 32 : UInt8).toNat : Int) := by
  have hc := c.toNat_lt
  have k := low_key ⟨c.toNat / 16, by omega⟩ ⟨c.toNat % 16, by omega⟩
  simp only at k
  rw [show 16 * (c.toNat / 16) + c.toNat % 16 = c.toNat by omega, UInt8.ofNat_toNat] at k
  exact k
theorem low_any (w : World) (c : UInt8) : Calls Tryd.prog 28 #[.int .u8 c.toNat] w fun e w' => e = .returned (.int .u8 (c ||| 32 : UInt8).toNat) ∧ w = w' :=
  (Tryd.internal_strconv_lower c.toNat w).mono fun e w' ⟨h1, h2⟩ => ⟨by rw [h1, low_bits], h2.symm⟩
theorem dvl_hexd : ∀ c : Fin 16, dvl (hexd c.val) = c.val := by decide
theorem pu_hex3 (f : Nat) (hf : f < 4096) : pu 0 (hex3 f) = .ok f := by
  have k1 := dvl_hexd ⟨f / 256, by omega⟩
  have k2 := dvl_hexd ⟨f / 16 % 16, by omega⟩
  have k3 := dvl_hexd ⟨f % 16, by omega⟩
  simp only at k1 k2 k3
  unfold hex3
  simp only [pu, k1, k2, k3]
  rw [if_pos (by omega), if_neg (by omega), if_pos (by omega), if_neg (by omega), if_pos (by omega), if_neg (by omega)]
  congr 1
  omega
theorem pu_le : ∀ (l : List UInt8) (acc n : Nat), pu acc l = .ok n → acc ≤ 4294967295 → n ≤ 4294967295
  | [], acc, n, h, ha => by cases h; exact ha
  | c :: r, acc, n, h, ha => by
    unfold pu at h
    split at h
    · split at h
      · cases h
      · exact pu_le r _ n h (by omega)
    · cases h
set_option maxHeartbeats 32000000 in
set_option maxRecDepth 100000 in
theorem parse_any (t : ByteArray) (hne : t.size ≠ 0) (hmax : t.size ≤ 9223372036854775806) (w : World) :
    Calls Tryd.prog 18 #[.string t, .int .i64 16, .int .i64 32] w fun e w' => e = .returned (prT (pu 0 t.data.toList)) ∧ w' = Lib.bytesWorld w 5 t := by
  have hemp : t.toList.isEmpty = false := by
    rw [← decide_eq_emptyBytes]
    exact decide_eq_false (fun h => hne (by rw [h]; rfl))
  have hcv := Lib.run_convert_string_bytes (P := Tryd.prog) w 9 41 5 t (u := .string) Tryd.underlying9 Tryd.underlying41 Tryd.underlying5
  have hB : ∀ j, j < t.size → (Lib.bytesWorld w 5 t).cell? ⟨w.heap.size, j, none⟩ = some (.int .u8 (t.data.toList.getD j 0).toNat) := fun j hj => Lib.bytesWorld_cell w 5 t j hj
  obtain ⟨W1, hW1⟩ : ∃ W1, W1 = Lib.bytesWorld w 5 t := ⟨_, rfl⟩
  rw [← hW1] at hcv hB ⊢
  clear hW1
  obtain ⟨bs, hL⟩ : ∃ bs, bs = t.data.toList := ⟨_, rfl⟩
  have hLn : bs.length = t.size := by rw [hL, Lib.size_eq]
  rw [← hL] at hB ⊢
  clear hL
  have hmv : IntKind.u64.wrap (IntKind.u64.wrap 4294967296 - 1) = 4294967295 := by
    rw [IntKind.wrap_u64, IntKind.wrap_u64]
    decide
  go_enter Tryd.func18, Tryd.ntmps18
  go_wp2
  go_loop [12, 13, 101] (fun vu vn vi => ∃ (k acc : Nat) (a : Int), vu = .bool false ∧ vn = .int .u64 a ∧ vi = .int .i64 k ∧ k ≤ t.size ∧ Hid (a = (acc : Int) ∧ acc ≤ 4294967295 ∧ pu 0 bs = pu acc (bs.drop k)))
    (fun _ _ vi => t.size - (intOf vi).toNat)
  case atStart => exact ⟨0, 0, 0, rfl, rfl, rfl, by omega, rfl, by omega, rfl⟩
  case round =>
    obtain ⟨k, acc, a, rfl, rfl, rfl, hk, hh⟩ := hrel
    obtain ⟨ha, hacc, hdec⟩ := hh.out
    clear hh
    have a0 : 0 ≤ a := by omega
    have a1 : a ≤ 4294967295 := by omega
    by_cases hkn : k < t.size
    · have hc := hB k hkn
      have hdrop : bs.drop k = bs[k]'(by omega) :: bs.drop (k + 1) := List.drop_eq_getElem_cons (by omega)
      have hget : bs.getD k 0 = bs[k]'(by omega) := by simp [List.getD, List.getElem?_eq_getElem (show k < bs.length by omega)]
      rw [hdrop] at hdec
      rw [hget] at hc
      generalize bs[k]'(by omega) = c at hc hdec
      have hc256 : c.toNat < 256 := c.toNat_lt
      have hl256 : (c ||| 32 : UInt8).toNat < 256 := (c ||| 32).toNat_lt
      have LW := Lib.hid (fun X => low_any X c)
      have HD := Lib.hid (show pu acc (c :: bs.drop (k + 1)) = if dvl c < 16 then (if 4294967295 < acc * 16 + dvl c then .rng else pu (acc * 16 + dvl c) (bs.drop (k + 1))) else .syn from rfl)
      clear hB hdrop hget
      by_cases hdig : 48 ≤ c.toNat ∧ c.toNat ≤ 57
      · have hdv : dvl c = c.toNat - 48 := by unfold dvl; rw [if_pos hdig]
        obtain ⟨hd0, hd1⟩ := hdig
        have hcut : a < 1152921504606846976 := by omega
        by_cases hov : 4294967295 < acc * 16 + (c.toNat - 48)
        · have hF : pu 0 bs = .rng := by rw [hdec, HD.out, hdv, if_pos (by omega), if_pos hov]
          have iov : 4294967295 < a * 16 + ((c.toNat : Int) - 48) := by omega
          have HF := Lib.hid hF
          clear hacc hF hov ha hdec hdv HD
          go_wp2
          go_ret2
          exact ⟨by rw [HF.out]; rfl, rfl⟩
        · have HN : Hid (a * 16 + ((c.toNat : Int) - 48) = ((acc * 16 + (c.toNat - 48) : Nat) : Int) ∧ acc * 16 + (c.toNat - 48) ≤ 4294967295 ∧ pu 0 bs = pu (acc * 16 + (c.toNat - 48)) (bs.drop (k + 1))) := Lib.hid ⟨by omega, by omega, by rw [hdec, HD.out, hdv, if_pos (by omega), if_neg hov]⟩
          have iov : a * 16 + ((c.toNat : Int) - 48) ≤ 4294967295 := by omega
          clear hacc hov hdec ha hdv HD
          go_wp2
          refine ⟨⟨k + 1, acc * 16 + (c.toNat - 48), a * 16 + ((c.toNat : Int) - 48), rfl, (by first | rfl | (congr 1; omega)), (by first | rfl | (congr 1; omega)), by omega, HN⟩, by simp [intOf]; omega⟩
      · have hdg : c.toNat < 48 ∨ 57 < c.toNat := by omega
        by_cases hlt : 97 ≤ (c ||| 32 : UInt8).toNat ∧ (c ||| 32 : UInt8).toNat ≤ 122
        · have hdv : dvl c = (c ||| 32).toNat - 87 := by unfold dvl; rw [if_neg hdig, if_pos hlt]
          have h95 : ((c.toNat : Int) == 95) = false := by
            simp only [beq_eq_false_iff_ne]
            intro e
            have e2 : c = 95 := UInt8.toNat_inj.1 (by show c.toNat = 95; omega)
            subst e2
            exact absurd hlt (by decide)
          obtain ⟨hl0, hl1⟩ := hlt
          have hcut : a < 1152921504606846976 := by omega
          generalize (c ||| 32).toNat = lo at *
          by_cases h16 : lo ≤ 102
          · by_cases hov : 4294967295 < acc * 16 + (lo - 87)
            · have HF := Lib.hid (show pu 0 bs = .rng by rw [hdec, HD.out, hdv, if_pos (by omega), if_pos hov])
              have iov : 4294967295 < a * 16 + ((lo : Int) - 97 + 10) := by omega
              have il : (lo : Int) - 97 + 10 < 16 := by omega
              clear hacc hov ha hdec hdv HD hdig
              rcases hdg with hA | hA
              all_goals
                go_wp2_with (go_at_call 28; refine (LW.out _).mono ?_; rintro e w' ⟨rfl, rfl⟩)
                go_ret2
                exact ⟨by rw [HF.out]; rfl, rfl⟩
            · have HN : Hid (a * 16 + ((lo : Int) - 97 + 10) = ((acc * 16 + (lo - 87) : Nat) : Int) ∧ acc * 16 + (lo - 87) ≤ 4294967295 ∧ pu 0 bs = pu (acc * 16 + (lo - 87)) (bs.drop (k + 1))) := Lib.hid ⟨by omega, by omega, by rw [hdec, HD.out, hdv, if_pos (by omega), if_neg hov]⟩
              have iov : a * 16 + ((lo : Int) - 97 + 10) ≤ 4294967295 := by omega
              have il : (lo : Int) - 97 + 10 < 16 := by omega
              clear hacc hov hdec ha hdv HD hdig
              rcases hdg with hA | hA
              all_goals
                go_wp2_with (go_at_call 28; refine (LW.out _).mono ?_; rintro e w' ⟨rfl, rfl⟩)
                refine ⟨⟨k + 1, acc * 16 + (lo - 87), a * 16 + ((lo : Int) - 97 + 10), rfl, (by first | rfl | (congr 1; omega)), (by first | rfl | (congr 1; omega)), by omega, HN⟩, by simp [intOf]; omega⟩
          · have HF := Lib.hid (show pu 0 bs = .syn by rw [hdec, HD.out, hdv, if_neg (by omega)])
            have il : 16 ≤ (lo : Int) - 97 + 10 := by omega
            clear hacc ha hdec hdv HD hdig
            rcases hdg with hA | hA
            all_goals
              go_wp2_with (go_at_call 28; refine (LW.out _).mono ?_; rintro e w' ⟨rfl, rfl⟩)
              go_ret2
              exact ⟨by rw [HF.out]; rfl, rfl⟩
        · have HF := Lib.hid (show pu 0 bs = .syn by
            rw [hdec, HD.out, if_neg]
            unfold dvl
            rw [if_neg hdig, if_neg hlt]; decide)
          have hlt2 : (c ||| 32 : UInt8).toNat < 97 ∨ 122 < (c ||| 32 : UInt8).toNat := by omega
          by_cases e95 : c = 95
          · subst e95
            have L95 := Lib.hid (show ∀ X, Calls Tryd.prog 28 #[.int .u8 95] X fun e w' => e = .returned (.int .u8 127) ∧ X = w' from LW.out)
            clear hacc ha hdec HD hdg hdig hlt hlt2 hl256 hc256
            go_wp2_with (go_at_call 28; refine (L95.out _).mono ?_; rintro e w' ⟨rfl, rfl⟩)
            go_ret2
            exact ⟨by rw [HF.out]; rfl, rfl⟩
          · have h95 : ((c.toNat : Int) == 95) = false := by
              simp only [beq_eq_false_iff_ne]
              intro e
              exact e95 (UInt8.toNat_inj.1 (by show c.toNat = 95; omega))
            generalize (c ||| 32).toNat = lo at *
            clear hacc ha hdec HD hlt hdig e95
            rcases hdg with hA | hA <;> rcases hlt2 with hB | hB
            all_goals
              go_wp2_with (go_at_call 28; refine (LW.out _).mono ?_; rintro e w' ⟨rfl, rfl⟩)
              go_ret2
              exact ⟨by rw [HF.out]; rfl, rfl⟩
    · have hkk : k = t.size := by omega
      subst hkk
      have hF : pu acc (bs.drop t.size) = .ok acc := by rw [List.drop_eq_nil_of_le (by omega)]; rfl
      rw [hF] at hdec
      subst ha
      clear hacc hF a0 a1
      go_wp2
      go_ret2
      exact ⟨rfl, rfl⟩
end Go.Proofs.YthppjmlcehjjlaaDoor.En
