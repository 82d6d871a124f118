/- strconv.ParseUint in base 16; strings.Cut at a blank: contracts. No statement of the seat is proved here. -/
import Derived.Test.YthppjmlcehjjlaaDoorParse
import Derived.Lib.CutLaws
import Derived.Lib.IndexLaws
import Derived.Lib.IndexBytes
namespace Go.Proofs.YthppjmlcehjjlaaDoor.En
open Go.RowKit Go.Proofs.YthppjmlcehjjlaaDoor.Kit
set_option linter.unusedSimpArgs false
set_option linter.unusedVariables false

theorem chg_bytes (w : World) (t : ByteArray) : Chg w (Lib.bytesWorld w 5 t) none :=
  ⟨rfl, rfl, rfl, by rw [Lib.bytesWorld_size]; omega, fun i hi _ => Lib.bytesWorld_at_old w 5 t i hi⟩
/-- What a caller may lean on: a number, and which one it is of three digits. -/
def Hx (w : World) (t : ByteArray) (e : Ending) (w' : World) : Prop := ∃ (n : Nat) (v : Value), e = .returned (.tuple #[.int .u64 n, v]) ∧ n ≤ 4294967295 ∧ (∀ f, f < 4096 → t.data.toList = hex3 f → n = f) ∧ Chg w w' none
set_option maxHeartbeats 2000000 in
theorem pup_any (w : World) (hL : Lb w) (t : ByteArray) (hmax : t.size ≤ 281474976710656) : Calls Tryd.prog 14 #[.string t, .int .i64 16, .int .i64 32] w (Hx w t) := by
  have CB := Lib.hid (chg_bytes w t)
  have LB := Lib.hid (hL.kept CB.out)
  have H := Lib.hid hL
  by_cases h0 : t.size = 0
  · have ht : t = ⟨#[]⟩ := by
      apply ByteArray.ext
      exact Array.eq_empty_of_size_eq_zero h0
    subst ht
    obtain ⟨te, pe, hv⟩ := hL.syn
    have TE := Lib.hid (fun X (hX : X.cell? ⟨1, 0, none⟩ = some (.iface te pe)) => Tryd.strconv_toError_syntax ⟨#[80, 97, 114, 115, 101, 85, 105, 110, 116]⟩ ⟨#[]⟩ 16 32 _ X hmax hX (.inr ⟨_, _, rfl⟩))
    have HV := Lib.hid hv
    clear hL hv h0
    go_enter Tryd.func14, Tryd.ntmps14
    go_wp2_with fail
    refine (Tryd.internal_strconv_ParseUint_empty 16 32 _).mono ?_
    rintro e w1 ⟨rfl, rfl⟩
    go_wp2_with fail
    refine (TE.out _ HV.out).mono ?_
    rintro e w2 ⟨N, rfl, hN, hb, hB⟩
    have C2 := Lib.hid (Chg.of_below hB)
    clear hN hb hB
    go_wp2
    go_ret2
    exact ⟨0, _, rfl, by omega, fun f hf h => by simp [hex3] at h, C2.out⟩
  · have PA := Lib.hid (parse_any t h0 (by omega) w)
    have KP := Lib.hid (fun f (hf : f < 4096) (h : t.data.toList = hex3 f) => (by rw [h, pu_hex3 f hf] : pu 0 t.data.toList = .ok f))
    have KL := Lib.hid (fun n h => pu_le t.data.toList 0 n h (by omega))
    generalize pu 0 t.data.toList = r at *
    cases r with
    | ok n =>
      have hn := KL.out n rfl
      clear hL h0
      go_enter Tryd.func14, Tryd.ntmps14
      go_wp2_with fail
      refine PA.out.mono ?_
      rintro e w1 ⟨rfl, rfl⟩
      unfold prT
      go_wp2
      go_ret2
      exact ⟨n, _, rfl, hn, (fun f hf h => by have := KP.out f hf h; injection this), CB.out⟩
    | syn =>
      obtain ⟨te, pe, hv⟩ := LB.out.syn
      have TE := Lib.hid (fun X (hX : X.cell? ⟨1, 0, none⟩ = some (.iface te pe)) => Tryd.strconv_toError_syntax ⟨#[80, 97, 114, 115, 101, 85, 105, 110, 116]⟩ t 16 32 _ X hmax hX (.inr ⟨_, _, rfl⟩))
      have HV := Lib.hid hv
      clear hL hv h0
      go_enter Tryd.func14, Tryd.ntmps14
      go_wp2_with fail
      refine PA.out.mono ?_
      rintro e w1 ⟨rfl, rfl⟩
      unfold prT
      go_wp2_with fail
      refine (TE.out _ HV.out).mono ?_
      rintro e w2 ⟨N, rfl, hN, hb, hB⟩
      have C2 := Lib.hid (CB.out.trans (Chg.of_below hB))
      clear hN hb hB
      go_wp2
      go_ret2
      exact ⟨0, _, rfl, by omega, (fun f hf h => by have := KP.out f hf h; cases this), C2.out⟩
    | rng =>
      obtain ⟨te, pe, hv⟩ := LB.out.rng
      have TE := Lib.hid (fun X (hX : X.cell? ⟨2, 0, none⟩ = some (.iface te pe)) => Tryd.strconv_toError_range ⟨#[80, 97, 114, 115, 101, 85, 105, 110, 116]⟩ t 16 32 _ X hmax hX (.inr ⟨_, _, rfl⟩))
      have HV := Lib.hid hv
      clear hL hv h0
      go_enter Tryd.func14, Tryd.ntmps14
      go_wp2_with fail
      refine PA.out.mono ?_
      rintro e w1 ⟨rfl, rfl⟩
      unfold prT
      go_wp2_with fail
      refine (TE.out _ HV.out).mono ?_
      rintro e w2 ⟨N, rfl, hN, hb, hB⟩
      have C2 := Lib.hid (CB.out.trans (Chg.of_below hB))
      clear hN hb hB
      go_wp2
      go_ret2
      exact ⟨4294967295, _, rfl, by omega, (fun f hf h => by have := KP.out f hf h; cases this), C2.out⟩

/-! ### Cut -/
/-- The two parts: what stands ahead of the first blank, what behind it; all, and nothing. -/
def cutL (l : List UInt8) : List UInt8 × List UInt8 := if Lib.indexByte l 32 = -1 then (l, []) else (l.take (Lib.indexByte l 32).toNat, l.drop ((Lib.indexByte l 32).toNat + 1))
theorem cut_none {l : List UInt8} (h : (32 : UInt8) ∉ l) : cutL l = (l, []) := by
  unfold cutL
  rw [if_pos]
  rcases Int.lt_or_le (Lib.indexByte l 32) 0 with h1 | h1
  · have := Lib.indexByte_ge l 32; omega
  · obtain ⟨o, ho⟩ := Int.eq_ofNat_of_zero_le h1
    exact absurd (List.mem_of_getElem? (Lib.indexByte_some ho).1) h
theorem cut_at {a b : List UInt8} (h : (32 : UInt8) ∉ a) : cutL (a ++ 32 :: b) = (a, b) := by
  have hm : Lib.indexByte (a ++ 32 :: b) 32 = (a.length : Int) := by
    rcases Int.lt_or_le (Lib.indexByte (a ++ 32 :: b) 32) 0 with h1 | h1
    · have := Lib.indexByte_ge (a ++ 32 :: b) 32
      exact absurd (by simp) (Lib.indexByte_none (show Lib.indexByte (a ++ 32 :: b) 32 = -1 by omega) a.length)
    · obtain ⟨o, ho⟩ := Int.eq_ofNat_of_zero_le h1
      have k := Lib.indexByte_some ho
      rcases Nat.lt_trichotomy o a.length with h2 | h2 | h2
      · have := k.1
        rw [List.getElem?_append_left h2] at this
        exact absurd (List.mem_of_getElem? this) h
      · rw [ho, h2]
      · exact absurd (by simp) (k.2 a.length h2)
  unfold cutL
  rw [hm, if_neg (by omega), Int.toNat_natCast]
  simp
theorem cut_len (l : List UInt8) : (cutL l).1.length ≤ l.length ∧ (cutL l).2.length ≤ l.length := by
  unfold cutL
  split
  · simp
  · exact ⟨List.length_take_le' _ _, by simp⟩
theorem str_of (s : ByteArray) (l : List UInt8) (h : s.data.toList = l) : s = ⟨l.toArray⟩ := by
  obtain ⟨⟨x⟩⟩ := s
  simp only at h
  rw [h]
set_option maxHeartbeats 2000000 in
theorem cuti_any (w : World) (s : ByteArray) (hs : s.size ≤ 281474976710656) : Calls Tryd.prog 17 #[.string s, .string ⟨#[32]⟩] w fun e w' => (∃ b, e = .returned (.tuple #[.string ⟨(cutL s.data.toList).1.toArray⟩, .string ⟨(cutL s.data.toList).2.toArray⟩, .bool b])) ∧ ∃ n, w' = w.drewN n := by
  have IX := Lib.hid (fun X => Tryd.stringslite_Index_one s 32 X)
  by_cases h : Lib.indexByte s.data.toList 32 = -1
  · have e1 : cutL s.data.toList = (s.data.toList, []) := by unfold cutL; rw [if_pos h]
    rw [e1]
    rw [h] at IX
    clear h e1
    go_enter Tryd.func17, Tryd.ntmps17
    go_wp2_with fail
    refine (IX.out _).mono ?_
    rintro e w1 ⟨rfl, rfl⟩
    go_wp2
    go_ret3
    exact ⟨⟨false, rfl⟩, 0, rfl⟩
  · have hge := Lib.indexByte_ge s.data.toList 32
    obtain ⟨o, ho⟩ := Int.eq_ofNat_of_zero_le (show 0 ≤ Lib.indexByte s.data.toList 32 by omega)
    have e1 : cutL s.data.toList = (s.data.toList.take o, s.data.toList.drop (o + 1)) := by unfold cutL; rw [if_neg h, ho]; rfl
    have hlt : o < s.size := by
      rw [Lib.size_eq]
      exact (List.getElem?_eq_some_iff.1 (Lib.indexByte_some ho).1).1
    have x1 := str_of (s.extract 0 o) (s.data.toList.take o) (by rw [Lib.extract_data]; simp)
    have x2 := str_of (s.extract (o + 1) s.size) (s.data.toList.drop (o + 1)) (Lib.extract_to_end s (o + 1))
    rw [e1]
    have ho' : Lib.indexByte s.data.toList 32 = (o : Int) := ho
    rw [ho'] at IX
    have X := Lib.hid (And.intro x1 x2)
    clear h hge ho ho' e1 x1 x2
    go_enter Tryd.func17, Tryd.ntmps17
    go_wp2_with fail
    refine (IX.out _).mono ?_
    rintro e w1 ⟨rfl, rfl⟩
    go_wp2_with fail
    go_quiet (fail)
    go_wp2
    go_ret3
    exact ⟨⟨true, by rw [← X.out.1, ← X.out.2]; rfl⟩, _, rfl⟩
theorem cut_any (w : World) (s : ByteArray) (hs : s.size ≤ 281474976710656) : Calls Tryd.prog 13 #[.string s, .string ⟨#[32]⟩] w fun e w' => (∃ b, e = .returned (.tuple #[.string ⟨(cutL s.data.toList).1.toArray⟩, .string ⟨(cutL s.data.toList).2.toArray⟩, .bool b])) ∧ ∃ n, w' = w.drewN n := by
  have IX := Lib.hid (fun X => cuti_any X s hs)
  generalize (cutL s.data.toList).1.toArray = A at *
  generalize (cutL s.data.toList).2.toArray = B at *
  go_enter Tryd.func13, Tryd.ntmps13
  go_wp2_with fail
  refine (IX.out _).mono ?_
  rintro e w1 ⟨⟨b, rfl⟩, n, rfl⟩
  go_wp2
  go_ret3
  exact ⟨⟨b, rfl⟩, n, rfl⟩
end Go.Proofs.YthppjmlcehjjlaaDoor.En
