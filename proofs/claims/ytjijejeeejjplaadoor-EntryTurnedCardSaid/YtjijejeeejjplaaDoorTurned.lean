/- EntryTurned: the walk. -/
import Derived.Test.YtjijejeeejjplaaDoorLaws
import Derived.Deep.CutRange
namespace Go.Proofs.YtjijejeeejjplaaDoor.En
open Go.RowKit Go.Proofs.YtjijejeeejjplaaDoor.Kit
set_option linter.unusedSimpArgs false
set_option linter.unusedVariables false

theorem xor_ne (a : Nat) (ha : a < 4294967296) (m : Nat) (hm32 : m < 32) : ∃ v : Nat, bits BinOp.xor IntKind.u32 (a : Int) (2 ^ m % 4294967296) = (v : Int) ∧ v < 4294967296 ∧ v ≠ a := by
  have hp : 2 ^ m < 2 ^ 32 := Nat.pow_lt_pow_right (by decide) hm32
  have e : (2 : Int) ^ m % 4294967296 = ((2 ^ m : Nat) : Int) := by
    rw [show (2 : Int) ^ m = ((2 ^ m : Nat) : Int) by push_cast; rfl]
    generalize 2 ^ m = q at *
    omega
  have hx : a ^^^ 2 ^ m < 2 ^ 32 := Nat.xor_lt_two_pow (by omega) hp
  refine ⟨a ^^^ 2 ^ m, ?_, by omega, fun h => ?_⟩
  · rw [e]
    show IntKind.u32.wrap ((BitVec.ofInt 32 (a : Int) ^^^ BitVec.ofInt 32 ((2 ^ m : Nat) : Int)).toNat : Int) = _
    rw [BitVec.toNat_xor, ofInt_32 a ha, ofInt_32 _ (by omega), IntKind.wrap_u32']
    omega
  · have h1 : Nat.testBit (a ^^^ 2 ^ m) m = Nat.testBit a m := by rw [h]
    rw [Nat.testBit_xor, Nat.testBit_two_pow_self] at h1
    cases hq : Nat.testBit a m <;> rw [hq] at h1 <;> cases h1
/-- Two words' entries are not one. -/
theorem dec_ne {a v : Nat} (ha : a < 4294967296) (hv : v < 4294967296) (h : v ≠ a) : (decW a).2 ≠ 0 ∨ (decW v).2 ≠ 0 ∨ (decW a).1 ≠ (decW v).1 := by
  by_cases h1 : (decW a).2 = 0
  · by_cases h2 : (decW v).2 = 0
    · refine .inr (.inr (fun e => h ?_))
      have k1 := (dec_ok ha h1).2
      have k2 := (dec_ok hv h2).2
      rw [e, k2] at k1
      exact congrArg Prod.fst k1
    · exact .inr (.inl h2)
  · exact .inl h1
theorem read_ok {l : List UInt8} (h : (readE l).2 = 0) : okE (readE l).1 ∧ showE (readE l).1 = l := by
  unfold readE at h ⊢
  split
  · rename_i hx
    exact Classical.choose_spec hx
  · rename_i hx; rw [dif_neg hx] at h; simp at h
theorem read_ne {s t : ByteArray} : s = t ∨ (readE s.data.toList).2 ≠ 0 ∨ (readE t.data.toList).2 ≠ 0 ∨ (readE s.data.toList).1 ≠ (readE t.data.toList).1 := by
  by_cases h1 : (readE s.data.toList).2 = 0
  · by_cases h2 : (readE t.data.toList).2 = 0
    · by_cases h3 : (readE s.data.toList).1 = (readE t.data.toList).1
      · refine .inl ?_
        have k1 := (read_ok h1).2
        have k2 := (read_ok h2).2
        rw [h3, k2] at k1
        rw [str_of s _ k1.symm]
      · exact .inr (.inr (.inr h3))
    · exact .inr (.inr (.inl h2))
  · exact .inr (.inl h1)
theorem ent_ne {k1 k2 : Int} {p1 p2 f1 f2 : Nat} (h : (⟨k1, p1, f1⟩ : Ent) ≠ ⟨k2, p2, f2⟩) : (k1 == k2) = false ∨ k1 = k2 ∧ ((p1 : Int) == (p2 : Int)) = false ∨ k1 = k2 ∧ p1 = p2 ∧ ((f1 : Int) == (f2 : Int)) = false := by
  by_cases a : k1 = k2
  · by_cases b : p1 = p2
    · by_cases c : f1 = f2
      · subst a b c; exact absurd rfl h
      · exact .inr (.inr ⟨a, b, by simp; omega⟩)
    · exact .inr (.inl ⟨a, by simp; omega⟩)
  · exact .inl (by simpa using a)
set_option maxRecDepth 100000 in
set_option maxHeartbeats 8000000 in
theorem turned_walk (w : World) (hL : Lb w) (a : Nat) (ha : a < 4294967296) (bit : Int) (hbit : -9223372036854775808 ≤ bit ∧ bit ≤ 9223372036854775807) (s : ByteArray) (hs : s.size ≤ 140737488355328) (t : ByteArray) (ht : t.size ≤ 140737488355328) :
    Calls Tryd.prog 7 #[.int .u32 a, .int .i64 bit, .string s, .string t] w fun e w' => e = .returned (.bool true) ∧ Chg w w' none := by
  have LL := Lib.hid hL
  have KN := Lib.hid (known_any w hL)
  have DE := Lib.hid (fun X => dec_any X a ha)
  have DN := Lib.hid (fun v (hv : v < 4294967296) (h : v ≠ a) => dec_ne ha hv h)
  have XO := Lib.hid (fun m (hm : m < 32) => xor_ne a ha m hm)
  have RS := Lib.hid (fun X (h : Lb X) => read_any X h s hs)
  have RT := Lib.hid (fun X (h : Lb X) => read_any X h t ht)
  have RN := Lib.hid (read_ne (s := s) (t := t))
  generalize decW a = d at *
  generalize readE s.data.toList = rs at *
  generalize readE t.data.toList = rt at *
  obtain ⟨⟨k, p, f⟩, n⟩ := d
  obtain ⟨⟨k3, p3, f3⟩, n3⟩ := rs
  obtain ⟨⟨k4, p4, f4⟩, n4⟩ := rt
  obtain ⟨hb0, hb1⟩ := hbit
  clear hL
  go_enter Tryd.func7, Tryd.ntmps7
  go_upto_if 21 with (refine KN.out.mono ?_; rintro e w1 ⟨rfl, hC⟩; have C1 := Lib.hid hC; clear hC)
  go_cut [1] from 22 to 24 (fun s1 wx => (∃ b : Nat, (b : Int) ≤ 9223372036854775807 ∧ s1 = .int .i64 b) ∧ wx = w1)
  case first =>
    by_cases hb : bit < 0
    · have q1 := IntWalk.i64_in (bit + 1) (by omega)
      have q2 := IntWalk.i64_in (-(bit + 1)) (by omega)
      go_wp2
      go_meet
      exact ⟨⟨(-(bit + 1)).toNat, by omega, by congr 1; omega⟩, rfl⟩
    · go_wp2
      go_meet
      exact ⟨⟨bit.toNat, by omega, by congr 1; omega⟩, rfl⟩
  case rest =>
    obtain ⟨⟨b, hb, rfl⟩, rfl⟩ := hcut
    clear hb0 hb1
    obtain ⟨m, hm⟩ : ∃ m, m = b % 32 := ⟨_, rfl⟩
    have q5 : (b : Int) % 32 = (m : Int) := by omega
    obtain ⟨v, hv, hvl, hva⟩ := XO.out m (by omega)
    have q6 : (2 : Int) ^ m % 4294967296 = 2 ^ m % 4294967296 := rfl
    have DE2 := Lib.hid (fun X => dec_any X v hvl)
    have DN2 := Lib.hid (DN.out v hvl hva)
    generalize decW v = d2 at *
    obtain ⟨⟨k2, p2, f2⟩, n2⟩ := d2
    clear hm q6 DN XO hvl hva
    go_wp2_with fail
    refine (DE.out _).mono ?_
    rintro e w2 ⟨rfl, hC⟩
    have C2 := Lib.hid ((C1.out.trans hC).alloc (ent ⟨k, p, f⟩))
    have G2 := Lib.hid (heap_alloc_last w2 (ent ⟨k, p, f⟩))
    clear hC
    go_wp2_with fail
    refine (DE2.out _).mono ?_
    rintro e w3 ⟨rfl, hC⟩
    have C3 := Lib.hid ((C2.out.trans hC).alloc (ent ⟨k2, p2, f2⟩))
    have G3 := Lib.hid (row_kept G2.out hC)
    clear hC q5 hv
    have hl3 : w2.heap.size < w3.heap.size := (Array.getElem?_eq_some_iff.1 G3.out).1
    obtain ⟨c0, c1, c2, _, _, _⟩ := row3 G3.out
    go_upto_region 7 with (fail)
    go_cut [50] from 40 to 50 (fun s50 wx => s50 = .bool false ∧ wx = w3.alloc (ent ⟨k2, p2, f2⟩))
    case first =>
      cases q1 : (n == 0) with
      | false =>
        go_wp2
        go_meet
        exact ⟨rfl, rfl⟩
      | true =>
        cases q2 : (n2 == 0) with
        | false =>
          go_wp2
          go_meet
          exact ⟨rfl, rfl⟩
        | true =>
          rcases DN2.out with h | h | h
          · exact absurd (by simpa using q1) h
          · exact absurd (by simpa using q2) h
          · rcases ent_ne h with h | ⟨rfl, h⟩ | ⟨rfl, rfl, h⟩
            all_goals
              go_wp2
              go_meet
              exact ⟨rfl, rfl⟩
    case rest =>
      obtain ⟨rfl, rfl⟩ := hcut
      clear c0 c1 c2 hl3
      go_wp2_with fail
      refine (RS.out _ (LL.out.kept C3.out)).mono ?_
      rintro e w4 ⟨rfl, hC⟩
      have C4 := Lib.hid ((C3.out.trans hC).alloc (ent ⟨k3, p3, f3⟩))
      have G4 := Lib.hid (heap_alloc_last w4 (ent ⟨k3, p3, f3⟩))
      clear hC
      go_wp2_with fail
      refine (RT.out _ (LL.out.kept C4.out)).mono ?_
      rintro e w5 ⟨rfl, hC⟩
      have C5 := Lib.hid ((C4.out.trans hC).alloc (ent ⟨k4, p4, f4⟩))
      have G5 := Lib.hid (row_kept G4.out hC)
      have hl5 : w4.heap.size < w5.heap.size := (Array.getElem?_eq_some_iff.1 G5.out).1
      obtain ⟨c0, c1, c2, _, _, _⟩ := row3 G5.out
      clear hC
      rcases RN.out with h | h | h | h
      · subst h
        go_wp2
        go_ret
        exact ⟨rfl, C5.out⟩
      · have hb : (n3 != 0) = true := by simpa using h
        go_wp2
        all_goals (go_ret; exact ⟨rfl, C5.out⟩)
      · have hb : (n4 != 0) = true := by simpa using h
        go_wp2
        all_goals (go_ret; exact ⟨rfl, C5.out⟩)
      · rcases ent_ne h with h | ⟨rfl, h⟩ | ⟨rfl, rfl, h⟩
        all_goals
          go_wp2
        all_goals (go_ret; exact ⟨rfl, C5.out⟩)
end Go.Proofs.YtjijejeeejjplaaDoor.En
