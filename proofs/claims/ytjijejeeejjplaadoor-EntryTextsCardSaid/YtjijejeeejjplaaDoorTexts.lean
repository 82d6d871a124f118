/- The document's Read: its contract; EntryTexts: the walk. -/
import Derived.Test.YtjijejeeejjplaaDoorMakes
namespace Go.Proofs.YtjijejeeejjplaaDoor.En
open Go.RowKit Go.Proofs.YtjijejeeejjplaaDoor.Kit
set_option linter.unusedSimpArgs false
set_option linter.unusedVariables false

/-! ### which entry -/
def dl (c : UInt8) : Nat := if 48 ≤ c.toNat ∧ c.toNat ≤ 57 then c.toNat - 48 else if 97 ≤ c.toNat ∧ c.toNat ≤ 102 then c.toNat - 87 else 99
def fr (l : List UInt8) : Nat → Nat
  | 0 => 0
  | j + 1 => 16 * fr l j + dl (l.getD (4 + j) 0)
theorem dl_hexd : ∀ c : Fin 16, dl (hexd c.val) = c.val := by decide
theorem show_long {e : Ent} (h : okE e) (hz : e ≠ zeroE) : ∃ a b c d, showE e = [a, b, c, d] ++ hex3 e.f := by
  obtain ⟨k, p, f⟩ := e
  rcases okE_cases h with e | ⟨e1, e2, e3⟩ | ⟨e1, e2, e3⟩ <;> (try simp only at *)
  · exact absurd e hz
  · subst e1; exact ⟨_, _, _, _, show_page e2 e3⟩
  · subst e1 e2; exact ⟨_, _, _, _, show_table e3⟩
theorem long_digits {a b c d : UInt8} {f : Nat} (hf : f < 4096) : (∀ j, j < 3 → dl (([a, b, c, d] ++ hex3 f).getD (4 + j) 0) < 16) ∧ fr ([a, b, c, d] ++ hex3 f) 3 = f := by
  have k1 := dl_hexd ⟨f / 256, by omega⟩
  have k2 := dl_hexd ⟨f / 16 % 16, by omega⟩
  have k3 := dl_hexd ⟨f % 16, by omega⟩
  simp only at k1 k2 k3
  refine ⟨fun j hj => ?_, ?_⟩
  · rcases (show j = 0 ∨ j = 1 ∨ j = 2 by omega) with rfl | rfl | rfl
    · show dl (hexd (f / 256)) < 16; omega
    · show dl (hexd (f / 16 % 16)) < 16; omega
    · show dl (hexd (f % 16)) < 16; omega
  · show 16 * (16 * (16 * 0 + dl (hexd (f / 256))) + dl (hexd (f / 16 % 16))) + dl (hexd (f % 16)) = f
    omega
theorem ok_f {e : Ent} (h : okE e) : e.f < 4096 := by
  obtain ⟨k, p, f⟩ := e
  rcases okE_cases h with e | ⟨e1, e2, e3⟩ | ⟨e1, e2, e3⟩
  · cases e; decide
  · simp only at e3 ⊢; omega
  · simp only at e3 ⊢; omega
theorem none_len {l : List UInt8} (h1 : l ≠ [45]) (h2 : l.length ≠ 7) : readE l = (zeroE, 44) := read_none fun e he hs => by
  by_cases hz : e = zeroE
  · subst hz; rw [show_zero] at hs; exact h1 hs.symm
  · obtain ⟨a, b, c, d, hx⟩ := show_long he hz
    rw [hx] at hs
    rw [← hs] at h2
    simp [hex3] at h2
theorem none_digit {l : List UInt8} (h1 : l ≠ [45]) (j : Nat) (hj : j < 3) (h2 : ¬ dl (l.getD (4 + j) 0) < 16) : readE l = (zeroE, 44) := read_none fun e he hs => by
  by_cases hz : e = zeroE
  · subst hz; rw [show_zero] at hs; exact h1 hs.symm
  · obtain ⟨a, b, c, d, hx⟩ := show_long he hz
    rw [hx] at hs
    rw [← hs] at h2
    exact h2 ((long_digits (ok_f he)).1 j hj)
theorem none_all {l : List UInt8} (h1 : l ≠ [45]) (h2 : ∀ k : Nat, 1 ≤ k → k < 3 → ∀ p, p < 8 → showE ⟨k, p, fr l 3⟩ ≠ l) : readE l = (zeroE, 44) := read_none fun e he hs => by
  by_cases hz : e = zeroE
  · subst hz; rw [show_zero] at hs; exact h1 hs.symm
  · obtain ⟨a, b, c, d, hx⟩ := show_long he hz
    have hfr : fr l 3 = e.f := by rw [← hs, hx]; exact (long_digits (ok_f he)).2
    obtain ⟨k, p, f⟩ := e
    simp only at hfr
    rw [hfr] at h2
    rcases okE_cases he with e | ⟨e1, e2, e3⟩ | ⟨e1, e2, e3⟩
    · exact hz e
    · simp only at e1 e2
      subst e1
      exact h2 1 (by omega) (by omega) p (by rcases pagep_cases e2 with rfl | rfl | rfl | rfl | rfl <;> decide) hs
    · simp only at e1 e2
      subst e1 e2
      exact h2 2 (by omega) (by omega) 0 (by omega) hs
theorem read_hit {l : List UInt8} (h0 : l ≠ []) {e : Ent} (h : showE e = l) : readE l = (e, 0) := by
  refine read_of ?_ h
  by_cases hk : okE e
  · exact hk
  · rw [show_not hk] at h; exact absurd h.symm h0
theorem fr_lt {l : List UInt8} : ∀ j, (∀ i, i < j → dl (l.getD (4 + i) 0) < 16) → fr l j < 16 ^ j
  | 0, _ => by simp [fr]
  | j + 1, h => by
    have h1 := fr_lt j (fun i hi => h i (by omega))
    have h2 := h j (by omega)
    rw [fr, Nat.pow_succ]
    omega

/-- What holds between the rounds over the three digits. -/
def Rr (w wr : World) (s : ByteArray) (j : Nat) : Prop := Chg w wr none ∧ wr.heap[w.heap.size]? = some (.cells #[.int .i64 0, .int .u8 0, .int .u32 0] 26 (0, 0)) ∧ ∀ i, i < j → dl (s.data.toList.getD (4 + i) 0) < 16
set_option maxRecDepth 100000 in
set_option maxHeartbeats 8000000 in
theorem rread_any (w : World) (s : ByteArray) (hs : s.size ≤ 140737488355328) :
    Calls Tryd.prog 14 #[.string s] w fun e w' => e = .returned (.tuple #[.agg #[.int .i64 (readE s.data.toList).1.k, .int .u8 (readE s.data.toList).1.p, .int .u32 (readE s.data.toList).1.f], .int .i64 (readE s.data.toList).2]) ∧ Chg w w' none := by
  have hz := zero26
  have C0 := Lib.hid ((Chg.refl w none).alloc (ent zeroE))
  have G0 := Lib.hid (heap_alloc_last w (ent zeroE))
  by_cases h45 : s = ⟨#[45]⟩
  · subst h45
    have RR := Lib.hid (show readE (⟨#[45]⟩ : ByteArray).data.toList = (zeroE, 0) from read_of okE_zero show_zero)
    go_enter Tryd.func14, Tryd.ntmps14
    go_wp2
    refine bodyPost_ret (results_cell_tmp (p := 2) (q := 3) (ty := 26) rfl _ _ w.heap.size 26 #[.int .i64 0, .int .u8 0, .int .u32 0] (0, 0) _ rfl G0.out Tryd.underlying26 rfl info26 (.int .i64 0) rfl) rfl ?_
    exact ⟨by first | (rw [RR.out]; done) | (rw [RR.out]; rfl), C0.out⟩
  · have H45 := Lib.hid (show s.data.toList ≠ [45] from fun h => h45 (str_of s _ h))
    have hb1 : (s.toList == (⟨#[45]⟩ : ByteArray).toList) = false := str_ne h45
    have hb3 : (s.toList == [45]) = false := by have := hb1; rw [ByteArray.toList_eq ⟨#[45]⟩] at this; exact this
    clear h45
    by_cases h7 : s.size = 7
    · have hI := Lib.hid h7
      have hn7 : ((s.size : Int) != 7) = false := by simp; omega
      have I0 := Lib.hid (show Rr w (w.alloc (ent zeroE)) s 0 from ⟨C0.out, G0.out, fun i hi => by omega⟩)
      unfold zeroE at I0 C0 G0
      unfold ent at I0 C0 G0
      go_enter Tryd.func14, Tryd.ntmps14
      go_wp2_with fail
      clear hb1 hb3 hn7
      generalize w.alloc (.cells #[.int .i64 0, .int .u8 0, .int .u32 0] 26) = w0 at *
      go_loopw [4, 5, 6, 25, 38] (fun v4 v5 _ _ _ wr => ∃ j : Nat, j ≤ 3 ∧ v5 = .int .i64 ((4 + j : Nat) : Int) ∧ v4 = .int .u32 (fr s.data.toList j : Nat) ∧ Hid (Rr w wr s j)) (fun _ v5 _ _ _ _ => 7 - (intOf v5).toNat)
      case atStart => exact ⟨0, by omega, rfl, rfl, I0⟩
      case round =>
        obtain ⟨j, hj, rfl, rfl, I⟩ := hrel
        clear I0
        rcases (show j = 0 ∨ j = 1 ∨ j = 2 ∨ j = 3 by omega) with rfl | rfl | rfl | rfl
        · have hi : 4 < s.size := by omega
          have hg : s.data.toList.getD 4 0 = s[4]'hi := by
            rw [List.getD_eq_getElem?_getD, List.getElem?_eq_getElem (by rw [← Lib.size_eq]; exact hi)]
            rfl
          have hii : (4 : Int) < (s.size : Int) := by omega
          have hfr : fr s.data.toList 1 = 16 * fr s.data.toList 0 + dl (s[4]'hi) := by rw [← hg]; rfl
          have hlt := fr_lt 0 I.out.2.2
          have HL := Lib.hid (show fr s.data.toList 0 < 4096 from Nat.lt_of_lt_of_le hlt (by decide))
          have ND := Lib.hid (fun h => none_digit H45.out 0 (by omega) (show ¬ dl (s.data.toList.getD (4 + 0) 0) < 16 from h))
          have GG := Lib.hid hg
          have HFR := Lib.hid hfr
          clear hg hfr
          generalize fr s.data.toList 0 = F at *
          have hc256 := (s[4]'hi).toNat_lt
          by_cases hd : 48 ≤ (s[4]'hi).toNat ∧ (s[4]'hi).toNat ≤ 57
          · have hdv : dl (s[4]'hi) = (s[4]'hi).toNat - 48 := by unfold dl; rw [if_pos hd]
            obtain ⟨hd0, hd1⟩ := hd
            have m1 : IntKind.u32.wrap (16 * (F : Int)) = 16 * (F : Int) := by rw [IntKind.wrap_u32']; simp at hlt; omega
            have m2 : IntKind.u32.wrap (16 * (F : Int) + (((s[4]'hi).toNat : Int) - 48)) = 16 * (F : Int) + (((s[4]'hi).toNat : Int) - 48) := by rw [IntKind.wrap_u32']; simp at hlt; omega
            have J := Lib.hid (show Rr w wr s 1 from ⟨I.out.1, I.out.2.1, fun q hq => by
              by_cases e : q = 0
              · subst e
                show dl (s.data.toList.getD 4 0) < 16
                rw [GG.out, hdv]; omega
              · exact I.out.2.2 q (by omega)⟩)
            have E := Lib.hid (show (16 * (F : Int) + (((s[4]'hi).toNat : Int) - 48)) = ((fr s.data.toList 1 : Nat) : Int) by rw [HFR.out, hdv]; omega)
            clear hdv hlt
            go_wp2
            go_roundw
            case rel => exact ⟨1, by omega, rfl, by first | rfl | (congr 1; have h1 := E.out; have h2 := HL.out; omega), J⟩
            case measure => simp [intOf]
          · by_cases he : 97 ≤ (s[4]'hi).toNat ∧ (s[4]'hi).toNat ≤ 102
            · have hdv : dl (s[4]'hi) = (s[4]'hi).toNat - 87 := by unfold dl; rw [if_neg hd, if_pos he]
              obtain ⟨hd0, hd1⟩ := he
              have m0 : 57 < (s[4]'hi).toNat := by omega
              have m1 : IntKind.u32.wrap (16 * (F : Int)) = 16 * (F : Int) := by rw [IntKind.wrap_u32']; simp at hlt; omega
              have m2 : IntKind.u32.wrap (16 * (F : Int) + (((s[4]'hi).toNat : Int) - 97)) = 16 * (F : Int) + (((s[4]'hi).toNat : Int) - 97) := by rw [IntKind.wrap_u32']; simp at hlt; omega
              have m3 : IntKind.u32.wrap (16 * (F : Int) + (((s[4]'hi).toNat : Int) - 97) + 10) = 16 * (F : Int) + (((s[4]'hi).toNat : Int) - 97) + 10 := by rw [IntKind.wrap_u32']; simp at hlt; omega
              have J := Lib.hid (show Rr w wr s 1 from ⟨I.out.1, I.out.2.1, fun q hq => by
                by_cases e : q = 0
                · subst e
                  show dl (s.data.toList.getD 4 0) < 16
                  rw [GG.out, hdv]; omega
                · exact I.out.2.2 q (by omega)⟩)
              have E := Lib.hid (show (16 * (F : Int) + (((s[4]'hi).toNat : Int) - 97) + 10) = ((fr s.data.toList 1 : Nat) : Int) by rw [HFR.out, hdv]; omega)
              clear hdv hlt hd
              go_wp2
              go_roundw
              case rel => exact ⟨1, by omega, rfl, by first | rfl | (congr 1; have h1 := E.out; have h2 := HL.out; omega), J⟩
              case measure => simp [intOf]
            · have RR := Lib.hid (show readE s.data.toList = (zeroE, 44) from ND.out (by
                show ¬ dl (s.data.toList.getD 4 0) < 16
                rw [GG.out]; unfold dl; rw [if_neg hd, if_neg he]; decide))
              have hx : (s[4]'hi).toNat < 48 ∨ 57 < (s[4]'hi).toNat ∧ (s[4]'hi).toNat < 97 ∨ 102 < (s[4]'hi).toNat := by omega
              clear hd he hlt
              rcases hx with hx | ⟨hx, hy⟩ | hx
              all_goals
                obtain ⟨d0, d1, d2, f0, f1, f2⟩ := row3 I.out.2.1
                have R0 := I.out.2.1
                have K := Lib.hid (heap_setCell_same _ w.heap.size 2 _ _ (.int .u32 0) (heap_setCell_same _ w.heap.size 1 _ _ (.int .u8 0) (heap_setCell_same wr w.heap.size 0 _ _ (.int .i64 0) R0)))
                have C4 := Lib.hid (((I.out.1.set_new 0 (.int .i64 0) (Nat.le_refl _)).set_new 1 (.int .u8 0) (Nat.le_refl _)).set_new 2 (.int .u32 0) (Nat.le_refl _))
                clear R0
                go_wp2
                refine bodyPost_ret (results_cell_tmp (p := 2) (q := 3) (ty := 26) rfl _ _ w.heap.size 26 #[.int .i64 0, .int .u8 0, .int .u32 0] (0, 0) _ rfl K.out Tryd.underlying26 rfl info26 (.int .i64 44) rfl) rfl ?_
                exact ⟨by first | (rw [RR.out]; done) | (rw [RR.out]; rfl), C4.out⟩
        · have hi : 5 < s.size := by omega
          have hg : s.data.toList.getD 5 0 = s[5]'hi := by
            rw [List.getD_eq_getElem?_getD, List.getElem?_eq_getElem (by rw [← Lib.size_eq]; exact hi)]
            rfl
          have hii : (5 : Int) < (s.size : Int) := by omega
          have hfr : fr s.data.toList 2 = 16 * fr s.data.toList 1 + dl (s[5]'hi) := by rw [← hg]; rfl
          have hlt := fr_lt 1 I.out.2.2
          have HL := Lib.hid (show fr s.data.toList 1 < 4096 from Nat.lt_of_lt_of_le hlt (by decide))
          have ND := Lib.hid (fun h => none_digit H45.out 1 (by omega) (show ¬ dl (s.data.toList.getD (4 + 1) 0) < 16 from h))
          have GG := Lib.hid hg
          have HFR := Lib.hid hfr
          clear hg hfr
          generalize fr s.data.toList 1 = F at *
          have hc256 := (s[5]'hi).toNat_lt
          by_cases hd : 48 ≤ (s[5]'hi).toNat ∧ (s[5]'hi).toNat ≤ 57
          · have hdv : dl (s[5]'hi) = (s[5]'hi).toNat - 48 := by unfold dl; rw [if_pos hd]
            obtain ⟨hd0, hd1⟩ := hd
            have m1 : IntKind.u32.wrap (16 * (F : Int)) = 16 * (F : Int) := by rw [IntKind.wrap_u32']; simp at hlt; omega
            have m2 : IntKind.u32.wrap (16 * (F : Int) + (((s[5]'hi).toNat : Int) - 48)) = 16 * (F : Int) + (((s[5]'hi).toNat : Int) - 48) := by rw [IntKind.wrap_u32']; simp at hlt; omega
            have J := Lib.hid (show Rr w wr s 2 from ⟨I.out.1, I.out.2.1, fun q hq => by
              by_cases e : q = 1
              · subst e
                show dl (s.data.toList.getD 5 0) < 16
                rw [GG.out, hdv]; omega
              · exact I.out.2.2 q (by omega)⟩)
            have E := Lib.hid (show (16 * (F : Int) + (((s[5]'hi).toNat : Int) - 48)) = ((fr s.data.toList 2 : Nat) : Int) by rw [HFR.out, hdv]; omega)
            clear hdv hlt
            go_wp2
            go_roundw
            case rel => exact ⟨2, by omega, rfl, by first | rfl | (congr 1; have h1 := E.out; have h2 := HL.out; omega), J⟩
            case measure => simp [intOf]
          · by_cases he : 97 ≤ (s[5]'hi).toNat ∧ (s[5]'hi).toNat ≤ 102
            · have hdv : dl (s[5]'hi) = (s[5]'hi).toNat - 87 := by unfold dl; rw [if_neg hd, if_pos he]
              obtain ⟨hd0, hd1⟩ := he
              have m0 : 57 < (s[5]'hi).toNat := by omega
              have m1 : IntKind.u32.wrap (16 * (F : Int)) = 16 * (F : Int) := by rw [IntKind.wrap_u32']; simp at hlt; omega
              have m2 : IntKind.u32.wrap (16 * (F : Int) + (((s[5]'hi).toNat : Int) - 97)) = 16 * (F : Int) + (((s[5]'hi).toNat : Int) - 97) := by rw [IntKind.wrap_u32']; simp at hlt; omega
              have m3 : IntKind.u32.wrap (16 * (F : Int) + (((s[5]'hi).toNat : Int) - 97) + 10) = 16 * (F : Int) + (((s[5]'hi).toNat : Int) - 97) + 10 := by rw [IntKind.wrap_u32']; simp at hlt; omega
              have J := Lib.hid (show Rr w wr s 2 from ⟨I.out.1, I.out.2.1, fun q hq => by
                by_cases e : q = 1
                · subst e
                  show dl (s.data.toList.getD 5 0) < 16
                  rw [GG.out, hdv]; omega
                · exact I.out.2.2 q (by omega)⟩)
              have E := Lib.hid (show (16 * (F : Int) + (((s[5]'hi).toNat : Int) - 97) + 10) = ((fr s.data.toList 2 : Nat) : Int) by rw [HFR.out, hdv]; omega)
              clear hdv hlt hd
              go_wp2
              go_roundw
              case rel => exact ⟨2, by omega, rfl, by first | rfl | (congr 1; have h1 := E.out; have h2 := HL.out; omega), J⟩
              case measure => simp [intOf]
            · have RR := Lib.hid (show readE s.data.toList = (zeroE, 44) from ND.out (by
                show ¬ dl (s.data.toList.getD 5 0) < 16
                rw [GG.out]; unfold dl; rw [if_neg hd, if_neg he]; decide))
              have hx : (s[5]'hi).toNat < 48 ∨ 57 < (s[5]'hi).toNat ∧ (s[5]'hi).toNat < 97 ∨ 102 < (s[5]'hi).toNat := by omega
              clear hd he hlt
              rcases hx with hx | ⟨hx, hy⟩ | hx
              all_goals
                obtain ⟨d0, d1, d2, f0, f1, f2⟩ := row3 I.out.2.1
                have R0 := I.out.2.1
                have K := Lib.hid (heap_setCell_same _ w.heap.size 2 _ _ (.int .u32 0) (heap_setCell_same _ w.heap.size 1 _ _ (.int .u8 0) (heap_setCell_same wr w.heap.size 0 _ _ (.int .i64 0) R0)))
                have C4 := Lib.hid (((I.out.1.set_new 0 (.int .i64 0) (Nat.le_refl _)).set_new 1 (.int .u8 0) (Nat.le_refl _)).set_new 2 (.int .u32 0) (Nat.le_refl _))
                clear R0
                go_wp2
                refine bodyPost_ret (results_cell_tmp (p := 2) (q := 3) (ty := 26) rfl _ _ w.heap.size 26 #[.int .i64 0, .int .u8 0, .int .u32 0] (0, 0) _ rfl K.out Tryd.underlying26 rfl info26 (.int .i64 44) rfl) rfl ?_
                exact ⟨by first | (rw [RR.out]; done) | (rw [RR.out]; rfl), C4.out⟩
        · have hi : 6 < s.size := by omega
          have hg : s.data.toList.getD 6 0 = s[6]'hi := by
            rw [List.getD_eq_getElem?_getD, List.getElem?_eq_getElem (by rw [← Lib.size_eq]; exact hi)]
            rfl
          have hii : (6 : Int) < (s.size : Int) := by omega
          have hfr : fr s.data.toList 3 = 16 * fr s.data.toList 2 + dl (s[6]'hi) := by rw [← hg]; rfl
          have hlt := fr_lt 2 I.out.2.2
          have HL := Lib.hid (show fr s.data.toList 2 < 4096 from Nat.lt_of_lt_of_le hlt (by decide))
          have ND := Lib.hid (fun h => none_digit H45.out 2 (by omega) (show ¬ dl (s.data.toList.getD (4 + 2) 0) < 16 from h))
          have GG := Lib.hid hg
          have HFR := Lib.hid hfr
          clear hg hfr
          generalize fr s.data.toList 2 = F at *
          have hc256 := (s[6]'hi).toNat_lt
          by_cases hd : 48 ≤ (s[6]'hi).toNat ∧ (s[6]'hi).toNat ≤ 57
          · have hdv : dl (s[6]'hi) = (s[6]'hi).toNat - 48 := by unfold dl; rw [if_pos hd]
            obtain ⟨hd0, hd1⟩ := hd
            have m1 : IntKind.u32.wrap (16 * (F : Int)) = 16 * (F : Int) := by rw [IntKind.wrap_u32']; simp at hlt; omega
            have m2 : IntKind.u32.wrap (16 * (F : Int) + (((s[6]'hi).toNat : Int) - 48)) = 16 * (F : Int) + (((s[6]'hi).toNat : Int) - 48) := by rw [IntKind.wrap_u32']; simp at hlt; omega
            have J := Lib.hid (show Rr w wr s 3 from ⟨I.out.1, I.out.2.1, fun q hq => by
              by_cases e : q = 2
              · subst e
                show dl (s.data.toList.getD 6 0) < 16
                rw [GG.out, hdv]; omega
              · exact I.out.2.2 q (by omega)⟩)
            have E := Lib.hid (show (16 * (F : Int) + (((s[6]'hi).toNat : Int) - 48)) = ((fr s.data.toList 3 : Nat) : Int) by rw [HFR.out, hdv]; omega)
            clear hdv hlt
            go_wp2
            go_roundw
            case rel => exact ⟨3, by omega, rfl, by first | rfl | (congr 1; have h1 := E.out; have h2 := HL.out; omega), J⟩
            case measure => simp [intOf]
          · by_cases he : 97 ≤ (s[6]'hi).toNat ∧ (s[6]'hi).toNat ≤ 102
            · have hdv : dl (s[6]'hi) = (s[6]'hi).toNat - 87 := by unfold dl; rw [if_neg hd, if_pos he]
              obtain ⟨hd0, hd1⟩ := he
              have m0 : 57 < (s[6]'hi).toNat := by omega
              have m1 : IntKind.u32.wrap (16 * (F : Int)) = 16 * (F : Int) := by rw [IntKind.wrap_u32']; simp at hlt; omega
              have m2 : IntKind.u32.wrap (16 * (F : Int) + (((s[6]'hi).toNat : Int) - 97)) = 16 * (F : Int) + (((s[6]'hi).toNat : Int) - 97) := by rw [IntKind.wrap_u32']; simp at hlt; omega
              have m3 : IntKind.u32.wrap (16 * (F : Int) + (((s[6]'hi).toNat : Int) - 97) + 10) = 16 * (F : Int) + (((s[6]'hi).toNat : Int) - 97) + 10 := by rw [IntKind.wrap_u32']; simp at hlt; omega
              have J := Lib.hid (show Rr w wr s 3 from ⟨I.out.1, I.out.2.1, fun q hq => by
                by_cases e : q = 2
                · subst e
                  show dl (s.data.toList.getD 6 0) < 16
                  rw [GG.out, hdv]; omega
                · exact I.out.2.2 q (by omega)⟩)
              have E := Lib.hid (show (16 * (F : Int) + (((s[6]'hi).toNat : Int) - 97) + 10) = ((fr s.data.toList 3 : Nat) : Int) by rw [HFR.out, hdv]; omega)
              clear hdv hlt hd
              go_wp2
              go_roundw
              case rel => exact ⟨3, by omega, rfl, by first | rfl | (congr 1; have h1 := E.out; have h2 := HL.out; omega), J⟩
              case measure => simp [intOf]
            · have RR := Lib.hid (show readE s.data.toList = (zeroE, 44) from ND.out (by
                show ¬ dl (s.data.toList.getD 6 0) < 16
                rw [GG.out]; unfold dl; rw [if_neg hd, if_neg he]; decide))
              have hx : (s[6]'hi).toNat < 48 ∨ 57 < (s[6]'hi).toNat ∧ (s[6]'hi).toNat < 97 ∨ 102 < (s[6]'hi).toNat := by omega
              clear hd he hlt
              rcases hx with hx | ⟨hx, hy⟩ | hx
              all_goals
                obtain ⟨d0, d1, d2, f0, f1, f2⟩ := row3 I.out.2.1
                have R0 := I.out.2.1
                have K := Lib.hid (heap_setCell_same _ w.heap.size 2 _ _ (.int .u32 0) (heap_setCell_same _ w.heap.size 1 _ _ (.int .u8 0) (heap_setCell_same wr w.heap.size 0 _ _ (.int .i64 0) R0)))
                have C4 := Lib.hid (((I.out.1.set_new 0 (.int .i64 0) (Nat.le_refl _)).set_new 1 (.int .u8 0) (Nat.le_refl _)).set_new 2 (.int .u32 0) (Nat.le_refl _))
                clear R0
                go_wp2
                refine bodyPost_ret (results_cell_tmp (p := 2) (q := 3) (ty := 26) rfl _ _ w.heap.size 26 #[.int .i64 0, .int .u8 0, .int .u32 0] (0, 0) _ rfl K.out Tryd.underlying26 rfl info26 (.int .i64 44) rfl) rfl ?_
                exact ⟨by first | (rw [RR.out]; done) | (rw [RR.out]; rfl), C4.out⟩
        · rw [show ((4 + 3 : Nat) : Int) = 7 from rfl]
          go_wp2_with fail
          have ST := Lib.hid (show Chg w wr none ∧ wr.heap[w.heap.size]? = some (.cells #[.int .i64 0, .int .u8 0, .int .u32 0] 26 (0, 0)) ∧ ∀ k : Nat, 1 ≤ k → k < 1 → ∀ p, p < 8 → showE ⟨k, p, fr s.data.toList 3⟩ ≠ s.data.toList from ⟨I.out.1, I.out.2.1, fun k h1 h2 => by omega⟩)
          have hF := fr_lt 3 I.out.2.2
          have hF2 : fr s.data.toList 3 < 4294967296 := Nat.lt_trans hF (by decide)
          have NA := Lib.hid (fun h => none_all H45.out h)
          have HT := Lib.hid (fun (e : Ent) (h : showE e = s.data.toList) => read_hit (fun h0 => by have e := Lib.size_eq s; rw [h0, hI.out] at e; exact absurd e (by decide)) h)
          have SW := Lib.hid (fun X (k : Nat) (hk : k < 3) (p : Nat) (hp : p < 8) => rshow_any X k p (fr s.data.toList 3) (by omega) hF2 (by omega))
          generalize fr s.data.toList 3 = F at *
          clear I hF h7
          obtain ⟨w1, e⟩ : ∃ x, x = wr := ⟨wr, rfl⟩
          subst e
          go_loopw [7, 8, 9] (fun v7 _ _ wr => ∃ k : Nat, 1 ≤ k ∧ k ≤ 3 ∧ v7 = .int .i64 k ∧ Hid (Chg w wr none ∧ wr.heap[w.heap.size]? = some (.cells #[.int .i64 0, .int .u8 0, .int .u32 0] 26 (0, 0)) ∧ ∀ q : Nat, 1 ≤ q → q < k → ∀ p, p < 8 → showE ⟨q, p, F⟩ ≠ s.data.toList)) (fun v7 _ _ _ => 3 - (intOf v7).toNat)
          case atStart => exact ⟨1, by omega, by omega, rfl, ST⟩
          case round =>
            obtain ⟨k, hk1, hk3, rfl, I⟩ := hrel
            by_cases hk : k < 3
            · have hk2 : (k : Int) ≤ 2 := by omega
              go_wp2_with fail
              have I1 := Lib.hid (show Chg w wr none ∧ wr.heap[w.heap.size]? = some (.cells #[.int .i64 0, .int .u8 0, .int .u32 0] 26 (0, 0)) ∧ (∀ q : Nat, 1 ≤ q → q < k → ∀ p, p < 8 → showE ⟨q, p, F⟩ ≠ s.data.toList) ∧ ∀ p, p < 0 → showE ⟨k, p, F⟩ ≠ s.data.toList from ⟨I.out.1, I.out.2.1, I.out.2.2, fun p hp => by omega⟩)
              clear I
              obtain ⟨w2, e⟩ : ∃ x, x = wr := ⟨wr, rfl⟩
              subst e
              go_loopw [8, 9] (fun v8 _ wr => ∃ p : Nat, p ≤ 8 ∧ v8 = .int .u8 p ∧ Hid (Chg w wr none ∧ wr.heap[w.heap.size]? = some (.cells #[.int .i64 0, .int .u8 0, .int .u32 0] 26 (0, 0)) ∧ (∀ q : Nat, 1 ≤ q → q < k → ∀ p, p < 8 → showE ⟨q, p, F⟩ ≠ s.data.toList) ∧ ∀ q, q < p → showE ⟨k, q, F⟩ ≠ s.data.toList)) (fun v8 _ _ => 8 - (intOf v8).toNat)
              case atStart => exact ⟨0, by omega, rfl, I1⟩
              case round =>
                obtain ⟨p, hp8, rfl, J⟩ := hrel
                clear I1
                by_cases hp : p < 8
                · have SH := Lib.hid (fun X => SW.out X k hk p hp)
                  have C1 := Lib.hid (J.out.1.alloc (.cells #[.int .i64 k, .int .u8 p, .int .u32 F] 26))
                  have hlr : w.heap.size < wr.heap.size := (Array.getElem?_eq_some_iff.1 J.out.2.1).1
                  have R1 := Lib.hid ((heap_alloc_old wr (.cells #[.int .i64 k, .int .u8 p, .int .u32 F] 26) hlr).trans J.out.2.1)
                  have E1 := Lib.hid (heap_alloc_last wr (.cells #[.int .i64 k, .int .u8 p, .int .u32 F] 26))
                  by_cases hq : showE ⟨k, p, F⟩ = s.data.toList
                  · have RR := Lib.hid (HT.out _ hq)
                    have ex : (⟨(showE ⟨k, p, F⟩).toArray⟩ : ByteArray) = s := (str_of s _ hq.symm).symm
                    rw [ex] at SH
                    clear hq ex
                    go_wp2_with fail
                    refine (SH.out _).mono ?_
                    rintro e w5 ⟨rfl, hC⟩
                    have R0 := row_kept R1.out hC
                    obtain ⟨c0, c1, c2, _, _, _⟩ := row3 (row_kept E1.out hC)
                    obtain ⟨d0, d1, d2, f0, f1, f2⟩ := row3 R0
                    have hl5 : wr.heap.size < w5.heap.size := (Array.getElem?_eq_some_iff.1 (row_kept E1.out hC)).1
                    have C2 := Lib.hid (C1.out.trans hC)
                    clear hC
                    have K := Lib.hid (heap_setCell_same _ w.heap.size 2 _ _ (.int .u32 F) (heap_setCell_same _ w.heap.size 1 _ _ (.int .u8 p) (heap_setCell_same w5 w.heap.size 0 _ _ (.int .i64 k) R0)))
                    have C4 := Lib.hid (((C2.out.set_new 0 (.int .i64 k) (Nat.le_refl _)).set_new 1 (.int .u8 p) (Nat.le_refl _)).set_new 2 (.int .u32 F) (Nat.le_refl _))
                    clear R0
                    go_wp2
                    refine bodyPost_ret (results_cell_tmp (p := 2) (q := 3) (ty := 26) rfl _ _ w.heap.size 26 #[.int .i64 k, .int .u8 p, .int .u32 F] (0, 0) _ rfl K.out Tryd.underlying26 rfl info26 (.int .i64 0) rfl) rfl ?_
                    exact ⟨by first | (rw [RR.out]; done) | (rw [RR.out]; rfl), C4.out⟩
                  · have ex : (⟨(showE ⟨k, p, F⟩).toArray⟩ : ByteArray) ≠ s := fun h => hq (congrArg (fun x : ByteArray => x.data.toList) h)
                    have HQ := Lib.hid hq
                    generalize (⟨(showE ⟨k, p, F⟩).toArray⟩ : ByteArray) = X at *
                    have hb1 : (X.toList == s.toList) = false := str_ne ex
                    clear hq ex
                    go_wp2_with fail
                    refine (SH.out _).mono ?_
                    rintro e w5 ⟨rfl, hC⟩
                    have N := Lib.hid (show Chg w w5 none ∧ w5.heap[w.heap.size]? = some (.cells #[.int .i64 0, .int .u8 0, .int .u32 0] 26 (0, 0)) ∧ (∀ q : Nat, 1 ≤ q → q < k → ∀ p, p < 8 → showE ⟨q, p, F⟩ ≠ s.data.toList) ∧ ∀ q, q < p + 1 → showE ⟨k, q, F⟩ ≠ s.data.toList from
                      ⟨C1.out.trans hC, row_kept R1.out hC, J.out.2.2.1, fun q hq => by
                        by_cases e : q = p
                        · subst e; exact HQ.out
                        · exact J.out.2.2.2 q (by omega)⟩)
                    clear hC
                    go_wp2
                    go_roundw
                    case rel => exact ⟨p + 1, by omega, by go_num, N⟩
                    case measure => simp [intOf]; omega
                · have N := Lib.hid (show Chg w wr none ∧ wr.heap[w.heap.size]? = some (.cells #[.int .i64 0, .int .u8 0, .int .u32 0] 26 (0, 0)) ∧ ∀ q : Nat, 1 ≤ q → q < k + 1 → ∀ p, p < 8 → showE ⟨q, p, F⟩ ≠ s.data.toList from
                    ⟨J.out.1, J.out.2.1, fun q h1 h2 r hr => by
                      by_cases e : q = k
                      · subst e; exact J.out.2.2.2 r (by omega)
                      · exact J.out.2.2.1 q h1 (by omega) r hr⟩)
                  go_wp2
                  go_roundw
                  case rel => exact ⟨k + 1, by omega, by omega, by go_num, N⟩
                  case measure => simp [intOf]; omega
            · have RR := Lib.hid (NA.out (fun q h1 h2 r hr => I.out.2.2 q h1 (by omega) r hr))
              obtain ⟨d0, d1, d2, f0, f1, f2⟩ := row3 I.out.2.1
              have R0 := I.out.2.1
              have K := Lib.hid (heap_setCell_same _ w.heap.size 2 _ _ (.int .u32 0) (heap_setCell_same _ w.heap.size 1 _ _ (.int .u8 0) (heap_setCell_same wr w.heap.size 0 _ _ (.int .i64 0) R0)))
              have C4 := Lib.hid (((I.out.1.set_new 0 (.int .i64 0) (Nat.le_refl _)).set_new 1 (.int .u8 0) (Nat.le_refl _)).set_new 2 (.int .u32 0) (Nat.le_refl _))
              clear R0
              go_wp2
              refine bodyPost_ret (results_cell_tmp (p := 2) (q := 3) (ty := 26) rfl _ _ w.heap.size 26 #[.int .i64 0, .int .u8 0, .int .u32 0] (0, 0) _ rfl K.out Tryd.underlying26 rfl info26 (.int .i64 44) rfl) rfl ?_
              exact ⟨by first | (rw [RR.out]; done) | (rw [RR.out]; rfl), C4.out⟩
    · have RR := Lib.hid (none_len H45.out (by rw [← Lib.size_eq]; exact h7))
      have hn7 : ((s.size : Int) != 7) = true := by simp; omega
      clear h7
      go_enter Tryd.func14, Tryd.ntmps14
      go_wp2
      refine bodyPost_ret (results_cell_tmp (p := 2) (q := 3) (ty := 26) rfl _ _ w.heap.size 26 #[.int .i64 0, .int .u8 0, .int .u32 0] (0, 0) _ rfl G0.out Tryd.underlying26 rfl info26 (.int .i64 44) rfl) rfl ?_
      exact ⟨by first | (rw [RR.out]; done) | (rw [RR.out]; rfl), C0.out⟩

/-! ### EntryTexts -/
set_option maxRecDepth 100000 in
set_option maxHeartbeats 4000000 in
theorem texts_walk (w : World) (hL : Lb w) (s : ByteArray) (hs : s.size ≤ 140737488355328) : Calls Tryd.prog 4 #[.string s] w fun e w' => e = .returned (.bool true) ∧ Chg w w' none := by
  have LL := Lib.hid hL
  have KN := Lib.hid (known_any w hL)
  have RD := Lib.hid (fun X (h : Lb X) => read_any X h s hs)
  have RR := Lib.hid (fun X => rread_any X s hs)
  generalize readE s.data.toList = x at *
  obtain ⟨⟨k, p, f⟩, n⟩ := x
  clear hL
  go_enter Tryd.func4, Tryd.ntmps4
  go_wp2_with fail
  refine KN.out.mono ?_
  rintro e w1 ⟨rfl, hC⟩
  have C1 := Lib.hid hC
  clear hC
  go_wp2_with fail
  refine (RD.out _ (LL.out.kept C1.out)).mono ?_
  rintro e w2 ⟨rfl, hC⟩
  have C2 := Lib.hid ((C1.out.trans hC).alloc (ent ⟨k, p, f⟩))
  have G2 := Lib.hid (heap_alloc_last w2 (ent ⟨k, p, f⟩))
  clear hC
  go_wp2_with fail
  refine (RR.out _).mono ?_
  rintro e w3 ⟨rfl, hC⟩
  have C3 := Lib.hid ((C2.out.trans hC).alloc (ent ⟨k, p, f⟩))
  obtain ⟨c0, c1, c2, _, _, _⟩ := row3 (row_kept G2.out hC)
  have hl := (Array.getElem?_eq_some_iff.1 (row_kept G2.out hC)).1
  clear hC
  go_wp2
  go_ret
  exact ⟨rfl, C3.out⟩
end Go.Proofs.YtjijejeeejjplaaDoor.En
