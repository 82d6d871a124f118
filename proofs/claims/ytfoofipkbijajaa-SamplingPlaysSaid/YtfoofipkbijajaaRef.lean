/- The document's New: its contract. No statement of the seat is proved here. -/
import Derived.Test.YtfoofipkbijajaaPort
namespace Go.Proofs.Ytfoofipkbijajaa.Sa
open Go.RowKit Go.Proofs.Ytfoofipkbijajaa.Kit
set_option linter.unusedSimpArgs false
set_option linter.unusedVariables false

set_option maxHeartbeats 2000000 in
theorem may_bad (w : World) (W S : Int) (rv : Value) (rs : List Int) (h : Ri w rv rs) (hb : isC W = false ∨ sized S = false ∨ rs.length = 0) :
    Calls Try.prog 26 #[.agg #[.int .i64 W, .int .i64 S, rv]] w fun e w' => e = .returned (.bool false) ∧ Chg w w' none := by
  obtain ⟨⟨A, cap, rfl, hcap, hcc⟩, hf⟩ := h
  clear hcc
  have C1 := Lib.hid ((Chg.refl w none).alloc (.cells #[.int .i64 W, .int .i64 S, .slice A rs.length cap] 24))
  have hbk := heap_alloc_last w (.cells #[.int .i64 W, .int .i64 S, .slice A rs.length cap] 24)
  have b0 : (w.alloc (.cells #[.int .i64 W, .int .i64 S, .slice A rs.length cap] 24)).cell? ⟨w.heap.size, 0, none⟩ = some (.int .i64 W) := by rw [cell_of_row _ _ _ _ _ _ hbk]; rfl
  have b1 : (w.alloc (.cells #[.int .i64 W, .int .i64 S, .slice A rs.length cap] 24)).cell? ⟨w.heap.size, 1, none⟩ = some (.int .i64 S) := by rw [cell_of_row _ _ _ _ _ _ hbk]; rfl
  have b2 : (w.alloc (.cells #[.int .i64 W, .int .i64 S, .slice A rs.length cap] 24)).cell? ⟨w.heap.size, 2, none⟩ = some (.slice A rs.length cap) := by rw [cell_of_row _ _ _ _ _ _ hbk]; rfl
  clear hbk
  by_cases c1 : 1 ≤ W
  · by_cases c2 : W ≤ 8
    · by_cases h1 : 4 ≤ S
      · by_cases h2 : S ≤ 256
        · by_cases h3 : S % 4 = 0
          · have h0 : rs.length = 0 := by
              rcases hb with h | h | h
              · simp [isC, c1, c2] at h
              · simp [sized, h1, h2, h3] at h
              · exact h
            have hnb : ((rs.length : Int) == 0) = true := beq_iff_eq.2 (by omega)
            have h3b : (S % 4 != 0) = false := by simpa using h3
            clear h3 h0 hb
            go_enter Try.func26, Try.ntmps26
            go_wp2
            go_ret
            exact ⟨rfl, C1.out⟩
          · have h3b : (S % 4 != 0) = true := by simpa using h3
            clear h3 hb
            go_enter Try.func26, Try.ntmps26
            go_wp2
            go_ret
            exact ⟨rfl, C1.out⟩
        · have hd : decide (256 < S) = true := by simp only [decide_eq_true_eq]; omega
          clear hb
          go_enter Try.func26, Try.ntmps26
          go_wp2
          go_ret
          exact ⟨rfl, C1.out⟩
      · have hd : decide (S < 4) = true := by simp only [decide_eq_true_eq]; omega
        clear hb
        go_enter Try.func26, Try.ntmps26
        go_wp2
        go_ret
        exact ⟨rfl, C1.out⟩
    · have hd : decide (8 < W) = true := by simp only [decide_eq_true_eq]; omega
      clear hb
      go_enter Try.func26, Try.ntmps26
      go_wp2
      go_ret
      exact ⟨rfl, C1.out⟩
  · have hd : decide (W < 1) = true := by simp only [decide_eq_true_eq]; omega
    clear hb
    go_enter Try.func26, Try.ntmps26
    go_wp2
    go_ret
    exact ⟨rfl, C1.out⟩

set_option maxHeartbeats 4000000 in
theorem may_loop (w : World) (W S : Int) (rv : Value) (rs : List Int) (h : Ri w rv rs) (hc : isC W = true) (h1 : 4 ≤ S) (h2 : S ≤ 256) (h3 : S % 4 = 0) (hn : 0 < rs.length) :
    Calls Try.prog 26 #[.agg #[.int .i64 W, .int .i64 S, rv]] w fun e w' => e = .returned (.bool (goods W rs rs.length)) ∧ Chg w w' none := by
  have hcw : 1 ≤ W ∧ W ≤ 8 := by simpa [isC] using hc
  obtain ⟨hw1, hw2⟩ := hcw
  have hnb : ((rs.length : Int) == 0) = false := beq_eq_false_iff_ne.2 (by omega)
  have h3b : (S % 4 != 0) = false := by simpa using h3
  have H := Lib.hid h
  obtain ⟨⟨A, cap, rfl, hcap, hcc⟩, hf⟩ := h
  clear hcc h3 hc
  have H1 := Lib.hid (H.out.kept (w' := w.alloc (.cells #[.int .i64 W, .int .i64 S, .slice A rs.length cap] 24)) (fun g _ hg => heap_alloc_old w _ hg))
  have C1 := Lib.hid ((Chg.refl w none).alloc (.cells #[.int .i64 W, .int .i64 S, .slice A rs.length cap] 24))
  have hbk := heap_alloc_last w (.cells #[.int .i64 W, .int .i64 S, .slice A rs.length cap] 24)
  have b0 : (w.alloc (.cells #[.int .i64 W, .int .i64 S, .slice A rs.length cap] 24)).cell? ⟨w.heap.size, 0, none⟩ = some (.int .i64 W) := by rw [cell_of_row _ _ _ _ _ _ hbk]; rfl
  have b1 : (w.alloc (.cells #[.int .i64 W, .int .i64 S, .slice A rs.length cap] 24)).cell? ⟨w.heap.size, 1, none⟩ = some (.int .i64 S) := by rw [cell_of_row _ _ _ _ _ _ hbk]; rfl
  have b2 : (w.alloc (.cells #[.int .i64 W, .int .i64 S, .slice A rs.length cap] 24)).cell? ⟨w.heap.size, 2, none⟩ = some (.slice A rs.length cap) := by rw [cell_of_row _ _ _ _ _ _ hbk]; rfl
  clear hbk H hn
  go_enter Try.func26, Try.ntmps26
  go_wp2
  generalize w.alloc (.cells #[.int .i64 W, .int .i64 S, .slice A rs.length cap] 24) = w1 at *
  go_loop [3, 4, 5] (fun i _ _ => ∃ k : Nat, k ≤ rs.length ∧ i = .int .i64 k ∧ Hid (goods W rs k = true)) (fun i _ _ => rs.length - (intOf i).toNat)
  case atStart => exact ⟨0, by omega, rfl, Lib.hid rfl⟩
  case round =>
    obtain ⟨k, hk, rfl, hgo⟩ := hrel
    by_cases hlt : k < rs.length
    · obtain ⟨rb, ro, rfl, hcell⟩ := H1.out.at_ k hlt
      have bad : good W rs k = false → goods W rs rs.length = false := fun h => goods_false h _ hlt
      have HB := Lib.hid bad
      clear bad
      by_cases g1 : 1 ≤ nth rs k
      · by_cases g1' : nth rs k ≤ 8
        · by_cases g2 : nth rs k = W
          · have g2b : (nth rs k == W) = true := by simpa using g2
            have G := Lib.hid (HB.out (by simp [good, g2b]))
            clear g2
            go_wp2
            go_ret
            exact ⟨by rw [G.out]; rfl, C1.out⟩
          · have g2b : (nth rs k == W) = false := by simpa using g2
            have HG2 := Lib.hid g2
            clear g2
            go_wp2
            go_loop [5] (fun i => ∃ j : Nat, j ≤ k ∧ i = .int .i64 j ∧ Hid (∀ l, l < j → nth rs l ≠ nth rs k)) (fun i => k - (intOf i).toNat)
            case atStart => exact ⟨0, by omega, rfl, Lib.hid fun l hl => by omega⟩
            case round =>
              obtain ⟨j, hj, rfl, hno⟩ := hrel
              by_cases hlt2 : j < k
              · obtain ⟨rb2, ro2, hA2, hcell2⟩ := H1.out.at_ j (by omega)
                injection hA2 with hA2
                injection hA2 with hA3 hA4
                subst hA3 hA4
                by_cases he : nth rs j = nth rs k
                · have heb : (nth rs j == nth rs k) = true := by simpa using he
                  have hin : nth rs k ∈ rs.take k := by
                    rw [← he, ← nth_take hlt2]
                    exact nth_mem (by simp; omega)
                  have G := Lib.hid (HB.out (by simp [good, hin]))
                  clear he hin
                  go_wp2
                  go_ret
                  exact ⟨by rw [G.out]; rfl, C1.out⟩
                · have heb : (nth rs j == nth rs k) = false := by simpa using he
                  have HE := Lib.hid he
                  clear he
                  go_wp2
                  go_round
                  case rel => exact ⟨j + 1, by omega, by go_num, Lib.hid fun l hl => by
                    by_cases e : l = j
                    · subst e; exact HE.out
                    · exact hno.out l (by omega)⟩
                  case measure => simp [intOf]; omega
              · have hno2 : ¬ nth rs k ∈ rs.take k := fun hin => by
                  obtain ⟨l, hl, e⟩ := mem_nth hin
                  have hl2 : l < k := by simp at hl; omega
                  rw [nth_take hl2] at e
                  exact hno.out l (by omega) e
                have G := Lib.hid (show goods W rs (k + 1) = true by simp [goods, hgo.out, good, isC, g1, g1', g2b, hno2])
                clear hno2
                go_wp2
                go_round
                case rel => exact ⟨k + 1, by omega, by go_num, G⟩
                case measure => simp [intOf]; omega
        · have hd : decide (8 < nth rs k) = true := by simp only [decide_eq_true_eq]; omega
          have G := Lib.hid (HB.out (by simp [good, isC]; omega))
          go_wp2
          go_ret
          exact ⟨by rw [G.out]; rfl, C1.out⟩
      · have hd : decide (nth rs k < 1) = true := by simp only [decide_eq_true_eq]; omega
        have G := Lib.hid (HB.out (by simp [good, isC]; omega))
        go_wp2
        go_ret
        exact ⟨by rw [G.out]; rfl, C1.out⟩
    · have hke : k = rs.length := by omega
      have hd : decide ((k : Int) < (rs.length : Int)) = false := by simp only [decide_eq_false_iff_not]; omega
      have G := Lib.hid (show goods W rs rs.length = true by rw [← hke]; exact hgo.out)
      clear hke
      go_wp2
      go_ret
      exact ⟨by rw [G.out]; rfl, C1.out⟩
theorem may_any (w : World) (W S : Int) (rv : Value) (rs : List Int) (h : Ri w rv rs) :
    Calls Try.prog 26 #[.agg #[.int .i64 W, .int .i64 S, rv]] w fun e w' => e = .returned (.bool (may W S rs)) ∧ Chg w w' none := by
  by_cases hb : isC W = false ∨ sized S = false ∨ rs.length = 0
  · have hmay : may W S rs = false := by
      rcases hb with h | h | h <;> simp [may, h]
    rw [hmay]
    exact may_bad w W S rv rs h hb
  · have h1 : isC W = true := by cases e : isC W with | true => rfl | false => exact absurd (.inl e) hb
    have h2 : sized S = true := by cases e : sized S with | true => rfl | false => exact absurd (.inr (.inl e)) hb
    have h3 : 0 < rs.length := Nat.pos_of_ne_zero (fun e => hb (.inr (.inr e)))
    have h4 : (4 ≤ S ∧ S ≤ 256) ∧ S % 4 = 0 := by simpa [sized] using h2
    have hmay : may W S rs = goods W rs rs.length := by simp [may, h1, h2, h3]
    rw [hmay]
    exact may_loop w W S rv rs h h1 h4.1.1 h4.1.2 h4.2 h3
end Go.Proofs.Ytfoofipkbijajaa.Sa
