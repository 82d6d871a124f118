/- The document's near, loses, Last: contracts. No statement of the seat is proved here. -/
import Derived.Test.YtlmgiejemdifkaaDoorOthers
namespace Go.Proofs.YtlmgiejemdifkaaDoor.Ca
open Go.RowKit Go.Proofs.YtlmgiejemdifkaaDoor.Kit
set_option linter.unusedSimpArgs false
set_option linter.unusedVariables false

theorem row_slice {w : World} {base e sz : Nat} {v : Value} {n : Nat} {xs : List Value} (h : w.ownsRow base e sz v n xs) : ∃ A c, v = .slice A n c := by
  rcases h.2 with ⟨h, h0⟩ | ⟨g, c, cur, h, _⟩
  · exact ⟨none, 0, by rw [h, h0]⟩
  · exact ⟨_, c, h⟩
set_option maxRecDepth 100000 in
set_option maxHeartbeats 4000000 in
theorem rnear_any (w : World) (b : Nat) (s : Shp) (hf : RcF w b s) (v1 : Value) (us : List Us) (h1 : Ru w v1 us) (hbig : us.length * 16 ≤ 140737488355328) (i : Nat) (hi : i < us.length) :
    Calls Tryd.prog 61 #[.pointer (some ⟨b, 0, none⟩), v1, .int .i64 i] w fun e w' => e = .returned (.bool (nearB s us i)) ∧ Chg w w' none := by
  have HO := Lib.hid (others_any w b s hf v1 us h1 hbig i hi)
  have HF := Lib.hid hf
  have HN := Lib.hid (show nearB s us i = ((oth s us (lineOf s us i) i []).2 && decide ((oth s us (lineOf s us i) i []).1.length < s.W)) from rfl)
  generalize nearB s us i = nb at *
  generalize oth s us (lineOf s us i) i [] = O at *
  obtain ⟨o, bb⟩ := O
  clear hf h1
  go_enter Tryd.func61, Tryd.ntmps61
  go_wp2_with fail
  refine HO.out.mono ?_
  rintro e w1 ⟨v', rfl, ho, hC⟩
  obtain ⟨A, c, rfl⟩ := row_slice ho
  have C1 := Lib.hid hC
  obtain ⟨d0, d1, d2⟩ := HF.out.kept hC (by simp)
  have HN2 := Lib.hid (show nb = (bb && decide (o.length < s.W)) from HN.out)
  clear ho hC HO HN
  simp only at *
  generalize o.length = n at *
  cases bb with
  | true =>
    go_wp2
    go_ret
    exact ⟨by rw [HN2.out]; rfl, C1.out⟩
  | false =>
    go_wp2
    go_ret
    exact ⟨by rw [HN2.out]; rfl, C1.out⟩
set_option maxRecDepth 100000 in
set_option maxHeartbeats 4000000 in
theorem rloses_any (w : World) (b : Nat) (s : Shp) (hf : RcF w b s) (v1 : Value) (us : List Us) (h1 : Ru w v1 us) (hbig : us.length * 16 ≤ 140737488355328) (i : Nat) (hi : i < us.length) :
    Calls Tryd.prog 62 #[.pointer (some ⟨b, 0, none⟩), v1, .int .i64 i] w fun e w' => e = .returned (.bool (loseB s us i)) ∧ Chg w w' none := by
  have OK := Lib.hid h1.okay
  have H1 := Lib.hid h1
  have HO := Lib.hid (others_any w b s hf v1 us h1 hbig i hi)
  have HF := Lib.hid hf
  obtain ⟨A1, cap, rfl⟩ : ∃ A cap, v1 = .slice A us.length cap := by obtain ⟨⟨A, cap, h, _⟩, _, _⟩ := h1; exact ⟨A, cap, h⟩
  obtain ⟨ab, ao, hA, hc0, hc1⟩ := h1.at_ i hi
  subst hA
  have RD := Lib.hid (fun X (hC : Chg w X none) k (hk : k < us.length) => show X.cell? ⟨ab, ao + k * 2, none⟩ = some (.int .u32 (unth us k).1) ∧ X.cell? ⟨ab, ao + k * 2 + 1, none⟩ = some (.bool (unth us k).2) by
    obtain ⟨a2, o2, e, q0, q1⟩ := H1.out.at_ k hk
    injection e with e
    injection e with e1 e2 _
    subst e1 e2
    exact ⟨cell_kept q0 hC (by simp), cell_kept q1 hC (by simp)⟩)
  have LN := Lib.hid (fun X (hC : Chg w X none) k => show Calls Tryd.prog 55 #[.pointer (some ⟨b, 0, none⟩), .int .u32 (unth us k).1] X fun e w' => e = .returned (.int .u32 (lineOf s us k : Nat)) ∧ X = w' from rline_any X b s (HF.out.kept hC (by simp)) _ (OK.out k))
  have NR := Lib.hid (fun X (hC : Chg w X none) k (hk : k < us.length) => rnear_any X b s (HF.out.kept hC (by simp)) _ us (H1.out.kept hC) hbig k hk)
  have HL := Lib.hid (show loseB s us i = (decide (s.W ≤ (oth s us (lineOf s us i) i []).1.length) && los s us ((oth s us (lineOf s us i) i []).1.getD (s.W - 1) 0) i) from rfl)
  have hW := s.hW
  have hfew : us.length ≤ 8796093022208 := by omega
  generalize loseB s us i = lb at *
  generalize oth s us (lineOf s us i) i [] = O at *
  obtain ⟨o, bb⟩ := O
  clear hf h1 hc0 hc1
  go_enter Tryd.func62, Tryd.ntmps62
  go_wp2_with fail
  refine HO.out.mono ?_
  rintro e w1 ⟨v', rfl, ho, hC⟩
  obtain ⟨A, c, hv'⟩ := row_slice ho
  subst hv'
  have C1 := Lib.hid hC
  obtain ⟨d0, d1, d2⟩ := HF.out.kept hC (by simp)
  have CE := Lib.hid (fun j (hj : j < o.length) => show ∃ g, A = some ⟨g, 0, none⟩ ∧ w1.cell? ⟨g, j, none⟩ = some (.int .u32 ((o.getD j 0 : Nat) : Int)) by
    rcases ho.2 with ⟨h, h0⟩ | ⟨g, c, cur, h, _⟩
    · have h0 : o.length = 0 := h0
      omega
    · injection h with h _ _
      refine ⟨g, h, ?_⟩
      have := ho.cells (g := g) (by rw [h]; rfl) j (.int .u32 ((o.getD j 0 : Nat) : Int)) (by simp [ucells, hj])
      rw [Addr.add_mid, Nat.zero_add] at this
      exact this)
  clear ho hC HO
  simp only at *
  by_cases hle : s.W ≤ o.length
  · obtain ⟨W1, hW1⟩ : ∃ W1, s.W = W1 + 1 := ⟨s.W - 1, by omega⟩
    obtain ⟨g, rfl, hcg⟩ := CE.out W1 (by omega)
    have hwr : IntKind.i64.wrap ((s.W : Int) - 1) = (W1 : Int) := by rw [IntKind.wrap_i64]; omega
    have hi1 : (W1 : Int) < (o.length : Int) := by omega
    have HL2 := Lib.hid (show lb = los s us (o.getD W1 0) i by rw [HL.out, decide_eq_true hle, Bool.true_and, hW1]; rfl)
    have hnl : ¬ ((o.length : Int) < (s.W : Int)) := by omega
    clear hW1 HL CE hle
    generalize o.getD W1 0 = gone at *
    generalize o.length = n at *
    have I0 := Lib.hid (And.intro C1.out (show los s us gone i = los s us gone i from rfl))
    go_wp2_with fail
    go_loopw [10, 11] (fun k _ wr => ∃ m : Nat, m ≤ i ∧ k = .int .i64 ((m : Int) - 1) ∧ Hid (Chg w wr none) ∧ Hid (los s us gone i = los s us gone m)) (fun k _ _ => (intOf k + 1).toNat)
    case atStart => exact ⟨i, by omega, rfl, Lib.hid C1.out, Lib.hid rfl⟩
    case round =>
      obtain ⟨m, hm, rfl, IC, IL⟩ := hrel
      clear I0
      cases m with
      | zero =>
        have F := Lib.hid (show los s us gone i = false from IL.out)
        go_wp2
        go_ret
        exact ⟨by rw [HL2.out, F.out]; rfl, IC.out⟩
      | succ m =>
        have em : ((m + 1 : Nat) : Int) - 1 = (m : Int) := by omega
        rw [em]
        clear em
        obtain ⟨q0, q1⟩ := RD.out wr IC.out m (by omega)
        have hml : m < us.length := by omega
        have LE := Lib.hid (show los s us gone (m + 1) = if lineOf s us m ≠ gone then los s us gone m else if (unth us m).2 then true else if nearB s us m then los s us gone m else false from rfl)
        go_wp2_with fail
        refine (LN.out wr IC.out m).mono ?_
        rintro e w2 ⟨rfl, rfl⟩
        generalize lineOf s us m = n2 at *
        by_cases he : n2 = gone
        · have hen : ((n2 : Int) != (gone : Int)) = false := by simp; omega
          cases hx : (unth us m).2 with
          | true =>
            rw [hx] at q1
            have F := Lib.hid (show los s us gone i = true by rw [IL.out, LE.out, if_neg (by simpa using he), hx]; rfl)
            clear he hx
            go_wp2
            go_ret
            exact ⟨by rw [HL2.out, F.out]; rfl, IC.out⟩
          | false =>
            rw [hx] at q1
            have F := Lib.hid (show los s us gone i = if nearB s us m then los s us gone m else false by rw [IL.out, LE.out, if_neg (by simpa using he), hx]; rfl)
            clear he hx
            go_wp2_with fail
            refine (NR.out wr IC.out m hml).mono ?_
            rintro e w3 ⟨rfl, hC⟩
            have C3 := Lib.hid (IC.out.trans hC)
            clear hC
            generalize nearB s us m = nb at *
            cases nb with
            | true =>
              have F2 := Lib.hid (show los s us gone i = los s us gone m from F.out)
              go_wp2
              go_roundw
              case rel => exact ⟨m, by omega, by first | rfl | go_num, C3, F2⟩
              case measure => simp [intOf] <;> omega
            | false =>
              have F2 := Lib.hid (show los s us gone i = false from F.out)
              go_wp2
              go_ret
              exact ⟨by rw [HL2.out, F2.out]; rfl, C3.out⟩
        · have hen : ((n2 : Int) != (gone : Int)) = true := by simp; omega
          have F := Lib.hid (show los s us gone i = los s us gone m by rw [IL.out, LE.out, if_pos (by simpa using he)])
          clear he
          go_wp2
          go_roundw
          case rel => exact ⟨m, by omega, by first | rfl | go_num, IC, F⟩
          case measure => simp [intOf] <;> omega
  · have HL2 := Lib.hid (show lb = false by rw [HL.out, decide_eq_false hle]; rfl)
    have hnl : ((o.length : Int) < (s.W : Int)) := by omega
    clear HL CE
    generalize o.length = n at *
    go_wp2
    go_ret
    exact ⟨by rw [HL2.out]; rfl, C1.out⟩
end Go.Proofs.YtlmgiejemdifkaaDoor.Ca
