/- A controller beside the document's: many. No statement of the seat is proved here. -/
import Derived.Test.YtpedciapkalhgaaDoorPairB
namespace Go.Proofs.YtpedciapkalhgaaDoor.Gk
open Go.RowKit Go.Proofs.YtpedciapkalhgaaDoor.Kit
set_option linter.unusedSimpArgs false
set_option linter.unusedVariables false

theorem PAt.tab {w : World} {q g b x y z : Nat} {r : List Int} {p m : Nat} (h : PAt w q g b x y z r p m) (hT : TabAt w) : g ≠ 0 ∧ x ≠ 0 ∧ y ≠ 0 ∧ z ≠ 0 := by
  have t := hT 0 (by omega)
  refine ⟨fun e => ?_, fun e => ?_, fun e => ?_, fun e => ?_⟩
  · have := h.gc.route 0 (by omega); rw [e, t] at this; simp at this
  · have := h.rf.cx 0 (by omega); rw [e, t] at this; simp at this
  · have := h.rf.cy 0 (by omega); rw [e, t] at this; simp at this
  · have := h.rf.cz 0 (by omega); rw [e, t] at this; simp at this
theorem TabAt.f4 {w w' : World} {q g b x y z : Nat} {r : List Int} {p m : Nat} (hT : TabAt w) (h : PAt w q g b x y z r p m) (k : Ex (F4 g x y z) w w') : TabAt w' := by
  obtain ⟨h1, h2, h3, h4⟩ := h.tab hT
  exact hT.ex k (fun e => by rcases e with e | e | e | e <;> omega)
theorem TabAt.chg {w w' : World} {g : Nat} (hT : TabAt w) (k : Chg w w' g) (hg : g ≠ 0) : TabAt w' := hT.kept k hg

set_option maxRecDepth 100000 in
set_option maxHeartbeats 4000000 in
theorem many_any (w : World) (q g b x y z : Nat) (r : List Int) (p m : Nat) (h : PAt w q g b x y z r p m) (hT : TabAt w) (l c : Int) (n : Nat) (hn : n ≤ 1500) :
    Calls Tryd.prog 44 #[.pointer (some ⟨q, 0, none⟩), .int .i64 l, .int .i64 c, .int .i64 n] w fun e w' => e = .returned (.bool true) ∧ (∃ r' p' m', PAt w' q g b x y z r' p' m') ∧ Ex (F4 g x y z) w w' := by
  have I0 := Lib.hid (show (∃ p', PAt w q g b x y z r p' m) ∧ TabAt w ∧ Ex (F4 g x y z) w w from ⟨⟨p, h⟩, hT, Ex.refl _ _⟩)
  clear h hT
  go_enter Tryd.func44, Tryd.ntmps44
  go_wp2_with fail
  go_loopw [9, 10, 11, 12, 13, 14, 15, 16] (fun i _ _ _ _ _ _ _ wr => ∃ k : Nat, k ≤ n ∧ i = .int .i64 k ∧ Hid ((∃ p', PAt wr q g b x y z r p' m) ∧ TabAt wr ∧ Ex (F4 g x y z) w wr)) (fun i _ _ _ _ _ _ _ _ => n - (intOf i).toNat)
  case atStart => exact ⟨0, by omega, rfl, I0⟩
  case round =>
    obtain ⟨k, hk, rfl, I⟩ := hrel
    clear I0
    by_cases hlt : k < n
    · obtain ⟨⟨p1, hq⟩, hT, hx⟩ := I.out
      have Q := Lib.hid hq
      have HT := Lib.hid hT
      have HX := Lib.hid hx
      have hcg := hq.cg
      clear hq hT hx I
      go_wp2_with fail
      refine (graise _ g r p1 m l Q.out.gc).mono ?_
      rintro e w5 ⟨rfl, g5, c5⟩
      obtain ⟨R5, hcb5, _⟩ := Q.out.mid c5
      have G5 := Lib.hid g5
      have C5 := Lib.hid c5
      have HR5 := Lib.hid R5
      clear g5 c5 R5 hcg
      go_wp2_with fail
      refine (rraise _ b x y z r p1 m l HR5.out).mono ?_
      rintro e w6 ⟨rfl, r6, x6⟩
      obtain ⟨q6, y6⟩ := Q.out.both G5.out C5.out r6 x6
      have Q6 := Lib.hid q6
      have T6 := Lib.hid (HT.out.f4 Q.out y6)
      have X6 := Lib.hid (HX.out.trans y6)
      have hcg6 := q6.cg
      clear r6 x6 q6 y6 Q G5 C5 HR5 HT HX hcb5
      generalize nw r p1 l = nwb
      generalize lcode l = lc
      generalize rsd r p1 l = p2 at *
      go_wp2_with fail
      refine (gtake _ g r p2 m c Q6.out.gc T6.out).mono ?_
      rintro e w7 ⟨rfl, g7, c7⟩
      obtain ⟨R7, hcb7, _⟩ := Q6.out.mid c7
      have G7 := Lib.hid g7
      have C7 := Lib.hid c7
      have HR7 := Lib.hid R7
      clear g7 c7 R7 hcg6
      go_wp2_with fail
      refine (rtake_any _ b x y z r p2 m c HR7.out).mono ?_
      rintro e w8 ⟨rfl, r8, x8⟩
      obtain ⟨q8, y8⟩ := Q6.out.both G7.out C7.out r8 x8
      have F8 := Lib.hid (show (∃ p', PAt w8 q g b x y z r p' m) ∧ TabAt w8 ∧ Ex (F4 g x y z) w w8 from ⟨⟨_, q8⟩, T6.out.f4 Q6.out y8, X6.out.trans y8⟩)
      clear r8 x8 q8 y8 Q6 T6 X6 G7 C7 HR7 hcb7
      obtain ⟨s0, s1⟩ := same_next (someOf r c (wait p2 m))
      by_cases hz : someOf r c (wait p2 m) = 0
      · obtain ⟨e1, e2, e3⟩ := s0 hz
        rw [e1, e2, e3]
        clear s0 s1 hz e1 e2 e3
        go_wp2_with (first | (go_at_call 38; refine (num_any _ _).mono ?_; rintro e w' ⟨rfl, rfl⟩))
        go_roundw
        case rel => exact ⟨k + 1, by omega, by go_num, F8⟩
        case measure => simp [intOf]; omega
      · obtain ⟨e1, e2, e3⟩ := s1 hz
        rw [e1, e2]
        clear s0 s1 hz e1 e2
        generalize nx (someOf r c (wait p2 m)) = nv at *
        go_wp2_with (first | (go_at_call 38; refine (num_any _ _).mono ?_; rintro e w' ⟨rfl, rfl⟩))
        go_roundw
        case rel => exact ⟨k + 1, by omega, by go_num, F8⟩
        case measure => simp [intOf]; omega
    · go_wp2
      go_ret
      obtain ⟨⟨p1, hq⟩, hT, hx⟩ := I.out
      exact ⟨rfl, ⟨_, _, _, hq⟩, hx⟩
end Go.Proofs.YtpedciapkalhgaaDoor.Gk
