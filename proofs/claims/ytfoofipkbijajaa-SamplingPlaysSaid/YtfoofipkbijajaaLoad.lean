/- Load of a port: its contract. No statement of the seat is proved here. -/
import Derived.Test.YtfoofipkbijajaaAny
import Derived.Test.YtfoofipkbijajaaState
namespace Go.Proofs.Ytfoofipkbijajaa.Sa
open Go.RowKit Go.Proofs.Ytfoofipkbijajaa.Kit
set_option linter.unusedSimpArgs false
set_option linter.unusedVariables false

/-- May a port of that size bear that message? -/
def mok (S : Int) (th : Bool) (n t : Nat) : Bool := (chk S n == 0) && (th || (decide (n = 0) && decide (t = 0)))
theorem port_row {w : World} {b : Nat} {F : Nat → Prop} {P : PA} (h : PortIs w b F P) : ∃ rv x3 x4 x5 x6 x7 x8, ∃ l : Int, w.heap[b]? = some (.cells #[.int .i64 P.W, .int .i64 P.S, rv, x3, x4, x5, x6, x7, x8, .int .i64 l] 67 (0, 0)) ∧ Ri w rv P.rs ∧ (∀ g, rv.ownBlock = some g → F g) := by
  obtain ⟨⟨rv, da, db, la, hrow, hr, ha, hb, k1, k2, k3⟩, hoff, hlt⟩ := h
  cases la <;> exact ⟨rv, _, _, _, _, _, _, _, hrow, hr, k1⟩
/-- A port that was loaded. -/
theorem port_loaded {w w2 : World} {b : Nat} {F : Nat → Prop} {P : PA} {rv da db : Value} {xs ys : List Int} {x y : Bool} {s t : Nat} (hb : b < w.heap.size) (hoff : ¬ F b) (hlt : ∀ x, F x → x < w.heap.size)
    (hr : Ri w rv P.rs) (k1 : ∀ g, rv.ownBlock = some g → F g) (hc : Chg w w2 (some b))
    (hrow : w2.heap[b]? = some (.cells (pcells { P with A := ⟨x, xs, s⟩, B := ⟨y, ys, t⟩ } rv da db false) 67 (0, 0))) (ha : Own w2 w.heap.size da xs) (hbb : Own w2 w.heap.size db ys) (fa : xs.length * 1 ≤ 140737488351232) (fb : ys.length * 1 ≤ 140737488351232) :
    ∃ F', PortIs w2 b F' { P with A := ⟨x, xs, s⟩, B := ⟨y, ys, t⟩ } ∧ ∀ x, F' x → F x ∨ w.heap.size ≤ x := by
  have ka := fun g e => World.ownsRow.lt ha g e
  have kb := fun g e => World.ownsRow.lt hbb g e
  refine ⟨fun x => F x ∨ da.ownBlock = some x ∨ db.ownBlock = some x, ⟨⟨rv, da, db, false, hrow, hr.kept fun g e hl => hc.block g hl (fun e2 => by cases e2; exact hoff (k1 _ e)), own_sl ha fa, own_sl hbb fb, fun g e => .inl (k1 g e), fun g e => .inr (.inl e), fun g e => .inr (.inr e)⟩, ?_, ?_⟩, ?_⟩
  · rintro (h | h | h)
    · exact hoff h
    · have := (ka _ h).1; omega
    · have := (kb _ h).1; omega
  · rintro x (h | h | h)
    · exact Nat.lt_of_lt_of_le (hlt x h) hc.size
    · exact (ka _ h).2
    · exact (kb _ h).2
  · rintro x (h | h | h)
    · exact .inl h
    · exact .inr (ka _ h).1
    · exact .inr (kb _ h).1
set_option maxHeartbeats 4000000 in
theorem load_any (w : World) (b : Nat) (F : Nat → Prop) (P : PA) (h : PortIs w b F P) (th wa : Bool) (lv nv : Value) (ld nd : List Int) (lt nt : Nat) (hl : Rb w lv ld) (hn : Rb w nv nd) (nl : ∀ g, lv.ownBlock = some g → g ≠ b) (nn : ∀ g, nv.ownBlock = some g → g ≠ b) :
   
    Calls Try.prog 22 #[.pointer (some ⟨b, 0, none⟩), .agg #[.bool th, .bool wa, lv, .int .u64 lt, nv, .int .u64 nt]] w fun e w' =>
      (mok P.S th ld.length lt = true ∧ mok P.S wa nd.length nt = true ∧ e = .returned (.int .i64 0) ∧ Chg w w' (some b) ∧ ∃ F', PortIs w' b F' { P with A := ⟨th, ld, lt⟩, B := ⟨wa, nd, nt⟩ } ∧ ∀ x, F' x → F x ∨ w.heap.size ≤ x) ∨
      ((mok P.S th ld.length lt && mok P.S wa nd.length nt) = false ∧ e = .returned (.int .i64 160) ∧ Chg w w' none) := by
  have H := Lib.hid h
  have HL := Lib.hid hl
  have NL := Lib.hid (fun g e h => nl g e (Eq.symm h))
  have NN := Lib.hid (fun g e h => nn g e (Eq.symm h))
  have HN := Lib.hid hn
  obtain ⟨⟨A, cap, rfl, hcap, hcc⟩, hf⟩ := hl
  obtain ⟨⟨B, cap2, rfl, hcap2, hcc2⟩, hf2⟩ := hn
  have HF := Lib.hid hf
  have HF2 := Lib.hid hf2
  clear hcc hcc2 hcap hcap2 hf hf2 h nl nn
  have C2 := Lib.hid (((Chg.refl w none).alloc (.cells #[.bool th, .bool wa, .slice A ld.length cap, .int .u64 lt, .slice B nd.length cap2, .int .u64 nt] 44)).alloc (.cells #[.bool th, .slice A ld.length cap, .int .u64 lt, .bool wa, .slice B nd.length cap2, .int .u64 nt] 64))
  have RX := Lib.hid (Eq.trans (heap_alloc_old (w.alloc (.cells #[.bool th, .bool wa, .slice A ld.length cap, .int .u64 lt, .slice B nd.length cap2, .int .u64 nt] 44)) (.cells #[.bool th, .slice A ld.length cap, .int .u64 lt, .bool wa, .slice B nd.length cap2, .int .u64 nt] 64) (r := w.heap.size) (by simp)) (heap_alloc_last w (.cells #[.bool th, .bool wa, .slice A ld.length cap, .int .u64 lt, .slice B nd.length cap2, .int .u64 nt] 44)))
  have RY := Lib.hid (heap_alloc2_new w (.cells #[.bool th, .bool wa, .slice A ld.length cap, .int .u64 lt, .slice B nd.length cap2, .int .u64 nt] 44) (.cells #[.bool th, .slice A ld.length cap, .int .u64 lt, .bool wa, .slice B nd.length cap2, .int .u64 nt] 64))
  have HS := Lib.hid (show ((w.alloc (.cells #[.bool th, .bool wa, .slice A ld.length cap, .int .u64 lt, .slice B nd.length cap2, .int .u64 nt] 44)).alloc (.cells #[.bool th, .slice A ld.length cap, .int .u64 lt, .bool wa, .slice B nd.length cap2, .int .u64 nt] 64)).heap.size = w.heap.size + 2 by simp)
  have hz := zero64
  go_enter Try.func22, Try.ntmps22
  go_wp2_with fail
  generalize (w.alloc (.cells #[.bool th, .bool wa, .slice A ld.length cap, .int .u64 lt, .slice B nd.length cap2, .int .u64 nt] 44)).alloc (.cells #[.bool th, .slice A ld.length cap, .int .u64 lt, .bool wa, .slice B nd.length cap2, .int .u64 nt] 64) = w2 at *
  go_loopw [6, 19] (fun _ i wr => ∃ k : Nat, k ≤ 2 ∧ i = .int .i64 k ∧ Hid (Chg w2 wr none ∧ (1 ≤ k → mok P.S th ld.length lt = true) ∧ (2 ≤ k → mok P.S wa nd.length nt = true))) (fun _ i _ => 2 - (intOf i).toNat)
  case atStart => exact ⟨0, by omega, rfl, Lib.hid ⟨Chg.refl _ _, fun h => by omega, fun h => by omega⟩⟩
  case round =>
    obtain ⟨k, hk, rfl, I⟩ := hrel
    have RY3 := (I.out.1.block (w.heap.size + 1) (by have := HS.out; omega) (by simp)).trans RY.out
    have y0 : wr.cell? ⟨w.heap.size + 1, 0, none⟩ = some (.bool th) := by rw [cell_of_row _ _ _ _ _ _ RY3]; rfl
    have y1 : wr.cell? ⟨w.heap.size + 1, 1, none⟩ = some (.slice A ld.length cap) := by rw [cell_of_row _ _ _ _ _ _ RY3]; rfl
    have y2 : wr.cell? ⟨w.heap.size + 1, 2, none⟩ = some (.int .u64 lt) := by rw [cell_of_row _ _ _ _ _ _ RY3]; rfl
    have y3 : wr.cell? ⟨w.heap.size + 1, 3, none⟩ = some (.bool wa) := by rw [cell_of_row _ _ _ _ _ _ RY3]; rfl
    have y4 : wr.cell? ⟨w.heap.size + 1, 4, none⟩ = some (.slice B nd.length cap2) := by rw [cell_of_row _ _ _ _ _ _ RY3]; rfl
    have y5 : wr.cell? ⟨w.heap.size + 1, 5, none⟩ = some (.int .u64 nt) := by rw [cell_of_row _ _ _ _ _ _ RY3]; rfl
    clear RY3
    rcases (show k = 0 ∨ k = 1 ∨ k = 2 by omega) with rfl | rfl | rfl
    · have CA := Lib.hid (C2.out.trans (I.out.1.alloc (.cells #[.bool th, .slice A ld.length cap, .int .u64 lt] 64)))
      have HA := Lib.hid (Chg.sl HL.out CA.out)
      have PA := Lib.hid (H.out.kept CA.out (by simp) (fun _ _ => by simp))
      by_cases hk : chk P.S ld.length = 0
      · by_cases ht : th = true
        · have hm : mok P.S th ld.length lt = true := by simp [mok, hk, ht]
          have HM := Lib.hid hm
          have HT := Lib.hid ht
          clear hm ht
          go_wp2_with fail
          refine (check_any _ b F P PA.out _ ld HA.out).mono ?_
          rw [hk]
          have hnt : (!th) = false := by rw [HT.out]; rfl
          rintro e w5 ⟨rfl, rfl⟩
          go_wp2
          clear hnt hk
          go_roundw
          case rel => exact ⟨1, by omega, by go_num, Lib.hid ⟨I.out.1.alloc _, fun _ => HM.out, fun h => by omega⟩⟩
          case measure => simp [intOf]
        · have HT := Lib.hid (show th = false by simpa using ht)
          clear ht
          by_cases hl : ld.length = 0
          · by_cases hq : lt = 0
            · have hm : mok P.S th ld.length lt = true := by unfold mok; rw [hk]; simp [hl, hq]
              have HM := Lib.hid hm
              have h1 : decide (0 < ld.length) = false := by simp only [decide_eq_false_iff_not]; omega
              have h2 : decide (0 < lt) = false := by simp only [decide_eq_false_iff_not]; omega
              clear hm hl hq
              go_wp2_with fail
              refine (check_any _ b F P PA.out _ ld HA.out).mono ?_
              rw [hk]
              have hnt : (!th) = true := by rw [HT.out]; rfl
              rintro e w5 ⟨rfl, rfl⟩
              go_wp2
              clear hnt hk
              go_roundw
              case rel => exact ⟨1, by omega, by go_num, Lib.hid ⟨I.out.1.alloc _, fun _ => HM.out, fun h => by omega⟩⟩
              case measure => simp [intOf]
            · have hm : mok P.S th ld.length lt = false := by simp [mok, HT.out, hq]
              have HM := Lib.hid hm
              have h1 : decide (0 < ld.length) = false := by simp only [decide_eq_false_iff_not]; omega
              have h2 : decide (0 < lt) = true := by simp only [decide_eq_true_eq]; omega
              clear hm hl hq
              go_wp2_with fail
              refine (check_any _ b F P PA.out _ ld HA.out).mono ?_
              rw [hk]
              have hnt : (!th) = true := by rw [HT.out]; rfl
              rintro e w5 ⟨rfl, rfl⟩
              go_wp2
              go_ret
              exact .inr ⟨by rw [HM.out]; rfl, rfl, C2.out.trans (I.out.1.alloc _)⟩
          · have hm : mok P.S th ld.length lt = false := by simp [mok, HT.out, hl]
            have HM := Lib.hid hm
            have h1 : decide (0 < ld.length) = true := by simp only [decide_eq_true_eq]; omega
            clear hm hl
            go_wp2_with fail
            refine (check_any _ b F P PA.out _ ld HA.out).mono ?_
            rw [hk]
            have hnt : (!th) = true := by rw [HT.out]; rfl
            rintro e w5 ⟨rfl, rfl⟩
            go_wp2
            go_ret
            exact .inr ⟨by rw [HM.out]; rfl, rfl, C2.out.trans (I.out.1.alloc _)⟩
      · have hkb : (chk P.S ld.length != 0) = true := by simpa using hk
        have hm : mok P.S th ld.length lt = false := by simp [mok, hk]
        have HM := Lib.hid hm
        clear hm hk
        go_wp2_with fail
        refine (check_any _ b F P PA.out _ ld HA.out).mono ?_
        rintro e w5 ⟨rfl, rfl⟩
        go_wp2
        go_ret
        exact .inr ⟨by rw [HM.out]; rfl, rfl, C2.out.trans (I.out.1.alloc _)⟩
    · have CA := Lib.hid (C2.out.trans (I.out.1.alloc (.cells #[.bool wa, .slice B nd.length cap2, .int .u64 nt] 64)))
      have HA := Lib.hid (Chg.sl HN.out CA.out)
      have PA := Lib.hid (H.out.kept CA.out (by simp) (fun _ _ => by simp))
      by_cases hk : chk P.S nd.length = 0
      · by_cases ht : wa = true
        · have hm : mok P.S wa nd.length nt = true := by simp [mok, hk, ht]
          have HM := Lib.hid hm
          have HT := Lib.hid ht
          clear hm ht
          go_wp2_with fail
          refine (check_any _ b F P PA.out _ nd HA.out).mono ?_
          rw [hk]
          have hnt : (!wa) = false := by rw [HT.out]; rfl
          rintro e w5 ⟨rfl, rfl⟩
          go_wp2
          clear hnt hk
          go_roundw
          case rel => exact ⟨2, by omega, by go_num, Lib.hid ⟨I.out.1.alloc _, fun _ => I.out.2.1 (by omega), fun _ => HM.out⟩⟩
          case measure => simp [intOf]
        · have HT := Lib.hid (show wa = false by simpa using ht)
          clear ht
          by_cases hl : nd.length = 0
          · by_cases hq : nt = 0
            · have hm : mok P.S wa nd.length nt = true := by unfold mok; rw [hk]; simp [hl, hq]
              have HM := Lib.hid hm
              have h1 : decide (0 < nd.length) = false := by simp only [decide_eq_false_iff_not]; omega
              have h2 : decide (0 < nt) = false := by simp only [decide_eq_false_iff_not]; omega
              clear hm hl hq
              go_wp2_with fail
              refine (check_any _ b F P PA.out _ nd HA.out).mono ?_
              rw [hk]
              have hnt : (!wa) = true := by rw [HT.out]; rfl
              rintro e w5 ⟨rfl, rfl⟩
              go_wp2
              clear hnt hk
              go_roundw
              case rel => exact ⟨2, by omega, by go_num, Lib.hid ⟨I.out.1.alloc _, fun _ => I.out.2.1 (by omega), fun _ => HM.out⟩⟩
              case measure => simp [intOf]
            · have hm : mok P.S wa nd.length nt = false := by simp [mok, HT.out, hq]
              have HM := Lib.hid hm
              have h1 : decide (0 < nd.length) = false := by simp only [decide_eq_false_iff_not]; omega
              have h2 : decide (0 < nt) = true := by simp only [decide_eq_true_eq]; omega
              clear hm hl hq
              go_wp2_with fail
              refine (check_any _ b F P PA.out _ nd HA.out).mono ?_
              rw [hk]
              have hnt : (!wa) = true := by rw [HT.out]; rfl
              rintro e w5 ⟨rfl, rfl⟩
              go_wp2
              go_ret
              exact .inr ⟨by rw [HM.out]; simp, rfl, C2.out.trans (I.out.1.alloc _)⟩
          · have hm : mok P.S wa nd.length nt = false := by simp [mok, HT.out, hl]
            have HM := Lib.hid hm
            have h1 : decide (0 < nd.length) = true := by simp only [decide_eq_true_eq]; omega
            clear hm hl
            go_wp2_with fail
            refine (check_any _ b F P PA.out _ nd HA.out).mono ?_
            rw [hk]
            have hnt : (!wa) = true := by rw [HT.out]; rfl
            rintro e w5 ⟨rfl, rfl⟩
            go_wp2
            go_ret
            exact .inr ⟨by rw [HM.out]; simp, rfl, C2.out.trans (I.out.1.alloc _)⟩
      · have hkb : (chk P.S nd.length != 0) = true := by simpa using hk
        have hm : mok P.S wa nd.length nt = false := by simp [mok, hk]
        have HM := Lib.hid hm
        clear hm hk
        go_wp2_with fail
        refine (check_any _ b F P PA.out _ nd HA.out).mono ?_
        rintro e w5 ⟨rfl, rfl⟩
        go_wp2
        go_ret
        exact .inr ⟨by rw [HM.out]; simp, rfl, C2.out.trans (I.out.1.alloc _)⟩
    · have CW := Lib.hid (C2.out.trans I.out.1)
      have MM := Lib.hid (And.intro (I.out.2.1 (by omega)) (I.out.2.2 (by omega)))
      have RX3 := Lib.hid ((I.out.1.block w.heap.size (by have := HS.out; omega) (by simp)).trans RX.out)
      have PW := Lib.hid (H.out.kept CW.out (by simp) (fun _ _ => by simp))
      obtain ⟨rv, x3, x4, x5, x6, x7, x8, l, hrow0, hr, k1⟩ := port_row H.out
      have HRV0 := Lib.hid hr
      have hrow := (CW.out.block b H.out.blt (by simp)).trans hrow0
      have K1 := Lib.hid k1
      have c9 : wr.cell? ⟨b, 9, none⟩ = some (.int .i64 l) := by rw [cell_of_row _ _ _ _ _ _ hrow]; rfl
      have f9 := frozen_of_row wr b 9 _ _ hrow
      have hbl : b < wr.heap.size := PW.out.blt
      have hbw : b < w.heap.size := H.out.blt
      have HROW := Lib.hid hrow
      have HSX := Lib.hid (Array.getElem?_eq_some_iff.1 RX3.out).1
      clear hrow hrow0 hr k1 y0 y1 y2 y3 y4 y5 hk
      go_wp2_with fail
      have RA := Lib.hid (heap_setCell_same wr b 9 _ _ (.int .i64 0) HROW.out)
      have CA := Lib.hid ((Chg.refl wr (some b)).set 9 (.int .i64 0))
      have RX4 := Lib.hid ((CA.out.block w.heap.size HSX.out (fun e => by injection e; omega)).trans RX3.out)
      have LA := Lib.hid ((Chg.sl HL.out CW.out).kept fun g e hg => CA.out.block g hg (fun e2 => by injection e2 with e2; exact NL.out g e e2.symm))
      have NA := Lib.hid ((Chg.sl HN.out CW.out).kept fun g e hg => CA.out.block g hg (fun e2 => by injection e2 with e2; exact NN.out g e e2.symm))
      have HSA := Lib.hid (show (wr.setCell ⟨b, 9, none⟩ (.int .i64 0)).heap.size = wr.heap.size by simp)
      clear c9 f9
      generalize wr.setCell ⟨b, 9, none⟩ (.int .i64 0) = w3 at *
      have d0 : w3.cell? ⟨w.heap.size, 0, none⟩ = some (.bool th) := by rw [cell_of_row _ _ _ _ _ _ RX4.out]; rfl
      have d1 : w3.cell? ⟨w.heap.size, 1, none⟩ = some (.bool wa) := by rw [cell_of_row _ _ _ _ _ _ RX4.out]; rfl
      have d2 : w3.cell? ⟨w.heap.size, 2, none⟩ = some (.slice A ld.length cap) := by rw [cell_of_row _ _ _ _ _ _ RX4.out]; rfl
      have d3 : w3.cell? ⟨w.heap.size, 3, none⟩ = some (.int .u64 lt) := by rw [cell_of_row _ _ _ _ _ _ RX4.out]; rfl
      have d4 : w3.cell? ⟨w.heap.size, 4, none⟩ = some (.slice B nd.length cap2) := by rw [cell_of_row _ _ _ _ _ _ RX4.out]; rfl
      have d5 : w3.cell? ⟨w.heap.size, 5, none⟩ = some (.int .u64 nt) := by rw [cell_of_row _ _ _ _ _ _ RX4.out]; rfl
      go_region_held (fun w' => w'.cell? ⟨w.heap.size, 0, none⟩ = some (.bool th) ∧ w'.cell? ⟨w.heap.size, 1, none⟩ = some (.bool wa) ∧ w'.cell? ⟨w.heap.size, 2, none⟩ = some (.slice A ld.length cap) ∧ w'.cell? ⟨w.heap.size, 3, none⟩ = some (.int .u64 lt) ∧ w'.cell? ⟨w.heap.size, 4, none⟩ = some (.slice B nd.length cap2) ∧ w'.cell? ⟨w.heap.size, 5, none⟩ = some (.int .u64 nt)) (go_keep) (first
        | (go_at_call 29; refine (copied_any w3.drew _ ld (Sl.drewN LA.out 1) lt).mono ?_; rintro e w4 ⟨v4, rfl, hown4, hC4⟩
           obtain ⟨A4, c4, rfl⟩ := own_slice hown4
           have O4 := Lib.hid hown4; have C4 := Lib.hid (((Chg.refl w3 none).drewN 1).trans hC4)
           have RX5 := Lib.hid ((C4.out.block w.heap.size (by rw [HSA.out]; exact HSX.out) (by simp)).trans RX4.out)
           have d0 : w4.cell? ⟨w.heap.size, 0, none⟩ = some (.bool th) := (by rw [cell_of_row _ _ _ _ _ _ RX5.out]; rfl)
           have d1 : w4.cell? ⟨w.heap.size, 1, none⟩ = some (.bool wa) := (by rw [cell_of_row _ _ _ _ _ _ RX5.out]; rfl)
           have d2 : w4.cell? ⟨w.heap.size, 2, none⟩ = some (.slice A ld.length cap) := (by rw [cell_of_row _ _ _ _ _ _ RX5.out]; rfl)
           have d3 : w4.cell? ⟨w.heap.size, 3, none⟩ = some (.int .u64 lt) := (by rw [cell_of_row _ _ _ _ _ _ RX5.out]; rfl)
           have d4 : w4.cell? ⟨w.heap.size, 4, none⟩ = some (.slice B nd.length cap2) := (by rw [cell_of_row _ _ _ _ _ _ RX5.out]; rfl)
           have d5 : w4.cell? ⟨w.heap.size, 5, none⟩ = some (.int .u64 nt) := (by rw [cell_of_row _ _ _ _ _ _ RX5.out]; rfl)
           have NB := Lib.hid (Chg.sl NA.out C4.out)
           clear hown4 hC4)
        | (go_at_call 29; refine (copied_any w4 _ nd NB.out nt).mono ?_; rintro e w5 ⟨v5, rfl, hown5, hC5⟩
           obtain ⟨A5, c5, rfl⟩ := own_slice hown5
           have O5 := Lib.hid hown5; have C5 := Lib.hid hC5
           have RX6 := Lib.hid ((C5.out.block w.heap.size (by have := C4.out.size; have := HSA.out; have := HSX.out; omega) (by simp)).trans RX5.out)
           have RB := Lib.hid ((C5.out.block b (by have := C4.out.size; have := HSA.out; omega) (by simp)).trans ((C4.out.block b (by rw [HSA.out]; exact hbl) (by simp)).trans RA.out))
           have d0 : w5.cell? ⟨w.heap.size, 0, none⟩ = some (.bool th) := (by rw [cell_of_row _ _ _ _ _ _ RX6.out]; rfl)
           have d1 : w5.cell? ⟨w.heap.size, 1, none⟩ = some (.bool wa) := (by rw [cell_of_row _ _ _ _ _ _ RX6.out]; rfl)
           have d2 : w5.cell? ⟨w.heap.size, 2, none⟩ = some (.slice A ld.length cap) := (by rw [cell_of_row _ _ _ _ _ _ RX6.out]; rfl)
           have d3 : w5.cell? ⟨w.heap.size, 3, none⟩ = some (.int .u64 lt) := (by rw [cell_of_row _ _ _ _ _ _ RX6.out]; rfl)
           have d4 : w5.cell? ⟨w.heap.size, 4, none⟩ = some (.slice B nd.length cap2) := (by rw [cell_of_row _ _ _ _ _ _ RX6.out]; rfl)
           have d5 : w5.cell? ⟨w.heap.size, 5, none⟩ = some (.int .u64 nt) := (by rw [cell_of_row _ _ _ _ _ _ RX6.out]; rfl)
           have e3 : w5.cell? ⟨b, 3, none⟩ = some x3 := (by rw [cell_of_row _ _ _ _ _ _ RB.out]; rfl)
           have e4 : w5.cell? ⟨b, 4, none⟩ = some x4 := (by rw [cell_of_row _ _ _ _ _ _ RB.out]; rfl)
           have e5 : w5.cell? ⟨b, 5, none⟩ = some x5 := (by rw [cell_of_row _ _ _ _ _ _ RB.out]; rfl)
           have e6 : w5.cell? ⟨b, 6, none⟩ = some x6 := (by rw [cell_of_row _ _ _ _ _ _ RB.out]; rfl)
           have e7 : w5.cell? ⟨b, 7, none⟩ = some x7 := (by rw [cell_of_row _ _ _ _ _ _ RB.out]; rfl)
           have e8 : w5.cell? ⟨b, 8, none⟩ = some x8 := (by rw [cell_of_row _ _ _ _ _ _ RB.out]; rfl)
           have f3 := frozen_of_row w5 b 3 _ _ RB.out
           have f4 := frozen_of_row w5 b 4 _ _ RB.out
           have f5 := frozen_of_row w5 b 5 _ _ RB.out
           have f6 := frozen_of_row w5 b 6 _ _ RB.out
           have f7 := frozen_of_row w5 b 7 _ _ RB.out
           have f8 := frozen_of_row w5 b 8 _ _ RB.out
           have hne : b ≠ w.heap.size := (by omega)
           clear hown5 hC5))
      go_wp2
      go_ret
      have K6 : Chg w5 ((((((w5.setCell ⟨b, 3, none⟩ (.bool th)).setCell ⟨b, 4, none⟩ (.slice A4 ld.length c4)).setCell ⟨b, 5, none⟩ (.int .u64 lt)).setCell ⟨b, 6, none⟩ (.bool wa)).setCell ⟨b, 7, none⟩ (.slice A5 nd.length c5)).setCell ⟨b, 8, none⟩ (.int .u64 nt)) (some b) := ((((((Chg.refl w5 (some b)).set 3 _).set 4 _).set 5 _).set 6 _).set 7 _).set 8 _
      have hw3 : w.heap.size ≤ w3.drew.heap.size := by have h1 := CW.out.size; have h2 := HSA.out; show w.heap.size ≤ w3.heap.size; omega
      have P4 := (World.ownsRow.kept O4.out C5.out (by cases (Value.slice A4 ld.length c4).ownBlock <;> simp)).kept K6 (.inr (fun e => by have := (World.ownsRow.lt O4.out _ e).1; omega))
      have P5 := World.ownsRow.kept O5.out K6 (.inr (fun e => by have := (World.ownsRow.lt O5.out _ e).1; have := C4.out.size; have := HSA.out; omega))
      have KC := (((CW.out.any (some b)).trans CA.out).trans ((C4.out.trans C5.out).any _)).trans K6
      refine .inl ⟨MM.out.1, MM.out.2, rfl, KC, ?_⟩
      have hoff := H.out.off
      exact port_loaded (rv := rv) (da := .slice A4 ld.length c4) (db := .slice A5 nd.length c5) hbw hoff H.out.lt (HRV0.out) K1.out KC
        (heap_setCell_same _ b 8 _ _ _ (heap_setCell_same _ b 7 _ _ _ (heap_setCell_same _ b 6 _ _ _ (heap_setCell_same _ b 5 _ _ _ (heap_setCell_same _ b 4 _ _ _ (heap_setCell_same _ b 3 _ _ _ RB.out))))))
        (P4.mono hw3) (P5.mono (by have := C4.out.size; have := HSA.out; have := CW.out.size; omega)) HF.out HF2.out
end Go.Proofs.Ytfoofipkbijajaa.Sa
