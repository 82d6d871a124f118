/- The document's controller: Load. No statement of the seat is proved here. -/
import Derived.Test.YtpedciapkalhgaaDoorRefE
namespace Go.Proofs.YtpedciapkalhgaaDoor.Gk
open Go.RowKit Go.Proofs.YtpedciapkalhgaaDoor.Kit
set_option linter.unusedSimpArgs false
set_option linter.unusedVariables false

def okB (r : List Int) : Bool := (List.range 32).all fun i => decide (nth r i = 0) || isC (nth r i)
def lres (r : List Int) (p m : Nat) : Int := if okB r then (if (p ||| m) &&& own r 0 = 0 then 0 else 90) else 91
theorem okB_iff (r : List Int) : okB r = true ↔ ∀ i, i < 32 → okC (nth r i) := by
  simp [okB, okC, List.all_eq_true]
theorem lres_bad {r : List Int} {p m k : Nat} (hk : k < 32) (h : ¬ okC (nth r k)) : lres r p m = 91 := by
  unfold lres
  rw [if_neg]
  intro h2
  exact h ((okB_iff r).1 h2 k hk)
theorem line_bit (r : List Int) (p m : Nat) (i : Nat) : ((p ||| m) &&& own r 0).testBit i = ((p.testBit i || m.testBit i) && (decide (i < 32) && decide (nth r i = 0))) := by
  rw [Nat.testBit_and, Nat.testBit_or, own_bit]
theorem lres_line {r : List Int} {p m k : Nat} (hk : k < 32) (hok : ∀ i, i < 32 → okC (nth r i)) (h0 : nth r k = 0) (hb : (p.testBit k || m.testBit k) = true) : lres r p m = 90 := by
  unfold lres
  rw [if_pos ((okB_iff r).2 hok), if_neg]
  intro h
  have := line_bit r p m k
  rw [h, hb, Nat.zero_testBit] at this
  simp [hk, h0] at this
theorem line_none {r : List Int} {p m : Nat} (h : ∀ i, i < 32 → nth r i = 0 → (p.testBit i || m.testBit i) = false) : (p ||| m) &&& own r 0 = 0 := by
  apply Nat.eq_of_testBit_eq; intro i
  rw [line_bit, Nat.zero_testBit]
  by_cases hi : i < 32
  · by_cases h0 : nth r i = 0
    · rw [h i hi h0]; simp
    · simp [h0]
  · simp [hi]
theorem lres_ok {r : List Int} {p m : Nat} (hok : ∀ i, i < 32 → okC (nth r i)) (h : ∀ i, i < 32 → nth r i = 0 → (p.testBit i || m.testBit i) = false) : lres r p m = 0 := by
  unfold lres
  rw [if_pos ((okB_iff r).2 hok), if_pos (line_none h)]
def mr (r r0 : List Int) (k : Nat) : List Int := (List.range 32).map fun i => if i < k then nth r i else nth r0 i
theorem mr_start (r r0 : List Int) (h : r0.length = 32) : mr r r0 0 = r0 := by simp only [mr, Nat.not_lt_zero, if_false]; exact (list32 r0 h).symm
theorem mr_end (r r0 : List Int) (h : r.length = 32) : mr r r0 32 = r := by
  have e : mr r r0 32 = (List.range 32).map (nth r) := List.map_congr_left fun i hi => by rw [if_pos (List.mem_range.1 hi)]
  rw [e]; exact (list32 r h).symm
theorem mr_len (r r0 : List Int) (k : Nat) : (mr r r0 k).length = 32 := by simp [mr]
theorem mr_next (r r0 : List Int) (k : Nat) (hk : k < 32) : (mr r r0 k).set k (nth r k) = mr r r0 (k + 1) := by
  apply List.ext_getElem
  · simp [mr]
  · intro i h1 h2
    have hi : i < 32 := by simpa [mr] using h2
    rw [List.getElem_set]
    by_cases e : k = i
    · subst e; simp [mr]
    · by_cases e2 : i < k
      · simp [mr, e, e2, show i < k + 1 by omega]
      · simp [mr, e, e2, show ¬ i < k + 1 by omega]
def lb (p p0 k : Nat) (i : Nat) : Bool := if i < k then p.testBit i else p0.testBit i
theorem lb_start (p p0 : Nat) (h : p0 < 4294967296) : bitsTo (lb p p0 0) 32 = p0 := bitsTo_eq h fun i _ => by simp [lb]
theorem lb_end (p p0 : Nat) (h : p < 4294967296) : bitsTo (lb p p0 32) 32 = p := bitsTo_eq h fun i hi => by simp [lb, hi]
theorem lb_next (p p0 k : Nat) : ∀ i, i < 32 → (bitsTo (lb p p0 (k + 1)) 32).testBit i = if i = k then p.testBit k else (bitsTo (lb p p0 k) 32).testBit i := fun i hi => by
  rw [bitsTo_bit, bitsTo_bit]
  by_cases e : i = k
  · subst e; simp [lb, hi]
  · by_cases e2 : i < k
    · simp [lb, hi, e, e2, show i < k + 1 by omega]
    · simp [lb, hi, e, e2, show ¬ i < k + 1 by omega]

/-- What Load leaves: what it was handed, if it answers OK; else what there was. -/
def LdAt (w : World) (b x y z : Nat) (lr : Int) (r : List Int) (p m : Nat) (r0 : List Int) (p0 m0 : Nat) : Prop := RAt w b x y z (if lr = 0 then r else r0) (if lr = 0 then p else p0) (if lr = 0 then m else m0)
theorem LdAt.yes {w : World} {b x y z : Nat} {lr : Int} {r : List Int} {p m : Nat} {r0 : List Int} {p0 m0 : Nat} (e : lr = 0) (h : RAt w b x y z r p m) : LdAt w b x y z lr r p m r0 p0 m0 := by unfold LdAt; rw [e]; exact h
theorem LdAt.no {w : World} {b x y z : Nat} {lr : Int} {r : List Int} {p m : Nat} {r0 : List Int} {p0 m0 : Nat} (e : lr ≠ 0) (h : RAt w b x y z r0 p0 m0) : LdAt w b x y z lr r p m r0 p0 m0 := by unfold LdAt; simp only [if_neg e]; exact h
set_option maxHeartbeats 4000000 in
theorem rload_any (w : World) (b x y z : Nat) (r0 : List Int) (p0 m0 : Nat) (h : RAt w b x y z r0 p0 m0) (g cap : Nat) (r : List Int) (p m : Nat) (hl : r.length = 32) (hp : p < 4294967296) (hm : m < 4294967296)
    (hc : ∀ j, j < 32 → w.cell? ⟨g, j, none⟩ = some (.int .i64 (nth r j))) (gx : g ≠ x) (gy : g ≠ y) (gz : g ≠ z) :
    Calls Tryd.prog 53 #[.pointer (some ⟨b, 0, none⟩), .slice (some ⟨g, 0, none⟩) 32 cap, .int .u32 p, .int .u32 m] w fun e w' => e = .returned (.int .i64 (lres r p m)) ∧
      LdAt w' b x y z (lres r p m) r p m r0 p0 m0 ∧ Ex (F3 x y z) w w' := by
  have HL := Lib.hid hl
  have HP := Lib.hid hp
  have HM := Lib.hid hm
  have HC := Lib.hid hc
  have H := Lib.hid h
  obtain ⟨lr, hlr⟩ : ∃ v, lres r p m = v := ⟨_, rfl⟩
  rw [hlr]
  have HLR := Lib.hid hlr
  clear h hl hp hm hc hlr
  go_enter Tryd.func53, Tryd.ntmps53
  go_wp2_with fail
  go_loop [9, 10] (fun i _ => ∃ k : Nat, k ≤ 32 ∧ i = .int .i64 k ∧ Hid (∀ i, i < k → okC (nth r i))) (fun i _ => 32 - (intOf i).toNat)
  case atStart => exact ⟨0, by omega, rfl, Lib.hid (fun i hi => by omega)⟩
  case round =>
    obtain ⟨k, hk, rfl, OK⟩ := hrel
    by_cases hlt : k < 32
    · have hx := HC.out k hlt
      by_cases h0 : nth r k = 0
      · have OK2 := Lib.hid (show ∀ i, i < k + 1 → okC (nth r i) from fun i hi => by
          by_cases e : i = k
          · subst e; exact .inl h0
          · exact OK.out i (by omega))
        rw [h0] at hx
        clear h0
        have HI := Lib.hid (show isC 0 = false by decide)
        go_wp2_with (go_at_call 51; refine (isCell_any _ _).mono ?_; rintro e w' ⟨rfl, rfl⟩; rw [HI.out])
        go_round
        case rel => exact ⟨k + 1, by omega, by go_num, OK2⟩
        case measure => simp [intOf]; omega
      · have hn0 : (nth r k != 0) = true := by simpa using h0
        cases hi : isC (nth r k) with
        | true =>
          have OK2 := Lib.hid (show ∀ i, i < k + 1 → okC (nth r i) from fun i hj => by
            by_cases e : i = k
            · subst e; exact .inr hi
            · exact OK.out i (by omega))
          have HI := Lib.hid hi
          clear h0 hi
          go_wp2_with (go_at_call 51; refine (isCell_any _ _).mono ?_; rintro e w' ⟨rfl, rfl⟩; rw [HI.out])
          go_round
          case rel => exact ⟨k + 1, by omega, by go_num, OK2⟩
          case measure => simp [intOf]; omega
        | false =>
          have HI := Lib.hid hi
          have E := Lib.hid (show lr = 91 from by rw [← HLR.out]; exact lres_bad hlt (fun h => by rcases h with h | h; exact h0 h; rw [hi] at h; cases h))
          clear h0 hi
          go_wp2_with (go_at_call 51; refine (isCell_any _ _).mono ?_; rintro e w' ⟨rfl, rfl⟩; rw [HI.out])
          go_ret
          exact ⟨by rw [E.out]; rfl, LdAt.no (by rw [E.out]; decide) H.out, Ex.refl _ _⟩
    · obtain rfl : k = 32 := by omega
      go_wp2_with fail
      go_loop [11, 12, 13] (fun i _ _ => ∃ k : Nat, k ≤ 32 ∧ i = .int .i64 k ∧ Hid (∀ i, i < k → nth r i = 0 → (p.testBit i || m.testBit i) = false)) (fun i _ _ => 32 - (intOf i).toNat)
      case atStart => exact ⟨0, by omega, rfl, Lib.hid (fun i hi => by omega)⟩
      case round =>
        obtain ⟨k, hk, rfl, LN⟩ := hrel
        by_cases hlt : k < 32
        · have hx := HC.out k hlt
          by_cases h0 : nth r k = 0
          · have hd : (nth r k == 0) = true := by simp [h0]
            cases ha : p.testBit k with
            | true =>
              have E := Lib.hid (show lr = 90 from by rw [← HLR.out]; exact lres_line hlt OK.out h0 (by simp [ha]))
              have HA := Lib.hid ha
              clear h0 ha
              go_wp2_with fail
              refine (bit_any _ p k HP.out hlt).mono ?_
              rintro e w' ⟨rfl, rfl⟩
              rw [HA.out]
              go_wp2_with fail
              refine (bit_any _ m k HM.out hlt).mono ?_
              rintro e w' ⟨rfl, rfl⟩
              generalize m.testBit k = mb
              go_wp2
              go_ret
              exact ⟨by rw [E.out]; rfl, LdAt.no (by rw [E.out]; decide) H.out, Ex.refl _ _⟩
            | false =>
              cases hb : m.testBit k with
              | true =>
                have E := Lib.hid (show lr = 90 from by rw [← HLR.out]; exact lres_line hlt OK.out h0 (by simp [hb]))
                have HA := Lib.hid ha
                have HB := Lib.hid hb
                clear h0 ha hb
                go_wp2_with fail
                refine (bit_any _ p k HP.out hlt).mono ?_
                rintro e w' ⟨rfl, rfl⟩
                rw [HA.out]
                go_wp2_with fail
                refine (bit_any _ m k HM.out hlt).mono ?_
                rintro e w' ⟨rfl, rfl⟩
                rw [HB.out]
                go_wp2
                go_ret
                exact ⟨by rw [E.out]; rfl, LdAt.no (by rw [E.out]; decide) H.out, Ex.refl _ _⟩
              | false =>
                have LN2 := Lib.hid (show ∀ i, i < k + 1 → nth r i = 0 → (p.testBit i || m.testBit i) = false from fun i hj => by
                  by_cases e : i = k
                  · subst e; intro _; rw [ha, hb]; rfl
                  · exact LN.out i (by omega))
                have HA := Lib.hid ha
                have HB := Lib.hid hb
                clear h0 ha hb
                go_wp2_with fail
                refine (bit_any _ p k HP.out hlt).mono ?_
                rintro e w' ⟨rfl, rfl⟩
                rw [HA.out]
                go_wp2_with fail
                refine (bit_any _ m k HM.out hlt).mono ?_
                rintro e w' ⟨rfl, rfl⟩
                rw [HB.out]
                go_wp2
                go_round
                case rel => exact ⟨k + 1, by omega, by go_num, LN2⟩
                case measure => simp [intOf]; omega
          · have hd : (nth r k == 0) = false := by simp [h0]
            have LN2 := Lib.hid (show ∀ i, i < k + 1 → nth r i = 0 → (p.testBit i || m.testBit i) = false from fun i hj => by
              by_cases e : i = k
              · subst e; intro h; exact absurd h h0
              · exact LN.out i (by omega))
            clear h0
            go_wp2_with fail
            refine (bit_any _ p k HP.out hlt).mono ?_
            rintro e w' ⟨rfl, rfl⟩
            generalize p.testBit k = pb
            go_wp2_with fail
            refine (bit_any _ m k HM.out hlt).mono ?_
            rintro e w' ⟨rfl, rfl⟩
            generalize m.testBit k = mb
            go_wp2
            go_round
            case rel => exact ⟨k + 1, by omega, by go_num, LN2⟩
            case measure => simp [intOf]; omega
        · obtain rfl : k = 32 := by omega
          have E := Lib.hid (show lr = 0 from by rw [← HLR.out]; exact lres_ok OK.out LN.out)
          have I0 := Lib.hid (show RAt w b x y z (mr r r0 0) (bitsTo (lb p p0 0) 32) (bitsTo (lb m m0 0) 32) ∧ Ex (F3 x y z) w w from ⟨by rw [mr_start r r0 H.out.len, lb_start p p0 H.out.hp, lb_start m m0 H.out.hm]; exact H.out, Ex.refl _ _⟩)
          have hgw : g < w.heap.size := World.block_lt_of_cell? w _ (HC.out 0 (by omega))
          go_wp2_with fail
          go_loopw [14] (fun i wr => ∃ k : Nat, k ≤ 32 ∧ i = .int .i64 k ∧ Hid (RAt wr b x y z (mr r r0 k) (bitsTo (lb p p0 k) 32) (bitsTo (lb m m0 k) 32) ∧ Ex (F3 x y z) w wr)) (fun i _ => 32 - (intOf i).toNat)
          case atStart => exact ⟨0, by omega, rfl, I0⟩
          case round =>
            obtain ⟨k, hk, rfl, I⟩ := hrel
            clear I0
            by_cases hlt : k < 32
            · have hx : wr.cell? ⟨g, k, none⟩ = some (.int .i64 (nth r k)) := by
                rw [World.cell?_of_block (I.out.2.block g hgw (fun h => by rcases h with h | h | h; exact gx h; exact gy h; exact gz h))]; exact HC.out k hlt
              have d0 := I.out.1.c0
              have d1 := I.out.1.c1
              have d2 := I.out.1.c2
              have cx := I.out.1.cx k hlt
              have cy := I.out.1.cy k hlt
              have cz := I.out.1.cz k hlt
              have fx := I.out.1.fx k
              have fy := I.out.1.fy k
              have fz := I.out.1.fz k
              obtain ⟨n1, n2, n3, n4, n5⟩ := I.out.1.ne1
              have n6 := I.out.1.ne
              have F := Lib.hid (show ∀ W, ((((wr.drew.setCell ⟨x, k, none⟩ (.int .i64 (nth r k))).drew).setCell ⟨y, k, none⟩ (.bool (p.testBit k))).drew).setCell ⟨z, k, none⟩ (.bool (m.testBit k)) = W →
                  RAt W b x y z (mr r r0 (k + 1)) (bitsTo (lb p p0 (k + 1)) 32) (bitsTo (lb m m0 (k + 1)) 32) ∧ Ex (F3 x y z) w W from fun W e => by
                rw [← e]
                have a1 := I.out.1.drew.setX k hlt (nth r k)
                rw [mr_next r r0 k hlt] at a1
                have a2 := a1.drew.setY k hlt _ _ (bitsTo_lt32 _ _ (by omega)) (lb_next p p0 k)
                have a3 := a2.drew.setZ k hlt _ _ (bitsTo_lt32 _ _ (by omega)) (lb_next m m0 k)
                exact ⟨a3, ((((I.out.2.drew.chg (chg_set _ x k _) (.inl (.inl rfl))).drew).chg (chg_set _ y k _) (.inl (.inr (.inl rfl)))).drew).chg (chg_set _ z k _) (.inl (.inr (.inr rfl)))⟩)
              clear I
              go_wp2_with fail
              refine wp_region_tail 10 (by kernel_rfl) (by kernel_rfl) ?_
              simp only [List.take_succ_cons, List.take_zero, List.drop_succ_cons, List.drop_zero]
              iterate 10 still_step
              refine wpStill_nil ?_
              go_wp2_with fail
              refine wp_region_tail 9 (by kernel_rfl) (by kernel_rfl) ?_
              simp only [List.take_succ_cons, List.take_zero, List.drop_succ_cons, List.drop_zero]
              iterate 7 still_step
              still_call (bit_still _ p k HP.out hlt)
              still_step
              refine wpStill_nil ?_
              go_wp2_with fail
              refine wp_region_tail 9 (by kernel_rfl) (by kernel_rfl) ?_
              simp only [List.take_succ_cons, List.take_zero, List.drop_succ_cons, List.drop_zero]
              iterate 7 still_step
              still_call (bit_still _ m k HM.out hlt)
              still_step
              refine wpStill_nil ?_
              go_wp2
              go_roundw
              case rel => exact ⟨k + 1, by omega, by go_num, Lib.hid (F.out _ (by first | rfl | trace_state; sorry))⟩
              case measure => simp [intOf]; omega
            · obtain rfl : k = 32 := by omega
              go_wp2
              go_ret
              have := I.out.1
              rw [mr_end r r0 HL.out, lb_end p p0 HP.out, lb_end m m0 HM.out] at this
              exact ⟨by rw [E.out]; rfl, LdAt.yes E.out this, I.out.2⟩
end Go.Proofs.YtpedciapkalhgaaDoor.Gk
