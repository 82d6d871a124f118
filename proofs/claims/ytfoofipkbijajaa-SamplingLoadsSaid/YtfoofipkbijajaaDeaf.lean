/- SamplingDeaf: the walk. -/
import Derived.Test.YtfoofipkbijajaaAny
import Derived.Test.YtfoofipkbijajaaState
import Derived.Test.YtfoofipkbijajaaMade
import Derived.Deep.CutRange
namespace Go.Proofs.Ytfoofipkbijajaa.Sa
open Go.RowKit Go.Proofs.Ytfoofipkbijajaa.Kit
set_option linter.unusedSimpArgs false
set_option linter.unusedVariables false

theorem made_two {w w1 w2 w3 : World} {b c : Nat} {F G : Nat → Prop} {rs qs : List Int} (C1 : Chg w w1 none) (hP : PortIs w2 b F ⟨1, 16, rs, Msg.none, Msg.none⟩) (h3 : 3 ∈ rs) (hb : w1.heap.size ≤ b) (hC : Chg w1 w2 none)
    (hQ : PortIs w3 c G ⟨1, 16, qs, Msg.none, Msg.none⟩) (k3 : 3 ∈ qs) (hc : w2.heap.size ≤ c) (hG : ∀ x, G x → w2.heap.size ≤ x) (hC2 : Chg w2 w3 none) :
    Two w w3 b c F G ⟨1, 16, rs, Msg.none, Msg.none⟩ ⟨1, 16, qs, Msg.none, Msg.none⟩ ∧ Alike ⟨1, 16, rs, Msg.none, Msg.none⟩ ⟨1, 16, qs, Msg.none, Msg.none⟩ := by
  have h1 := C1.size
  have h2 := hC.size
  have h4 := hP.blt
  exact ⟨⟨hP.kept hC2 (by simp) (fun _ _ => by simp), hQ, by omega, fun h => by have := hG _ h; omega, fun h => by have := hP.lt _ h; omega, by omega, by omega, (C1.trans hC).trans hC2, ⟨rfl, rfl, h3⟩, ⟨rfl, rfl, k3⟩⟩, rfl, rfl⟩
theorem sameState_alike (w : World) (P Q : PA) (h : Alike P Q) (v1 u1 v2 u2 : Value) (h1 : Rb w v1 P.A.data) (h2 : Rb w v2 Q.A.data) (k1 : Rb w u1 P.B.data) (k2 : Rb w u2 Q.B.data) :
    Calls Try.prog 18 #[.agg #[.bool P.A.there, .bool P.B.there, v1, .int .u64 P.A.tick, u1, .int .u64 P.B.tick], .agg #[.bool Q.A.there, .bool Q.B.there, v2, .int .u64 Q.A.tick, u2, .int .u64 Q.B.tick]] w fun e w' => e = .returned (.bool true) ∧ Chg w w' none := by
  obtain ⟨ha, hb⟩ := h
  rw [← ha] at h2 ⊢
  rw [← hb] at k2 ⊢
  exact sameState_yes w _ _ _ _ _ _ v1 u1 v2 u2 h1 h2 k1 k2
set_option maxRecDepth 4000 in
set_option maxHeartbeats 8000000 in
theorem deaf_walk (w : World) (n : Int) (hn1 : -9223372036854775808 ≤ n) (hn2 : n ≤ 9223372036854775807) (v2 : Value) (ds : List OpD) (h2 : Ro w v2 ds) :
    Calls Try.prog 5 #[.int .i64 n, v2] w fun e w' => e = .returned (.bool true) ∧ Chg w w' none := by
  have H2 := Lib.hid (fun w' (h : Chg w w' none) => h2.below ((Below.refl w.heap.size w).grown h (Nat.le_refl _) (fun k e => by cases e)))
  obtain ⟨⟨A, cap, rfl, _⟩, hfew, hok⟩ := h2
  have OK := Lib.hid hok
  clear hok
  go_enter Try.func5, Try.ntmps5
  go_wp2_with fail
  refine (known_any _).mono ?_
  rintro e w1 ⟨rfl, hC⟩
  have C1 := Lib.hid hC; clear hC
  go_wp2_with fail
  refine (made_any w1 n).mono ?_
  rintro e w2 ⟨b, F, rs, rfl, hP, h3, hb, hF, hC⟩
  have M1 := Lib.hid (And.intro hP (And.intro h3 (And.intro hb hC)))
  clear hP h3 hb hF hC
  go_wp2_with fail
  refine (made_any w2 n).mono ?_
  rintro e w3 ⟨c, G, qs, rfl, hQ, k3, hc, hG, hC⟩
  have I2 := Lib.hid (made_two C1.out M1.out.1 M1.out.2.1 M1.out.2.2.1 M1.out.2.2.2 hQ k3 hc hG hC)
  clear hQ k3 hc hG hC M1 C1
  go_wp2_with fail
  go_loopw [8, 9, 10, 11, 12, 13] (fun i _ _ _ _ _ wr => ∃ (k : Nat) (F G : Nat → Prop) (P Q : PA), k ≤ ds.length ∧ i = .int .i64 k ∧ Hid (Two w wr b c F G P Q ∧ Alike P Q)) (fun i _ _ _ _ _ _ => ds.length - (intOf i).toNat)
  case atStart => exact ⟨0, F, G, _, _, by omega, rfl, I2⟩
  case round =>
    obtain ⟨k, F, G, P, Q, hk, rfl, I⟩ := hrel
    clear I2
    by_cases hlt : k < ds.length
    · by_cases h200 : (k : Int) < 200
      · obtain ⟨ab, aoff, hA, hcell⟩ := (H2.out _ I.out.1.chg).at_ k hlt
        subst hA
        have HD := Lib.hid (OK.out k)
        have HX := Lib.hid hcell
        clear hcell
        generalize dth ds k = d at *
        have hz := zero46
        obtain ⟨b0, b1, b2, b3⟩ := op_box wr d 46
        have HB := Lib.hid (heap_alloc_last wr (.cells (opArr d) 46))
        have hs4 : wr.heap.size < (wr.alloc (.cells (opArr d) 46)).heap.size := by simp
        have I4 := Lib.hid (And.intro (I.out.1.grow ((Chg.refl wr none).alloc (.cells (opArr d) 46))) I.out.2)
        obtain ⟨dA, dc, hdv⟩ : ∃ dA dc, d.dv = .slice dA d.data.length dc := by obtain ⟨⟨A', c', h, _⟩, _⟩ := HD.out.data; exact ⟨A', c', h⟩
        have D4 := Lib.hid (show Rb (wr.alloc (.cells (opArr d) 46)) (.slice dA d.data.length dc) d.data by rw [← hdv]; exact Chg.sl HD.out.data I4.out.1.chg)
        rw [hdv] at b3
        have HDV := Lib.hid hdv
        have hol : b < wr.heap.size := I.out.1.p.blt
        have hol2 : c < wr.heap.size := I.out.1.q.blt
        clear hdv
        go_upto_region 10 with ((with_reducible show wpList _ _ _ (_ :: _) _ _); first
          | refine wpList_load_mid (op := ⟨some 44, _, _, _, _, _⟩) rfl 46 (.tmp 43) rfl ab (aoff + k * 10) rfl (opCells d) _ HX.out Try.underlying46 rfl info46 ?_
          | refine wpList_store_new (o := ⟨none, .store 46 (.tmp 9) (.tmp 44), _, _, _, _⟩) rfl 46 (.tmp 9) (.tmp 44) rfl oz (opArr d) 46 rfl rfl info46 rfl (opArr_one HD.out) ?_)
        by_cases k1 : d.kind = 1
        · have k1b : (d.kind == 1) = true := by simpa using k1
          clear k1
          by_cases hc : d.cell = 1
          · have hcb : (d.cell != 1) = false := by simpa using hc
            clear hc
            go_wp2_with fail
            refine (write_any _ b F P I4.out.1.p d.cell d.tick _ d.data D4.out).mono ?_
            obtain ⟨r1, hr1⟩ : ∃ r, r = wres P.W P.S d.cell d.data.length := ⟨_, rfl⟩
            rw [← hr1]
            rintro e w5 ⟨rfl, hC, F', hP, hF⟩
            have HR := Lib.hid hr1
            clear hr1
            have I5 := Lib.hid (I4.out.1.onP hC hP hF (wput_decl _ _ _ _))
            have D5 := Lib.hid (show Rb w5 (.slice dA d.data.length dc) d.data by rw [← HDV.out]; exact Chg.sl HD.out.data I5.out.chg)
            obtain ⟨e0, e1, e2, e3⟩ := op_cells ((hC.block wr.heap.size (by omega) (fun e => by cases e; omega)).trans HB.out)
            rw [HDV.out] at e3
            have hw5 := hC.size
            clear hC hP hF b0 b1 b2 b3
            go_wp2_with fail
            refine (write_any w5 c G Q I5.out.q d.cell d.tick _ d.data D5.out).mono ?_
            have hr2 : wres Q.W Q.S d.cell d.data.length = r1 := by rw [HR.out, I4.out.1.dp.1, I4.out.1.dp.2.1, I4.out.1.dq.1, I4.out.1.dq.2.1]
            rw [hr2]
            clear hr2
            rintro e w6 ⟨rfl, hC, G', hQ, hG⟩
            have I6 := Lib.hid (And.intro (I5.out.onQ hC hQ hG (wput_decl _ _ _ _)) (I4.out.2.write I4.out.1.dp I4.out.1.dq d.cell d.tick d.data))
            clear hC hQ hG e0 e1 e2 e3 hw5
            go_wp2
            go_roundw
            case rel => exact ⟨k + 1, F', G', _, _, by omega, by go_num, I6⟩
            case measure => simp [intOf]; omega
          · have hcb : (d.cell != 1) = true := by simpa using hc
            go_wp2_with fail
            refine (write_any _ b F P I4.out.1.p d.cell d.tick _ d.data D4.out).mono ?_
            rintro e w5 ⟨rfl, hC, F', hP, hF⟩
            have I6 := Lib.hid (And.intro (I4.out.1.onP hC hP hF (wput_decl _ _ _ _)) (I4.out.2.writeOther I4.out.1.dp d.cell hc d.tick d.data))
            clear hC hP hF b0 b1 b2 b3
            go_wp2
            go_roundw
            case rel => exact ⟨k + 1, F', G, _, _, by omega, by go_num, I6⟩
            case measure => simp [intOf]; omega
        · have k1b : (d.kind == 1) = false := by simpa using k1
          clear k1
          by_cases k3 : d.kind = 3
          · have k3b : (d.kind == 3) = true := by simpa using k3
            clear k3
            by_cases hc : d.cell = 1
            · have hcb : (d.cell != 1) = false := by simpa using hc
              clear hc
              go_wp2_with fail
              refine (turn_any _ b F P I4.out.1.p d.cell).mono ?_
              obtain ⟨r1, hr1⟩ : ∃ r, r = tres P.W d.cell P.B := ⟨_, rfl⟩
              rw [← hr1]
              rintro e w5 ⟨rfl, hC, hP⟩
              have HR := Lib.hid hr1
              clear hr1
              have I5 := Lib.hid (I4.out.1.onP hC hP (fun x hx => .inl hx) (tput_decl _ _))
              obtain ⟨e0, e1, e2, e3⟩ := op_cells ((hC.block wr.heap.size (by omega) (fun e => by cases e; omega)).trans HB.out)
              rw [HDV.out] at e3
              have hw5 := hC.size
              clear hC hP b0 b1 b2 b3
              go_wp2_with fail
              refine (turn_any w5 c G Q I5.out.q d.cell).mono ?_
              have hr2 : tres Q.W d.cell Q.B = r1 := by rw [HR.out, I4.out.1.dp.1, I4.out.1.dq.1, I4.out.2.2]
              rw [hr2]
              clear hr2
              rintro e w6 ⟨rfl, hC, hQ⟩
              have I6 := Lib.hid (And.intro (I5.out.onQ hC hQ (fun x hx => .inl hx) (tput_decl _ _)) (I4.out.2.turn I4.out.1.dp I4.out.1.dq d.cell))
              clear hC hQ e0 e1 e2 e3 hw5
              go_wp2
              go_roundw
              case rel => exact ⟨k + 1, F, G, _, _, by omega, by go_num, I6⟩
              case measure => simp [intOf]; omega
            · have hcb : (d.cell != 1) = true := by simpa using hc
              go_wp2_with fail
              refine (turn_any _ b F P I4.out.1.p d.cell).mono ?_
              rintro e w5 ⟨rfl, hC, hP⟩
              have I6 := Lib.hid (And.intro (I4.out.1.onP hC hP (fun x hx => .inl hx) (tput_decl _ _)) (I4.out.2.turnOther I4.out.1.dp d.cell hc))
              clear hC hP b0 b1 b2 b3
              go_wp2
              go_roundw
              case rel => exact ⟨k + 1, F, G, _, _, by omega, by go_num, I6⟩
              case measure => simp [intOf]; omega
          · have k3b : (d.kind == 3) = false := by simpa using k3
            clear k3
            by_cases k2 : d.kind = 2
            · have k2b : (d.kind == 2) = true := by simpa using k2
              clear k2
              go_wp2_with fail
              refine (read_any _ b F P I4.out.1.p d.cell).mono ?_
              rintro e w5 ⟨q1, q2, q3, q4, rfl, hC⟩
              have I6 := Lib.hid (And.intro (I4.out.1.grow hC) I4.out.2)
              clear hC b0 b1 b2 b3
              go_wp2
              go_roundw
              case rel => exact ⟨k + 1, F, G, _, _, by omega, by go_num, I6⟩
              case measure => simp [intOf]; omega
            · have k2b : (d.kind == 2) = false := by simpa using k2
              clear k2
              by_cases k4 : d.kind = 4
              · have k4b : (d.kind == 4) = true := by simpa using k4
                clear k4
                go_wp2_with fail
                refine (state_any _ b F P I4.out.1.p).mono ?_
                rintro e w5 ⟨q1, q2, rfl, _, _, _, _, _, hC⟩
                have I6 := Lib.hid (And.intro (I4.out.1.grow hC) I4.out.2)
                clear hC b0 b1 b2 b3
                go_wp2
                go_roundw
                case rel => exact ⟨k + 1, F, G, _, _, by omega, by go_num, I6⟩
                case measure => simp [intOf]; omega
              · have k4b : (d.kind == 4) = false := by simpa using k4
                clear k4
                go_wp2_with fail
                go_roundw
                case rel => exact ⟨k + 1, F, G, _, _, by omega, by go_num, I4⟩
                case measure => simp [intOf]; omega
      · have hd : decide ((k : Int) < 200) = false := by simp only [decide_eq_false_iff_not]; omega
        go_wp2_with fail
        refine (state_any _ b F P I.out.1.p).mono ?_
        rintro e w5 ⟨q1, q2, rfl, o1, o2, f1, f2, _, hC⟩
        obtain ⟨a1, c1, rfl⟩ := own_slice o1
        obtain ⟨a2, c2, rfl⟩ := own_slice o2
        have I5 := Lib.hid (I.out.1.grow hC)
        have S1 := Lib.hid (own_sl o1 f1)
        have S2 := Lib.hid (own_sl o2 f2)
        clear hC o1 o2 f1 f2
        have hz := zero44
        go_wp2_with fail
        refine (state_any _ c G Q (I5.out.grow ((Chg.refl _ none).alloc (.cells #[.bool P.A.there, .bool P.B.there, .slice a1 P.A.data.length c1, .int .u64 P.A.tick, .slice a2 P.B.data.length c2, .int .u64 P.B.tick] 44))).q).mono ?_
        rintro e w6 ⟨q3, q4, rfl, o1, o2, f1, f2, _, hC⟩
        obtain ⟨a3, c3, rfl⟩ := own_slice o1
        obtain ⟨a4, c4, rfl⟩ := own_slice o2
        have C6 := Lib.hid (((Chg.refl w5 none).alloc (.cells #[.bool P.A.there, .bool P.B.there, .slice a1 P.A.data.length c1, .int .u64 P.A.tick, .slice a2 P.B.data.length c2, .int .u64 P.B.tick] 44)).trans hC)
        have R6 := Lib.hid ((hC.block w5.heap.size (by simp) (by simp)).trans (heap_alloc_last w5 (.cells #[.bool P.A.there, .bool P.B.there, .slice a1 P.A.data.length c1, .int .u64 P.A.tick, .slice a2 P.B.data.length c2, .int .u64 P.B.tick] 44)))
        have S3 := Lib.hid (own_sl o1 f1)
        have S4 := Lib.hid (own_sl o2 f2)
        have e0 : w6.cell? ⟨w5.heap.size, 0, none⟩ = some (.bool P.A.there) := by rw [cell_of_row _ _ _ _ _ _ R6.out]; rfl
        have e1 : w6.cell? ⟨w5.heap.size, 1, none⟩ = some (.bool P.B.there) := by rw [cell_of_row _ _ _ _ _ _ R6.out]; rfl
        have e2 : w6.cell? ⟨w5.heap.size, 2, none⟩ = some (.slice a1 P.A.data.length c1) := by rw [cell_of_row _ _ _ _ _ _ R6.out]; rfl
        have e3 : w6.cell? ⟨w5.heap.size, 3, none⟩ = some (.int .u64 P.A.tick) := by rw [cell_of_row _ _ _ _ _ _ R6.out]; rfl
        have e4 : w6.cell? ⟨w5.heap.size, 4, none⟩ = some (.slice a2 P.B.data.length c2) := by rw [cell_of_row _ _ _ _ _ _ R6.out]; rfl
        have e5 : w6.cell? ⟨w5.heap.size, 5, none⟩ = some (.int .u64 P.B.tick) := by rw [cell_of_row _ _ _ _ _ _ R6.out]; rfl
        have hw6 : w5.heap.size < w6.heap.size := Nat.lt_of_lt_of_le (by simp) hC.size
        clear hC o1 o2 f1 f2
        go_wp2_with fail
        refine (sameState_alike _ P Q I.out.2 _ _ _ _ (Chg.sl S1.out (C6.out.alloc _)) (Chg.sl S3.out ((Chg.refl w6 none).alloc _)) (Chg.sl S2.out (C6.out.alloc _)) (Chg.sl S4.out ((Chg.refl w6 none).alloc _))).mono ?_
        rintro e w8 ⟨rfl, hC⟩
        have C8 := Lib.hid (I5.out.chg.trans ((C6.out.alloc _).trans hC))
        clear hC
        go_wp2
        go_ret
        exact ⟨rfl, C8.out⟩
    · have hd : decide ((k : Int) < (ds.length : Int)) = false := by simp only [decide_eq_false_iff_not]; omega
      go_wp2_with fail
      refine (state_any _ b F P I.out.1.p).mono ?_
      rintro e w5 ⟨q1, q2, rfl, o1, o2, f1, f2, _, hC⟩
      obtain ⟨a1, c1, rfl⟩ := own_slice o1
      obtain ⟨a2, c2, rfl⟩ := own_slice o2
      have I5 := Lib.hid (I.out.1.grow hC)
      have S1 := Lib.hid (own_sl o1 f1)
      have S2 := Lib.hid (own_sl o2 f2)
      clear hC o1 o2 f1 f2
      have hz := zero44
      go_wp2_with fail
      refine (state_any _ c G Q (I5.out.grow ((Chg.refl _ none).alloc (.cells #[.bool P.A.there, .bool P.B.there, .slice a1 P.A.data.length c1, .int .u64 P.A.tick, .slice a2 P.B.data.length c2, .int .u64 P.B.tick] 44))).q).mono ?_
      rintro e w6 ⟨q3, q4, rfl, o1, o2, f1, f2, _, hC⟩
      obtain ⟨a3, c3, rfl⟩ := own_slice o1
      obtain ⟨a4, c4, rfl⟩ := own_slice o2
      have C6 := Lib.hid (((Chg.refl w5 none).alloc (.cells #[.bool P.A.there, .bool P.B.there, .slice a1 P.A.data.length c1, .int .u64 P.A.tick, .slice a2 P.B.data.length c2, .int .u64 P.B.tick] 44)).trans hC)
      have R6 := Lib.hid ((hC.block w5.heap.size (by simp) (by simp)).trans (heap_alloc_last w5 (.cells #[.bool P.A.there, .bool P.B.there, .slice a1 P.A.data.length c1, .int .u64 P.A.tick, .slice a2 P.B.data.length c2, .int .u64 P.B.tick] 44)))
      have S3 := Lib.hid (own_sl o1 f1)
      have S4 := Lib.hid (own_sl o2 f2)
      have e0 : w6.cell? ⟨w5.heap.size, 0, none⟩ = some (.bool P.A.there) := by rw [cell_of_row _ _ _ _ _ _ R6.out]; rfl
      have e1 : w6.cell? ⟨w5.heap.size, 1, none⟩ = some (.bool P.B.there) := by rw [cell_of_row _ _ _ _ _ _ R6.out]; rfl
      have e2 : w6.cell? ⟨w5.heap.size, 2, none⟩ = some (.slice a1 P.A.data.length c1) := by rw [cell_of_row _ _ _ _ _ _ R6.out]; rfl
      have e3 : w6.cell? ⟨w5.heap.size, 3, none⟩ = some (.int .u64 P.A.tick) := by rw [cell_of_row _ _ _ _ _ _ R6.out]; rfl
      have e4 : w6.cell? ⟨w5.heap.size, 4, none⟩ = some (.slice a2 P.B.data.length c2) := by rw [cell_of_row _ _ _ _ _ _ R6.out]; rfl
      have e5 : w6.cell? ⟨w5.heap.size, 5, none⟩ = some (.int .u64 P.B.tick) := by rw [cell_of_row _ _ _ _ _ _ R6.out]; rfl
      have hw6 : w5.heap.size < w6.heap.size := Nat.lt_of_lt_of_le (by simp) hC.size
      clear hC o1 o2 f1 f2
      go_wp2_with fail
      refine (sameState_alike _ P Q I.out.2 _ _ _ _ (Chg.sl S1.out (C6.out.alloc _)) (Chg.sl S3.out ((Chg.refl w6 none).alloc _)) (Chg.sl S2.out (C6.out.alloc _)) (Chg.sl S4.out ((Chg.refl w6 none).alloc _))).mono ?_
      rintro e w8 ⟨rfl, hC⟩
      have C8 := Lib.hid (I5.out.chg.trans ((C6.out.alloc _).trans hC))
      clear hC
      go_wp2
      go_ret
      exact ⟨rfl, C8.out⟩
end Go.Proofs.Ytfoofipkbijajaa.Sa
