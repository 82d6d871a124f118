/- SamplingLoads: the walk. -/
import Derived.Test.YtfoofipkbijajaaLoad
import Derived.Test.YtfoofipkbijajaaDeaf
namespace Go.Proofs.Ytfoofipkbijajaa.Sa
open Go.RowKit Go.Proofs.Ytfoofipkbijajaa.Kit
set_option linter.unusedSimpArgs false
set_option linter.unusedVariables false

theorem wrap_nat (x : Int) : ∃ t : Nat, IntKind.u64.wrap x = (t : Int) := by
  have h : 0 ≤ IntKind.u64.wrap x := by
    simp only [IntKind.wrap, IntKind.signed, IntKind.bits]
    first | omega | (simp; omega)
  exact ⟨_, (Int.toNat_of_nonneg h).symm⟩
/-- A port whose state may be loaded into one of Size 16. -/
def Fine (P : PA) : Prop := mok 16 P.A.there P.A.data.length P.A.tick = true ∧ mok 16 P.B.there P.B.data.length P.B.tick = true
theorem Fine.write {P : PA} (h : Fine P) (hp : P.W = 1 ∧ P.S = 16 ∧ 3 ∈ P.rs) (c : Int) (t : Nat) (xs : List Int) : Fine (wput P c t xs) := by
  have e : (wput P c t xs).B = wmsg P.W P.S c t xs P.B := rfl
  refine ⟨h.1, ?_⟩
  rw [e, wmsg, hp.2.1]
  split
  · rename_i hc
    simp [mok, hc.2]
  · exact h.2
theorem mok_none : mok 16 false 0 0 = true := by decide
theorem Fine.turn {P : PA} (h : Fine P) (c : Int) : Fine (tput P c) := by
  unfold tput
  split
  · exact ⟨h.2, mok_none⟩
  · exact h
set_option maxRecDepth 4000 in
set_option maxHeartbeats 16000000 in
theorem loads_walk (w : World) (n : Int) (hn1 : -9223372036854775808 ≤ n) (hn2 : n ≤ 9223372036854775807) (v1 : Value) (ds : List OpD) (h1 : Ro w v1 ds) (v2 : Value) (es : List OpD) (h2 : Ro w v2 es) :
    Calls Try.prog 7 #[.int .i64 n, v1, v2] w fun e w' => e = .returned (.bool true) ∧ Chg w w' none := by
  have H1 := Lib.hid (fun w' (h : Chg w w' none) => h1.below ((Below.refl w.heap.size w).grown h (Nat.le_refl _) (fun k e => by cases e)))
  have H2 := Lib.hid (fun w' (h : Chg w w' none) => h2.below ((Below.refl w.heap.size w).grown h (Nat.le_refl _) (fun k e => by cases e)))
  obtain ⟨⟨A, cap, rfl, _⟩, hfew, hok⟩ := h1
  obtain ⟨⟨A2, cap2, rfl, _⟩, hfew2, hok2⟩ := h2
  have OK1 := Lib.hid hok
  have OK2 := Lib.hid hok2
  clear hok hok2
  go_enter Try.func7, Try.ntmps7
  go_wp2_with fail
  refine (known_any _).mono ?_
  rintro e w1 ⟨rfl, hC⟩
  have C1 := Lib.hid hC; clear hC
  go_wp2_with fail
  refine (made_any w1 n).mono ?_
  rintro e w2 ⟨b, F, rs, rfl, hP, h3, hb, hF, hC⟩
  have M1 := Lib.hid (And.intro hP (And.intro h3 (And.intro hb hC)))
  clear hP h3 hb hF hC
  go_wp2_with fail
  refine (made_any w2 n).mono ?_
  rintro e w3 ⟨c, G, qs, rfl, hQ, k3, hc, hG, hC⟩
  have I2 := Lib.hid (And.intro (made_two C1.out M1.out.1 M1.out.2.1 M1.out.2.2.1 M1.out.2.2.2 hQ k3 hc hG hC).1 (show Fine ⟨1, 16, rs, Msg.none, Msg.none⟩ from ⟨mok_none, mok_none⟩))
  clear hQ k3 hc hG hC M1 C1
  go_wp2_with fail
  go_loopw [10, 11] (fun i _ wr => ∃ (k : Nat) (F G : Nat → Prop) (P Q : PA), k ≤ ds.length ∧ i = .int .i64 k ∧ Hid (Two w wr b c F G P Q ∧ Fine P)) (fun i _ _ => ds.length - (intOf i).toNat)
  case atStart => exact ⟨0, F, G, _, _, by omega, rfl, I2⟩
  case round =>
    obtain ⟨k, F, G, P, Q, hk, rfl, I⟩ := hrel
    clear I2
    by_cases hlt : k < ds.length
    · by_cases h100 : (k : Int) < 100
      · have _ := 0
        obtain ⟨ab, aoff, hA, hcell⟩ := (H1.out _ I.out.1.chg).at_ k hlt
        subst hA
        have HD := Lib.hid (OK1.out k)
        have HX := Lib.hid hcell
        clear hcell
        generalize dth ds k = d at *
        have hz := zero46
        obtain ⟨b0, b1, b2, b3⟩ := op_box wr d 46
        have HB := Lib.hid (heap_alloc_last wr (.cells (opArr d) 46))
        have hs4 : wr.heap.size < (wr.alloc (.cells (opArr d) 46)).heap.size := by simp
        have I4 := Lib.hid (And.intro (I.out.1.grow ((Chg.refl wr none).alloc (.cells (opArr d) 46))) I.out.2)
        obtain ⟨dA, dc, hdv⟩ : ∃ dA dc, d.dv = .slice dA d.data.length dc := by obtain ⟨⟨A', c', h, _⟩, _⟩ := HD.out.data; exact ⟨A', c', h⟩
        have D4 := Lib.hid (show Rb (wr.alloc (.cells (opArr d) 46)) (.slice dA d.data.length dc) d.data by rw [← hdv]; exact Chg.sl HD.out.data I4.out.1.chg)
        rw [hdv] at b3
        have HDV := Lib.hid hdv
        have hol : b < wr.heap.size := I.out.1.p.blt
        have hol2 : c < wr.heap.size := I.out.1.q.blt
        obtain ⟨t1, ht1⟩ : ∃ t1 : Nat, IntKind.u64.wrap ((d.tick : Int) + 1) = (t1 : Int) := wrap_nat _
        clear hdv
        go_upto_region 10 with ((with_reducible show wpList _ _ _ (_ :: _) _ _); first
          | refine wpList_load_mid (op := ⟨some 61, _, _, _, _, _⟩) rfl 46 (.tmp 60) rfl ab (aoff + k * 10) rfl (opCells d) _ HX.out Try.underlying46 rfl info46 ?_
          | refine wpList_store_new (o := ⟨none, .store 46 (.tmp 11) (.tmp 61), _, _, _, _⟩) rfl 46 (.tmp 11) (.tmp 61) rfl oz (opArr d) 46 rfl rfl info46 rfl (opArr_one HD.out) ?_)
        by_cases k3 : d.kind = 3
        · have k3b : (d.kind == 3) = true := by simpa using k3
          clear k3
          go_wp2_with fail
          refine (write_any _ b F P I4.out.1.p d.cell d.tick _ d.data D4.out).mono ?_
          rintro e w5 ⟨rfl, hC, F', hP, hF⟩
          have I5 := Lib.hid (And.intro (I4.out.1.onP hC hP hF (wput_decl _ _ _ _)) (I4.out.2.write I4.out.1.dp d.cell d.tick d.data))
          obtain ⟨e0, e1, e2, e3⟩ := op_cells ((hC.block wr.heap.size (by omega) (fun e => by cases e; omega)).trans HB.out)
          rw [HDV.out] at e3
          have hw5 := hC.size
          clear hC hP hF b0 b1 b2 b3
          go_wp2_with fail
          refine (turn_any w5 b F' _ I5.out.1.p d.cell).mono ?_
          rintro e w6 ⟨rfl, hC, hP⟩
          have I6 := Lib.hid (And.intro (I5.out.1.onP hC hP (fun x hx => .inl hx) (tput_decl _ _)) (I5.out.2.turn d.cell))
          clear hC hP e0 e1 e2 e3 hw5
          go_wp2
          go_roundw
          case rel => exact ⟨k + 1, F', G, _, _, by omega, by go_num, I6⟩
          case measure => simp [intOf]; omega
        · have k3b : (d.kind == 3) = false := by simpa using k3
          clear k3
          go_wp2_with fail
          refine (write_any _ b F P I4.out.1.p d.cell d.tick _ d.data D4.out).mono ?_
          rintro e w5 ⟨rfl, hC, F', hP, hF⟩
          have I5 := Lib.hid (And.intro (I4.out.1.onP hC hP hF (wput_decl _ _ _ _)) (I4.out.2.write I4.out.1.dp d.cell d.tick d.data))
          have D5 := Lib.hid (show Rb w5 (.slice dA d.data.length dc) d.data by rw [← HDV.out]; exact Chg.sl HD.out.data I5.out.1.chg)
          obtain ⟨e0, e1, e2, e3⟩ := op_cells ((hC.block wr.heap.size (by omega) (fun e => by cases e; omega)).trans HB.out)
          rw [HDV.out] at e3
          have hw5 := hC.size
          clear hC hP hF b0 b1 b2 b3
          go_wp2_with fail
          refine (write_any w5 c G Q I5.out.1.q d.cell t1 _ d.data D5.out).mono ?_
          rintro e w6 ⟨rfl, hC, G', hQ, hG⟩
          have I6 := Lib.hid (And.intro (I5.out.1.onQ hC hQ hG (wput_decl _ _ _ _)) I5.out.2)
          clear hC hQ hG
          go_wp2_with fail
          refine (turn_any w6 c G' _ I6.out.1.q 1).mono ?_
          rintro e w7 ⟨rfl, hC, hQ⟩
          have I7 := Lib.hid (And.intro (I6.out.1.onQ hC hQ (fun x hx => .inl hx) (tput_decl _ _)) I6.out.2)
          clear hC hQ e0 e1 e2 e3 hw5 ht1
          go_wp2
          go_roundw
          case rel => exact ⟨k + 1, F', G', _, _, by omega, by go_num, I7⟩
          case measure => simp [intOf]; omega
      · have hd : decide ((k : Int) < 100) = false := by simp only [decide_eq_false_iff_not]; omega
        obtain ⟨w4, e4⟩ : ∃ x, x = wr := ⟨wr, rfl⟩
        subst e4
        go_wp2_with fail
        refine (state_any _ b F P I.out.1.p).mono ?_
        rintro e w5 ⟨q1, q2, rfl, o1, o2, f1, f2, _, hC⟩
        obtain ⟨a1, c1, rfl⟩ := own_slice o1
        obtain ⟨a2, c2, rfl⟩ := own_slice o2
        have hcc := I.out.1.q.blt
        have I5 := Lib.hid (I.out.1.grow (hC.alloc (.cells #[.bool P.A.there, .bool P.B.there, .slice a1 P.A.data.length c1, .int .u64 P.A.tick, .slice a2 P.B.data.length c2, .int .u64 P.B.tick] 44)))
        have S1 := Lib.hid (own_sl o1 f1)
        have S2 := Lib.hid (own_sl o2 f2)
        have N1 := Lib.hid (fun g e => show g ≠ c from fun e2 => by have := (own_block o1 g e).1; omega)
        have N2 := Lib.hid (fun g e => show g ≠ c from fun e2 => by have := (own_block o2 g e).1; omega)
        have hw5 := hC.size
        have RS := Lib.hid (heap_alloc_last w5 (.cells #[.bool P.A.there, .bool P.B.there, .slice a1 P.A.data.length c1, .int .u64 P.A.tick, .slice a2 P.B.data.length c2, .int .u64 P.B.tick] 44))
        clear hC o1 o2 f1 f2
        have hz := zero44
        go_wp2_with fail
        refine (load_any _ c G Q I5.out.q P.A.there P.B.there _ _ P.A.data P.B.data P.A.tick P.B.tick (Chg.sl S1.out ((Chg.refl _ none).alloc _)) (Chg.sl S2.out ((Chg.refl _ none).alloc _)) N1.out N2.out).mono ?_
        intro e w6 hL
        rcases hL with ⟨_, _, rfl, hC, G', hQ, hG⟩ | ⟨hbad, _⟩
        rotate_left
        · have := I.out.2
          rw [I.out.1.dq.2.1, this.1, this.2] at hbad
          cases hbad
        have hal : Alike P { Q with A := ⟨P.A.there, P.A.data, P.A.tick⟩, B := ⟨P.B.there, P.B.data, P.B.tick⟩ } := ⟨rfl, rfl⟩
        have I6 := Lib.hid (And.intro (I5.out.onQ hC hQ hG ⟨rfl, rfl, rfl⟩) hal)
        have CS := Lib.hid (((Chg.refl w5 (some c)).alloc (.cells #[.bool P.A.there, .bool P.B.there, .slice a1 P.A.data.length c1, .int .u64 P.A.tick, .slice a2 P.B.data.length c2, .int .u64 P.B.tick] 44)).trans hC)
        have RS6 := Lib.hid ((hC.block w5.heap.size (by simp) (fun e => by cases e; omega)).trans RS.out)
        clear hC hQ hG hal
        generalize ({ Q with A := ⟨P.A.there, P.A.data, P.A.tick⟩, B := ⟨P.B.there, P.B.data, P.B.tick⟩ } : PA) = Q6 at *
        have T1 := Lib.hid (S1.out.kept fun g e hg => CS.out.block g hg (fun e2 => by injection e2 with e2; exact N1.out g e e2))
        have T2 := Lib.hid (S2.out.kept fun g e hg => CS.out.block g hg (fun e2 => by injection e2 with e2; exact N2.out g e e2))
        go_wp2_with fail
        refine (state_any w6 c G' Q6 I6.out.1.q).mono ?_
        rintro e w7 ⟨q3, q4, rfl, o1, o2, f1, f2, _, hC⟩
        obtain ⟨a3, c3, rfl⟩ := own_slice o1
        obtain ⟨a4, c4, rfl⟩ := own_slice o2
        have C7 := Lib.hid hC
        have S3 := Lib.hid (own_sl o1 f1)
        have S4 := Lib.hid (own_sl o2 f2)
        have hw6 : w5.heap.size < w6.heap.size := (Array.getElem?_eq_some_iff.1 RS6.out).1
        have hw7 : w5.heap.size < w7.heap.size := Nat.lt_of_lt_of_le hw6 hC.size
        have RS7 := Lib.hid ((hC.block w5.heap.size hw6 (by simp)).trans RS6.out)
        clear hC o1 o2 f1 f2
        have y0 : w7.cell? ⟨w5.heap.size, 0, none⟩ = some (.bool P.A.there) := by rw [cell_of_row _ _ _ _ _ _ RS7.out]; rfl
        have y1 : w7.cell? ⟨w5.heap.size, 1, none⟩ = some (.bool P.B.there) := by rw [cell_of_row _ _ _ _ _ _ RS7.out]; rfl
        have y2 : w7.cell? ⟨w5.heap.size, 2, none⟩ = some (.slice a1 P.A.data.length c1) := by rw [cell_of_row _ _ _ _ _ _ RS7.out]; rfl
        have y3 : w7.cell? ⟨w5.heap.size, 3, none⟩ = some (.int .u64 P.A.tick) := by rw [cell_of_row _ _ _ _ _ _ RS7.out]; rfl
        have y4 : w7.cell? ⟨w5.heap.size, 4, none⟩ = some (.slice a2 P.B.data.length c2) := by rw [cell_of_row _ _ _ _ _ _ RS7.out]; rfl
        have y5 : w7.cell? ⟨w5.heap.size, 5, none⟩ = some (.int .u64 P.B.tick) := by rw [cell_of_row _ _ _ _ _ _ RS7.out]; rfl
        go_wp2_with fail
        refine (sameState_alike _ P Q6 I6.out.2 _ _ _ _ (Chg.sl T1.out (C7.out.alloc _)) (Chg.sl S3.out ((Chg.refl w7 none).alloc _)) (Chg.sl T2.out (C7.out.alloc _)) (Chg.sl S4.out ((Chg.refl w7 none).alloc _))).mono ?_
        rintro e w8 ⟨rfl, hC⟩
        have I8 := Lib.hid (And.intro (I6.out.1.grow ((C7.out.alloc _).trans hC)) I6.out.2)
        clear hC y0 y1 y2 y3 y4 y5 S1 S2 S3 S4 T1 T2 C7 RS RS6 RS7 CS N1 N2 I5 I6 I hlt hd
        go_wp2_with fail
        go_loopw [16, 17, 18, 19, 20, 21, 22, 23, 24] (fun i _ _ _ _ _ _ _ _ wr => ∃ (k : Nat) (F G : Nat → Prop) (P Q : PA), k ≤ es.length ∧ i = .int .i64 k ∧ Hid (Two w wr b c F G P Q ∧ Alike P Q)) (fun i _ _ _ _ _ _ _ _ _ => es.length - (intOf i).toNat)
        case atStart => exact ⟨0, F, G', P, Q6, by omega, rfl, I8⟩
        case round =>
          obtain ⟨k, F, G, P, Q, hk, rfl, I⟩ := hrel
          clear I8
          by_cases hlt : k < es.length
          · by_cases h100 : (k : Int) < 100
            · have _ := 0
              obtain ⟨ab, aoff, hA, hcell⟩ := (H2.out _ I.out.1.chg).at_ k hlt
              subst hA
              have HD := Lib.hid (OK2.out k)
              have HX := Lib.hid hcell
              clear hcell
              generalize dth es k = d at *
              have hz := zero46
              obtain ⟨b0, b1, b2, b3⟩ := op_box wr d 46
              have HB := Lib.hid (heap_alloc_last wr (.cells (opArr d) 46))
              have hs4 : wr.heap.size < (wr.alloc (.cells (opArr d) 46)).heap.size := by simp
              have I4 := Lib.hid (And.intro (I.out.1.grow ((Chg.refl wr none).alloc (.cells (opArr d) 46))) I.out.2)
              obtain ⟨dA, dc, hdv⟩ : ∃ dA dc, d.dv = .slice dA d.data.length dc := by obtain ⟨⟨A', c', h, _⟩, _⟩ := HD.out.data; exact ⟨A', c', h⟩
              have D4 := Lib.hid (show Rb (wr.alloc (.cells (opArr d) 46)) (.slice dA d.data.length dc) d.data by rw [← hdv]; exact Chg.sl HD.out.data I4.out.1.chg)
              rw [hdv] at b3
              have HDV := Lib.hid hdv
              have hol : b < wr.heap.size := I.out.1.p.blt
              have hol2 : c < wr.heap.size := I.out.1.q.blt
              obtain ⟨t1, ht1⟩ : ∃ t1 : Nat, IntKind.u64.wrap ((d.tick : Int) + 1) = (t1 : Int) := wrap_nat _
              clear hdv
              go_upto_region 25 with ((with_reducible show wpList _ _ _ (_ :: _) _ _); first
                | refine wpList_load_mid (op := ⟨some 117, _, _, _, _, _⟩) rfl 46 (.tmp 116) rfl ab (aoff + k * 10) rfl (opCells d) _ HX.out Try.underlying46 rfl info46 ?_
                | refine wpList_store_new (o := ⟨none, .store 46 (.tmp 17) (.tmp 117), _, _, _, _⟩) rfl 46 (.tmp 17) (.tmp 117) rfl oz (opArr d) 46 rfl rfl info46 rfl (opArr_one HD.out) ?_)
              clear ht1
              by_cases k3 : d.kind = 3
              · have k3b : (d.kind == 3) = true := by simpa using k3
                clear k3
                go_wp2_with fail
                refine (turn_any _ b F P I4.out.1.p d.cell).mono ?_
                obtain ⟨r1, hr1⟩ : ∃ r, r = tres P.W d.cell P.B := ⟨_, rfl⟩
                rw [← hr1]
                rintro e w5 ⟨rfl, hC, hP⟩
                have HR := Lib.hid hr1
                clear hr1
                have I5 := Lib.hid (I4.out.1.onP hC hP (fun x hx => .inl hx) (tput_decl _ _))
                obtain ⟨e0, e1, e2, e3⟩ := op_cells ((hC.block wr.heap.size (by omega) (fun e => by cases e; omega)).trans HB.out)
                rw [HDV.out] at e3
                have hw5 := hC.size
                clear hC hP b0 b1 b2 b3
                go_wp2_with fail
                refine (turn_any w5 c G Q I5.out.q d.cell).mono ?_
                have hr2 : tres Q.W d.cell Q.B = r1 := by rw [HR.out, I4.out.1.dp.1, I4.out.1.dq.1, I4.out.2.2]
                rw [hr2]
                clear hr2
                rintro e w6 ⟨rfl, hC, hQ⟩
                have I6 := Lib.hid (And.intro (I5.out.onQ hC hQ (fun x hx => .inl hx) (tput_decl _ _)) (I4.out.2.turn I4.out.1.dp I4.out.1.dq d.cell))
                clear hC hQ e0 e1 e2 e3 hw5 I5 I4 I
                generalize tput P d.cell = P6 at *
                generalize tput Q d.cell = Q6 at *
                go_wp2_with fail
                refine (state_any _ b F P6 I6.out.1.p).mono ?_
                rintro e w15 ⟨q1, q2, rfl, o1, o2, f1, f2, _, hC⟩
                obtain ⟨a1, c1, rfl⟩ := own_slice o1
                obtain ⟨a2, c2, rfl⟩ := own_slice o2
                have I15 := Lib.hid (I6.out.1.grow hC)
                have S1 := Lib.hid (own_sl o1 f1)
                have S2 := Lib.hid (own_sl o2 f2)
                have CP := Lib.hid hC
                clear hC o1 o2 f1 f2
                have hz := zero44
                go_wp2_with fail
                refine (state_any _ c G Q6 (I15.out.grow ((Chg.refl _ none).alloc (.cells #[.bool P6.A.there, .bool P6.B.there, .slice a1 P6.A.data.length c1, .int .u64 P6.A.tick, .slice a2 P6.B.data.length c2, .int .u64 P6.B.tick] 44))).q).mono ?_
                rintro e w16 ⟨q3, q4, rfl, o1, o2, f1, f2, _, hC⟩
                obtain ⟨a3, c3, rfl⟩ := own_slice o1
                obtain ⟨a4, c4, rfl⟩ := own_slice o2
                have C16 := Lib.hid (((Chg.refl w15 none).alloc (.cells #[.bool P6.A.there, .bool P6.B.there, .slice a1 P6.A.data.length c1, .int .u64 P6.A.tick, .slice a2 P6.B.data.length c2, .int .u64 P6.B.tick] 44)).trans hC)
                have R16 := Lib.hid ((hC.block w15.heap.size (by simp) (by simp)).trans (heap_alloc_last w15 (.cells #[.bool P6.A.there, .bool P6.B.there, .slice a1 P6.A.data.length c1, .int .u64 P6.A.tick, .slice a2 P6.B.data.length c2, .int .u64 P6.B.tick] 44)))
                have S3 := Lib.hid (own_sl o1 f1)
                have S4 := Lib.hid (own_sl o2 f2)
                have y0 : w16.cell? ⟨w15.heap.size, 0, none⟩ = some (.bool P6.A.there) := by rw [cell_of_row _ _ _ _ _ _ R16.out]; rfl
                have y1 : w16.cell? ⟨w15.heap.size, 1, none⟩ = some (.bool P6.B.there) := by rw [cell_of_row _ _ _ _ _ _ R16.out]; rfl
                have y2 : w16.cell? ⟨w15.heap.size, 2, none⟩ = some (.slice a1 P6.A.data.length c1) := by rw [cell_of_row _ _ _ _ _ _ R16.out]; rfl
                have y3 : w16.cell? ⟨w15.heap.size, 3, none⟩ = some (.int .u64 P6.A.tick) := by rw [cell_of_row _ _ _ _ _ _ R16.out]; rfl
                have y4 : w16.cell? ⟨w15.heap.size, 4, none⟩ = some (.slice a2 P6.B.data.length c2) := by rw [cell_of_row _ _ _ _ _ _ R16.out]; rfl
                have y5 : w16.cell? ⟨w15.heap.size, 5, none⟩ = some (.int .u64 P6.B.tick) := by rw [cell_of_row _ _ _ _ _ _ R16.out]; rfl
                have hw16 : w15.heap.size < w16.heap.size := Nat.lt_of_lt_of_le (by simp) hC.size
                clear hC o1 o2 f1 f2
                go_wp2_with fail
                refine (sameState_alike _ P6 Q6 I6.out.2 _ _ _ _ (Chg.sl S1.out (C16.out.alloc _)) (Chg.sl S3.out ((Chg.refl w16 none).alloc _)) (Chg.sl S2.out (C16.out.alloc _)) (Chg.sl S4.out ((Chg.refl w16 none).alloc _))).mono ?_
                rintro e w18 ⟨rfl, hC⟩
                have C18 := Lib.hid (CP.out.trans ((C16.out.alloc _).trans hC))
                clear hC y0 y1 y2 y3 y4 y5
                have I18 := Lib.hid (And.intro (I6.out.1.grow C18.out) I6.out.2)
                clear CP S1 S2 S3 S4 C16 C18 R16
                go_wp2
                go_roundw
                case rel => exact ⟨k + 1, F, G, _, _, by omega, by go_num, I18⟩
                case measure => simp [intOf]; omega
              · have k3b : (d.kind == 3) = false := by simpa using k3
                clear k3
                go_wp2_with fail
                refine (write_any _ b F P I4.out.1.p d.cell d.tick _ d.data D4.out).mono ?_
                obtain ⟨r1, hr1⟩ : ∃ r, r = wres P.W P.S d.cell d.data.length := ⟨_, rfl⟩
                rw [← hr1]
                rintro e w5 ⟨rfl, hC, F', hP, hF⟩
                have HR := Lib.hid hr1
                clear hr1
                have I5 := Lib.hid (I4.out.1.onP hC hP hF (wput_decl _ _ _ _))
                have D5 := Lib.hid (show Rb w5 (.slice dA d.data.length dc) d.data by rw [← HDV.out]; exact Chg.sl HD.out.data I5.out.chg)
                obtain ⟨e0, e1, e2, e3⟩ := op_cells ((hC.block wr.heap.size (by omega) (fun e => by cases e; omega)).trans HB.out)
                rw [HDV.out] at e3
                have hw5 := hC.size
                clear hC hP hF b0 b1 b2 b3
                go_wp2_with fail
                refine (write_any w5 c G Q I5.out.q d.cell d.tick _ d.data D5.out).mono ?_
                have hr2 : wres Q.W Q.S d.cell d.data.length = r1 := by rw [HR.out, I4.out.1.dp.1, I4.out.1.dp.2.1, I4.out.1.dq.1, I4.out.1.dq.2.1]
                rw [hr2]
                clear hr2
                rintro e w6 ⟨rfl, hC, G', hQ, hG⟩
                have I6 := Lib.hid (And.intro (I5.out.onQ hC hQ hG (wput_decl _ _ _ _)) (I4.out.2.write I4.out.1.dp I4.out.1.dq d.cell d.tick d.data))
                clear hC hQ hG e0 e1 e2 e3 hw5 I5 I4 I
                generalize wput P d.cell d.tick d.data = P6 at *
                generalize wput Q d.cell d.tick d.data = Q6 at *
                go_wp2_with fail
                refine (state_any _ b F' P6 I6.out.1.p).mono ?_
                rintro e w15 ⟨q1, q2, rfl, o1, o2, f1, f2, _, hC⟩
                obtain ⟨a1, c1, rfl⟩ := own_slice o1
                obtain ⟨a2, c2, rfl⟩ := own_slice o2
                have I15 := Lib.hid (I6.out.1.grow hC)
                have S1 := Lib.hid (own_sl o1 f1)
                have S2 := Lib.hid (own_sl o2 f2)
                have CP := Lib.hid hC
                clear hC o1 o2 f1 f2
                have hz := zero44
                go_wp2_with fail
                refine (state_any _ c G' Q6 (I15.out.grow ((Chg.refl _ none).alloc (.cells #[.bool P6.A.there, .bool P6.B.there, .slice a1 P6.A.data.length c1, .int .u64 P6.A.tick, .slice a2 P6.B.data.length c2, .int .u64 P6.B.tick] 44))).q).mono ?_
                rintro e w16 ⟨q3, q4, rfl, o1, o2, f1, f2, _, hC⟩
                obtain ⟨a3, c3, rfl⟩ := own_slice o1
                obtain ⟨a4, c4, rfl⟩ := own_slice o2
                have C16 := Lib.hid (((Chg.refl w15 none).alloc (.cells #[.bool P6.A.there, .bool P6.B.there, .slice a1 P6.A.data.length c1, .int .u64 P6.A.tick, .slice a2 P6.B.data.length c2, .int .u64 P6.B.tick] 44)).trans hC)
                have R16 := Lib.hid ((hC.block w15.heap.size (by simp) (by simp)).trans (heap_alloc_last w15 (.cells #[.bool P6.A.there, .bool P6.B.there, .slice a1 P6.A.data.length c1, .int .u64 P6.A.tick, .slice a2 P6.B.data.length c2, .int .u64 P6.B.tick] 44)))
                have S3 := Lib.hid (own_sl o1 f1)
                have S4 := Lib.hid (own_sl o2 f2)
                have y0 : w16.cell? ⟨w15.heap.size, 0, none⟩ = some (.bool P6.A.there) := by rw [cell_of_row _ _ _ _ _ _ R16.out]; rfl
                have y1 : w16.cell? ⟨w15.heap.size, 1, none⟩ = some (.bool P6.B.there) := by rw [cell_of_row _ _ _ _ _ _ R16.out]; rfl
                have y2 : w16.cell? ⟨w15.heap.size, 2, none⟩ = some (.slice a1 P6.A.data.length c1) := by rw [cell_of_row _ _ _ _ _ _ R16.out]; rfl
                have y3 : w16.cell? ⟨w15.heap.size, 3, none⟩ = some (.int .u64 P6.A.tick) := by rw [cell_of_row _ _ _ _ _ _ R16.out]; rfl
                have y4 : w16.cell? ⟨w15.heap.size, 4, none⟩ = some (.slice a2 P6.B.data.length c2) := by rw [cell_of_row _ _ _ _ _ _ R16.out]; rfl
                have y5 : w16.cell? ⟨w15.heap.size, 5, none⟩ = some (.int .u64 P6.B.tick) := by rw [cell_of_row _ _ _ _ _ _ R16.out]; rfl
                have hw16 : w15.heap.size < w16.heap.size := Nat.lt_of_lt_of_le (by simp) hC.size
                clear hC o1 o2 f1 f2
                go_wp2_with fail
                refine (sameState_alike _ P6 Q6 I6.out.2 _ _ _ _ (Chg.sl S1.out (C16.out.alloc _)) (Chg.sl S3.out ((Chg.refl w16 none).alloc _)) (Chg.sl S2.out (C16.out.alloc _)) (Chg.sl S4.out ((Chg.refl w16 none).alloc _))).mono ?_
                rintro e w18 ⟨rfl, hC⟩
                have C18 := Lib.hid (CP.out.trans ((C16.out.alloc _).trans hC))
                clear hC y0 y1 y2 y3 y4 y5
                have I18 := Lib.hid (And.intro (I6.out.1.grow C18.out) I6.out.2)
                clear CP S1 S2 S3 S4 C16 C18 R16
                go_wp2
                go_roundw
                case rel => exact ⟨k + 1, F', G', _, _, by omega, by go_num, I18⟩
                case measure => simp [intOf]; omega
            · have hd : decide ((k : Int) < 100) = false := by simp only [decide_eq_false_iff_not]; omega
              obtain ⟨w20, e20⟩ : ∃ x, x = wr := ⟨wr, rfl⟩
              subst e20
              go_wp2_with fail
              refine (state_any _ c G Q I.out.1.q).mono ?_
              rintro e w5 ⟨q1, q2, rfl, o1, o2, f1, f2, _, hC⟩
              obtain ⟨a1, c1, rfl⟩ := own_slice o1
              obtain ⟨a2, c2, rfl⟩ := own_slice o2
              have I5 := Lib.hid (I.out.1.grow (hC.alloc (.cells #[.bool Q.A.there, .bool Q.B.there, .slice a1 Q.A.data.length c1, .int .u64 Q.A.tick, .slice a2 Q.B.data.length c2, .int .u64 Q.B.tick] 44)))
              have S1 := Lib.hid (own_sl o1 f1)
              have S2 := Lib.hid (own_sl o2 f2)
              have hbb := I.out.1.p.blt
              have N1 := Lib.hid (fun g e => show g ≠ b from fun e2 => by have := (own_block o1 g e).1; omega)
              have N2 := Lib.hid (fun g e => show g ≠ b from fun e2 => by have := (own_block o2 g e).1; omega)
              have hw5 := hC.size
              have RY := Lib.hid (heap_alloc_last w5 (.cells #[.bool Q.A.there, .bool Q.B.there, .slice a1 Q.A.data.length c1, .int .u64 Q.A.tick, .slice a2 Q.B.data.length c2, .int .u64 Q.B.tick] 44))
              have S9' := sl_lit (k := .u8) (m := 1) (w5.alloc (.cells #[.bool Q.A.there, .bool Q.B.there, .slice a1 Q.A.data.length c1, .int .u64 Q.A.tick, .slice a2 Q.B.data.length c2, .int .u64 Q.B.tick] 44)) [9, 9, 9, 9] 5 (by decide)
              rw [World.size_alloc] at S9'
              have S9 := Lib.hid S9'
              have I6 := Lib.hid (I5.out.grow ((Chg.refl _ none).alloc (.cells ([9, 9, 9, 9].map (Value.int .u8)).toArray 5)))
              have C6 := Lib.hid ((((Chg.refl w5 none).alloc (.cells #[.bool Q.A.there, .bool Q.B.there, .slice a1 Q.A.data.length c1, .int .u64 Q.A.tick, .slice a2 Q.B.data.length c2, .int .u64 Q.B.tick] 44)).alloc (.cells ([9, 9, 9, 9].map (Value.int .u8)).toArray 5)))
              have RY6 := Lib.hid (Eq.trans (heap_alloc_old (w5.alloc (.cells #[.bool Q.A.there, .bool Q.B.there, .slice a1 Q.A.data.length c1, .int .u64 Q.A.tick, .slice a2 Q.B.data.length c2, .int .u64 Q.B.tick] 44)) (.cells ([9, 9, 9, 9].map (Value.int .u8)).toArray 5) (by simp)) RY.out)
              clear hC o1 o2 f1 f2 S9'
              have hz := zero44
              go_wp2_with fail
              refine (write_any _ b F P I6.out.p 1 5 _ [9, 9, 9, 9] S9.out).mono ?_
              rintro e w6 ⟨rfl, hC, F', hP, hF⟩
              have I7 := Lib.hid (I6.out.onP hC hP hF (wput_decl _ _ _ _))
              have C7 := Lib.hid ((C6.out.any (some b)).trans hC)
              have RY7 := Lib.hid ((hC.block w5.heap.size (by simp; omega) (fun e => by cases e; omega)).trans RY6.out)
              clear hC hP hF
              go_wp2_with fail
              refine (turn_any w6 b F' _ I7.out.p 1).mono ?_
              rintro e w7 ⟨rfl, hC, hP⟩
              have I8 := Lib.hid (I7.out.onP hC hP (fun x hx => .inl hx) (tput_decl _ _))
              have C8 := Lib.hid (C7.out.trans hC)
              have RY8 := Lib.hid ((hC.block w5.heap.size (Array.getElem?_eq_some_iff.1 RY7.out).1 (fun e => by cases e; omega)).trans RY7.out)
              clear hC hP
              go_wp2_with fail
              refine (read_ok w7 c G Q I8.out.q 3 I8.out.dq.2.2).mono ?_
              rintro e w8 ⟨v8, rfl, hown, hf, hC⟩
              have S8 := Lib.hid (own_sl hown hf)
              have I9 := Lib.hid (I8.out.grow hC)
              have C9 := Lib.hid (C8.out.trans (hC.any _))
              have RY9 := Lib.hid ((hC.block w5.heap.size (Array.getElem?_eq_some_iff.1 RY8.out).1 (by simp)).trans RY8.out)
              clear hown hf hC
              have T1 := Lib.hid (S1.out.kept fun g e hg => C9.out.block g hg (fun e2 => by injection e2 with e2; exact N1.out g e e2))
              have T2 := Lib.hid (S2.out.kept fun g e hg => C9.out.block g hg (fun e2 => by injection e2 with e2; exact N2.out g e e2))
              have y0 : w8.cell? ⟨w5.heap.size, 0, none⟩ = some (.bool Q.A.there) := by rw [cell_of_row _ _ _ _ _ _ RY9.out]; rfl
              have y1 : w8.cell? ⟨w5.heap.size, 1, none⟩ = some (.bool Q.B.there) := by rw [cell_of_row _ _ _ _ _ _ RY9.out]; rfl
              have y2 : w8.cell? ⟨w5.heap.size, 2, none⟩ = some (.slice a1 Q.A.data.length c1) := by rw [cell_of_row _ _ _ _ _ _ RY9.out]; rfl
              have y3 : w8.cell? ⟨w5.heap.size, 3, none⟩ = some (.int .u64 Q.A.tick) := by rw [cell_of_row _ _ _ _ _ _ RY9.out]; rfl
              have y4 : w8.cell? ⟨w5.heap.size, 4, none⟩ = some (.slice a2 Q.B.data.length c2) := by rw [cell_of_row _ _ _ _ _ _ RY9.out]; rfl
              have y5 : w8.cell? ⟨w5.heap.size, 5, none⟩ = some (.int .u64 Q.B.tick) := by rw [cell_of_row _ _ _ _ _ _ RY9.out]; rfl
              go_wp2_with fail
              refine (same_any _ _ _ _ _ S8.out T1.out).mono ?_
              rw [decide_eq_true rfl]
              rintro e w9 ⟨rfl, n9, rfl⟩
              have I10 := Lib.hid (I9.out.grow ((Chg.refl _ none).drewN n9))
              go_wp2_with fail
              refine (state_any _ c G Q I10.out.q).mono ?_
              rintro e w10 ⟨q3, q4, rfl, o1, o2, f1, f2, _, hC⟩
              obtain ⟨a3, c3, rfl⟩ := own_slice o1
              obtain ⟨a4, c4, rfl⟩ := own_slice o2
              have S3 := Lib.hid (own_sl o1 f1)
              have S4 := Lib.hid (own_sl o2 f2)
              have C11 := Lib.hid (((Chg.refl w8 none).drewN n9).trans hC)
              have I11 := Lib.hid (I10.out.grow hC)
              have hw8 : w5.heap.size < w8.heap.size := (Array.getElem?_eq_some_iff.1 RY9.out).1
              have hw10 : w5.heap.size < w10.heap.size := Nat.lt_of_lt_of_le hw8 C11.out.size
              have RY11 := Lib.hid ((C11.out.block w5.heap.size hw8 (by simp)).trans RY9.out)
              clear hC o1 o2 f1 f2 y0 y1 y2 y3 y4 y5
              have y0 : w10.cell? ⟨w5.heap.size, 0, none⟩ = some (.bool Q.A.there) := by rw [cell_of_row _ _ _ _ _ _ RY11.out]; rfl
              have y1 : w10.cell? ⟨w5.heap.size, 1, none⟩ = some (.bool Q.B.there) := by rw [cell_of_row _ _ _ _ _ _ RY11.out]; rfl
              have y2 : w10.cell? ⟨w5.heap.size, 2, none⟩ = some (.slice a1 Q.A.data.length c1) := by rw [cell_of_row _ _ _ _ _ _ RY11.out]; rfl
              have y3 : w10.cell? ⟨w5.heap.size, 3, none⟩ = some (.int .u64 Q.A.tick) := by rw [cell_of_row _ _ _ _ _ _ RY11.out]; rfl
              have y4 : w10.cell? ⟨w5.heap.size, 4, none⟩ = some (.slice a2 Q.B.data.length c2) := by rw [cell_of_row _ _ _ _ _ _ RY11.out]; rfl
              have y5 : w10.cell? ⟨w5.heap.size, 5, none⟩ = some (.int .u64 Q.B.tick) := by rw [cell_of_row _ _ _ _ _ _ RY11.out]; rfl
              go_wp2_with fail
              refine (sameState_yes _ _ _ _ _ _ _ _ _ _ _ (Chg.sl T1.out (C11.out.alloc _)) (Chg.sl S3.out ((Chg.refl w10 none).alloc _)) (Chg.sl T2.out (C11.out.alloc _)) (Chg.sl S4.out ((Chg.refl w10 none).alloc _))).mono ?_
              rintro e w12 ⟨rfl, hC⟩
              have C12 := Lib.hid (((Chg.refl w10 none).alloc (.cells #[.bool Q.A.there, .bool Q.B.there, .slice a3 Q.A.data.length c3, .int .u64 Q.A.tick, .slice a4 Q.B.data.length c4, .int .u64 Q.B.tick] 44)).trans hC)
              have RY12 := Lib.hid ((C12.out.block w5.heap.size hw10 (by simp)).trans RY11.out)
              clear hC y0 y1 y2 y3 y4 y5
              have y0 : w12.cell? ⟨w5.heap.size, 0, none⟩ = some (.bool Q.A.there) := by rw [cell_of_row _ _ _ _ _ _ RY12.out]; rfl
              have y1 : w12.cell? ⟨w5.heap.size, 1, none⟩ = some (.bool Q.B.there) := by rw [cell_of_row _ _ _ _ _ _ RY12.out]; rfl
              have y2 : w12.cell? ⟨w5.heap.size, 2, none⟩ = some (.slice a1 Q.A.data.length c1) := by rw [cell_of_row _ _ _ _ _ _ RY12.out]; rfl
              have y3 : w12.cell? ⟨w5.heap.size, 3, none⟩ = some (.int .u64 Q.A.tick) := by rw [cell_of_row _ _ _ _ _ _ RY12.out]; rfl
              have y4 : w12.cell? ⟨w5.heap.size, 4, none⟩ = some (.slice a2 Q.B.data.length c2) := by rw [cell_of_row _ _ _ _ _ _ RY12.out]; rfl
              have y5 : w12.cell? ⟨w5.heap.size, 5, none⟩ = some (.int .u64 Q.B.tick) := by rw [cell_of_row _ _ _ _ _ _ RY12.out]; rfl
              go_wp2
              go_ret
              exact ⟨by first | rfl | simp, I11.out.chg.trans C12.out⟩
          · have hd : decide ((k : Int) < (es.length : Int)) = false := by simp only [decide_eq_false_iff_not]; omega
            obtain ⟨w20, e20⟩ : ∃ x, x = wr := ⟨wr, rfl⟩
            subst e20
            go_wp2_with fail
            refine (state_any _ c G Q I.out.1.q).mono ?_
            rintro e w5 ⟨q1, q2, rfl, o1, o2, f1, f2, _, hC⟩
            obtain ⟨a1, c1, rfl⟩ := own_slice o1
            obtain ⟨a2, c2, rfl⟩ := own_slice o2
            have I5 := Lib.hid (I.out.1.grow (hC.alloc (.cells #[.bool Q.A.there, .bool Q.B.there, .slice a1 Q.A.data.length c1, .int .u64 Q.A.tick, .slice a2 Q.B.data.length c2, .int .u64 Q.B.tick] 44)))
            have S1 := Lib.hid (own_sl o1 f1)
            have S2 := Lib.hid (own_sl o2 f2)
            have hbb := I.out.1.p.blt
            have N1 := Lib.hid (fun g e => show g ≠ b from fun e2 => by have := (own_block o1 g e).1; omega)
            have N2 := Lib.hid (fun g e => show g ≠ b from fun e2 => by have := (own_block o2 g e).1; omega)
            have hw5 := hC.size
            have RY := Lib.hid (heap_alloc_last w5 (.cells #[.bool Q.A.there, .bool Q.B.there, .slice a1 Q.A.data.length c1, .int .u64 Q.A.tick, .slice a2 Q.B.data.length c2, .int .u64 Q.B.tick] 44))
            have S9' := sl_lit (k := .u8) (m := 1) (w5.alloc (.cells #[.bool Q.A.there, .bool Q.B.there, .slice a1 Q.A.data.length c1, .int .u64 Q.A.tick, .slice a2 Q.B.data.length c2, .int .u64 Q.B.tick] 44)) [9, 9, 9, 9] 5 (by decide)
            rw [World.size_alloc] at S9'
            have S9 := Lib.hid S9'
            have I6 := Lib.hid (I5.out.grow ((Chg.refl _ none).alloc (.cells ([9, 9, 9, 9].map (Value.int .u8)).toArray 5)))
            have C6 := Lib.hid ((((Chg.refl w5 none).alloc (.cells #[.bool Q.A.there, .bool Q.B.there, .slice a1 Q.A.data.length c1, .int .u64 Q.A.tick, .slice a2 Q.B.data.length c2, .int .u64 Q.B.tick] 44)).alloc (.cells ([9, 9, 9, 9].map (Value.int .u8)).toArray 5)))
            have RY6 := Lib.hid (Eq.trans (heap_alloc_old (w5.alloc (.cells #[.bool Q.A.there, .bool Q.B.there, .slice a1 Q.A.data.length c1, .int .u64 Q.A.tick, .slice a2 Q.B.data.length c2, .int .u64 Q.B.tick] 44)) (.cells ([9, 9, 9, 9].map (Value.int .u8)).toArray 5) (by simp)) RY.out)
            clear hC o1 o2 f1 f2 S9'
            have hz := zero44
            go_wp2_with fail
            refine (write_any _ b F P I6.out.p 1 5 _ [9, 9, 9, 9] S9.out).mono ?_
            rintro e w6 ⟨rfl, hC, F', hP, hF⟩
            have I7 := Lib.hid (I6.out.onP hC hP hF (wput_decl _ _ _ _))
            have C7 := Lib.hid ((C6.out.any (some b)).trans hC)
            have RY7 := Lib.hid ((hC.block w5.heap.size (by simp; omega) (fun e => by cases e; omega)).trans RY6.out)
            clear hC hP hF
            go_wp2_with fail
            refine (turn_any w6 b F' _ I7.out.p 1).mono ?_
            rintro e w7 ⟨rfl, hC, hP⟩
            have I8 := Lib.hid (I7.out.onP hC hP (fun x hx => .inl hx) (tput_decl _ _))
            have C8 := Lib.hid (C7.out.trans hC)
            have RY8 := Lib.hid ((hC.block w5.heap.size (Array.getElem?_eq_some_iff.1 RY7.out).1 (fun e => by cases e; omega)).trans RY7.out)
            clear hC hP
            go_wp2_with fail
            refine (read_ok w7 c G Q I8.out.q 3 I8.out.dq.2.2).mono ?_
            rintro e w8 ⟨v8, rfl, hown, hf, hC⟩
            have S8 := Lib.hid (own_sl hown hf)
            have I9 := Lib.hid (I8.out.grow hC)
            have C9 := Lib.hid (C8.out.trans (hC.any _))
            have RY9 := Lib.hid ((hC.block w5.heap.size (Array.getElem?_eq_some_iff.1 RY8.out).1 (by simp)).trans RY8.out)
            clear hown hf hC
            have T1 := Lib.hid (S1.out.kept fun g e hg => C9.out.block g hg (fun e2 => by injection e2 with e2; exact N1.out g e e2))
            have T2 := Lib.hid (S2.out.kept fun g e hg => C9.out.block g hg (fun e2 => by injection e2 with e2; exact N2.out g e e2))
            have y0 : w8.cell? ⟨w5.heap.size, 0, none⟩ = some (.bool Q.A.there) := by rw [cell_of_row _ _ _ _ _ _ RY9.out]; rfl
            have y1 : w8.cell? ⟨w5.heap.size, 1, none⟩ = some (.bool Q.B.there) := by rw [cell_of_row _ _ _ _ _ _ RY9.out]; rfl
            have y2 : w8.cell? ⟨w5.heap.size, 2, none⟩ = some (.slice a1 Q.A.data.length c1) := by rw [cell_of_row _ _ _ _ _ _ RY9.out]; rfl
            have y3 : w8.cell? ⟨w5.heap.size, 3, none⟩ = some (.int .u64 Q.A.tick) := by rw [cell_of_row _ _ _ _ _ _ RY9.out]; rfl
            have y4 : w8.cell? ⟨w5.heap.size, 4, none⟩ = some (.slice a2 Q.B.data.length c2) := by rw [cell_of_row _ _ _ _ _ _ RY9.out]; rfl
            have y5 : w8.cell? ⟨w5.heap.size, 5, none⟩ = some (.int .u64 Q.B.tick) := by rw [cell_of_row _ _ _ _ _ _ RY9.out]; rfl
            go_wp2_with fail
            refine (same_any _ _ _ _ _ S8.out T1.out).mono ?_
            rw [decide_eq_true rfl]
            rintro e w9 ⟨rfl, n9, rfl⟩
            have I10 := Lib.hid (I9.out.grow ((Chg.refl _ none).drewN n9))
            go_wp2_with fail
            refine (state_any _ c G Q I10.out.q).mono ?_
            rintro e w10 ⟨q3, q4, rfl, o1, o2, f1, f2, _, hC⟩
            obtain ⟨a3, c3, rfl⟩ := own_slice o1
            obtain ⟨a4, c4, rfl⟩ := own_slice o2
            have S3 := Lib.hid (own_sl o1 f1)
            have S4 := Lib.hid (own_sl o2 f2)
            have C11 := Lib.hid (((Chg.refl w8 none).drewN n9).trans hC)
            have I11 := Lib.hid (I10.out.grow hC)
            have hw8 : w5.heap.size < w8.heap.size := (Array.getElem?_eq_some_iff.1 RY9.out).1
            have hw10 : w5.heap.size < w10.heap.size := Nat.lt_of_lt_of_le hw8 C11.out.size
            have RY11 := Lib.hid ((C11.out.block w5.heap.size hw8 (by simp)).trans RY9.out)
            clear hC o1 o2 f1 f2 y0 y1 y2 y3 y4 y5
            have y0 : w10.cell? ⟨w5.heap.size, 0, none⟩ = some (.bool Q.A.there) := by rw [cell_of_row _ _ _ _ _ _ RY11.out]; rfl
            have y1 : w10.cell? ⟨w5.heap.size, 1, none⟩ = some (.bool Q.B.there) := by rw [cell_of_row _ _ _ _ _ _ RY11.out]; rfl
            have y2 : w10.cell? ⟨w5.heap.size, 2, none⟩ = some (.slice a1 Q.A.data.length c1) := by rw [cell_of_row _ _ _ _ _ _ RY11.out]; rfl
            have y3 : w10.cell? ⟨w5.heap.size, 3, none⟩ = some (.int .u64 Q.A.tick) := by rw [cell_of_row _ _ _ _ _ _ RY11.out]; rfl
            have y4 : w10.cell? ⟨w5.heap.size, 4, none⟩ = some (.slice a2 Q.B.data.length c2) := by rw [cell_of_row _ _ _ _ _ _ RY11.out]; rfl
            have y5 : w10.cell? ⟨w5.heap.size, 5, none⟩ = some (.int .u64 Q.B.tick) := by rw [cell_of_row _ _ _ _ _ _ RY11.out]; rfl
            go_wp2_with fail
            refine (sameState_yes _ _ _ _ _ _ _ _ _ _ _ (Chg.sl T1.out (C11.out.alloc _)) (Chg.sl S3.out ((Chg.refl w10 none).alloc _)) (Chg.sl T2.out (C11.out.alloc _)) (Chg.sl S4.out ((Chg.refl w10 none).alloc _))).mono ?_
            rintro e w12 ⟨rfl, hC⟩
            have C12 := Lib.hid (((Chg.refl w10 none).alloc (.cells #[.bool Q.A.there, .bool Q.B.there, .slice a3 Q.A.data.length c3, .int .u64 Q.A.tick, .slice a4 Q.B.data.length c4, .int .u64 Q.B.tick] 44)).trans hC)
            have RY12 := Lib.hid ((C12.out.block w5.heap.size hw10 (by simp)).trans RY11.out)
            clear hC y0 y1 y2 y3 y4 y5
            have y0 : w12.cell? ⟨w5.heap.size, 0, none⟩ = some (.bool Q.A.there) := by rw [cell_of_row _ _ _ _ _ _ RY12.out]; rfl
            have y1 : w12.cell? ⟨w5.heap.size, 1, none⟩ = some (.bool Q.B.there) := by rw [cell_of_row _ _ _ _ _ _ RY12.out]; rfl
            have y2 : w12.cell? ⟨w5.heap.size, 2, none⟩ = some (.slice a1 Q.A.data.length c1) := by rw [cell_of_row _ _ _ _ _ _ RY12.out]; rfl
            have y3 : w12.cell? ⟨w5.heap.size, 3, none⟩ = some (.int .u64 Q.A.tick) := by rw [cell_of_row _ _ _ _ _ _ RY12.out]; rfl
            have y4 : w12.cell? ⟨w5.heap.size, 4, none⟩ = some (.slice a2 Q.B.data.length c2) := by rw [cell_of_row _ _ _ _ _ _ RY12.out]; rfl
            have y5 : w12.cell? ⟨w5.heap.size, 5, none⟩ = some (.int .u64 Q.B.tick) := by rw [cell_of_row _ _ _ _ _ _ RY12.out]; rfl
            go_wp2
            go_ret
            exact ⟨by first | rfl | simp, I11.out.chg.trans C12.out⟩
    · have hd : decide ((k : Int) < (ds.length : Int)) = false := by simp only [decide_eq_false_iff_not]; omega
      obtain ⟨w4, e4⟩ : ∃ x, x = wr := ⟨wr, rfl⟩
      subst e4
      go_wp2_with fail
      refine (state_any _ b F P I.out.1.p).mono ?_
      rintro e w5 ⟨q1, q2, rfl, o1, o2, f1, f2, _, hC⟩
      obtain ⟨a1, c1, rfl⟩ := own_slice o1
      obtain ⟨a2, c2, rfl⟩ := own_slice o2
      have hcc := I.out.1.q.blt
      have I5 := Lib.hid (I.out.1.grow (hC.alloc (.cells #[.bool P.A.there, .bool P.B.there, .slice a1 P.A.data.length c1, .int .u64 P.A.tick, .slice a2 P.B.data.length c2, .int .u64 P.B.tick] 44)))
      have S1 := Lib.hid (own_sl o1 f1)
      have S2 := Lib.hid (own_sl o2 f2)
      have N1 := Lib.hid (fun g e => show g ≠ c from fun e2 => by have := (own_block o1 g e).1; omega)
      have N2 := Lib.hid (fun g e => show g ≠ c from fun e2 => by have := (own_block o2 g e).1; omega)
      have hw5 := hC.size
      have RS := Lib.hid (heap_alloc_last w5 (.cells #[.bool P.A.there, .bool P.B.there, .slice a1 P.A.data.length c1, .int .u64 P.A.tick, .slice a2 P.B.data.length c2, .int .u64 P.B.tick] 44))
      clear hC o1 o2 f1 f2
      have hz := zero44
      go_wp2_with fail
      refine (load_any _ c G Q I5.out.q P.A.there P.B.there _ _ P.A.data P.B.data P.A.tick P.B.tick (Chg.sl S1.out ((Chg.refl _ none).alloc _)) (Chg.sl S2.out ((Chg.refl _ none).alloc _)) N1.out N2.out).mono ?_
      intro e w6 hL
      rcases hL with ⟨_, _, rfl, hC, G', hQ, hG⟩ | ⟨hbad, _⟩
      rotate_left
      · have := I.out.2
        rw [I.out.1.dq.2.1, this.1, this.2] at hbad
        cases hbad
      have hal : Alike P { Q with A := ⟨P.A.there, P.A.data, P.A.tick⟩, B := ⟨P.B.there, P.B.data, P.B.tick⟩ } := ⟨rfl, rfl⟩
      have I6 := Lib.hid (And.intro (I5.out.onQ hC hQ hG ⟨rfl, rfl, rfl⟩) hal)
      have CS := Lib.hid (((Chg.refl w5 (some c)).alloc (.cells #[.bool P.A.there, .bool P.B.there, .slice a1 P.A.data.length c1, .int .u64 P.A.tick, .slice a2 P.B.data.length c2, .int .u64 P.B.tick] 44)).trans hC)
      have RS6 := Lib.hid ((hC.block w5.heap.size (by simp) (fun e => by cases e; omega)).trans RS.out)
      clear hC hQ hG hal
      generalize ({ Q with A := ⟨P.A.there, P.A.data, P.A.tick⟩, B := ⟨P.B.there, P.B.data, P.B.tick⟩ } : PA) = Q6 at *
      have T1 := Lib.hid (S1.out.kept fun g e hg => CS.out.block g hg (fun e2 => by injection e2 with e2; exact N1.out g e e2))
      have T2 := Lib.hid (S2.out.kept fun g e hg => CS.out.block g hg (fun e2 => by injection e2 with e2; exact N2.out g e e2))
      go_wp2_with fail
      refine (state_any w6 c G' Q6 I6.out.1.q).mono ?_
      rintro e w7 ⟨q3, q4, rfl, o1, o2, f1, f2, _, hC⟩
      obtain ⟨a3, c3, rfl⟩ := own_slice o1
      obtain ⟨a4, c4, rfl⟩ := own_slice o2
      have C7 := Lib.hid hC
      have S3 := Lib.hid (own_sl o1 f1)
      have S4 := Lib.hid (own_sl o2 f2)
      have hw6 : w5.heap.size < w6.heap.size := (Array.getElem?_eq_some_iff.1 RS6.out).1
      have hw7 : w5.heap.size < w7.heap.size := Nat.lt_of_lt_of_le hw6 hC.size
      have RS7 := Lib.hid ((hC.block w5.heap.size hw6 (by simp)).trans RS6.out)
      clear hC o1 o2 f1 f2
      have y0 : w7.cell? ⟨w5.heap.size, 0, none⟩ = some (.bool P.A.there) := by rw [cell_of_row _ _ _ _ _ _ RS7.out]; rfl
      have y1 : w7.cell? ⟨w5.heap.size, 1, none⟩ = some (.bool P.B.there) := by rw [cell_of_row _ _ _ _ _ _ RS7.out]; rfl
      have y2 : w7.cell? ⟨w5.heap.size, 2, none⟩ = some (.slice a1 P.A.data.length c1) := by rw [cell_of_row _ _ _ _ _ _ RS7.out]; rfl
      have y3 : w7.cell? ⟨w5.heap.size, 3, none⟩ = some (.int .u64 P.A.tick) := by rw [cell_of_row _ _ _ _ _ _ RS7.out]; rfl
      have y4 : w7.cell? ⟨w5.heap.size, 4, none⟩ = some (.slice a2 P.B.data.length c2) := by rw [cell_of_row _ _ _ _ _ _ RS7.out]; rfl
      have y5 : w7.cell? ⟨w5.heap.size, 5, none⟩ = some (.int .u64 P.B.tick) := by rw [cell_of_row _ _ _ _ _ _ RS7.out]; rfl
      go_wp2_with fail
      refine (sameState_alike _ P Q6 I6.out.2 _ _ _ _ (Chg.sl T1.out (C7.out.alloc _)) (Chg.sl S3.out ((Chg.refl w7 none).alloc _)) (Chg.sl T2.out (C7.out.alloc _)) (Chg.sl S4.out ((Chg.refl w7 none).alloc _))).mono ?_
      rintro e w8 ⟨rfl, hC⟩
      have I8 := Lib.hid (And.intro (I6.out.1.grow ((C7.out.alloc _).trans hC)) I6.out.2)
      clear hC y0 y1 y2 y3 y4 y5 S1 S2 S3 S4 T1 T2 C7 RS RS6 RS7 CS N1 N2 I5 I6 I hlt hd
      go_wp2_with fail
      go_loopw [16, 17, 18, 19, 20, 21, 22, 23, 24] (fun i _ _ _ _ _ _ _ _ wr => ∃ (k : Nat) (F G : Nat → Prop) (P Q : PA), k ≤ es.length ∧ i = .int .i64 k ∧ Hid (Two w wr b c F G P Q ∧ Alike P Q)) (fun i _ _ _ _ _ _ _ _ _ => es.length - (intOf i).toNat)
      case atStart => exact ⟨0, F, G', P, Q6, by omega, rfl, I8⟩
      case round =>
        obtain ⟨k, F, G, P, Q, hk, rfl, I⟩ := hrel
        clear I8
        by_cases hlt : k < es.length
        · by_cases h100 : (k : Int) < 100
          · have _ := 0
            obtain ⟨ab, aoff, hA, hcell⟩ := (H2.out _ I.out.1.chg).at_ k hlt
            subst hA
            have HD := Lib.hid (OK2.out k)
            have HX := Lib.hid hcell
            clear hcell
            generalize dth es k = d at *
            have hz := zero46
            obtain ⟨b0, b1, b2, b3⟩ := op_box wr d 46
            have HB := Lib.hid (heap_alloc_last wr (.cells (opArr d) 46))
            have hs4 : wr.heap.size < (wr.alloc (.cells (opArr d) 46)).heap.size := by simp
            have I4 := Lib.hid (And.intro (I.out.1.grow ((Chg.refl wr none).alloc (.cells (opArr d) 46))) I.out.2)
            obtain ⟨dA, dc, hdv⟩ : ∃ dA dc, d.dv = .slice dA d.data.length dc := by obtain ⟨⟨A', c', h, _⟩, _⟩ := HD.out.data; exact ⟨A', c', h⟩
            have D4 := Lib.hid (show Rb (wr.alloc (.cells (opArr d) 46)) (.slice dA d.data.length dc) d.data by rw [← hdv]; exact Chg.sl HD.out.data I4.out.1.chg)
            rw [hdv] at b3
            have HDV := Lib.hid hdv
            have hol : b < wr.heap.size := I.out.1.p.blt
            have hol2 : c < wr.heap.size := I.out.1.q.blt
            obtain ⟨t1, ht1⟩ : ∃ t1 : Nat, IntKind.u64.wrap ((d.tick : Int) + 1) = (t1 : Int) := wrap_nat _
            clear hdv
            go_upto_region 25 with ((with_reducible show wpList _ _ _ (_ :: _) _ _); first
              | refine wpList_load_mid (op := ⟨some 117, _, _, _, _, _⟩) rfl 46 (.tmp 116) rfl ab (aoff + k * 10) rfl (opCells d) _ HX.out Try.underlying46 rfl info46 ?_
              | refine wpList_store_new (o := ⟨none, .store 46 (.tmp 17) (.tmp 117), _, _, _, _⟩) rfl 46 (.tmp 17) (.tmp 117) rfl oz (opArr d) 46 rfl rfl info46 rfl (opArr_one HD.out) ?_)
            clear ht1
            by_cases k3 : d.kind = 3
            · have k3b : (d.kind == 3) = true := by simpa using k3
              clear k3
              go_wp2_with fail
              refine (turn_any _ b F P I4.out.1.p d.cell).mono ?_
              obtain ⟨r1, hr1⟩ : ∃ r, r = tres P.W d.cell P.B := ⟨_, rfl⟩
              rw [← hr1]
              rintro e w5 ⟨rfl, hC, hP⟩
              have HR := Lib.hid hr1
              clear hr1
              have I5 := Lib.hid (I4.out.1.onP hC hP (fun x hx => .inl hx) (tput_decl _ _))
              obtain ⟨e0, e1, e2, e3⟩ := op_cells ((hC.block wr.heap.size (by omega) (fun e => by cases e; omega)).trans HB.out)
              rw [HDV.out] at e3
              have hw5 := hC.size
              clear hC hP b0 b1 b2 b3
              go_wp2_with fail
              refine (turn_any w5 c G Q I5.out.q d.cell).mono ?_
              have hr2 : tres Q.W d.cell Q.B = r1 := by rw [HR.out, I4.out.1.dp.1, I4.out.1.dq.1, I4.out.2.2]
              rw [hr2]
              clear hr2
              rintro e w6 ⟨rfl, hC, hQ⟩
              have I6 := Lib.hid (And.intro (I5.out.onQ hC hQ (fun x hx => .inl hx) (tput_decl _ _)) (I4.out.2.turn I4.out.1.dp I4.out.1.dq d.cell))
              clear hC hQ e0 e1 e2 e3 hw5 I5 I4 I
              generalize tput P d.cell = P6 at *
              generalize tput Q d.cell = Q6 at *
              go_wp2_with fail
              refine (state_any _ b F P6 I6.out.1.p).mono ?_
              rintro e w15 ⟨q1, q2, rfl, o1, o2, f1, f2, _, hC⟩
              obtain ⟨a1, c1, rfl⟩ := own_slice o1
              obtain ⟨a2, c2, rfl⟩ := own_slice o2
              have I15 := Lib.hid (I6.out.1.grow hC)
              have S1 := Lib.hid (own_sl o1 f1)
              have S2 := Lib.hid (own_sl o2 f2)
              have CP := Lib.hid hC
              clear hC o1 o2 f1 f2
              have hz := zero44
              go_wp2_with fail
              refine (state_any _ c G Q6 (I15.out.grow ((Chg.refl _ none).alloc (.cells #[.bool P6.A.there, .bool P6.B.there, .slice a1 P6.A.data.length c1, .int .u64 P6.A.tick, .slice a2 P6.B.data.length c2, .int .u64 P6.B.tick] 44))).q).mono ?_
              rintro e w16 ⟨q3, q4, rfl, o1, o2, f1, f2, _, hC⟩
              obtain ⟨a3, c3, rfl⟩ := own_slice o1
              obtain ⟨a4, c4, rfl⟩ := own_slice o2
              have C16 := Lib.hid (((Chg.refl w15 none).alloc (.cells #[.bool P6.A.there, .bool P6.B.there, .slice a1 P6.A.data.length c1, .int .u64 P6.A.tick, .slice a2 P6.B.data.length c2, .int .u64 P6.B.tick] 44)).trans hC)
              have R16 := Lib.hid ((hC.block w15.heap.size (by simp) (by simp)).trans (heap_alloc_last w15 (.cells #[.bool P6.A.there, .bool P6.B.there, .slice a1 P6.A.data.length c1, .int .u64 P6.A.tick, .slice a2 P6.B.data.length c2, .int .u64 P6.B.tick] 44)))
              have S3 := Lib.hid (own_sl o1 f1)
              have S4 := Lib.hid (own_sl o2 f2)
              have y0 : w16.cell? ⟨w15.heap.size, 0, none⟩ = some (.bool P6.A.there) := by rw [cell_of_row _ _ _ _ _ _ R16.out]; rfl
              have y1 : w16.cell? ⟨w15.heap.size, 1, none⟩ = some (.bool P6.B.there) := by rw [cell_of_row _ _ _ _ _ _ R16.out]; rfl
              have y2 : w16.cell? ⟨w15.heap.size, 2, none⟩ = some (.slice a1 P6.A.data.length c1) := by rw [cell_of_row _ _ _ _ _ _ R16.out]; rfl
              have y3 : w16.cell? ⟨w15.heap.size, 3, none⟩ = some (.int .u64 P6.A.tick) := by rw [cell_of_row _ _ _ _ _ _ R16.out]; rfl
              have y4 : w16.cell? ⟨w15.heap.size, 4, none⟩ = some (.slice a2 P6.B.data.length c2) := by rw [cell_of_row _ _ _ _ _ _ R16.out]; rfl
              have y5 : w16.cell? ⟨w15.heap.size, 5, none⟩ = some (.int .u64 P6.B.tick) := by rw [cell_of_row _ _ _ _ _ _ R16.out]; rfl
              have hw16 : w15.heap.size < w16.heap.size := Nat.lt_of_lt_of_le (by simp) hC.size
              clear hC o1 o2 f1 f2
              go_wp2_with fail
              refine (sameState_alike _ P6 Q6 I6.out.2 _ _ _ _ (Chg.sl S1.out (C16.out.alloc _)) (Chg.sl S3.out ((Chg.refl w16 none).alloc _)) (Chg.sl S2.out (C16.out.alloc _)) (Chg.sl S4.out ((Chg.refl w16 none).alloc _))).mono ?_
              rintro e w18 ⟨rfl, hC⟩
              have C18 := Lib.hid (CP.out.trans ((C16.out.alloc _).trans hC))
              clear hC y0 y1 y2 y3 y4 y5
              have I18 := Lib.hid (And.intro (I6.out.1.grow C18.out) I6.out.2)
              clear CP S1 S2 S3 S4 C16 C18 R16
              go_wp2
              go_roundw
              case rel => exact ⟨k + 1, F, G, _, _, by omega, by go_num, I18⟩
              case measure => simp [intOf]; omega
            · have k3b : (d.kind == 3) = false := by simpa using k3
              clear k3
              go_wp2_with fail
              refine (write_any _ b F P I4.out.1.p d.cell d.tick _ d.data D4.out).mono ?_
              obtain ⟨r1, hr1⟩ : ∃ r, r = wres P.W P.S d.cell d.data.length := ⟨_, rfl⟩
              rw [← hr1]
              rintro e w5 ⟨rfl, hC, F', hP, hF⟩
              have HR := Lib.hid hr1
              clear hr1
              have I5 := Lib.hid (I4.out.1.onP hC hP hF (wput_decl _ _ _ _))
              have D5 := Lib.hid (show Rb w5 (.slice dA d.data.length dc) d.data by rw [← HDV.out]; exact Chg.sl HD.out.data I5.out.chg)
              obtain ⟨e0, e1, e2, e3⟩ := op_cells ((hC.block wr.heap.size (by omega) (fun e => by cases e; omega)).trans HB.out)
              rw [HDV.out] at e3
              have hw5 := hC.size
              clear hC hP hF b0 b1 b2 b3
              go_wp2_with fail
              refine (write_any w5 c G Q I5.out.q d.cell d.tick _ d.data D5.out).mono ?_
              have hr2 : wres Q.W Q.S d.cell d.data.length = r1 := by rw [HR.out, I4.out.1.dp.1, I4.out.1.dp.2.1, I4.out.1.dq.1, I4.out.1.dq.2.1]
              rw [hr2]
              clear hr2
              rintro e w6 ⟨rfl, hC, G', hQ, hG⟩
              have I6 := Lib.hid (And.intro (I5.out.onQ hC hQ hG (wput_decl _ _ _ _)) (I4.out.2.write I4.out.1.dp I4.out.1.dq d.cell d.tick d.data))
              clear hC hQ hG e0 e1 e2 e3 hw5 I5 I4 I
              generalize wput P d.cell d.tick d.data = P6 at *
              generalize wput Q d.cell d.tick d.data = Q6 at *
              go_wp2_with fail
              refine (state_any _ b F' P6 I6.out.1.p).mono ?_
              rintro e w15 ⟨q1, q2, rfl, o1, o2, f1, f2, _, hC⟩
              obtain ⟨a1, c1, rfl⟩ := own_slice o1
              obtain ⟨a2, c2, rfl⟩ := own_slice o2
              have I15 := Lib.hid (I6.out.1.grow hC)
              have S1 := Lib.hid (own_sl o1 f1)
              have S2 := Lib.hid (own_sl o2 f2)
              have CP := Lib.hid hC
              clear hC o1 o2 f1 f2
              have hz := zero44
              go_wp2_with fail
              refine (state_any _ c G' Q6 (I15.out.grow ((Chg.refl _ none).alloc (.cells #[.bool P6.A.there, .bool P6.B.there, .slice a1 P6.A.data.length c1, .int .u64 P6.A.tick, .slice a2 P6.B.data.length c2, .int .u64 P6.B.tick] 44))).q).mono ?_
              rintro e w16 ⟨q3, q4, rfl, o1, o2, f1, f2, _, hC⟩
              obtain ⟨a3, c3, rfl⟩ := own_slice o1
              obtain ⟨a4, c4, rfl⟩ := own_slice o2
              have C16 := Lib.hid (((Chg.refl w15 none).alloc (.cells #[.bool P6.A.there, .bool P6.B.there, .slice a1 P6.A.data.length c1, .int .u64 P6.A.tick, .slice a2 P6.B.data.length c2, .int .u64 P6.B.tick] 44)).trans hC)
              have R16 := Lib.hid ((hC.block w15.heap.size (by simp) (by simp)).trans (heap_alloc_last w15 (.cells #[.bool P6.A.there, .bool P6.B.there, .slice a1 P6.A.data.length c1, .int .u64 P6.A.tick, .slice a2 P6.B.data.length c2, .int .u64 P6.B.tick] 44)))
              have S3 := Lib.hid (own_sl o1 f1)
              have S4 := Lib.hid (own_sl o2 f2)
              have y0 : w16.cell? ⟨w15.heap.size, 0, none⟩ = some (.bool P6.A.there) := by rw [cell_of_row _ _ _ _ _ _ R16.out]; rfl
              have y1 : w16.cell? ⟨w15.heap.size, 1, none⟩ = some (.bool P6.B.there) := by rw [cell_of_row _ _ _ _ _ _ R16.out]; rfl
              have y2 : w16.cell? ⟨w15.heap.size, 2, none⟩ = some (.slice a1 P6.A.data.length c1) := by rw [cell_of_row _ _ _ _ _ _ R16.out]; rfl
              have y3 : w16.cell? ⟨w15.heap.size, 3, none⟩ = some (.int .u64 P6.A.tick) := by rw [cell_of_row _ _ _ _ _ _ R16.out]; rfl
              have y4 : w16.cell? ⟨w15.heap.size, 4, none⟩ = some (.slice a2 P6.B.data.length c2) := by rw [cell_of_row _ _ _ _ _ _ R16.out]; rfl
              have y5 : w16.cell? ⟨w15.heap.size, 5, none⟩ = some (.int .u64 P6.B.tick) := by rw [cell_of_row _ _ _ _ _ _ R16.out]; rfl
              have hw16 : w15.heap.size < w16.heap.size := Nat.lt_of_lt_of_le (by simp) hC.size
              clear hC o1 o2 f1 f2
              go_wp2_with fail
              refine (sameState_alike _ P6 Q6 I6.out.2 _ _ _ _ (Chg.sl S1.out (C16.out.alloc _)) (Chg.sl S3.out ((Chg.refl w16 none).alloc _)) (Chg.sl S2.out (C16.out.alloc _)) (Chg.sl S4.out ((Chg.refl w16 none).alloc _))).mono ?_
              rintro e w18 ⟨rfl, hC⟩
              have C18 := Lib.hid (CP.out.trans ((C16.out.alloc _).trans hC))
              clear hC y0 y1 y2 y3 y4 y5
              have I18 := Lib.hid (And.intro (I6.out.1.grow C18.out) I6.out.2)
              clear CP S1 S2 S3 S4 C16 C18 R16
              go_wp2
              go_roundw
              case rel => exact ⟨k + 1, F', G', _, _, by omega, by go_num, I18⟩
              case measure => simp [intOf]; omega
          · have hd : decide ((k : Int) < 100) = false := by simp only [decide_eq_false_iff_not]; omega
            obtain ⟨w20, e20⟩ : ∃ x, x = wr := ⟨wr, rfl⟩
            subst e20
            go_wp2_with fail
            refine (state_any _ c G Q I.out.1.q).mono ?_
            rintro e w5 ⟨q1, q2, rfl, o1, o2, f1, f2, _, hC⟩
            obtain ⟨a1, c1, rfl⟩ := own_slice o1
            obtain ⟨a2, c2, rfl⟩ := own_slice o2
            have I5 := Lib.hid (I.out.1.grow (hC.alloc (.cells #[.bool Q.A.there, .bool Q.B.there, .slice a1 Q.A.data.length c1, .int .u64 Q.A.tick, .slice a2 Q.B.data.length c2, .int .u64 Q.B.tick] 44)))
            have S1 := Lib.hid (own_sl o1 f1)
            have S2 := Lib.hid (own_sl o2 f2)
            have hbb := I.out.1.p.blt
            have N1 := Lib.hid (fun g e => show g ≠ b from fun e2 => by have := (own_block o1 g e).1; omega)
            have N2 := Lib.hid (fun g e => show g ≠ b from fun e2 => by have := (own_block o2 g e).1; omega)
            have hw5 := hC.size
            have RY := Lib.hid (heap_alloc_last w5 (.cells #[.bool Q.A.there, .bool Q.B.there, .slice a1 Q.A.data.length c1, .int .u64 Q.A.tick, .slice a2 Q.B.data.length c2, .int .u64 Q.B.tick] 44))
            have S9' := sl_lit (k := .u8) (m := 1) (w5.alloc (.cells #[.bool Q.A.there, .bool Q.B.there, .slice a1 Q.A.data.length c1, .int .u64 Q.A.tick, .slice a2 Q.B.data.length c2, .int .u64 Q.B.tick] 44)) [9, 9, 9, 9] 5 (by decide)
            rw [World.size_alloc] at S9'
            have S9 := Lib.hid S9'
            have I6 := Lib.hid (I5.out.grow ((Chg.refl _ none).alloc (.cells ([9, 9, 9, 9].map (Value.int .u8)).toArray 5)))
            have C6 := Lib.hid ((((Chg.refl w5 none).alloc (.cells #[.bool Q.A.there, .bool Q.B.there, .slice a1 Q.A.data.length c1, .int .u64 Q.A.tick, .slice a2 Q.B.data.length c2, .int .u64 Q.B.tick] 44)).alloc (.cells ([9, 9, 9, 9].map (Value.int .u8)).toArray 5)))
            have RY6 := Lib.hid (Eq.trans (heap_alloc_old (w5.alloc (.cells #[.bool Q.A.there, .bool Q.B.there, .slice a1 Q.A.data.length c1, .int .u64 Q.A.tick, .slice a2 Q.B.data.length c2, .int .u64 Q.B.tick] 44)) (.cells ([9, 9, 9, 9].map (Value.int .u8)).toArray 5) (by simp)) RY.out)
            clear hC o1 o2 f1 f2 S9'
            have hz := zero44
            go_wp2_with fail
            refine (write_any _ b F P I6.out.p 1 5 _ [9, 9, 9, 9] S9.out).mono ?_
            rintro e w6 ⟨rfl, hC, F', hP, hF⟩
            have I7 := Lib.hid (I6.out.onP hC hP hF (wput_decl _ _ _ _))
            have C7 := Lib.hid ((C6.out.any (some b)).trans hC)
            have RY7 := Lib.hid ((hC.block w5.heap.size (by simp; omega) (fun e => by cases e; omega)).trans RY6.out)
            clear hC hP hF
            go_wp2_with fail
            refine (turn_any w6 b F' _ I7.out.p 1).mono ?_
            rintro e w7 ⟨rfl, hC, hP⟩
            have I8 := Lib.hid (I7.out.onP hC hP (fun x hx => .inl hx) (tput_decl _ _))
            have C8 := Lib.hid (C7.out.trans hC)
            have RY8 := Lib.hid ((hC.block w5.heap.size (Array.getElem?_eq_some_iff.1 RY7.out).1 (fun e => by cases e; omega)).trans RY7.out)
            clear hC hP
            go_wp2_with fail
            refine (read_ok w7 c G Q I8.out.q 3 I8.out.dq.2.2).mono ?_
            rintro e w8 ⟨v8, rfl, hown, hf, hC⟩
            have S8 := Lib.hid (own_sl hown hf)
            have I9 := Lib.hid (I8.out.grow hC)
            have C9 := Lib.hid (C8.out.trans (hC.any _))
            have RY9 := Lib.hid ((hC.block w5.heap.size (Array.getElem?_eq_some_iff.1 RY8.out).1 (by simp)).trans RY8.out)
            clear hown hf hC
            have T1 := Lib.hid (S1.out.kept fun g e hg => C9.out.block g hg (fun e2 => by injection e2 with e2; exact N1.out g e e2))
            have T2 := Lib.hid (S2.out.kept fun g e hg => C9.out.block g hg (fun e2 => by injection e2 with e2; exact N2.out g e e2))
            have y0 : w8.cell? ⟨w5.heap.size, 0, none⟩ = some (.bool Q.A.there) := by rw [cell_of_row _ _ _ _ _ _ RY9.out]; rfl
            have y1 : w8.cell? ⟨w5.heap.size, 1, none⟩ = some (.bool Q.B.there) := by rw [cell_of_row _ _ _ _ _ _ RY9.out]; rfl
            have y2 : w8.cell? ⟨w5.heap.size, 2, none⟩ = some (.slice a1 Q.A.data.length c1) := by rw [cell_of_row _ _ _ _ _ _ RY9.out]; rfl
            have y3 : w8.cell? ⟨w5.heap.size, 3, none⟩ = some (.int .u64 Q.A.tick) := by rw [cell_of_row _ _ _ _ _ _ RY9.out]; rfl
            have y4 : w8.cell? ⟨w5.heap.size, 4, none⟩ = some (.slice a2 Q.B.data.length c2) := by rw [cell_of_row _ _ _ _ _ _ RY9.out]; rfl
            have y5 : w8.cell? ⟨w5.heap.size, 5, none⟩ = some (.int .u64 Q.B.tick) := by rw [cell_of_row _ _ _ _ _ _ RY9.out]; rfl
            go_wp2_with fail
            refine (same_any _ _ _ _ _ S8.out T1.out).mono ?_
            rw [decide_eq_true rfl]
            rintro e w9 ⟨rfl, n9, rfl⟩
            have I10 := Lib.hid (I9.out.grow ((Chg.refl _ none).drewN n9))
            go_wp2_with fail
            refine (state_any _ c G Q I10.out.q).mono ?_
            rintro e w10 ⟨q3, q4, rfl, o1, o2, f1, f2, _, hC⟩
            obtain ⟨a3, c3, rfl⟩ := own_slice o1
            obtain ⟨a4, c4, rfl⟩ := own_slice o2
            have S3 := Lib.hid (own_sl o1 f1)
            have S4 := Lib.hid (own_sl o2 f2)
            have C11 := Lib.hid (((Chg.refl w8 none).drewN n9).trans hC)
            have I11 := Lib.hid (I10.out.grow hC)
            have hw8 : w5.heap.size < w8.heap.size := (Array.getElem?_eq_some_iff.1 RY9.out).1
            have hw10 : w5.heap.size < w10.heap.size := Nat.lt_of_lt_of_le hw8 C11.out.size
            have RY11 := Lib.hid ((C11.out.block w5.heap.size hw8 (by simp)).trans RY9.out)
            clear hC o1 o2 f1 f2 y0 y1 y2 y3 y4 y5
            have y0 : w10.cell? ⟨w5.heap.size, 0, none⟩ = some (.bool Q.A.there) := by rw [cell_of_row _ _ _ _ _ _ RY11.out]; rfl
            have y1 : w10.cell? ⟨w5.heap.size, 1, none⟩ = some (.bool Q.B.there) := by rw [cell_of_row _ _ _ _ _ _ RY11.out]; rfl
            have y2 : w10.cell? ⟨w5.heap.size, 2, none⟩ = some (.slice a1 Q.A.data.length c1) := by rw [cell_of_row _ _ _ _ _ _ RY11.out]; rfl
            have y3 : w10.cell? ⟨w5.heap.size, 3, none⟩ = some (.int .u64 Q.A.tick) := by rw [cell_of_row _ _ _ _ _ _ RY11.out]; rfl
            have y4 : w10.cell? ⟨w5.heap.size, 4, none⟩ = some (.slice a2 Q.B.data.length c2) := by rw [cell_of_row _ _ _ _ _ _ RY11.out]; rfl
            have y5 : w10.cell? ⟨w5.heap.size, 5, none⟩ = some (.int .u64 Q.B.tick) := by rw [cell_of_row _ _ _ _ _ _ RY11.out]; rfl
            go_wp2_with fail
            refine (sameState_yes _ _ _ _ _ _ _ _ _ _ _ (Chg.sl T1.out (C11.out.alloc _)) (Chg.sl S3.out ((Chg.refl w10 none).alloc _)) (Chg.sl T2.out (C11.out.alloc _)) (Chg.sl S4.out ((Chg.refl w10 none).alloc _))).mono ?_
            rintro e w12 ⟨rfl, hC⟩
            have C12 := Lib.hid (((Chg.refl w10 none).alloc (.cells #[.bool Q.A.there, .bool Q.B.there, .slice a3 Q.A.data.length c3, .int .u64 Q.A.tick, .slice a4 Q.B.data.length c4, .int .u64 Q.B.tick] 44)).trans hC)
            have RY12 := Lib.hid ((C12.out.block w5.heap.size hw10 (by simp)).trans RY11.out)
            clear hC y0 y1 y2 y3 y4 y5
            have y0 : w12.cell? ⟨w5.heap.size, 0, none⟩ = some (.bool Q.A.there) := by rw [cell_of_row _ _ _ _ _ _ RY12.out]; rfl
            have y1 : w12.cell? ⟨w5.heap.size, 1, none⟩ = some (.bool Q.B.there) := by rw [cell_of_row _ _ _ _ _ _ RY12.out]; rfl
            have y2 : w12.cell? ⟨w5.heap.size, 2, none⟩ = some (.slice a1 Q.A.data.length c1) := by rw [cell_of_row _ _ _ _ _ _ RY12.out]; rfl
            have y3 : w12.cell? ⟨w5.heap.size, 3, none⟩ = some (.int .u64 Q.A.tick) := by rw [cell_of_row _ _ _ _ _ _ RY12.out]; rfl
            have y4 : w12.cell? ⟨w5.heap.size, 4, none⟩ = some (.slice a2 Q.B.data.length c2) := by rw [cell_of_row _ _ _ _ _ _ RY12.out]; rfl
            have y5 : w12.cell? ⟨w5.heap.size, 5, none⟩ = some (.int .u64 Q.B.tick) := by rw [cell_of_row _ _ _ _ _ _ RY12.out]; rfl
            go_wp2
            go_ret
            exact ⟨by first | rfl | simp, I11.out.chg.trans C12.out⟩
        · have hd : decide ((k : Int) < (es.length : Int)) = false := by simp only [decide_eq_false_iff_not]; omega
          obtain ⟨w20, e20⟩ : ∃ x, x = wr := ⟨wr, rfl⟩
          subst e20
          go_wp2_with fail
          refine (state_any _ c G Q I.out.1.q).mono ?_
          rintro e w5 ⟨q1, q2, rfl, o1, o2, f1, f2, _, hC⟩
          obtain ⟨a1, c1, rfl⟩ := own_slice o1
          obtain ⟨a2, c2, rfl⟩ := own_slice o2
          have I5 := Lib.hid (I.out.1.grow (hC.alloc (.cells #[.bool Q.A.there, .bool Q.B.there, .slice a1 Q.A.data.length c1, .int .u64 Q.A.tick, .slice a2 Q.B.data.length c2, .int .u64 Q.B.tick] 44)))
          have S1 := Lib.hid (own_sl o1 f1)
          have S2 := Lib.hid (own_sl o2 f2)
          have hbb := I.out.1.p.blt
          have N1 := Lib.hid (fun g e => show g ≠ b from fun e2 => by have := (own_block o1 g e).1; omega)
          have N2 := Lib.hid (fun g e => show g ≠ b from fun e2 => by have := (own_block o2 g e).1; omega)
          have hw5 := hC.size
          have RY := Lib.hid (heap_alloc_last w5 (.cells #[.bool Q.A.there, .bool Q.B.there, .slice a1 Q.A.data.length c1, .int .u64 Q.A.tick, .slice a2 Q.B.data.length c2, .int .u64 Q.B.tick] 44))
          have S9' := sl_lit (k := .u8) (m := 1) (w5.alloc (.cells #[.bool Q.A.there, .bool Q.B.there, .slice a1 Q.A.data.length c1, .int .u64 Q.A.tick, .slice a2 Q.B.data.length c2, .int .u64 Q.B.tick] 44)) [9, 9, 9, 9] 5 (by decide)
          rw [World.size_alloc] at S9'
          have S9 := Lib.hid S9'
          have I6 := Lib.hid (I5.out.grow ((Chg.refl _ none).alloc (.cells ([9, 9, 9, 9].map (Value.int .u8)).toArray 5)))
          have C6 := Lib.hid ((((Chg.refl w5 none).alloc (.cells #[.bool Q.A.there, .bool Q.B.there, .slice a1 Q.A.data.length c1, .int .u64 Q.A.tick, .slice a2 Q.B.data.length c2, .int .u64 Q.B.tick] 44)).alloc (.cells ([9, 9, 9, 9].map (Value.int .u8)).toArray 5)))
          have RY6 := Lib.hid (Eq.trans (heap_alloc_old (w5.alloc (.cells #[.bool Q.A.there, .bool Q.B.there, .slice a1 Q.A.data.length c1, .int .u64 Q.A.tick, .slice a2 Q.B.data.length c2, .int .u64 Q.B.tick] 44)) (.cells ([9, 9, 9, 9].map (Value.int .u8)).toArray 5) (by simp)) RY.out)
          clear hC o1 o2 f1 f2 S9'
          have hz := zero44
          go_wp2_with fail
          refine (write_any _ b F P I6.out.p 1 5 _ [9, 9, 9, 9] S9.out).mono ?_
          rintro e w6 ⟨rfl, hC, F', hP, hF⟩
          have I7 := Lib.hid (I6.out.onP hC hP hF (wput_decl _ _ _ _))
          have C7 := Lib.hid ((C6.out.any (some b)).trans hC)
          have RY7 := Lib.hid ((hC.block w5.heap.size (by simp; omega) (fun e => by cases e; omega)).trans RY6.out)
          clear hC hP hF
          go_wp2_with fail
          refine (turn_any w6 b F' _ I7.out.p 1).mono ?_
          rintro e w7 ⟨rfl, hC, hP⟩
          have I8 := Lib.hid (I7.out.onP hC hP (fun x hx => .inl hx) (tput_decl _ _))
          have C8 := Lib.hid (C7.out.trans hC)
          have RY8 := Lib.hid ((hC.block w5.heap.size (Array.getElem?_eq_some_iff.1 RY7.out).1 (fun e => by cases e; omega)).trans RY7.out)
          clear hC hP
          go_wp2_with fail
          refine (read_ok w7 c G Q I8.out.q 3 I8.out.dq.2.2).mono ?_
          rintro e w8 ⟨v8, rfl, hown, hf, hC⟩
          have S8 := Lib.hid (own_sl hown hf)
          have I9 := Lib.hid (I8.out.grow hC)
          have C9 := Lib.hid (C8.out.trans (hC.any _))
          have RY9 := Lib.hid ((hC.block w5.heap.size (Array.getElem?_eq_some_iff.1 RY8.out).1 (by simp)).trans RY8.out)
          clear hown hf hC
          have T1 := Lib.hid (S1.out.kept fun g e hg => C9.out.block g hg (fun e2 => by injection e2 with e2; exact N1.out g e e2))
          have T2 := Lib.hid (S2.out.kept fun g e hg => C9.out.block g hg (fun e2 => by injection e2 with e2; exact N2.out g e e2))
          have y0 : w8.cell? ⟨w5.heap.size, 0, none⟩ = some (.bool Q.A.there) := by rw [cell_of_row _ _ _ _ _ _ RY9.out]; rfl
          have y1 : w8.cell? ⟨w5.heap.size, 1, none⟩ = some (.bool Q.B.there) := by rw [cell_of_row _ _ _ _ _ _ RY9.out]; rfl
          have y2 : w8.cell? ⟨w5.heap.size, 2, none⟩ = some (.slice a1 Q.A.data.length c1) := by rw [cell_of_row _ _ _ _ _ _ RY9.out]; rfl
          have y3 : w8.cell? ⟨w5.heap.size, 3, none⟩ = some (.int .u64 Q.A.tick) := by rw [cell_of_row _ _ _ _ _ _ RY9.out]; rfl
          have y4 : w8.cell? ⟨w5.heap.size, 4, none⟩ = some (.slice a2 Q.B.data.length c2) := by rw [cell_of_row _ _ _ _ _ _ RY9.out]; rfl
          have y5 : w8.cell? ⟨w5.heap.size, 5, none⟩ = some (.int .u64 Q.B.tick) := by rw [cell_of_row _ _ _ _ _ _ RY9.out]; rfl
          go_wp2_with fail
          refine (same_any _ _ _ _ _ S8.out T1.out).mono ?_
          rw [decide_eq_true rfl]
          rintro e w9 ⟨rfl, n9, rfl⟩
          have I10 := Lib.hid (I9.out.grow ((Chg.refl _ none).drewN n9))
          go_wp2_with fail
          refine (state_any _ c G Q I10.out.q).mono ?_
          rintro e w10 ⟨q3, q4, rfl, o1, o2, f1, f2, _, hC⟩
          obtain ⟨a3, c3, rfl⟩ := own_slice o1
          obtain ⟨a4, c4, rfl⟩ := own_slice o2
          have S3 := Lib.hid (own_sl o1 f1)
          have S4 := Lib.hid (own_sl o2 f2)
          have C11 := Lib.hid (((Chg.refl w8 none).drewN n9).trans hC)
          have I11 := Lib.hid (I10.out.grow hC)
          have hw8 : w5.heap.size < w8.heap.size := (Array.getElem?_eq_some_iff.1 RY9.out).1
          have hw10 : w5.heap.size < w10.heap.size := Nat.lt_of_lt_of_le hw8 C11.out.size
          have RY11 := Lib.hid ((C11.out.block w5.heap.size hw8 (by simp)).trans RY9.out)
          clear hC o1 o2 f1 f2 y0 y1 y2 y3 y4 y5
          have y0 : w10.cell? ⟨w5.heap.size, 0, none⟩ = some (.bool Q.A.there) := by rw [cell_of_row _ _ _ _ _ _ RY11.out]; rfl
          have y1 : w10.cell? ⟨w5.heap.size, 1, none⟩ = some (.bool Q.B.there) := by rw [cell_of_row _ _ _ _ _ _ RY11.out]; rfl
          have y2 : w10.cell? ⟨w5.heap.size, 2, none⟩ = some (.slice a1 Q.A.data.length c1) := by rw [cell_of_row _ _ _ _ _ _ RY11.out]; rfl
          have y3 : w10.cell? ⟨w5.heap.size, 3, none⟩ = some (.int .u64 Q.A.tick) := by rw [cell_of_row _ _ _ _ _ _ RY11.out]; rfl
          have y4 : w10.cell? ⟨w5.heap.size, 4, none⟩ = some (.slice a2 Q.B.data.length c2) := by rw [cell_of_row _ _ _ _ _ _ RY11.out]; rfl
          have y5 : w10.cell? ⟨w5.heap.size, 5, none⟩ = some (.int .u64 Q.B.tick) := by rw [cell_of_row _ _ _ _ _ _ RY11.out]; rfl
          go_wp2_with fail
          refine (sameState_yes _ _ _ _ _ _ _ _ _ _ _ (Chg.sl T1.out (C11.out.alloc _)) (Chg.sl S3.out ((Chg.refl w10 none).alloc _)) (Chg.sl T2.out (C11.out.alloc _)) (Chg.sl S4.out ((Chg.refl w10 none).alloc _))).mono ?_
          rintro e w12 ⟨rfl, hC⟩
          have C12 := Lib.hid (((Chg.refl w10 none).alloc (.cells #[.bool Q.A.there, .bool Q.B.there, .slice a3 Q.A.data.length c3, .int .u64 Q.A.tick, .slice a4 Q.B.data.length c4, .int .u64 Q.B.tick] 44)).trans hC)
          have RY12 := Lib.hid ((C12.out.block w5.heap.size hw10 (by simp)).trans RY11.out)
          clear hC y0 y1 y2 y3 y4 y5
          have y0 : w12.cell? ⟨w5.heap.size, 0, none⟩ = some (.bool Q.A.there) := by rw [cell_of_row _ _ _ _ _ _ RY12.out]; rfl
          have y1 : w12.cell? ⟨w5.heap.size, 1, none⟩ = some (.bool Q.B.there) := by rw [cell_of_row _ _ _ _ _ _ RY12.out]; rfl
          have y2 : w12.cell? ⟨w5.heap.size, 2, none⟩ = some (.slice a1 Q.A.data.length c1) := by rw [cell_of_row _ _ _ _ _ _ RY12.out]; rfl
          have y3 : w12.cell? ⟨w5.heap.size, 3, none⟩ = some (.int .u64 Q.A.tick) := by rw [cell_of_row _ _ _ _ _ _ RY12.out]; rfl
          have y4 : w12.cell? ⟨w5.heap.size, 4, none⟩ = some (.slice a2 Q.B.data.length c2) := by rw [cell_of_row _ _ _ _ _ _ RY12.out]; rfl
          have y5 : w12.cell? ⟨w5.heap.size, 5, none⟩ = some (.int .u64 Q.B.tick) := by rw [cell_of_row _ _ _ _ _ _ RY12.out]; rfl
          go_wp2
          go_ret
          exact ⟨by first | rfl | simp, I11.out.chg.trans C12.out⟩
end Go.Proofs.Ytfoofipkbijajaa.Sa
