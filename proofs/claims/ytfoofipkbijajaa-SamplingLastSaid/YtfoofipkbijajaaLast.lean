/- SamplingLast: the walk. -/
import Derived.Test.YtfoofipkbijajaaMade
namespace Go.Proofs.Ytfoofipkbijajaa.Sa
open Go.RowKit Go.Proofs.Ytfoofipkbijajaa.Kit
set_option linter.unusedSimpArgs false
set_option linter.unusedVariables false

structure LastInv (w wr : World) (b : Nat) (F : Nat → Prop) (P : PA) (rs : List Int) (v7 v8 : Value) (nd : List Int) (lt : Nat) : Prop where
  port : PortIs wr b F P
  decl : P.W = 1 ∧ P.S = 16 ∧ P.rs = rs
  chg : Chg w wr none
  sv : Rb wr v7 P.A.data
  nv : Rb wr v8 nd
  ne7 : ∀ g, v7.ownBlock = some g → g ≠ b
  ne8 : ∀ g, v8.ownBlock = some g → g ≠ b
  link : P.B.there = true → nd = P.B.data ∧ lt = P.B.tick
theorem LastInv.grow {w wr w2 : World} {b : Nat} {F : Nat → Prop} {P : PA} {rs : List Int} {v7 v8 : Value} {nd : List Int} {lt : Nat} (h : LastInv w wr b F P rs v7 v8 nd lt) (hc : Chg wr w2 none) : LastInv w w2 b F P rs v7 v8 nd lt :=
  ⟨h.port.kept hc (by simp) (fun _ _ => by simp), h.decl, h.chg.trans hc, Chg.sl h.sv hc, Chg.sl h.nv hc, h.ne7, h.ne8, h.link⟩
theorem LastInv.put {w wr w2 : World} {b : Nat} {F F' : Nat → Prop} {P P' : PA} {rs : List Int} {v7 v8 : Value} {nd : List Int} {lt : Nat} (h : LastInv w wr b F P rs v7 v8 nd lt) (hb : w.heap.size ≤ b) (hc : Chg wr w2 (some b)) (hp : PortIs w2 b F' P') (hd : P'.W = 1 ∧ P'.S = 16 ∧ P'.rs = rs)
    {u7 u8 : Value} {md : List Int} {mt : Nat} (s7 : Rb wr u7 P'.A.data) (s8 : Rb wr u8 md) (n7 : ∀ g, u7.ownBlock = some g → g ≠ b) (n8 : ∀ g, u8.ownBlock = some g → g ≠ b) (hl : P'.B.there = true → md = P'.B.data ∧ mt = P'.B.tick) : LastInv w w2 b F' P' rs u7 u8 md mt :=
  ⟨hp, hd, h.chg.trans_new hc hb, s7.kept fun g e hg => hc.block g hg (fun e2 => by cases e2; exact n7 _ e rfl), s8.kept fun g e hg => hc.block g hg (fun e2 => by cases e2; exact n8 _ e rfl), n7, n8, hl⟩
theorem chk_ok {n : Nat} (h : chk 16 n = 0) : n ≤ 16 ∧ n % 4 = 0 := by
  unfold chk at h
  split at h
  · cases h
  · split at h
    · exact ⟨by omega, by assumption⟩
    · cases h
theorem chk_bad {n : Nat} (h : chk 16 n ≠ 0) : ¬ (n ≤ 16 ∧ n % 4 = 0) := by
  rintro ⟨h1, h2⟩
  exact h (by simp [chk, h2]; omega)
set_option maxRecDepth 4000 in
set_option maxHeartbeats 8000000 in
theorem last_walk (w : World) (n : Int) (hn1 : -9223372036854775808 ≤ n) (hn2 : n ≤ 9223372036854775807) (v2 : Value) (ds : List OpD) (h2 : Ro w v2 ds) :
    Calls Try.prog 4 #[.int .i64 n, v2] w fun e w' => e = .returned (.bool true) ∧ Chg w w' none := by
  have H2 := Lib.hid (fun w' (h : Chg w w' none) => h2.below ((Below.refl w.heap.size w).grown h (Nat.le_refl _) (fun k e => by cases e)))
  obtain ⟨⟨A, cap, rfl, _⟩, hfew, hok⟩ := h2
  clear hok
  go_enter Try.func4, Try.ntmps4
  go_wp2_with fail
  refine (known_any _).mono ?_
  rintro e w1 ⟨rfl, hC⟩
  have C1 := Lib.hid hC; clear hC
  go_wp2_with fail
  refine (made_any w1 n).mono ?_
  rintro e w2 ⟨b, F, rs, rfl, hP, h3, hb, hF, hC⟩
  have hbw : w.heap.size ≤ b := by have := C1.out.size; omega
  have H3 := Lib.hid h3
  have I2 := Lib.hid (show LastInv w w2 b F ⟨1, 16, rs, Msg.none, Msg.none⟩ rs (.slice none 0 0) (.slice none 0 0) [] 0 from
    ⟨hP, ⟨rfl, rfl, rfl⟩, C1.out.trans hC, Sl.nil _, Sl.nil _, fun g e => (by cases e), fun g e => (by cases e), fun h => (by cases h)⟩)
  clear hP h3 hb hF hC C1
  go_wp2_with fail
  go_loopw [7, 8, 9, 10, 11, 12, 13, 14, 15, 16, 17, 18, 19, 20, 21, 22, 23] (fun v7 v8 th wa wh la i _ _ _ _ _ _ _ _ _ _ wr => ∃ (k : Nat) (F : Nat → Prop) (P : PA) (nd : List Int) (lt : Nat), k ≤ ds.length ∧ i = .int .i64 k ∧ th = .bool P.A.there ∧ wa = .bool P.B.there ∧ wh = .int .u64 P.A.tick ∧ la = .int .u64 lt ∧ Hid (LastInv w wr b F P rs v7 v8 nd lt)) (fun _ _ _ _ _ _ i _ _ _ _ _ _ _ _ _ _ _ => ds.length - (intOf i).toNat)
  case atStart => exact ⟨0, F, _, _, _, by omega, rfl, rfl, rfl, rfl, rfl, I2⟩
  case round =>
    obtain ⟨k, F, P, nd, lt, hk, rfl, rfl, rfl, rfl, rfl, I⟩ := hrel
    clear I2
    by_cases hlt : k < ds.length
    · by_cases h200 : (k : Int) < 200
      · obtain ⟨ab, aoff, hA, hcell⟩ := (H2.out _ I.out.chg).at_ k hlt
        subst hA
        have HD := Lib.hid ((H2.out _ I.out.chg).okay k)
        have HX := Lib.hid hcell
        clear hcell
        generalize dth ds k = d at *
        have hz := zero46
        obtain ⟨b0, b1, b2, b3⟩ := op_box wr d 46
        have HB := Lib.hid (heap_alloc_last wr (.cells (opArr d) 46))
        have hs4 : wr.heap.size < (wr.alloc (.cells (opArr d) 46)).heap.size := by simp
        have I4 := Lib.hid (I.out.grow ((Chg.refl wr none).alloc (.cells (opArr d) 46)))
        obtain ⟨dA, dc, hdv⟩ : ∃ dA dc, d.dv = .slice dA d.data.length dc := by obtain ⟨⟨A', c', h, _⟩, _⟩ := HD.out.data; exact ⟨A', c', h⟩
        have D4 := Lib.hid (show Rb (wr.alloc (.cells (opArr d) 46)) (.slice dA d.data.length dc) d.data by rw [← hdv]; exact Chg.sl HD.out.data ((Chg.refl wr none).alloc (.cells (opArr d) 46)))
        rw [hdv] at b3
        have HDV := Lib.hid hdv
        have hol : b < wr.heap.size := I.out.port.blt
        clear hdv
        by_cases k1 : d.kind = 1
        · have k1b : (d.kind == 1) = true := by simpa using k1
          clear k1
          go_wp2_with ((with_reducible show wpList _ _ _ (_ :: _) _ _); first
            | refine wpList_load_mid (op := ⟨some 46, _, _, _, _, _⟩) rfl 46 (.tmp 45) rfl ab (aoff + k * 10) rfl (opCells d) _ HX.out Try.underlying46 rfl info46 ?_
            | refine wpList_store_new (o := ⟨none, .store 46 (.tmp 14) (.tmp 46), _, _, _, _⟩) rfl 46 (.tmp 14) (.tmp 46) rfl oz (opArr d) 46 rfl rfl info46 rfl (opArr_one HD.out) ?_
            | (at_builtin; refine wpList_append_sl (o := ⟨some 54, _, _, _, _, none⟩) rfl _ _ 33 rfl .u8 1 (wr.alloc (.cells (opArr d) 46)).heap.size 5 Try.underlying33 info5 (.slice none 0 0) [] rfl (World.ownsRow_nil _ _ _ _) _ d.data rfl D4.out (by have := HD.out.data.few; simp only [maxLen, List.length_nil]; omega) (by have := HD.out.data.few; simp only [List.length_nil]; omega) (Nat.le_refl _) ?_; intro v15 w5 hown hg; simp only [List.nil_append] at hown
               have HO := Lib.hid hown
               have I5 := Lib.hid (I4.out.grow (show Chg _ w5 none from hg))
               have HB5 := Lib.hid ((hg.block _ hs4 (by simp [Value.ownBlock])).trans HB.out)
               have hg5 := Lib.hid hg
               obtain ⟨e0, e1, e2, e3⟩ := op_cells HB5.out
               rw [HDV.out] at e3
               clear hown hg))
          have hob : wr.heap.size < w5.heap.size := Nat.lt_of_lt_of_le hs4 hg5.out.size
          have S5 := Lib.hid (own_sl HO.out HD.out.data.few)
          have OB5 := Lib.hid (own_block HO.out)
          by_cases hc : d.cell = 1
          · have hcb : (d.cell == 1) = true := by simpa using hc
            by_cases hch : chk 16 d.data.length = 0
            · obtain ⟨hl1, hl2⟩ := chk_ok hch
              have q1 : decide ((d.data.length : Int) ≤ 16) = true := by simp only [decide_eq_true_eq]; omega
              have q2 : (((d.data.length : Int)) % 4 == 0) = true := beq_iff_eq.2 (by omega)
              refine (write_ok w5 b F P I5.out.port d.cell d.tick v15 d.data S5.out (hc.trans I5.out.decl.1.symm) (by rw [I5.out.decl.2.1]; exact hch)).mono ?_
              rintro e w6 ⟨rfl, hC, F', hP, hF⟩
              have I8 := Lib.hid (I5.out.put (mt := d.tick) hbw hC hP I5.out.decl I5.out.sv S5.out I5.out.ne7 (fun g e => by have := (OB5.out g e).1; omega) (fun _ => ⟨rfl, rfl⟩))
              obtain ⟨t0, t1, t2, t3⟩ := op_cells ((hC.block wr.heap.size (by omega) (fun e => by cases e; omega)).trans HB5.out)
              rw [HDV.out] at t3
              clear hC hP hF hc hch hl1 hl2 e0 e1 e2 e3 b0 b1 b2 b3
              go_wp2_with fail
              generalize w6 = w8 at *
              go_loopw [18, 19, 20, 21, 22, 23] (fun j _ _ _ _ _ wr => ∃ q : Nat, q ≤ 2 ∧ j = .int .i64 q ∧ Chg w8 wr none) (fun j _ _ _ _ _ _ => 2 - (intOf j).toNat)
              case atStart => exact ⟨0, by omega, rfl, Chg.refl _ _⟩
              case round =>
                obtain ⟨q, hq, rfl, hC⟩ := hrel
                have I9 := Lib.hid (I8.out.grow hC)
                have C9 := Lib.hid hC
                clear hC
                by_cases hq2 : q < 2
                · go_wp2_with fail
                  refine (read_ok _ b _ _ I9.out.port 3 (by rw [I9.out.decl.2.2]; exact H3.out)).mono ?_
                  rintro e w10 ⟨v10, rfl, hown, hf, hC⟩
                  have S10 := Lib.hid (own_sl hown hf)
                  have I10 := Lib.hid (I9.out.grow hC)
                  have C10 := Lib.hid (C9.out.trans hC)
                  clear hown hf hC
                  go_wp2_with fail
                  refine (same_any _ _ _ _ _ S10.out I10.out.sv).mono ?_
                  rw [decide_eq_true rfl]
                  rintro e w11 ⟨rfl, hd⟩
                  have C11 := Lib.hid (C10.out.drw hd)
                  clear hd
                  go_wp2
                  go_roundw
                  case rel => exact ⟨q + 1, by omega, by go_num, C11.out⟩
                  case measure => simp [intOf]; omega
                · have hd : decide ((q : Int) < 2) = false := by simp only [decide_eq_false_iff_not]; omega
                  go_wp2
                  go_roundw
                  case rel => exact ⟨k + 1, F', { P with B := ⟨true, d.data, d.tick⟩ }, d.data, d.tick, by omega, by go_num, rfl, rfl, rfl, rfl, I9⟩
                  case measure => simp [intOf]; omega
            · have hcn := chk_bad hch
              have HCN := Lib.hid hch
              have q0 : (chk P.S d.data.length == 0) = false := by rw [I5.out.decl.2.1]; simpa using hch
              refine (write_bad w5 b F P I5.out.port d.cell d.tick v15 d.data S5.out (hc.trans I5.out.decl.1.symm) (by rw [I5.out.decl.2.1]; exact hch)).mono ?_
              rintro e w6 ⟨rfl, rfl⟩
              have I8 := I5
              by_cases hl1 : d.data.length ≤ 16
              · have q1 : decide ((d.data.length : Int) ≤ 16) = true := by simp only [decide_eq_true_eq]; omega
                have q2 : (((d.data.length : Int)) % 4 == 0) = false := beq_eq_false_iff_ne.2 (by omega)
                clear hc hch hl1 hcn b0 b1 b2 b3
                go_wp2_with fail
                generalize w5 = w8 at *
                go_loopw [18, 19, 20, 21, 22, 23] (fun j _ _ _ _ _ wr => ∃ q : Nat, q ≤ 2 ∧ j = .int .i64 q ∧ Chg w8 wr none) (fun j _ _ _ _ _ _ => 2 - (intOf j).toNat)
                case atStart => exact ⟨0, by omega, rfl, Chg.refl _ _⟩
                case round =>
                  obtain ⟨q, hq, rfl, hC⟩ := hrel
                  have I9 := Lib.hid (I8.out.grow hC)
                  have C9 := Lib.hid hC
                  clear hC
                  by_cases hq2 : q < 2
                  · go_wp2_with fail
                    refine (read_ok _ b _ _ I9.out.port 3 (by rw [I9.out.decl.2.2]; exact H3.out)).mono ?_
                    rintro e w10 ⟨v10, rfl, hown, hf, hC⟩
                    have S10 := Lib.hid (own_sl hown hf)
                    have I10 := Lib.hid (I9.out.grow hC)
                    have C10 := Lib.hid (C9.out.trans hC)
                    clear hown hf hC
                    go_wp2_with fail
                    refine (same_any _ _ _ _ _ S10.out I10.out.sv).mono ?_
                    rw [decide_eq_true rfl]
                    rintro e w11 ⟨rfl, hd⟩
                    have C11 := Lib.hid (C10.out.drw hd)
                    clear hd
                    go_wp2
                    go_roundw
                    case rel => exact ⟨q + 1, by omega, by go_num, C11.out⟩
                    case measure => simp [intOf]; omega
                  · have hd : decide ((q : Int) < 2) = false := by simp only [decide_eq_false_iff_not]; omega
                    go_wp2
                    go_roundw
                    case rel => exact ⟨k + 1, F, P, nd, lt, by omega, by go_num, rfl, rfl, rfl, rfl, I9⟩
                    case measure => simp [intOf]; omega
              · have q1 : decide ((d.data.length : Int) ≤ 16) = false := by simp only [decide_eq_false_iff_not]; omega
                clear hc hch hl1 hcn b0 b1 b2 b3
                go_wp2_with fail
                generalize w5 = w8 at *
                go_loopw [18, 19, 20, 21, 22, 23] (fun j _ _ _ _ _ wr => ∃ q : Nat, q ≤ 2 ∧ j = .int .i64 q ∧ Chg w8 wr none) (fun j _ _ _ _ _ _ => 2 - (intOf j).toNat)
                case atStart => exact ⟨0, by omega, rfl, Chg.refl _ _⟩
                case round =>
                  obtain ⟨q, hq, rfl, hC⟩ := hrel
                  have I9 := Lib.hid (I8.out.grow hC)
                  have C9 := Lib.hid hC
                  clear hC
                  by_cases hq2 : q < 2
                  · go_wp2_with fail
                    refine (read_ok _ b _ _ I9.out.port 3 (by rw [I9.out.decl.2.2]; exact H3.out)).mono ?_
                    rintro e w10 ⟨v10, rfl, hown, hf, hC⟩
                    have S10 := Lib.hid (own_sl hown hf)
                    have I10 := Lib.hid (I9.out.grow hC)
                    have C10 := Lib.hid (C9.out.trans hC)
                    clear hown hf hC
                    go_wp2_with fail
                    refine (same_any _ _ _ _ _ S10.out I10.out.sv).mono ?_
                    rw [decide_eq_true rfl]
                    rintro e w11 ⟨rfl, hd⟩
                    have C11 := Lib.hid (C10.out.drw hd)
                    clear hd
                    go_wp2
                    go_roundw
                    case rel => exact ⟨q + 1, by omega, by go_num, C11.out⟩
                    case measure => simp [intOf]; omega
                  · have hd : decide ((q : Int) < 2) = false := by simp only [decide_eq_false_iff_not]; omega
                    go_wp2
                    go_roundw
                    case rel => exact ⟨k + 1, F, P, nd, lt, by omega, by go_num, rfl, rfl, rfl, rfl, I9⟩
                    case measure => simp [intOf]; omega
          · have hcb : (d.cell == 1) = false := by simpa using hc
            refine (write_who w5 b F P I5.out.port d.cell d.tick v15 (fun e => hc (e.trans I5.out.decl.1))).mono ?_
            rintro e w6 ⟨rfl, rfl⟩
            have I8 := I5
            clear hc b0 b1 b2 b3
            go_wp2_with fail
            generalize w5 = w8 at *
            go_loopw [18, 19, 20, 21, 22, 23] (fun j _ _ _ _ _ wr => ∃ q : Nat, q ≤ 2 ∧ j = .int .i64 q ∧ Chg w8 wr none) (fun j _ _ _ _ _ _ => 2 - (intOf j).toNat)
            case atStart => exact ⟨0, by omega, rfl, Chg.refl _ _⟩
            case round =>
              obtain ⟨q, hq, rfl, hC⟩ := hrel
              have I9 := Lib.hid (I8.out.grow hC)
              have C9 := Lib.hid hC
              clear hC
              by_cases hq2 : q < 2
              · go_wp2_with fail
                refine (read_ok _ b _ _ I9.out.port 3 (by rw [I9.out.decl.2.2]; exact H3.out)).mono ?_
                rintro e w10 ⟨v10, rfl, hown, hf, hC⟩
                have S10 := Lib.hid (own_sl hown hf)
                have I10 := Lib.hid (I9.out.grow hC)
                have C10 := Lib.hid (C9.out.trans hC)
                clear hown hf hC
                go_wp2_with fail
                refine (same_any _ _ _ _ _ S10.out I10.out.sv).mono ?_
                rw [decide_eq_true rfl]
                rintro e w11 ⟨rfl, hd⟩
                have C11 := Lib.hid (C10.out.drw hd)
                clear hd
                go_wp2
                go_roundw
                case rel => exact ⟨q + 1, by omega, by go_num, C11.out⟩
                case measure => simp [intOf]; omega
              · have hd : decide ((q : Int) < 2) = false := by simp only [decide_eq_false_iff_not]; omega
                go_wp2
                go_roundw
                case rel => exact ⟨k + 1, F, P, nd, lt, by omega, by go_num, rfl, rfl, rfl, rfl, I9⟩
                case measure => simp [intOf]; omega
        · have k1b : (d.kind == 1) = false := by simpa using k1
          clear k1
          by_cases k3 : d.kind = 3
          · have k3b : (d.kind == 3) = true := by simpa using k3
            clear k3
            obtain ⟨⟨A8, c8, hv8, _, _⟩, _⟩ := I4.out.nv
            subst hv8
            go_wp2_with ((with_reducible show wpList _ _ _ (_ :: _) _ _); first
              | refine wpList_load_mid (op := ⟨some 46, _, _, _, _, _⟩) rfl 46 (.tmp 45) rfl ab (aoff + k * 10) rfl (opCells d) _ HX.out Try.underlying46 rfl info46 ?_
              | refine wpList_store_new (o := ⟨none, .store 46 (.tmp 14) (.tmp 46), _, _, _, _⟩) rfl 46 (.tmp 14) (.tmp 46) rfl oz (opArr d) 46 rfl rfl info46 rfl (opArr_one HD.out) ?_)
            by_cases hc : d.cell = 1
            · have hcb : (d.cell == 1) = true := by simpa using hc
              cases hB : P.B.there with
              | true =>
                have hlk := I4.out.link hB
                have q1 : ((P.B.data.length : Int) != (nd.length : Int)) = false := by rw [hlk.1]; simp
                have HLK := Lib.hid hlk
                refine (turn_yes _ b F P I4.out.port d.cell (hc.trans I4.out.decl.1.symm) hB).mono ?_
                rintro e w6 ⟨rfl, hC, hP⟩
                have I8 := Lib.hid (I4.out.put (md := nd) (mt := lt) hbw hC hP I4.out.decl (by rw [← hlk.1]; exact I4.out.nv) I4.out.nv I4.out.ne8 I4.out.ne8 (fun h => by cases h))
                obtain ⟨t0, t1, t2, t3⟩ := op_cells ((hC.block wr.heap.size (by omega) (fun e => by cases e; omega)).trans HB.out)
                have HBT := Lib.hid hB
                clear hC hP hc hlk b0 b1 b2 b3 hB
                go_wp2_with fail
                generalize w6 = w8 at *
                have ht1 : ((P.B.tick : Int) != (lt : Int)) = false := by rw [HLK.out.2]; simp
                have hB1 := HBT.out
                go_loopw [18, 19, 20, 21, 22, 23] (fun j _ _ _ _ _ wr => ∃ q : Nat, q ≤ 2 ∧ j = .int .i64 q ∧ Chg w8 wr none) (fun j _ _ _ _ _ _ => 2 - (intOf j).toNat)
                case atStart => exact ⟨0, by omega, rfl, Chg.refl _ _⟩
                case round =>
                  obtain ⟨q, hq, rfl, hC⟩ := hrel
                  have I9 := Lib.hid (I8.out.grow hC)
                  have C9 := Lib.hid hC
                  clear hC
                  by_cases hq2 : q < 2
                  · go_wp2_with fail
                    refine (read_ok _ b _ _ I9.out.port 3 (by rw [I9.out.decl.2.2]; exact H3.out)).mono ?_
                    rintro e w10 ⟨v10, rfl, hown, hf, hC⟩
                    have S10 := Lib.hid (own_sl hown hf)
                    have I10 := Lib.hid (I9.out.grow hC)
                    have C10 := Lib.hid (C9.out.trans hC)
                    clear hown hf hC
                    go_wp2_with fail
                    refine (same_any _ _ _ _ _ S10.out I10.out.sv).mono ?_
                    rw [decide_eq_true rfl]
                    rintro e w11 ⟨rfl, hd⟩
                    have C11 := Lib.hid (C10.out.drw hd)
                    clear hd
                    go_wp2
                    go_roundw
                    case rel => exact ⟨q + 1, by omega, by go_num, C11.out⟩
                    case measure => simp [intOf]; omega
                  · have hd : decide ((q : Int) < 2) = false := by simp only [decide_eq_false_iff_not]; omega
                    go_wp2
                    go_roundw
                    case rel => exact ⟨k + 1, F, { P with A := P.B, B := Msg.none }, nd, lt, by omega, by go_num, (by show _ = Value.bool P.B.there; rw [HBT.out]), rfl, (by show _ = Value.int .u64 P.B.tick; rw [HLK.out.2]), rfl, I9⟩
                    case measure => simp [intOf]; omega
              | false =>
                refine (turn_none _ b F P I4.out.port d.cell (hc.trans I4.out.decl.1.symm) hB).mono ?_
                rintro e w6 ⟨rfl, hdr⟩
                obtain ⟨m, rfl⟩ := hdr
                have I8 := Lib.hid (I4.out.grow ((Chg.refl _ none).drewN m))
                have HBT := Lib.hid hB
                clear hc hB
                go_wp2_with fail
                generalize (wr.alloc (.cells (opArr d) 46)).drewN m = w8 at *
                go_loopw [18, 19, 20, 21, 22, 23] (fun j _ _ _ _ _ wr => ∃ q : Nat, q ≤ 2 ∧ j = .int .i64 q ∧ Chg w8 wr none) (fun j _ _ _ _ _ _ => 2 - (intOf j).toNat)
                case atStart => exact ⟨0, by omega, rfl, Chg.refl _ _⟩
                case round =>
                  obtain ⟨q, hq, rfl, hC⟩ := hrel
                  have I9 := Lib.hid (I8.out.grow hC)
                  have C9 := Lib.hid hC
                  clear hC
                  by_cases hq2 : q < 2
                  · go_wp2_with fail
                    refine (read_ok _ b _ _ I9.out.port 3 (by rw [I9.out.decl.2.2]; exact H3.out)).mono ?_
                    rintro e w10 ⟨v10, rfl, hown, hf, hC⟩
                    have S10 := Lib.hid (own_sl hown hf)
                    have I10 := Lib.hid (I9.out.grow hC)
                    have C10 := Lib.hid (C9.out.trans hC)
                    clear hown hf hC
                    go_wp2_with fail
                    refine (same_any _ _ _ _ _ S10.out I10.out.sv).mono ?_
                    rw [decide_eq_true rfl]
                    rintro e w11 ⟨rfl, hd⟩
                    have C11 := Lib.hid (C10.out.drw hd)
                    clear hd
                    go_wp2
                    go_roundw
                    case rel => exact ⟨q + 1, by omega, by go_num, C11.out⟩
                    case measure => simp [intOf]; omega
                  · have hd : decide ((q : Int) < 2) = false := by simp only [decide_eq_false_iff_not]; omega
                    go_wp2
                    go_roundw
                    case rel => exact ⟨k + 1, F, P, nd, lt, by omega, by go_num, rfl, (by rw [HBT.out]), rfl, rfl, I9⟩
                    case measure => simp [intOf]; omega
            · have hcb : (d.cell == 1) = false := by simpa using hc
              refine (turn_who _ b F P I4.out.port d.cell (fun e => hc (e.trans I4.out.decl.1))).mono ?_
              rintro e w6 ⟨rfl, hdr⟩
              obtain ⟨m, rfl⟩ := hdr
              have I8 := Lib.hid (I4.out.grow ((Chg.refl _ none).drewN m))
              clear hc
              go_wp2_with fail
              generalize (wr.alloc (.cells (opArr d) 46)).drewN m = w8 at *
              go_loopw [18, 19, 20, 21, 22, 23] (fun j _ _ _ _ _ wr => ∃ q : Nat, q ≤ 2 ∧ j = .int .i64 q ∧ Chg w8 wr none) (fun j _ _ _ _ _ _ => 2 - (intOf j).toNat)
              case atStart => exact ⟨0, by omega, rfl, Chg.refl _ _⟩
              case round =>
                obtain ⟨q, hq, rfl, hC⟩ := hrel
                have I9 := Lib.hid (I8.out.grow hC)
                have C9 := Lib.hid hC
                clear hC
                by_cases hq2 : q < 2
                · go_wp2_with fail
                  refine (read_ok _ b _ _ I9.out.port 3 (by rw [I9.out.decl.2.2]; exact H3.out)).mono ?_
                  rintro e w10 ⟨v10, rfl, hown, hf, hC⟩
                  have S10 := Lib.hid (own_sl hown hf)
                  have I10 := Lib.hid (I9.out.grow hC)
                  have C10 := Lib.hid (C9.out.trans hC)
                  clear hown hf hC
                  go_wp2_with fail
                  refine (same_any _ _ _ _ _ S10.out I10.out.sv).mono ?_
                  rw [decide_eq_true rfl]
                  rintro e w11 ⟨rfl, hd⟩
                  have C11 := Lib.hid (C10.out.drw hd)
                  clear hd
                  go_wp2
                  go_roundw
                  case rel => exact ⟨q + 1, by omega, by go_num, C11.out⟩
                  case measure => simp [intOf]; omega
                · have hd : decide ((q : Int) < 2) = false := by simp only [decide_eq_false_iff_not]; omega
                  go_wp2
                  go_roundw
                  case rel => exact ⟨k + 1, F, P, nd, lt, by omega, by go_num, rfl, rfl, rfl, rfl, I9⟩
                  case measure => simp [intOf]; omega
          · have k3b : (d.kind == 3) = false := by simpa using k3
            clear k3
            go_wp2_with ((with_reducible show wpList _ _ _ (_ :: _) _ _); first
              | refine wpList_load_mid (op := ⟨some 46, _, _, _, _, _⟩) rfl 46 (.tmp 45) rfl ab (aoff + k * 10) rfl (opCells d) _ HX.out Try.underlying46 rfl info46 ?_
              | refine wpList_store_new (o := ⟨none, .store 46 (.tmp 14) (.tmp 46), _, _, _, _⟩) rfl 46 (.tmp 14) (.tmp 46) rfl oz (opArr d) 46 rfl rfl info46 rfl (opArr_one HD.out) ?_)
            have I8 := I4
            clear I4 HB D4 b0 b1 b2 b3
            generalize wr.alloc (.cells (opArr d) 46) = w8 at *
            go_loopw [18, 19, 20, 21, 22, 23] (fun j _ _ _ _ _ wr => ∃ q : Nat, q ≤ 2 ∧ j = .int .i64 q ∧ Chg w8 wr none) (fun j _ _ _ _ _ _ => 2 - (intOf j).toNat)
            case atStart => exact ⟨0, by omega, rfl, Chg.refl _ _⟩
            case round =>
              obtain ⟨q, hq, rfl, hC⟩ := hrel
              have I9 := Lib.hid (I8.out.grow hC)
              have C9 := Lib.hid hC
              clear hC
              by_cases hq2 : q < 2
              · go_wp2_with fail
                refine (read_ok _ b _ _ I9.out.port 3 (by rw [I9.out.decl.2.2]; exact H3.out)).mono ?_
                rintro e w10 ⟨v10, rfl, hown, hf, hC⟩
                have S10 := Lib.hid (own_sl hown hf)
                have I10 := Lib.hid (I9.out.grow hC)
                have C10 := Lib.hid (C9.out.trans hC)
                clear hown hf hC
                go_wp2_with fail
                refine (same_any _ _ _ _ _ S10.out I10.out.sv).mono ?_
                rw [decide_eq_true rfl]
                rintro e w11 ⟨rfl, hd⟩
                have C11 := Lib.hid (C10.out.drw hd)
                clear hd
                go_wp2
                go_roundw
                case rel => exact ⟨q + 1, by omega, by go_num, C11.out⟩
                case measure => simp [intOf]; omega
              · have hd : decide ((q : Int) < 2) = false := by simp only [decide_eq_false_iff_not]; omega
                go_wp2
                go_roundw
                case rel => exact ⟨k + 1, F, P, nd, lt, by omega, by go_num, rfl, rfl, rfl, rfl, I9⟩
                case measure => simp [intOf]; omega
      · have hd : decide ((k : Int) < 200) = false := by simp only [decide_eq_false_iff_not]; omega
        go_wp2
        go_ret
        exact ⟨rfl, I.out.chg⟩
    · have hd : decide ((k : Int) < (ds.length : Int)) = false := by simp only [decide_eq_false_iff_not]; omega
      go_wp2
      go_ret
      exact ⟨rfl, I.out.chg⟩
end Go.Proofs.Ytfoofipkbijajaa.Sa
