/- GicCopied: the plain law, and the walk. -/
import Derived.Test.YtpedciapkalhgaaDoorLoad
namespace Go.Proofs.YtpedciapkalhgaaDoor.Gk
open Go.RowKit Go.Proofs.YtpedciapkalhgaaDoor.Kit
set_option linter.unusedSimpArgs false
set_option linter.unusedVariables false

/-- Nothing is pending or masked that is routed to nobody. -/
def Clean (r : List Int) (p m : Nat) : Prop := ∀ i, i < 32 → nth r i = 0 → p.testBit i = false ∧ m.testBit i = false
theorem clean_zero (r : List Int) : Clean r 0 0 := fun i _ _ => by simp
theorem clean_does {r : List Int} {p m : Nat} {d : OpD} (h : Clean r p m) : Clean r (doesP r p m d) (doesM r p m d) := by
  intro i hi hr
  obtain ⟨e1, e2⟩ := h i hi hr
  have hC := isC_pk d.cell
  have hne : nth r i ≠ 1 + pk d.cell 8 := by
    have := isC_pos hC
    rw [hr]; exact fun e => this e.symm
  refine ⟨?_, ?_⟩
  · unfold doesP
    split
    · rw [raised_bit, e1]
      by_cases e : (pk d.line 32).toNat = i
      · rw [e]; simp [hr]
      · simp [e]
    · split
      · exact e1
      · split
        · split
          · exact e1
          · rename_i hz
            obtain ⟨hc1, hc2, hc3⟩ := ctz_bit _ hz (someOf_lt _ _ _)
            rw [drop_bit _ _ _ hc2, e1]; simp
        · rw [wait_bit _ _ _ (someOf_lt _ _ _), e1]; simp
  · unfold doesM
    split
    · rw [maskTo_bit, e2]; simp [hne]
    · exact e2
theorem clean_load {r : List Int} {p m : Nat} (h : Clean r p m) : (p ||| m) &&& own r 0 = 0 := by
  apply Nat.eq_of_testBit_eq
  intro i
  rw [Nat.testBit_and, Nat.testBit_or, own_bit, Nat.zero_testBit]
  by_cases hi : i < 32
  · by_cases hr : nth r i = 0
    · obtain ⟨e1, e2⟩ := h i hi hr; simp [e1, e2]
    · simp [hr]
  · simp [hi]
theorem rt_ok (xs : List Int) (i : Nat) (hi : i < 32) : nth (rt (fr xs) 32) i = 0 ∨ isC (nth (rt (fr xs) 32) i) = true := by
  rw [rt_nth _ _ _ hi, if_pos hi]; exact fr_ok xs i
theorem ok_i64 {c : Int} (h : c = 0 ∨ isC c = true) : i64ok c := by
  rcases h with rfl | h
  · exact ⟨by decide, by decide⟩
  · simp [isC] at h; exact ⟨by omega, by omega⟩
theorem rd_nil (w : World) : Rd w (.slice none 0 0) [] := ⟨⟨none, 0, rfl, fun h => absurd h (by simp)⟩, by simp, fun j => by simp [nth, i64ok]⟩

set_option maxRecDepth 4000 in
set_option maxHeartbeats 4000000 in
theorem copied_walk (w : World) (hT : TabAt w) (v1 : Value) (xs : List Int) (h1 : Rd w v1 xs) (v2 : Value) (ds : List OpD) (h2 : Ro w v2 ds) (v3 : Value) (es : List OpD) (h3 : Ro w v3 es) (v4 : Value) (fs : List OpD) (h4 : Ro w v4 fs) :
    Calls Tryd.prog 7 #[v1, v2, v3, v4] w fun e w' => e = .returned (.bool true) ∧ Below w.heap.size w w' := by
  have h0 : 0 < w.heap.size := World.block_lt_of_cell? w _ (hT 0 (by omega))
  have HT := Lib.hid (fun w' (h : Below w.heap.size w w') => hT.below h h0)
  have HA := Lib.hid (awake_any w hT)
  have H1 := Lib.hid (fun w' (h : Below w.heap.size w w') => h1.below h)
  have H2 := Lib.hid (fun w' (h : Below w.heap.size w w') => h2.below h)
  have H3 := Lib.hid (fun w' (h : Below w.heap.size w w') => h3.below h)
  have H4 := Lib.hid (fun w' (h : Below w.heap.size w w') => h4.below h)
  obtain ⟨⟨A2, cap2, rfl, _⟩, hfew2, hok2⟩ := h2
  obtain ⟨⟨A3, cap3, rfl, _⟩, hfew3, hok3⟩ := h3
  obtain ⟨⟨A4, cap4, rfl, _⟩, hfew4, hok4⟩ := h4
  have HO2 := Lib.hid hok2
  have HO3 := Lib.hid hok3
  have HO4 := Lib.hid hok4
  clear h1 hT hok2 hok3 hok4
  go_enter Tryd.func7, Tryd.ntmps7
  go_wp2_with fail
  refine HA.out.mono ?_
  rintro e w1 ⟨rfl, b1⟩
  have B1 := Lib.hid b1; clear b1
  go_wp2_with fail
  refine (routed_any _ _ xs (H1.out _ B1.out)).mono ?_
  rintro e w2 ⟨rfl, g2, b2⟩
  have hs := B1.out.size
  have hlt2 := g2.lt
  generalize w1.heap.size = g at *
  have B2 := Lib.hid (B1.out.trans (b2.mono hs))
  have G2 := Lib.hid g2
  clear g2 b2 B1
  go_wp2_with fail
  refine (routed_any _ _ [] (rd_nil _)).mono ?_
  rintro e w3 ⟨rfl, g3, b3⟩
  have hs3 := B2.out.size
  have G := Lib.hid (G2.out.below b3 hlt2)
  have hlt3 := g3.lt
  have hne : g ≠ w2.heap.size := by omega
  generalize w2.heap.size = h at *
  have B3 := Lib.hid (B2.out.trans (b3.mono hs3))
  have G3 := Lib.hid g3
  have HR := Lib.hid (rt_ok xs)
  clear g3 b3 B2 G2
  generalize rt (fr xs) 32 = R at *
  generalize rt (fr []) 32 = S at *
  go_wp2_with fail
  clear HA H1
  go_loopw [12] (fun i wr => ∃ k p m p2 m2 : Nat, k ≤ ds.length ∧ i = .int .i64 k ∧ GicAt wr g R p m ∧ GicAt wr h S p2 m2 ∧ Clean R p m ∧ Below w.heap.size w wr) (fun i _ => ds.length - (intOf i).toNat)
  case atStart => exact ⟨0, 0, 0, 0, 0, by omega, rfl, G.out, G3.out, clean_zero R, B3.out⟩
  case round =>
    obtain ⟨k, p, m, p2, m2, hk, rfl, hg, hh, hcl, hb⟩ := hrel
    have Gg := Lib.hid hg
    have Gh := Lib.hid hh
    have CL := Lib.hid hcl
    have B := Lib.hid hb
    clear hg hh hcl hb G G3 B3
    by_cases hlt : k < ds.length
    · obtain ⟨ab, aoff, hA, hcell⟩ := (H2.out _ B.out).at_ k hlt
      subst hA
      have HD := Lib.hid (HO2.out k)
      have HX := Lib.hid hcell
      clear hcell
      generalize dth ds k = d at *
      go_wp2_with ((with_reducible show wpList _ _ _ (_ :: _) _ _); refine wpList_load_mid (op := ⟨some 45, _, _, _, _, _⟩) rfl 41 (.tmp 44) rfl ab (aoff + k * 38) rfl (opCells d) _ HX.out Tryd.underlying41 rfl (opInfo HD.out) ?_)
      refine (does_any wr g R p m d Gg.out (HT.out _ B.out) HD.out).mono ?_
      rintro e w6 ⟨rfl, g6, c6⟩
      have Gg6 := Lib.hid g6
      have Gh6 := Lib.hid (Gh.out.kept c6 (fun e => hne (Option.some.inj e)))
      have B6 := Lib.hid (chg_below B.out B.out.size hs c6)
      have CL6 := Lib.hid (clean_does (d := d) CL.out)
      clear g6 c6 Gg Gh B CL
      go_wp2
      go_roundw
      case rel => exact ⟨k + 1, _, _, _, _, by omega, by go_num, Gg6.out, Gh6.out, CL6.out, B6.out⟩
      case measure => simp [intOf]; omega
    · go_wp2_with fail
      go_loopw [13] (fun i wr => ∃ k p2 m2 : Nat, k ≤ es.length ∧ i = .int .i64 k ∧ GicAt wr g R p m ∧ GicAt wr h S p2 m2 ∧ Below w.heap.size w wr) (fun i _ => es.length - (intOf i).toNat)
      case atStart => exact ⟨0, _, _, by omega, rfl, Gg.out, Gh.out, B.out⟩
      case round =>
        obtain ⟨k, p3, m3, hk, rfl, hg, hh, hb⟩ := hrel
        clear Gg Gh B
        have Gg := Lib.hid hg
        have Gh := Lib.hid hh
        have B := Lib.hid hb
        clear hg hh hb
        by_cases hlt : k < es.length
        · obtain ⟨ab, aoff, hA, hcell⟩ := (H3.out _ B.out).at_ k hlt
          subst hA
          have HD := Lib.hid (HO3.out k)
          have HX := Lib.hid hcell
          clear hcell
          generalize dth es k = d at *
          go_wp2_with ((with_reducible show wpList _ _ _ (_ :: _) _ _); refine wpList_load_mid (op := ⟨some 57, _, _, _, _, _⟩) rfl 41 (.tmp 56) rfl ab (aoff + k * 38) rfl (opCells d) _ HX.out Tryd.underlying41 rfl (opInfo HD.out) ?_)
          refine (does_any _ h S p3 m3 d Gh.out (HT.out _ B.out) HD.out).mono ?_
          rintro e w6 ⟨rfl, g6, c6⟩
          have Gh6 := Lib.hid g6
          have Gg6 := Lib.hid (Gg.out.kept c6 (fun e => hne (Option.some.inj e).symm))
          have B6 := Lib.hid (chg_below B.out B.out.size hs3 c6)
          clear g6 c6 Gg Gh B
          go_wp2
          go_roundw
          case rel => exact ⟨k + 1, _, _, by omega, by go_num, Gg6.out, Gh6.out, B6.out⟩
          case measure => simp [intOf]; omega
        · have hz := zero39
          go_wp2_with fail
          refine (state_any _ g R p m Gg.out).mono ?_
          rintro e w5 ⟨rfl, g5, c5⟩
          have Gg5 := Lib.hid g5
          have Gh5 := Lib.hid (Gh.out.kept c5 (fun e => hne (Option.some.inj e)))
          have B5 := Lib.hid (chg_below B.out B.out.size hs c5)
          clear g5 c5 Gg Gh B
          have hgo : g ≠ w5.heap.size := by have := Gg5.out.lt; omega
          have hho : h ≠ w5.heap.size := by have := Gh5.out.lt; omega
          have hso : w.heap.size ≤ w5.heap.size := B5.out.size
          have Gg6 := Lib.hid (Gg5.out.kept (Chg.alloc (Chg.refl w5 w5.heap.size) (.cells (gcells R p m) 39)) (fun e => hgo (Option.some.inj e).symm))
          have Gh6 := Lib.hid (Gh5.out.kept (Chg.alloc (Chg.refl w5 w5.heap.size) (.cells (gcells R p m) 39)) (fun e => hho (Option.some.inj e).symm))
          have B6 := Lib.hid (B5.out.alloc hso (.cells (gcells R p m) 39))
          have O6 := Lib.hid (heap_alloc_last w5 (.cells (gcells R p m) 39))
          have HLR := Lib.hid Gg5.out.len
          clear Gg5 Gh5 B5
          go_wp2_with ((with_reducible show wpList _ _ _ (_ :: _) _ _); first | refine wpList_store_new (o := ⟨none, .store 39 (.tmp 14) (.tmp 60), _, _, _, _⟩) rfl 39 (.tmp 14) (.tmp 60) rfl gz (gcells R p m) 39 rfl rfl (by rw [gcells_size R HLR.out]; exact info39) (by rw [gcells_size R HLR.out]; rfl) (gcells_one R p m) ?_ | refine wpList_load_mid (op := ⟨some 62, _, _, _, _, _⟩) rfl 39 (.tmp 14) rfl w5.heap.size 0 rfl (gcells R p m).toList _ (gc_all O6.out) Tryd.underlying39 rfl (by rw [Array.length_toList, gcells_size R HLR.out]; exact info39) ?_)
          clear hz O6
          generalize w5.alloc (.cells (gcells R p m) 39) = w6 at *
          refine (load_any _ h S p3 m3 Gh6.out R p m HLR.out Gg6.out.hp Gg6.out.hm HR.out (clean_load CL.out)).mono ?_
          rintro e w7 ⟨rfl, g7, c7⟩
          have Gh7 := Lib.hid g7
          have Gg7 := Lib.hid (Gg6.out.kept c7 (fun e => hne (Option.some.inj e).symm))
          have B7 := Lib.hid (chg_below B6.out B6.out.size hs3 c7)
          clear g7 c7 Gg6 Gh6 B6
          go_wp2_with fail
          go_loopw [16, 17, 18, 19, 20] (fun i _ _ _ _ wr => ∃ k p m : Nat, k ≤ fs.length ∧ i = .int .i64 k ∧ GicAt wr g R p m ∧ GicAt wr h R p m ∧ Below w.heap.size w wr) (fun i _ _ _ _ _ => fs.length - (intOf i).toNat)
          case atStart => exact ⟨0, _, _, by omega, rfl, Gg7.out, Gh7.out, B7.out⟩
          case round =>
            obtain ⟨k, p, m, hk, rfl, hg, hh, hb⟩ := hrel
            clear Gg7 Gh7 B7
            have Gg := Lib.hid hg
            have Gh := Lib.hid hh
            have B := Lib.hid hb
            clear hg hh hb
            by_cases hlt : k < fs.length
            · obtain ⟨ab, aoff, hA, hcell⟩ := (H4.out _ B.out).at_ k hlt
              subst hA
              have HD := Lib.hid (HO4.out k)
              have HX := Lib.hid (show ∀ w', Below w.heap.size w w' → w'.rangeAt ab (aoff + k * 38) (opCells (dth fs k)) from fun w' hb' => by
                obtain ⟨b', o', e, hc⟩ := (H4.out _ hb').at_ k hlt; injection e with e; injection e with e1 e2; subst e1 e2; exact hc)
              clear hcell
              generalize dth fs k = d at *
              go_wp2_with ((with_reducible show wpList _ _ _ (_ :: _) _ _); refine wpList_load_mid (op := ⟨some 77, _, _, _, _, _⟩) rfl 41 (.tmp 76) rfl ab (aoff + k * 38) rfl (opCells d) _ (HX.out _ B.out) Tryd.underlying41 rfl (opInfo HD.out) ?_)
              refine (does_any _ g R p m d Gg.out (HT.out _ B.out) HD.out).mono ?_
              rintro e w6 ⟨rfl, g6, c6⟩
              have Gg6 := Lib.hid g6
              have Gh6 := Lib.hid (Gh.out.kept c6 (fun e => hne (Option.some.inj e)))
              have B6 := Lib.hid (chg_below B.out B.out.size hs c6)
              clear g6 c6 Gg Gh B
              go_wp2_with ((with_reducible show wpList _ _ _ (_ :: _) _ _); refine wpList_load_mid (op := ⟨some 86, _, _, _, _, _⟩) rfl 41 (.tmp 85) rfl ab (aoff + k * 38) rfl (opCells d) _ (HX.out _ B6.out) Tryd.underlying41 rfl (opInfo HD.out) ?_)
              refine (does_any _ h R p m d Gh6.out (HT.out _ B6.out) HD.out).mono ?_
              rintro e w7 ⟨rfl, g7, c7⟩
              have Gh7 := Lib.hid g7
              have Gg7 := Lib.hid (Gg6.out.kept c7 (fun e => hne (Option.some.inj e).symm))
              have B7 := Lib.hid (chg_below B6.out B6.out.size hs3 c7)
              clear g7 c7 Gg6 Gh6 B6
              generalize doesN R p m d = dn at *
              generalize doesB R p m d = db at *
              go_wp2
              go_roundw
              case rel => exact ⟨k + 1, _, _, by omega, by go_num, Gg7.out, Gh7.out, B7.out⟩
              case measure => simp [intOf]; omega
            · go_wp2_with fail
              refine (state_any _ g R p m Gg.out).mono ?_
              rintro e w5 ⟨rfl, g5, c5⟩
              have Gg5 := Lib.hid g5
              have Gh5 := Lib.hid (Gh.out.kept c5 (fun e => hne (Option.some.inj e)))
              have B5 := Lib.hid (chg_below B.out B.out.size hs c5)
              clear g5 c5 Gg Gh B
              go_wp2_with fail
              refine (state_any _ h R p m Gh5.out).mono ?_
              rintro e w6 ⟨rfl, g6, c6⟩
              have B6 := Lib.hid (chg_below B5.out B5.out.size hs3 c6)
              have HE := Lib.hid (eq39 R p m HLR.out Gh5.out.hp Gh5.out.hm (fun i hi => ok_i64 (HR.out i hi)) w6)
              clear g6 c6 Gg5 Gh5 B5
              go_wp2_with ((with_reducible show wpList _ _ _ (_ :: _) _ _); refine wpList_of_wp (o := ⟨some 102, _, _, _, _, none⟩) rfl (wp_eql_agg 39 _ (.tmp 99) (.tmp 101) rfl (gcells R p m) (gcells R p m) rfl rfl (by kernel_rfl) true HE.out ?_))
              go_ret
              exact ⟨rfl, B6.out⟩
end Go.Proofs.YtpedciapkalhgaaDoor.Gk
