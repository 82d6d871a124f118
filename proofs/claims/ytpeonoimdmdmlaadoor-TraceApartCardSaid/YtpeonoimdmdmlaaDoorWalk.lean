/- The walk of TraceApart. No statement of the seat is proved here. -/
import Derived.Test.YtpeonoimdmdmlaaDoorBk
namespace Go.Proofs.YtpeonoimdmdmlaaDoor.Tr
open Go.RowKit Go.Proofs.YtpeonoimdmdmlaaDoor.Kit
set_option linter.unusedSimpArgs false
set_option linter.unusedVariables false
set_option maxRecDepth 8000 in
set_option maxHeartbeats 4000000 in
theorem apart_walk (w : World) (hT : TabS w) (cell : Int) (hcell : i64ok cell) (v1 : Value) (rs1 : List Rw) (h1 : Rs w v1 rs1) (v2 : Value) (rs2 : List Rw) (h2 : Rs w v2 rs2) (v3 : Value) (ws : List Int) (h3 : Is w v3 ws) :
    Calls Tryd.prog 3 #[.int .i64 cell, v1, v2, v3] w fun e w' => e = .returned (.bool true) ∧ Below w.heap.size w w' := by
  obtain ⟨i0, hi, hz0, hz1, hz2⟩ := info_parts info31'
  have hz31 := zero31
  have HT := Lib.hid hT
  have h0 : 0 < w.heap.size := World.block_lt_of_cell? w _ (hT 0 (by omega))
  have H1 := Lib.hid (all_any w v1 rs1 h1)
  have H2 := Lib.hid h2
  obtain ⟨⟨A3, cap3, rfl, hel3⟩, hok3⟩ := h3
  have HE3 := Lib.hid hel3
  have HO3 := Lib.hid hok3
  obtain ⟨n3, hn3⟩ : ∃ n, n = ws.length := ⟨_, rfl⟩
  have N3 := Lib.hid hn3
  rw [← hn3]
  have PC := Lib.hid (pick_still w cell 8 hcell (by omega) (by omega))
  obtain ⟨c0, hc0⟩ : ∃ t, t = pk cell 8 := ⟨_, rfl⟩
  have hcr := pk_range cell 8 (by omega)
  rw [← hc0] at PC hcr
  clear hT h1 h2 hel3 hok3 hn3 hc0
  go_enter Tryd.func3, Tryd.ntmps3
  go_wp2_with fail
  refine PC.out.mono ?_
  rintro e w' ⟨rfl, rfl⟩
  have hcc : 1 ≤ 1 + c0 ∧ 1 + c0 ≤ 8 := by omega
  go_wp2_with fail
  obtain ⟨c, hcE⟩ : ∃ c, c = 1 + c0 := ⟨_, rfl⟩
  rw [← hcE] at hcc ⊢
  clear hcE hcr PC
  refine H1.out.mono ?_
  rintro e w1 ⟨va, La, rfl, hoa, hka, hla, hba⟩
  obtain ⟨Aa, capa, rfl⟩ := hoa.slice
  have A0 := Lib.hid (show Ak w'.heap.size w' w1 c 0 La.length (.slice Aa La.length capa) La from ⟨hoa, rfl, hka, fun _ _ h => absurd h (by omega), hba⟩)
  clear hoa hka hba H1
  generalize La.length = na at *
  go_wp2_with fail
  go_loopw [11] (fun u wr => ∃ k : Nat, k ≤ na ∧ u = .int .i64 k ∧ Hid (∃ L, Ak w'.heap.size w' wr c k na (.slice Aa na capa) L)) (fun u _ => na - (intOf u).toNat)
  case atStart => exact ⟨0, by omega, rfl, Lib.hid ⟨La, A0.out⟩⟩
  case round =>
    obtain ⟨k, hk, rfl, I⟩ := hrel
    by_cases hlt : k < na
    · obtain ⟨L, IA⟩ := I.out
      obtain ⟨g, cap, hv, hgl, ⟨u, hu⟩, hf, L', hs⟩ := IA.step hlt hcc
      injection hv with hA _ _
      subst hA
      have J := Lib.hid (⟨L', hs⟩ : ∃ L, Ak w'.heap.size w' (wr.setCell ⟨g, k * 6 + 1, none⟩ (.int .i64 c)) c (k + 1) na (.slice (some ⟨g, 0, none⟩) na capa) L)
      clear IA hs I
      go_wp2
      go_roundw
      case rel => exact ⟨k + 1, by omega, by go_num, J⟩
      case measure => simp [intOf]; omega
    · obtain rfl : k = na := by omega
      clear hlt hk
      obtain ⟨L, IA⟩ := I.out
      have A1 := Lib.hid IA
      clear IA I A0
      have B1 := Lib.hid A1.out.below
      have hs1 := B1.out.size
      have C2 := Lib.hid (all_any wr v2 rs2 (H2.out.below B1.out))
      go_wp2_with fail
      refine C2.out.mono ?_
      rintro e w2 ⟨vx, X, rfl, hox, hkx, hlx, hbx⟩
      obtain ⟨Ax, capx, rfl⟩ := hox.slice
      have A2 := Lib.hid (own_below A1.out.own hbx)
      have OX := Lib.hid hox
      have KX := Lib.hid hkx
      have B2 := Lib.hid (B1.out.trans (hbx.mono hs1))
      have hs2 := hbx.size
      clear hox hkx hbx C2
      obtain ⟨nx, hnx⟩ : ∃ n, n = X.length := ⟨_, rfl⟩
      have NX := Lib.hid hnx
      rw [← hnx] at hlx OX ⊢
      clear hnx
      obtain ⟨ga, hga, _, hea⟩ := os_gl (show Os w2 w'.heap.size (.slice Aa L.length capa) L from by show w2.ownsRow _ _ _ (.slice Aa L.length capa) L.length _; rw [A1.out.len]; have := A2.out; rw [A1.out.len] at this; exact this) (by omega)
      obtain ⟨gx, hgx, _, hex⟩ := os_gl (show Os w2 wr.heap.size (.slice Ax X.length capx) X from NX.out ▸ OX.out) (by omega)
      have EA := Lib.hid hea
      have EX := Lib.hid hex
      have HLA := Lib.hid A1.out.len
      have B0 := Lib.hid (show Bk w2.heap.size w2 w2 c L 0 0 (.slice none 0 0) [] from ⟨World.ownsRow_nil _ _ _ _, by simp, by simp [flt], by simp, Below.refl _ _⟩)
      clear hea hex
      obtain ⟨w1e, e⟩ : ∃ x, x = wr := ⟨wr, rfl⟩
      subst e
      go_wp2_with fail
      go_loopw [13, 14, 15] (fun b n i wr => ∃ (B : List Ob) (nn ii : Nat), ii ≤ k + 1 ∧ nn ≤ nx ∧ n = .int .i64 nn ∧ i = .int .i64 ii ∧ Hid (Bk w2.heap.size w2 wr c L ii nn b B)) (fun _ _ i _ => k + 1 - (intOf i).toNat)
      case atStart => exact ⟨[], 0, 0, by omega, by omega, rfl, rfl, B0⟩
      case round =>
        obtain ⟨B, nn, ii, hii, hnn, rfl, rfl, I⟩ := hrel
        by_cases hle : ii ≤ k
        · obtain ⟨w8, e⟩ : ∃ x, x = wr := ⟨wr, rfl⟩
          subst e
          go_wp2_with fail
          go_loopw [13, 14, 16] (fun b n j wr => ∃ (B : List Ob) (nn jj : Nat), jj ≤ 4 ∧ nn ≤ nx ∧ n = .int .i64 nn ∧ j = .int .i64 jj ∧ Hid (Bk w2.heap.size w2 wr c L ii nn b B)) (fun _ _ j _ => 4 - (intOf j).toNat)
          case atStart => exact ⟨B, nn, 0, by omega, by omega, rfl, rfl, I⟩
          case round =>
            clear I
            obtain ⟨B, m, jj, hjj, hm, rfl, rfl, I⟩ := hrel
            obtain ⟨Ab, capb, rfl⟩ := Ol.slice (show Os wr w2.heap.size _ B from I.out.own)
            have hsz := I.out.below.size
            have OB := Lib.hid I.out.own
            obtain ⟨nb, hnb⟩ : ∃ n, n = B.length := ⟨_, rfl⟩
            have NB := Lib.hid hnb
            have hnb2 : nb ≤ 400 := by have := I.out.len; rw [← hnb, HLA.out] at this; omega
            rw [← hnb] at OB ⊢
            clear hnb
            by_cases g1 : m < nx
            · by_cases g2 : ii < n3
              · have g2w : ii < ws.length := by rw [← N3.out]; exact g2
                obtain ⟨gw, ow, hA3, hcw⟩ := HE3.out (by omega)
                subst hA3
                have ew0 := hcw ii g2w
                have hgw : gw < w'.heap.size := World.block_lt_of_cell? w' _ ew0
                have ew := ((I.out.below.cell (p := ⟨gw, ow + ii, none⟩) (by show gw < _; omega)).trans (B2.out.cell (p := ⟨gw, ow + ii, none⟩) hgw)).trans ew0
                have PW := Lib.hid (fun W => pick_any W ws[ii] 4 (HO3.out _ (List.getElem_mem g2w)) (by omega) (by omega))
                have htr := pk_range ws[ii] 4 (by omega)
                clear ew0 hcw
                generalize ws[ii] = wv at *
                generalize pk wv 4 = tw at *
                by_cases g3 : (jj : Int) < tw
                ·
                  have hmX : m < X.length := by rw [← NX.out]; exact g1
                  obtain ⟨hA, hc⟩ := EX.out m hmX
                  subst hA
                  have hcx := hc hmX
                  have hox := KX.out _ (List.getElem_mem hmX)
                  clear hc
                  generalize X[m] = x at *
                  obtain ⟨tick, cellx, kind, pc, a, b⟩ := x
                  have hxc := hox.cell
                  simp only at hxc
                  have PX := Lib.hid (fun W => pick_any W cellx 7 ⟨by omega, by omega⟩ (by omega) (by omega))
                  have hpr := pk_range cellx 7 (by omega)
                  generalize pk cellx 7 = px at *
                  have hoc := other_cell c px hcc hpr
                  have hmod : (c + px).tmod 8 = (c + px) % 8 := Int.tmod_eq_emod_of_nonneg (by omega)
                  have hmr : 0 ≤ (c + px) % 8 ∧ (c + px) % 8 < 8 := by omega
                  generalize (c + px) % 8 = q at *
                  have OX2 := Lib.hid (show Ok ⟨tick, 1 + q, kind, pc, a, b⟩ from ⟨hox.tick, ⟨hoc.1, hoc.2.1⟩, hox.pc, hox.a, hox.b, hox.kind⟩)
                  have OTH := Lib.hid (fun (W4 W5 : World) (v5 : Value) (hb : Below wr.heap.size wr W4) (hown : W5.ownsRow w2.heap.size 31 6 v5 (B.length + 1) (rows oc B ++ rows oc [⟨tick, 1 + q, kind, pc, a, b⟩])) (hgr : W4.grownBy W5 (Value.slice Ab B.length capb).ownBlock) => I.out.other hb hsz hown hgr OX2.out hoc.2.2)
                  rw [← NB.out] at OTH
                  have e0 := (I.out.below.cell (p := ⟨gx, m * 6 + 0, none⟩) hgx).trans (hcx 0 _ rfl)
                  have e1 := (I.out.below.cell (p := ⟨gx, m * 6 + 1, none⟩) hgx).trans (hcx 1 _ rfl)
                  have e2 := (I.out.below.cell (p := ⟨gx, m * 6 + 2, none⟩) hgx).trans (hcx 2 _ rfl)
                  have e3 := (I.out.below.cell (p := ⟨gx, m * 6 + 3, none⟩) hgx).trans (hcx 3 _ rfl)
                  have e4 := (I.out.below.cell (p := ⟨gx, m * 6 + 4, none⟩) hgx).trans (hcx 4 _ rfl)
                  have e5 := (I.out.below.cell (p := ⟨gx, m * 6 + 5, none⟩) hgx).trans (hcx 5 _ rfl)
                  rw [Nat.add_zero] at e0
                  clear hcx hox
                  go_wp2_with fail
                  refine (PW.out _).mono ?_
                  rintro e w9 ⟨rfl, rfl⟩
                  go_wp2_with fail
                  refine (PX.out _).mono ?_
                  rintro e w9 ⟨rfl, rfl⟩
                  clear e0 e1 e2 e3 e4 e5
                  have NEW := Lib.hid (new_one (wr.alloc (.cells #[.int .u64 tick, .int .i64 (1 + q), .int .i64 kind, .int .u32 pc, .int .u32 a, .int .u32 b] 31)) ⟨tick, 1 + q, kind, pc, a, b⟩)
                  have OW2 := Lib.hid ((OB.out.alloc (.cells #[.int .u64 tick, .int .i64 (1 + q), .int .i64 kind, .int .u32 pc, .int .u32 a, .int .u32 b] 31)).alloc (.cells #[.int .u64 tick, .int .i64 (1 + q), .int .i64 kind, .int .u32 pc, .int .u32 a, .int .u32 b] 31))
                  have ONE := Lib.hid (oneb ⟨tick, 1 + q, kind, pc, a, b⟩)
                  have R1 := Lib.hid (show (rows oc [(⟨tick, 1 + q, kind, pc, a, b⟩ : Ob)]).length = 1 * 6 from rfl)
                  have BW := Lib.hid (((Below.refl wr.heap.size wr).alloc (Nat.le_refl _) (.cells #[.int .u64 tick, .int .i64 (1 + q), .int .i64 kind, .int .u32 pc, .int .u32 a, .int .u32 b] 31)).alloc (by simp) (.cells #[.int .u64 tick, .int .i64 (1 + q), .int .i64 kind, .int .u32 pc, .int .u32 a, .int .u32 b] 31))
                  simp only [oc] at NEW
                  go_wp2_with (at_builtin; refine wpList_append_own _ rfl (.tmp 80) (.tmp 82) 25 rfl w2.heap.size 31 i0 (.agg #[.int .u64 0, .int .i64 0, .int .i64 0, .int .u32 0, .int .u32 0, .int .u32 0]) 6 40 Tryd.underlying25 hi hz0 hz1 hz2 rfl (by decide) (.slice Ab nb capb) nb (rows oc B) rfl OW2.out ⟨wr.heap.size + 1, 0, none⟩ 1 1 (rows oc [⟨tick, 1 + q, kind, pc, a, b⟩]) rfl R1.out (by simpa using NEW.out) ?qa ?qb ?qc ?qd ?_)
                  case qa => exact ONE.out
                  case qb => simp only [maxLen]; omega
                  case qc => omega
                  case qd => first | omega | (simp; omega)
                  intro v5 W5 hown hgr hnil
                  have G := Lib.hid (OTH.out _ W5 v5 BW.out hown hgr)
                  clear hown hgr hnil NEW OW2 BW OTH
                  go_wp2
                  go_roundw
                  case rel => exact ⟨_, m + 1, jj + 1, by omega, by omega, by go_num, by go_num, G⟩
                  case measure => simp [intOf] <;> omega
                · go_wp2_with fail
                  refine (PW.out _).mono ?_
                  rintro e w9 ⟨rfl, rfl⟩
                  by_cases hq : ii < k
                  · have hqL : ii < L.length := by rw [HLA.out]; exact hq
                    obtain ⟨hA, hc⟩ := EA.out ii hqL
                    subst hA
                    have hcx := hc hqL
                    have hox := A1.out.ok _ (List.getElem_mem hqL)
                    have hmx := A1.out.mine ii hqL hq
                    have MINE := Lib.hid (fun (W4 W5 : World) (v5 : Value) (hb : Below wr.heap.size wr W4) (hown : W5.ownsRow w2.heap.size 31 6 v5 (B.length + 1) (rows oc B ++ rows oc [L[ii]])) (hgr : W4.grownBy W5 (Value.slice Ab B.length capb).ownBlock) => I.out.mine hb hsz hqL hown hgr hox hmx)
                    rw [← NB.out] at MINE
                    clear hc hox hmx
                    generalize L[ii] = x at *
                    have NEW := Lib.hid (new_one wr x)
                    have OW2 := Lib.hid (OB.out.alloc (.cells (oc x).toArray 31))
                    have ONE := Lib.hid (oneb x)
                    have R1 := Lib.hid (show (rows oc [x]).length = 1 * 6 from rfl)
                    have BW := Lib.hid ((Below.refl wr.heap.size wr).alloc (Nat.le_refl _) (.cells (oc x).toArray 31))
                    obtain ⟨tick, cellx, kind, pc, a, b⟩ := x
                    have e0 := (I.out.below.cell (p := ⟨ga, ii * 6 + 0, none⟩) hga).trans (hcx 0 _ rfl)
                    have e1 := (I.out.below.cell (p := ⟨ga, ii * 6 + 1, none⟩) hga).trans (hcx 1 _ rfl)
                    have e2 := (I.out.below.cell (p := ⟨ga, ii * 6 + 2, none⟩) hga).trans (hcx 2 _ rfl)
                    have e3 := (I.out.below.cell (p := ⟨ga, ii * 6 + 3, none⟩) hga).trans (hcx 3 _ rfl)
                    have e4 := (I.out.below.cell (p := ⟨ga, ii * 6 + 4, none⟩) hga).trans (hcx 4 _ rfl)
                    have e5 := (I.out.below.cell (p := ⟨ga, ii * 6 + 5, none⟩) hga).trans (hcx 5 _ rfl)
                    rw [Nat.add_zero] at e0
                    simp only [oc] at NEW OW2 BW
                    clear hcx
                    go_wp2_with (at_builtin; refine wpList_append_own _ rfl (.tmp 90) (.tmp 95) 25 rfl w2.heap.size 31 i0 (.agg #[.int .u64 0, .int .i64 0, .int .i64 0, .int .u32 0, .int .u32 0, .int .u32 0]) 6 40 Tryd.underlying25 hi hz0 hz1 hz2 rfl (by decide) (.slice Ab nb capb) nb (rows oc B) rfl OW2.out ⟨wr.heap.size, 0, none⟩ 1 1 (rows oc [⟨tick, cellx, kind, pc, a, b⟩]) rfl R1.out NEW.out ?qa ?qb ?qc ?qd ?_)
                    case qa => exact ONE.out
                    case qb => simp only [maxLen]; omega
                    case qc => omega
                    case qd => first | omega | (simp; omega)
                    intro v5 W5 hown hgr hnil
                    have G := Lib.hid (MINE.out _ W5 v5 BW.out hown hgr)
                    clear hown hgr hnil e0 e1 e2 e3 e4 e5 NEW OW2 BW MINE
                    go_wp2
                    go_roundw
                    case rel => exact ⟨_, m, ii + 1, by omega, by omega, rfl, by go_num, G⟩
                    case measure => simp [intOf] <;> omega
                  · obtain rfl : ii = k := by omega
                    have G := Lib.hid (I.out.skip HLA.out.symm)
                    rw [← NB.out] at G
                    go_wp2
                    go_roundw
                    case rel => exact ⟨B, m, ii + 1, by omega, by omega, rfl, by go_num, G⟩
                    case measure => simp [intOf] <;> omega
              ·
                by_cases hq : ii < k
                · have hqL : ii < L.length := by rw [HLA.out]; exact hq
                  obtain ⟨hA, hc⟩ := EA.out ii hqL
                  subst hA
                  have hcx := hc hqL
                  have hox := A1.out.ok _ (List.getElem_mem hqL)
                  have hmx := A1.out.mine ii hqL hq
                  have MINE := Lib.hid (fun (W4 W5 : World) (v5 : Value) (hb : Below wr.heap.size wr W4) (hown : W5.ownsRow w2.heap.size 31 6 v5 (B.length + 1) (rows oc B ++ rows oc [L[ii]])) (hgr : W4.grownBy W5 (Value.slice Ab B.length capb).ownBlock) => I.out.mine hb hsz hqL hown hgr hox hmx)
                  rw [← NB.out] at MINE
                  clear hc hox hmx
                  generalize L[ii] = x at *
                  have NEW := Lib.hid (new_one wr x)
                  have OW2 := Lib.hid (OB.out.alloc (.cells (oc x).toArray 31))
                  have ONE := Lib.hid (oneb x)
                  have R1 := Lib.hid (show (rows oc [x]).length = 1 * 6 from rfl)
                  have BW := Lib.hid ((Below.refl wr.heap.size wr).alloc (Nat.le_refl _) (.cells (oc x).toArray 31))
                  obtain ⟨tick, cellx, kind, pc, a, b⟩ := x
                  have e0 := (I.out.below.cell (p := ⟨ga, ii * 6 + 0, none⟩) hga).trans (hcx 0 _ rfl)
                  have e1 := (I.out.below.cell (p := ⟨ga, ii * 6 + 1, none⟩) hga).trans (hcx 1 _ rfl)
                  have e2 := (I.out.below.cell (p := ⟨ga, ii * 6 + 2, none⟩) hga).trans (hcx 2 _ rfl)
                  have e3 := (I.out.below.cell (p := ⟨ga, ii * 6 + 3, none⟩) hga).trans (hcx 3 _ rfl)
                  have e4 := (I.out.below.cell (p := ⟨ga, ii * 6 + 4, none⟩) hga).trans (hcx 4 _ rfl)
                  have e5 := (I.out.below.cell (p := ⟨ga, ii * 6 + 5, none⟩) hga).trans (hcx 5 _ rfl)
                  rw [Nat.add_zero] at e0
                  simp only [oc] at NEW OW2 BW
                  clear hcx
                  go_wp2_with (at_builtin; refine wpList_append_own _ rfl (.tmp 90) (.tmp 95) 25 rfl w2.heap.size 31 i0 (.agg #[.int .u64 0, .int .i64 0, .int .i64 0, .int .u32 0, .int .u32 0, .int .u32 0]) 6 40 Tryd.underlying25 hi hz0 hz1 hz2 rfl (by decide) (.slice Ab nb capb) nb (rows oc B) rfl OW2.out ⟨wr.heap.size, 0, none⟩ 1 1 (rows oc [⟨tick, cellx, kind, pc, a, b⟩]) rfl R1.out NEW.out ?qa ?qb ?qc ?qd ?_)
                  case qa => exact ONE.out
                  case qb => simp only [maxLen]; omega
                  case qc => omega
                  case qd => first | omega | (simp; omega)
                  intro v5 W5 hown hgr hnil
                  have G := Lib.hid (MINE.out _ W5 v5 BW.out hown hgr)
                  clear hown hgr hnil e0 e1 e2 e3 e4 e5 NEW OW2 BW MINE
                  go_wp2
                  go_roundw
                  case rel => exact ⟨_, m, ii + 1, by omega, by omega, rfl, by go_num, G⟩
                  case measure => simp [intOf] <;> omega
                · obtain rfl : ii = k := by omega
                  have G := Lib.hid (I.out.skip HLA.out.symm)
                  rw [← NB.out] at G
                  go_wp2
                  go_roundw
                  case rel => exact ⟨B, m, ii + 1, by omega, by omega, rfl, by go_num, G⟩
                  case measure => simp [intOf] <;> omega
            ·
              by_cases hq : ii < k
              · have hqL : ii < L.length := by rw [HLA.out]; exact hq
                obtain ⟨hA, hc⟩ := EA.out ii hqL
                subst hA
                have hcx := hc hqL
                have hox := A1.out.ok _ (List.getElem_mem hqL)
                have hmx := A1.out.mine ii hqL hq
                have MINE := Lib.hid (fun (W4 W5 : World) (v5 : Value) (hb : Below wr.heap.size wr W4) (hown : W5.ownsRow w2.heap.size 31 6 v5 (B.length + 1) (rows oc B ++ rows oc [L[ii]])) (hgr : W4.grownBy W5 (Value.slice Ab B.length capb).ownBlock) => I.out.mine hb hsz hqL hown hgr hox hmx)
                rw [← NB.out] at MINE
                clear hc hox hmx
                generalize L[ii] = x at *
                have NEW := Lib.hid (new_one wr x)
                have OW2 := Lib.hid (OB.out.alloc (.cells (oc x).toArray 31))
                have ONE := Lib.hid (oneb x)
                have R1 := Lib.hid (show (rows oc [x]).length = 1 * 6 from rfl)
                have BW := Lib.hid ((Below.refl wr.heap.size wr).alloc (Nat.le_refl _) (.cells (oc x).toArray 31))
                obtain ⟨tick, cellx, kind, pc, a, b⟩ := x
                have e0 := (I.out.below.cell (p := ⟨ga, ii * 6 + 0, none⟩) hga).trans (hcx 0 _ rfl)
                have e1 := (I.out.below.cell (p := ⟨ga, ii * 6 + 1, none⟩) hga).trans (hcx 1 _ rfl)
                have e2 := (I.out.below.cell (p := ⟨ga, ii * 6 + 2, none⟩) hga).trans (hcx 2 _ rfl)
                have e3 := (I.out.below.cell (p := ⟨ga, ii * 6 + 3, none⟩) hga).trans (hcx 3 _ rfl)
                have e4 := (I.out.below.cell (p := ⟨ga, ii * 6 + 4, none⟩) hga).trans (hcx 4 _ rfl)
                have e5 := (I.out.below.cell (p := ⟨ga, ii * 6 + 5, none⟩) hga).trans (hcx 5 _ rfl)
                rw [Nat.add_zero] at e0
                simp only [oc] at NEW OW2 BW
                clear hcx
                go_wp2_with (at_builtin; refine wpList_append_own _ rfl (.tmp 90) (.tmp 95) 25 rfl w2.heap.size 31 i0 (.agg #[.int .u64 0, .int .i64 0, .int .i64 0, .int .u32 0, .int .u32 0, .int .u32 0]) 6 40 Tryd.underlying25 hi hz0 hz1 hz2 rfl (by decide) (.slice Ab nb capb) nb (rows oc B) rfl OW2.out ⟨wr.heap.size, 0, none⟩ 1 1 (rows oc [⟨tick, cellx, kind, pc, a, b⟩]) rfl R1.out NEW.out ?qa ?qb ?qc ?qd ?_)
                case qa => exact ONE.out
                case qb => simp only [maxLen]; omega
                case qc => omega
                case qd => first | omega | (simp; omega)
                intro v5 W5 hown hgr hnil
                have G := Lib.hid (MINE.out _ W5 v5 BW.out hown hgr)
                clear hown hgr hnil e0 e1 e2 e3 e4 e5 NEW OW2 BW MINE
                go_wp2
                go_roundw
                case rel => exact ⟨_, m, ii + 1, by omega, by omega, rfl, by go_num, G⟩
                case measure => simp [intOf] <;> omega
              · obtain rfl : ii = k := by omega
                have G := Lib.hid (I.out.skip HLA.out.symm)
                rw [← NB.out] at G
                go_wp2
                go_roundw
                case rel => exact ⟨B, m, ii + 1, by omega, by omega, rfl, by go_num, G⟩
                case measure => simp [intOf] <;> omega
        · obtain rfl : ii = k + 1 := by omega
          clear hle
          obtain ⟨Ab, capb, rfl⟩ := Ol.slice (show Os wr w2.heap.size _ B from I.out.own)
          have hsz := I.out.below.size
          have KB := Lib.hid I.out.ok
          have KA := Lib.hid A1.out.ok
          have OA := Lib.hid (own_below A2.out I.out.below)
          have hfa : flt c L = L := flt_all fun o ho => by obtain ⟨j, hj, rfl⟩ := List.getElem_of_mem ho; exact A1.out.mine j hj (by rw [← HLA.out]; exact hj)
          have hfb : flt c B = L := by rw [I.out.fl, List.take_of_length_le (by rw [HLA.out]; omega)]
          have FA := Lib.hid hfa
          have FB := Lib.hid hfb
          have BF := Lib.hid (B2.out.trans (I.out.below.mono (by omega)))
          have HTW := Lib.hid (HT.out.kept BF.out h0)
          have hwr0 : 0 < wr.heap.size := by omega
          obtain ⟨nb, hnb⟩ : ∃ n, n = B.length := ⟨_, rfl⟩
          have NB := Lib.hid hnb
          have hnb2 : nb ≤ 400 := by have := I.out.len; rw [← hnb, HLA.out] at this; omega
          obtain ⟨Z, hZ⟩ : ∃ Z, Z = crc (rowsB L) := ⟨_, rfl⟩
          have HZ := Lib.hid hZ
          have BBwr := Lib.hid (Below.refl wr.heap.size wr)
          have OBB := Lib.hid (show wr.ownsRow w2.heap.size 31 6 (.slice Ab nb capb) B.length (rows oc B) from by rw [hnb]; exact I.out.own)
          rw [← hnb]
          clear hnb hZ hfa hfb
          go_wp2_with fail
          refine (twin_any wr _ (.slice Aa k capa) L (own_below OA.out BBwr.out) (by have := HLA.out; omega)).mono ?_
          rintro e x1 ⟨vx1, rfl, hox1, hbx1⟩
          obtain ⟨Ax1, capx1, rfl⟩ := hox1.slice
          have Ox1 := Lib.hid (show x1.ownsRow wr.heap.size 31 6 (.slice Ax1 k capx1) L.length (rows oc L) from by rw [← show L.length = k from HLA.out]; exact hox1)
          have HBx1 := Lib.hid hbx1
          have BBx1 := Lib.hid (BBwr.out.trans (hbx1.mono BBwr.out.size))
          have szx1 := hbx1.size
          clear hox1 hbx1
          rw [show L.length = k from HLA.out]
          have Dx2 := Lib.hid (digest_any x1 (HTW.out.kept BBx1.out hwr0) c _ _ L Ox1.out KA.out (by have := HLA.out; omega))
          rw [FA.out, ← HZ.out] at Dx2
          go_wp2_with fail
          refine Dx2.out.mono ?_
          rintro e x2 ⟨rfl, hbx2⟩
          have BBx2 := Lib.hid (BBx1.out.trans (hbx2.mono BBx1.out.size))
          have szx2 := hbx2.size
          clear hbx2 Dx2
          go_wp2_with fail
          refine (twin_any x2 _ (.slice Ab nb capb) B (own_below OBB.out BBx2.out) (by have := NB.out.symm; omega)).mono ?_
          rintro e x3 ⟨vx3, rfl, hox3, hbx3⟩
          obtain ⟨Ax3, capx3, rfl⟩ := hox3.slice
          have Ox3 := Lib.hid (show x3.ownsRow x2.heap.size 31 6 (.slice Ax3 nb capx3) B.length (rows oc B) from by rw [← show B.length = nb from NB.out.symm]; exact hox3)
          have HBx3 := Lib.hid hbx3
          have BBx3 := Lib.hid (BBx2.out.trans (hbx3.mono BBx2.out.size))
          have szx3 := hbx3.size
          clear hox3 hbx3
          rw [show B.length = nb from NB.out.symm]
          have Dx4 := Lib.hid (digest_any x3 (HTW.out.kept BBx3.out hwr0) c _ _ B Ox3.out KB.out (by have := NB.out.symm; omega))
          rw [FB.out, ← HZ.out] at Dx4
          go_wp2_with fail
          refine Dx4.out.mono ?_
          rintro e x4 ⟨rfl, hbx4⟩
          have BBx4 := Lib.hid (BBx3.out.trans (hbx4.mono BBx3.out.size))
          have szx4 := hbx4.size
          clear hbx4 Dx4
          go_wp2_with fail
          refine (twin_any x4 _ (.slice Aa k capa) L (own_below OA.out BBx4.out) (by have := HLA.out; omega)).mono ?_
          rintro e x5 ⟨vx5, rfl, hox5, hbx5⟩
          obtain ⟨Ax5, capx5, rfl⟩ := hox5.slice
          have Ox5 := Lib.hid (show x5.ownsRow x4.heap.size 31 6 (.slice Ax5 k capx5) L.length (rows oc L) from by rw [← show L.length = k from HLA.out]; exact hox5)
          have HBx5 := Lib.hid hbx5
          have BBx5 := Lib.hid (BBx4.out.trans (hbx5.mono BBx4.out.size))
          have szx5 := hbx5.size
          clear hox5 hbx5
          rw [show L.length = k from HLA.out]
          go_wp2_with fail
          refine (twin_any x5 _ (.slice Ab nb capb) B (own_below OBB.out BBx5.out) (by have := NB.out.symm; omega)).mono ?_
          rintro e x6 ⟨vx6, rfl, hox6, hbx6⟩
          obtain ⟨Ax6, capx6, rfl⟩ := hox6.slice
          have Ox6 := Lib.hid (show x6.ownsRow x5.heap.size 31 6 (.slice Ax6 nb capx6) B.length (rows oc B) from by rw [← show B.length = nb from NB.out.symm]; exact hox6)
          have HBx6 := Lib.hid hbx6
          have BBx6 := Lib.hid (BBx5.out.trans (hbx6.mono BBx5.out.size))
          have szx6 := hbx6.size
          clear hox6 hbx6
          rw [show B.length = nb from NB.out.symm]
          have P1 := Lib.hid (part_any x6 c _ (.slice Ax5 k capx5) L (own_below Ox5.out HBx6.out) _ (.slice Ax6 nb capx6) B Ox6.out KA.out KB.out (by have := HLA.out; omega) (by have := NB.out.symm; omega) [] (by rw [FB.out, FA.out, List.append_nil]) (by omega) (-1) ⟨fun _ => rfl, fun h => absurd rfl h⟩)
          go_wp2_with fail
          refine P1.out.mono ?_
          rintro e x7 ⟨rfl, hbx7⟩
          have BBx7 := Lib.hid (BBx6.out.trans (hbx7.mono BBx6.out.size))
          have szx7 := hbx7.size
          clear hbx7 P1
          go_wp2_with fail
          refine (twin_any x7 _ (.slice Ab nb capb) B (own_below OBB.out BBx7.out) (by have := NB.out.symm; omega)).mono ?_
          rintro e x8 ⟨vx8, rfl, hox8, hbx8⟩
          obtain ⟨Ax8, capx8, rfl⟩ := hox8.slice
          have Ox8 := Lib.hid (show x8.ownsRow x7.heap.size 31 6 (.slice Ax8 nb capx8) B.length (rows oc B) from by rw [← show B.length = nb from NB.out.symm]; exact hox8)
          have HBx8 := Lib.hid hbx8
          have BBx8 := Lib.hid (BBx7.out.trans (hbx8.mono BBx7.out.size))
          have szx8 := hbx8.size
          clear hox8 hbx8
          rw [show B.length = nb from NB.out.symm]
          go_wp2_with fail
          refine (twin_any x8 _ (.slice Aa k capa) L (own_below OA.out BBx8.out) (by have := HLA.out; omega)).mono ?_
          rintro e x9 ⟨vx9, rfl, hox9, hbx9⟩
          obtain ⟨Ax9, capx9, rfl⟩ := hox9.slice
          have Ox9 := Lib.hid (show x9.ownsRow x8.heap.size 31 6 (.slice Ax9 k capx9) L.length (rows oc L) from by rw [← show L.length = k from HLA.out]; exact hox9)
          have HBx9 := Lib.hid hbx9
          have BBx9 := Lib.hid (BBx8.out.trans (hbx9.mono BBx8.out.size))
          have szx9 := hbx9.size
          clear hox9 hbx9
          rw [show L.length = k from HLA.out]
          have NEW := Lib.hid (new_one x9 ⟨0, c, 6, 0, 0, 0⟩)
          have OW2 := Lib.hid (Ox9.out.alloc (.cells #[.int .u64 0, .int .i64 c, .int .i64 6, .int .u32 0, .int .u32 0, .int .u32 0] 31))
          have ONE := Lib.hid (oneb ⟨0, c, 6, 0, 0, 0⟩)
          have R1 := Lib.hid (show (rows oc [(⟨0, c, 6, 0, 0, 0⟩ : Ob)]).length = 1 * 6 from rfl)
          rw [HLA.out] at OW2
          simp only [oc] at NEW
          have hok6 : Ok ⟨0, c, 6, 0, 0, 0⟩ := ⟨by simp, hcc, by simp [u32in], by simp [u32in], by simp [u32in], by simp⟩
          have FINP := Lib.hid (show ∀ v5 W5, W5.ownsRow x8.heap.size 31 6 v5 (k + 1) (rows oc L ++ rows oc [⟨0, c, 6, 0, 0, 0⟩]) → (x9.alloc (.cells #[.int .u64 0, .int .i64 c, .int .i64 6, .int .u32 0, .int .u32 0, .int .u32 0] 31)).grownBy W5 (Value.slice Ax9 k capx9).ownBlock →
              Below wr.heap.size wr W5 ∧ Calls Tryd.prog 8 #[.int .i64 c, .slice Ax8 nb capx8, v5] W5 fun e w' => e = .returned (.int .i64 k) ∧ Below W5.heap.size W5 w' from fun v5 W5 hown hgr => by
            have hb9 : Below x8.heap.size x9 W5 := by
              have hb2 := (Below.refl x8.heap.size x9).alloc szx9 (.cells #[.int .u64 0, .int .i64 c, .int .i64 6, .int .u32 0, .int .u32 0, .int .u32 0] 31)
              refine hb2.grown hgr (Nat.le_trans szx9 hb2.size) (fun j e => ?_)
              rcases OW2.out.2 with ⟨h, _⟩ | ⟨g, cap, cur, h, h1, _⟩
              · rw [h] at e; cases e
              · rw [h] at e; cases e; exact h1
            have hb8 : Below x8.heap.size x8 W5 := HBx9.out.trans hb9
            refine ⟨BBx9.out.trans (hb9.mono (by omega)), ?_⟩
            have hsW := hb8.size
            refine part_any W5 c _ (.slice Ax8 nb capx8) B (own_below Ox8.out hb8) x8.heap.size v5 (L ++ [⟨0, c, 6, 0, 0, 0⟩]) (by show W5.ownsRow _ _ _ _ (L ++ [_]).length _; rw [List.length_append, rows_append, HLA.out]; exact hown) KB.out (fun o ho => (List.mem_append.1 ho).elim (KA.out o) (fun e => by rw [List.mem_singleton.1 e]; exact hok6)) (by have := NB.out.symm; omega) (by rw [List.length_append, HLA.out]; simp; omega) [⟨0, c, 6, 0, 0, 0⟩] (by rw [flt_snoc_yes (c := c) (o := ⟨0, c, 6, 0, 0, 0⟩) rfl, FB.out, FA.out]) (by omega) k ⟨fun h => (by cases h), fun _ => by rw [FB.out, HLA.out]⟩)
          clear hok6
          go_wp2_with (at_builtin; refine wpList_append_own _ rfl (.tmp 115) (.tmp 118) 25 rfl x8.heap.size 31 i0 (.agg #[.int .u64 0, .int .i64 0, .int .i64 0, .int .u32 0, .int .u32 0, .int .u32 0]) 6 40 Tryd.underlying25 hi hz0 hz1 hz2 rfl (by decide) (.slice Ax9 k capx9) k (rows oc L) rfl OW2.out ⟨x9.heap.size, 0, none⟩ 1 1 (rows oc [⟨0, c, 6, 0, 0, 0⟩]) rfl R1.out NEW.out ?qa ?qb ?qc ?qd ?_)
          case qa => exact ONE.out
          case qb => simp only [maxLen]; omega
          case qc => omega
          case qd => first | omega | (simp; omega)
          intro v5 W5 hown hgr hnil
          obtain ⟨hbb, hp⟩ := FINP.out v5 W5 hown hgr
          obtain ⟨g5, cap5, rfl⟩ := ownsRow_succ (k := k) hown
          have BBW5 := Lib.hid hbb
          have P2 := Lib.hid hp
          have szW5 := hbb.size
          clear hown hgr hnil hbb hp FINP NEW OW2
          go_wp2_with fail
          refine P2.out.mono ?_
          rintro e y1 ⟨rfl, hby1⟩
          have BBy1 := Lib.hid (BBW5.out.trans (hby1.mono BBW5.out.size))
          clear hby1 P2
          have D1 := Lib.hid (digest_any y1 (HTW.out.kept BBy1.out hwr0) c 0 (.slice none 0 0) [] (World.ownsRow_nil _ _ _ _) (fun o ho => by cases ho) (by simp))
          rw [show crc (rowsB (flt c [])) = 0 from crc_nil] at D1
          go_wp2_with fail
          refine D1.out.mono ?_
          rintro e y2 ⟨rfl, hby2⟩
          have BBy2 := Lib.hid (BF.out.trans ((BBy1.out.trans (hby2.mono BBy1.out.size)).mono (by omega)))
          clear hby2 D1
          go_wp2
          go_ret
          exact ⟨rfl, BBy2.out⟩
end Go.Proofs.YtpeonoimdmdmlaaDoor.Tr
