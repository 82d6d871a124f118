/- GicOnce: the walk. -/
import Derived.Test.YtpedciapkalhgaaDoorOnceA
namespace Go.Proofs.YtpedciapkalhgaaDoor.Gk
open Go.RowKit Go.Proofs.YtpedciapkalhgaaDoor.Kit
set_option linter.unusedSimpArgs false
set_option linter.unusedVariables false

theorem mk32 (w : World) : (Instr.makeSlice 22 (.int .i64 32) (.int .i64 32)).run Tryd.prog w = .ok (.slice (some ⟨w.heap.size, 0, none⟩) 32 32) (w.alloc (.cells (rcells 0) 3)) := by
  have := run_make (P := Tryd.prog) w 22 3 Tryd.t3 (.int .i64 0) Tryd.underlying22 (by kernel_rfl) (by kernel_rfl) .i64 .i64 32 32 (by omega) (by omega) (by decide +kernel) (by omega)
  have e : rcells 0 = madeCells (Value.int IntKind.i64 0).cells 32 := by kernel_rfl
  rw [this, e]
  rfl
theorem op_cells {w : World} {b : Nat} {d : OpD} {t : TypeId} {s : Nat × Nat} (h : w.heap[b]? = some (.cells (opArr d) t s)) : w.cell? ⟨b, 0, none⟩ = some (.int .i64 d.kind) ∧ w.cell? ⟨b, 1, none⟩ = some (.int .i64 d.line) ∧
    w.cell? ⟨b, 2, none⟩ = some (.int .i64 d.cell) ∧ w.cell? ⟨b, 3, none⟩ = some (.int .u32 d.set) := by
  refine ⟨?_, ?_, ?_, ?_⟩ <;> (rw [cell_of_row _ _ _ _ _ _ h]; simp [opArr, opCells])

set_option maxRecDepth 4000 in
set_option maxHeartbeats 4000000 in
theorem once_walk (w : World) (hT : TabAt w) (v1 : Value) (xs : List Int) (h1 : Rd w v1 xs) (v2 : Value) (ds : List OpD) (h2 : Ro w v2 ds) :
    Calls Tryd.prog 5 #[v1, v2] w fun e w' => e = .returned (.bool true) ∧ Below w.heap.size w w' := by
  have h0 : 0 < w.heap.size := World.block_lt_of_cell? w _ (hT 0 (by omega))
  have HT := Lib.hid (fun w' (h : Below w.heap.size w w') => hT.below h h0)
  have HA := Lib.hid (awake_any w hT)
  have H1 := Lib.hid (fun w' (h : Below w.heap.size w w') => h1.below h)
  have H2 := Lib.hid (fun w' (h : Below w.heap.size w w') => h2.below h)
  obtain ⟨⟨A, cap, rfl, _⟩, hfew, hok⟩ := h2
  have HO := Lib.hid hok
  clear h1 hT hok
  go_enter Tryd.func5, Tryd.ntmps5
  go_wp2_with fail
  refine HA.out.mono ?_
  rintro e w1 ⟨rfl, b1⟩
  have B1 := Lib.hid b1; clear b1
  go_wp2_with fail
  refine (routed_any _ _ xs (H1.out _ B1.out)).mono ?_
  rintro e w2 ⟨rfl, g2, b2⟩
  have hs := B1.out.size
  have hlt2 := g2.lt
  generalize w1.heap.size = g at *
  have B2 := Lib.hid (B1.out.trans (b2.mono hs))
  have G2 := Lib.hid g2
  clear g2 b2 B1
  generalize rt (fr xs) 32 = R at *
  have hmk := mk32
  go_wp2_with fail
  have hgr : g ≠ w2.heap.size := by have := G2.out.lt; omega
  have hsr : w.heap.size ≤ w2.heap.size := B2.out.size
  have G3 := Lib.hid (G2.out.kept (Chg.alloc (Chg.refl w2 w2.heap.size) (.cells (rcells 0) 3)) (fun e => hgr (Option.some.inj e).symm))
  have RA3 := Lib.hid (show RaAt (w2.alloc (.cells (rcells 0) 3)) w2.heap.size 0 from ⟨heap_alloc_last w2 _⟩)
  have B3 := Lib.hid (B2.out.alloc hsr (.cells (rcells 0) 3))
  clear G2 B2 hmk HA H1
  generalize w2.alloc (.cells (rcells 0) 3) = w3 at *
  generalize w2.heap.size = rb at *
  go_loopw [8, 9, 10, 11, 12, 13, 14, 15] (fun i _ _ _ _ _ _ _ wr => ∃ k p m : Nat, k ≤ ds.length ∧ i = .int .i64 k ∧ GicAt wr g R p m ∧ RaAt wr rb p ∧ Below w.heap.size w wr) (fun i _ _ _ _ _ _ _ _ => ds.length - (intOf i).toNat)
  case atStart => exact ⟨0, 0, 0, by omega, rfl, G3.out, RA3.out, B3.out⟩
  case round =>
    obtain ⟨k, p, m, hk, rfl, hg, hra, hb⟩ := hrel
    have G := Lib.hid hg
    have RA := Lib.hid hra
    have B := Lib.hid hb
    clear hg hra hb G3 RA3 B3
    by_cases hlt : k < ds.length
    · obtain ⟨ab, aoff, hA, hcell⟩ := (H2.out _ B.out).at_ k hlt
      subst hA
      have HD := Lib.hid (HO.out k)
      have HX := Lib.hid hcell
      clear hcell
      generalize dth ds k = d at *
      have hz := zero41
      obtain ⟨b0, b1, b2, b3⟩ := op_box wr d 41
      go_wp2_with (first | refine wpList_load_mid (op := ⟨some 37, _, _, _, _, _⟩) rfl 41 (.tmp 36) rfl ab (aoff + k * 38) rfl (opCells d) _ HX.out Tryd.underlying41 rfl (opInfo HD.out) ?_ | refine wpList_store_new (o := ⟨none, .store 41 (.tmp 9) (.tmp 37), _, _, _, _⟩) rfl 41 (.tmp 9) (.tmp 37) rfl oz (opArr d) 41 rfl rfl (by rw [opArr_size d HD.out]; exact info41) (by rw [opArr_size d HD.out]; exact oz_size) (opArr_one d) ?_)
      have hgo : g ≠ wr.heap.size := by have := G.out.lt; omega
      have hro : rb ≠ wr.heap.size := by have := RA.out.lt; omega
      have hso : w.heap.size ≤ wr.heap.size := B.out.size
      have G4 := Lib.hid (G.out.kept (Chg.alloc (Chg.refl wr wr.heap.size) (.cells (opArr d) 41)) (fun e => hgo (Option.some.inj e).symm))
      have RA4 := Lib.hid (RA.out.kept (Chg.alloc (Chg.refl wr wr.heap.size) (.cells (opArr d) 41)) (fun e => hro (Option.some.inj e).symm))
      have B4 := Lib.hid (B.out.alloc hso (.cells (opArr d) 41))
      have O4 := Lib.hid (heap_alloc_last wr (.cells (opArr d) 41))
      have hol : wr.heap.size < (wr.alloc (.cells (opArr d) 41)).heap.size := by simp
      clear G RA B hz
      generalize wr.alloc (.cells (opArr d) 41) = w4 at *
      generalize wr.heap.size = ob at *
      have hkr := pk_range d.kind 4 (by omega)
      have hlr := pk_range d.line 32 (by omega)
      have hcr := pk_range d.cell 8 (by omega)
      refine (pick_any _ _ _ HD.out.kind (by omega) (by omega)).mono ?_
      rintro e w5 ⟨rfl, rfl⟩
      by_cases hk3 : pk d.kind 4 = 3
      · rw [hk3]
        clear hk3
        go_wp2
        go_roundw
        case rel => exact ⟨k + 1, _, _, by omega, by go_num, G4.out, RA4.out, B4.out⟩
        case measure => simp [intOf]; omega
      have hk3b : (pk d.kind 4 == 3) = false := by simpa using hk3
      have HK3 := Lib.hid hk3
      clear hk3
      go_wp2_with fail
      refine (pick_any _ _ _ HD.out.cell (by omega) (by omega)).mono ?_
      rintro e w5 ⟨rfl, rfl⟩
      go_wp2_with fail
      refine (masked_any _ g R p m _ G4.out).mono ?_
      rintro e w5 ⟨rfl, rfl⟩
      go_wp2_with (refine wpList_load_mid (op := ⟨some 52, _, _, _, _, _⟩) rfl 41 (.tmp 9) rfl ob 0 rfl (opCells d) _ (opBlockRange O4.out) Tryd.underlying41 rfl (opInfo HD.out) ?_)
      refine (does_any _ g R p m d G4.out (HT.out _ B4.out) HD.out).mono ?_
      rintro e w6 ⟨rfl, g6, c6⟩
      have G6 := Lib.hid g6
      have RA6 := Lib.hid (RA4.out.kept c6 (fun e => hgr (Option.some.inj e)))
      have O6 := Lib.hid ((c6.block ob hol (fun e => hgo (Option.some.inj e).symm)).trans O4.out)
      have B6 := Lib.hid (chg_below B4.out B4.out.size hs c6)
      have hm6 := Lib.hid G4.out.hm
      clear g6 c6 G4 RA4 B4 O4
      by_cases hb : doesB R p m d = true
      · rw [hb]
        by_cases hk0 : pk d.kind 4 = 0
        · obtain ⟨hp1, hp2, hp3⟩ := once_new hk0 hb
          rw [hk0]
          clear hk3b
          obtain ⟨l, hl⟩ := Int.eq_ofNat_of_zero_le hlr.1
          have hl32 : l < 32 := by omega
          rw [hl, Int.toNat_natCast] at hp1 hp2 hp3
          have hcell := RA6.out.cell l hl32
          have hfree := RA6.out.free l
          have e0 : rv p l = 0 := by simp [rv, hp1]
          have e1 : rv (doesP R p m d) l = 1 := by simp [rv, hp2]
          rw [e0] at hcell
          have RA7 := Lib.hid (RA6.out.set l hl32 hp3)
          rw [e1] at RA7
          have G7 := Lib.hid (G6.out.kept (Chg.set (Chg.refl w6 rb) l (.int .i64 1)) (fun e => hgr (Option.some.inj e).symm))
          have B7 := Lib.hid (chg_below B6.out B6.out.size hsr (Chg.set (Chg.refl w6 rb) l (.int .i64 1)))
          have HL := Lib.hid hl
          have ob1 := (op_cells O6.out).2.1
          clear hp1 hp2 hp3 e0 e1 hl
          go_wp2_with fail
          refine (pick_any _ _ _ HD.out.line (by omega) (by omega)).mono ?_
          rintro e w7 ⟨rfl, rfl⟩
          rw [HL.out]
          go_wp2_with fail
          generalize w6.setCell ⟨rb, l, none⟩ (.int .i64 1) = w8 at *
          have G8 := G7
          have RA8 := RA7
          have B8 := B7
          clear G7 RA7 B7 G6 RA6 B6 O6
          go_loopw [15] (fun i wq => ∃ j : Nat, j ≤ 32 ∧ i = .int .i64 j ∧ wq = w8) (fun i _ => 32 - (intOf i).toNat)
          case atStart => exact ⟨0, by omega, rfl, by first | trivial | rfl⟩
          case round =>
            obtain ⟨j, hj, rfl, rfl⟩ := hrel
            by_cases hj2 : j < 32
            · have hcell := RA8.out.cell j hj2
              rcases rv_le (doesP R p m d) j with hrv | hrv
              · rw [hrv] at hcell
                go_wp2
                go_roundw
                case rel => exact ⟨j + 1, by omega, by go_num, trivial⟩
                case measure => simp [intOf]; omega
              · rw [hrv] at hcell
                go_wp2
                go_roundw
                case rel => exact ⟨j + 1, by omega, by go_num, trivial⟩
                case measure => simp [intOf]; omega
            · go_wp2
              go_roundw
              case rel => exact ⟨k + 1, _, _, by omega, by go_num, G8.out, RA8.out, B8.out⟩
              case measure => simp [intOf]; omega
        · have hk0b : (pk d.kind 4 == 0) = false := by simpa using hk0
          have HK0 := Lib.hid hk0
          clear hk0
          by_cases hk2 : pk d.kind 4 = 2
          · obtain ⟨n, hn1, hn2, hn3, hn4, hn5, hn6⟩ := once_took hm6.out hk2 hb
            rw [hn1]
            have hcell := RA6.out.cell n hn2
            have hfree := RA6.out.free n
            have e0 : rv p n = 1 := by simp [rv, hn3]
            have e1 : rv (doesP R p m d) n = 0 := by simp [rv, hn5]
            rw [e0] at hcell
            have RA7 := Lib.hid (RA6.out.set n hn2 hn6)
            rw [e1] at RA7
            have G7 := Lib.hid (G6.out.kept (Chg.set (Chg.refl w6 rb) n (.int .i64 0)) (fun e => hgr (Option.some.inj e).symm))
            have B7 := Lib.hid (chg_below B6.out B6.out.size hsr (Chg.set (Chg.refl w6 rb) n (.int .i64 0)))
            have hmb : ((((someOf R (1 + pk d.cell 8) m : Nat) : Int) / 2 ^ n).tmod 2 == 1) = false := by rw [bit_eq1]; exact hn4
            have hd2 : decide ((32 : Int) ≤ (n : Int)) = false := by simp only [decide_eq_false_iff_not]; omega
            have hk2b : (pk d.kind 4 == 2) = true := by simpa using hk2
            have HN := Lib.hid hn1
            clear hn1 hn3 hn4 hn5 hn6 e0 e1 hk2
            go_wp2_with fail
            generalize w6.setCell ⟨rb, n, none⟩ (.int .i64 0) = w8 at *
            have G8 := G7
            have RA8 := RA7
            have B8 := B7
            clear G7 RA7 B7 G6 RA6 B6 O6
            go_loopw [15] (fun i wq => ∃ j : Nat, j ≤ 32 ∧ i = .int .i64 j ∧ wq = w8) (fun i _ => 32 - (intOf i).toNat)
            case atStart => exact ⟨0, by omega, rfl, by first | trivial | rfl⟩
            case round =>
              obtain ⟨j, hj, rfl, rfl⟩ := hrel
              by_cases hj2 : j < 32
              · have hcell := RA8.out.cell j hj2
                rcases rv_le (doesP R p m d) j with hrv | hrv
                · rw [hrv] at hcell
                  go_wp2
                  go_roundw
                  case rel => exact ⟨j + 1, by omega, by go_num, trivial⟩
                  case measure => simp [intOf]; omega
                · rw [hrv] at hcell
                  go_wp2
                  go_roundw
                  case rel => exact ⟨j + 1, by omega, by go_num, trivial⟩
                  case measure => simp [intOf]; omega
              · go_wp2
                go_roundw
                case rel => exact ⟨k + 1, _, _, by omega, by go_num, G8.out, RA8.out, B8.out⟩
                case measure => simp [intOf]; omega
          · have hk2b : (pk d.kind 4 == 2) = false := by simpa using hk2
            have hkk : pk d.kind 4 = 1 := by have := HK3.out; have := HK0.out; omega
            have RA8 := Lib.hid (RA6.out.same (once_none (r := R) (p := p) (m := m) (d := d) (.inl hkk) HK3.out))
            have G8 := G6
            have B8 := B6
            clear RA6 G6 B6 O6
            clear hkk hk2
            go_wp2_with fail
            go_loopw [15] (fun i wq => ∃ j : Nat, j ≤ 32 ∧ i = .int .i64 j ∧ wq = w6) (fun i _ => 32 - (intOf i).toNat)
            case atStart => exact ⟨0, by omega, rfl, by first | trivial | rfl⟩
            case round =>
              obtain ⟨j, hj, rfl, rfl⟩ := hrel
              by_cases hj2 : j < 32
              · have hcell := RA8.out.cell j hj2
                rcases rv_le (doesP R p m d) j with hrv | hrv
                · rw [hrv] at hcell
                  go_wp2
                  go_roundw
                  case rel => exact ⟨j + 1, by omega, by go_num, trivial⟩
                  case measure => simp [intOf]; omega
                · rw [hrv] at hcell
                  go_wp2
                  go_roundw
                  case rel => exact ⟨j + 1, by omega, by go_num, trivial⟩
                  case measure => simp [intOf]; omega
              · go_wp2
                go_roundw
                case rel => exact ⟨k + 1, _, _, by omega, by go_num, G8.out, RA8.out, B8.out⟩
                case measure => simp [intOf]; omega
      · have hb' : doesB R p m d = false := by simpa using hb
        rw [hb']
        have RA8 := Lib.hid (RA6.out.same (once_none (r := R) (p := p) (m := m) (d := d) (.inr hb') HK3.out))
        have G8 := G6
        have B8 := B6
        clear RA6 G6 B6 O6
        clear hb hb'
        cases hx0 : (pk d.kind 4 == 0) <;> cases hx2 : (pk d.kind 4 == 2)
        · go_wp2_with fail
          go_loopw [15] (fun i wq => ∃ j : Nat, j ≤ 32 ∧ i = .int .i64 j ∧ wq = w6) (fun i _ => 32 - (intOf i).toNat)
          case atStart => exact ⟨0, by omega, rfl, by first | trivial | rfl⟩
          case round =>
            obtain ⟨j, hj, rfl, rfl⟩ := hrel
            by_cases hj2 : j < 32
            · have hcell := RA8.out.cell j hj2
              rcases rv_le (doesP R p m d) j with hrv | hrv
              · rw [hrv] at hcell
                go_wp2
                go_roundw
                case rel => exact ⟨j + 1, by omega, by go_num, trivial⟩
                case measure => simp [intOf]; omega
              · rw [hrv] at hcell
                go_wp2
                go_roundw
                case rel => exact ⟨j + 1, by omega, by go_num, trivial⟩
                case measure => simp [intOf]; omega
            · go_wp2
              go_roundw
              case rel => exact ⟨k + 1, _, _, by omega, by go_num, G8.out, RA8.out, B8.out⟩
              case measure => simp [intOf]; omega
        · go_wp2_with fail
          go_loopw [15] (fun i wq => ∃ j : Nat, j ≤ 32 ∧ i = .int .i64 j ∧ wq = w6) (fun i _ => 32 - (intOf i).toNat)
          case atStart => exact ⟨0, by omega, rfl, by first | trivial | rfl⟩
          case round =>
            obtain ⟨j, hj, rfl, rfl⟩ := hrel
            by_cases hj2 : j < 32
            · have hcell := RA8.out.cell j hj2
              rcases rv_le (doesP R p m d) j with hrv | hrv
              · rw [hrv] at hcell
                go_wp2
                go_roundw
                case rel => exact ⟨j + 1, by omega, by go_num, trivial⟩
                case measure => simp [intOf]; omega
              · rw [hrv] at hcell
                go_wp2
                go_roundw
                case rel => exact ⟨j + 1, by omega, by go_num, trivial⟩
                case measure => simp [intOf]; omega
            · go_wp2
              go_roundw
              case rel => exact ⟨k + 1, _, _, by omega, by go_num, G8.out, RA8.out, B8.out⟩
              case measure => simp [intOf]; omega
        · go_wp2_with fail
          go_loopw [15] (fun i wq => ∃ j : Nat, j ≤ 32 ∧ i = .int .i64 j ∧ wq = w6) (fun i _ => 32 - (intOf i).toNat)
          case atStart => exact ⟨0, by omega, rfl, by first | trivial | rfl⟩
          case round =>
            obtain ⟨j, hj, rfl, rfl⟩ := hrel
            by_cases hj2 : j < 32
            · have hcell := RA8.out.cell j hj2
              rcases rv_le (doesP R p m d) j with hrv | hrv
              · rw [hrv] at hcell
                go_wp2
                go_roundw
                case rel => exact ⟨j + 1, by omega, by go_num, trivial⟩
                case measure => simp [intOf]; omega
              · rw [hrv] at hcell
                go_wp2
                go_roundw
                case rel => exact ⟨j + 1, by omega, by go_num, trivial⟩
                case measure => simp [intOf]; omega
            · go_wp2
              go_roundw
              case rel => exact ⟨k + 1, _, _, by omega, by go_num, G8.out, RA8.out, B8.out⟩
              case measure => simp [intOf]; omega
        · go_wp2_with fail
          go_loopw [15] (fun i wq => ∃ j : Nat, j ≤ 32 ∧ i = .int .i64 j ∧ wq = w6) (fun i _ => 32 - (intOf i).toNat)
          case atStart => exact ⟨0, by omega, rfl, by first | trivial | rfl⟩
          case round =>
            obtain ⟨j, hj, rfl, rfl⟩ := hrel
            by_cases hj2 : j < 32
            · have hcell := RA8.out.cell j hj2
              rcases rv_le (doesP R p m d) j with hrv | hrv
              · rw [hrv] at hcell
                go_wp2
                go_roundw
                case rel => exact ⟨j + 1, by omega, by go_num, trivial⟩
                case measure => simp [intOf]; omega
              · rw [hrv] at hcell
                go_wp2
                go_roundw
                case rel => exact ⟨j + 1, by omega, by go_num, trivial⟩
                case measure => simp [intOf]; omega
            · go_wp2
              go_roundw
              case rel => exact ⟨k + 1, _, _, by omega, by go_num, G8.out, RA8.out, B8.out⟩
              case measure => simp [intOf]; omega
    · have hz := zero39
      go_wp2_with fail
      refine (state_any _ g R p m G.out).mono ?_
      rintro e w5 ⟨rfl, g5, c5⟩
      have G5 := Lib.hid g5
      have RA5 := Lib.hid (RA.out.kept c5 (fun e => hgr (Option.some.inj e)))
      have B5 := Lib.hid (chg_below B.out B.out.size hs c5)
      have hlen := Lib.hid g5.len
      clear g5 c5 G RA B
      have hso : w.heap.size ≤ w5.heap.size := B5.out.size
      have hro : rb ≠ w5.heap.size := by have := RA5.out.lt; omega
      have RA6 := Lib.hid (RA5.out.kept (Chg.alloc (Chg.refl w5 w5.heap.size) (.cells (gcells R p m) 39)) (fun e => hro (Option.some.inj e).symm))
      have B6 := Lib.hid (B5.out.alloc hso (.cells (gcells R p m) 39))
      have hpc : (w5.alloc (.cells (gcells R p m) 39)).cell? ⟨w5.heap.size, 32, none⟩ = some (.int .u32 p) := by
        rw [cell_of_row _ _ _ _ _ _ (heap_alloc_last w5 _)]; exact gcells_p hlen.out
      go_wp2_with (refine wpList_store_new (o := ⟨none, .store 39 (.tmp 16) (.tmp 107), _, _, _, _⟩) rfl 39 (.tmp 16) (.tmp 107) rfl gz (gcells R p m) 39 rfl rfl (by rw [gcells_size R hlen.out]; exact info39) (by rw [gcells_size R hlen.out]; rfl) (gcells_one R p m) ?_)
      clear RA5 B5 G5 hz
      generalize w5.alloc (.cells (gcells R p m) 39) = w9 at *
      go_loopw [17] (fun i wq => ∃ j : Nat, j ≤ 32 ∧ i = .int .i64 j ∧ wq = w9) (fun i _ => 32 - (intOf i).toNat)
      case atStart => exact ⟨0, by omega, rfl, by first | trivial | rfl⟩
      case round =>
        obtain ⟨j, hj, rfl, rfl⟩ := hrel
        by_cases hj2 : j < 32
        · have hcell := RA6.out.cell j hj2
          by_cases hbit : p.testBit j = true
          · have e1 : ((((p : Nat) : Int) / 2 ^ j).tmod 2 == 1) = true := by rw [bit_eq1]; exact hbit
            have e2 : ((((p : Nat) : Int) / 2 ^ j).tmod 2 == 0) = false := by rw [bit_eq0, hbit]; rfl
            have e3 : rv p j = 1 := by simp [rv, hbit]
            rw [e3] at hcell
            clear hbit e3
            go_wp2
            go_roundw
            case rel => exact ⟨j + 1, by omega, by go_num, trivial⟩
            case measure => simp [intOf]; omega
          · have hbit' : p.testBit j = false := by simpa using hbit
            have e1 : ((((p : Nat) : Int) / 2 ^ j).tmod 2 == 1) = false := by rw [bit_eq1]; exact hbit'
            have e2 : ((((p : Nat) : Int) / 2 ^ j).tmod 2 == 0) = true := by rw [bit_eq0, hbit']; rfl
            have e3 : rv p j = 0 := by simp [rv, hbit']
            rw [e3] at hcell
            clear hbit hbit' e3
            go_wp2
            go_roundw
            case rel => exact ⟨j + 1, by omega, by go_num, trivial⟩
            case measure => simp [intOf]; omega
        · go_wp2
          go_ret
          exact ⟨rfl, B6.out⟩
end Go.Proofs.YtpedciapkalhgaaDoor.Gk
