/- Load, of lines that may be: its contract. No statement of the seat is proved here. -/
import Derived.Test.YtlmgiejemdifkaaDoorPush
import Derived.StillTailTactics
namespace Go.Proofs.YtlmgiejemdifkaaDoor.Ca
open Go.RowKit Go.Proofs.YtlmgiejemdifkaaDoor.Kit
set_option linter.unusedSimpArgs false
set_option linter.unusedVariables false

theorem info86 : (Tryd.prog.info? 86).map (·.size) = some 4355 := by kernel_rfl
theorem new_one (S W L : Int) : (newCells S W L).all (·.oneCell') = true := by
  rw [Array.all_eq_true_iff_forall_mem]
  intro v hv
  unfold newCells at hv
  rw [List.mem_toArray, List.mem_append] at hv
  rcases hv with h | h
  · simp only [List.mem_cons, List.not_mem_nil, or_false] at h
    rcases h with rfl | rfl | rfl <;> rfl
  · rw [List.mem_flatten] at h
    obtain ⟨l, hl, hv⟩ := h
    rw [List.eq_of_mem_replicate hl] at hv
    exact zset_one v hv
theorem CacheIs.moved {w w' : World} {b c : Nat} {s : Shp} {f : Nat → List Ln} (h : CacheIs w c s f) (hr : Row w' b 86 4355) (ho : ∀ x, x < 4355 → w'.cell? ⟨b, x, none⟩ = w.cell? ⟨c, x, none⟩) : CacheIs w' b s f := by
  refine ⟨hr, by rw [ho 0 (by omega)]; exact h.c0, by rw [ho 1 (by omega)]; exact h.c1, by rw [ho 2 (by omega)]; exact h.c2, fun k hk => ?_, h.len⟩
  obtain ⟨L, h8, hrg, hc, hV⟩ := h.sets k hk
  refine ⟨L, h8, fun j v hv => ?_, by rw [ho _ (by omega)]; exact hc, hV⟩
  have hj : j < 16 := by have := (List.getElem?_eq_some_iff.1 hv).1; rw [flat_length, h8] at this; exact this
  rw [ho _ (by omega)]
  exact hrg j v hv
theorem CacheIs.one {w : World} {c : Nat} {s : Shp} {f : Nat → List Ln} {cs : Array Value} (h : CacheIs w c s f) (hc : w.heap[c]? = some (.cells cs 86 (0, 0))) (hs : cs.size = 4355) : cs.all (·.oneCell') = true := by
  rw [Array.all_eq_true]
  intro x hx
  have key : ∀ v, w.cell? ⟨c, x, none⟩ = some v → cs[x] = v := fun v hv => by
    rw [cell_of_row _ _ _ _ _ _ hc, Array.getElem?_eq_getElem hx] at hv
    exact Option.some.inj hv
  by_cases h3 : x < 3
  · rcases (show x = 0 ∨ x = 1 ∨ x = 2 by omega) with rfl | rfl | rfl
    · rw [key _ h.c0]; rfl
    · rw [key _ h.c1]; rfl
    · rw [key _ h.c2]; rfl
  · have e : x = 3 + (x - 3) / 17 * 17 + (x - 3) % 17 := by omega
    have hk : (x - 3) / 17 < 256 := by omega
    have hj : (x - 3) % 17 < 17 := by omega
    generalize (x - 3) / 17 = k at *
    generalize (x - 3) % 17 = j at *
    obtain ⟨L, h8, hrg, hcn, _⟩ := h.sets k hk
    by_cases h16 : j < 16
    · obtain ⟨v, hv⟩ : ∃ v, (flat L)[j]? = some v := ⟨_, List.getElem?_eq_getElem (by rw [flat_length, h8]; omega)⟩
      have h2 := hrg j v hv
      rw [← e] at h2
      rw [key _ h2]
      exact flat_one L v (List.mem_of_getElem? hv)
    · have h2 : w.cell? ⟨c, x, none⟩ = some (.int .i64 (f k).length) := by rw [e, show j = 16 by omega]; exact hcn
      rw [key _ h2]; rfl
theorem rows_cells {w : World} {base : Nat} {v : Value} {R : List Rw} (h : w.ownsRow base 51 3 v R.length (rcells R)) {j : Nat} (hj : j < R.length) :
    ∃ g cap, v = .slice (some ⟨g, 0, none⟩) R.length cap ∧ w.cell? ⟨g, j * 3, none⟩ = some (.int .u32 (rnth R j).1) ∧ w.cell? ⟨g, j * 3 + 1, none⟩ = some (.int .u32 (rnth R j).2.1) ∧ w.cell? ⟨g, j * 3 + 2, none⟩ = some (.bool (rnth R j).2.2) := by
  rcases h.2 with ⟨_, h0⟩ | ⟨g, cap, cur, hv, _, hrow, _, _, _, htk⟩
  · omega
  · have at_ : ∀ i u, (rcells R)[j * 3 + i]? = some u → i < 3 → w.cell? ⟨g, j * 3 + i, none⟩ = some u := fun i u hu hi => by
      rw [cell_of_row _ _ _ _ _ _ hrow, ← Array.getElem?_toList]
      rw [← htk, List.getElem?_take, if_pos (by omega)] at hu
      exact hu
    obtain ⟨a0, a1, a2⟩ := rcells_at R j hj
    exact ⟨g, cap, hv, by have := at_ 0 _ a0 (by decide); rw [Nat.add_zero] at this; exact this, at_ 1 _ a1 (by decide), at_ 2 _ a2 (by decide)⟩
set_option maxRecDepth 100000 in
set_option maxHeartbeats 8000000 in
theorem load_yes (w : World) (b : Nat) (s : Shp) (g : Nat → List Ln) (h : CacheIs w b s g) (f : Nat → List Ln) (hg : Good s f) (v : Value) (base : Nat) (hv : w.ownsRow base 51 3 v (lrows f s.S).length (rcells (lrows f s.S))) (hnb : v.ownBlock ≠ some b) :
    Calls Tryd.prog 20 #[.pointer (some ⟨b, 0, none⟩), v] w fun e w' => e = .returned (.int .i64 0) ∧ CacheIs w' b s (part (lrows f s.S)) ∧ Chg w w' (some b) := by
  have HH := Lib.hid h
  have HV := Lib.hid hv
  have NB := Lib.hid hnb
  have d0 := h.c0
  have d1 := h.c1
  have d2 := h.c2
  have hbl := h.lt
  have hsh : ∃ A c, v = .slice A (lrows f s.S).length c := by
    rcases hv.2 with ⟨h, h0⟩ | ⟨g, cap, cur, h, _⟩
    · exact ⟨_, _, by rw [h, h0]⟩
    · exact ⟨_, _, h⟩
  obtain ⟨A, cc, rfl⟩ := hsh
  have PR := Lib.hid (part_room hg s.S)
  have PN := Lib.hid (part_next (lrows f s.S))
  have RL := Lib.hid (rows_lt f s.S)
  have hRl : (lrows f s.S).length ≤ 256 * 8 := by rw [← lnum_rows]; exact Nat.le_trans (lnum_le hg.len s.S) (Nat.mul_le_mul s.Sle.2 s.hW.2)
  generalize lrows f s.S = R at *
  clear h hv hnb
  go_enter Tryd.func20, Tryd.ntmps20
  have NC := new_cells (s.S : Int) (s.W : Int) (s.L : Int)
  have hX1 : (((Tryd.zeroCells86.setIfInBounds 0 (.int .i64 s.S)).setIfInBounds 1 (.int .i64 s.W)).setIfInBounds 2 (.int .i64 s.L)).size = 4355 := by rw [NC, newCells_size]
  have hX2 : (((Tryd.zeroCells86.setIfInBounds 0 (.int .i64 s.S)).setIfInBounds 1 (.int .i64 s.W)).setIfInBounds 2 (.int .i64 s.L)).all (·.oneCell') = true := by rw [NC, new_one]
  have hX3 : Tryd.zeroCells86.size = 4355 := by rw [zero86, newCells_size]
  have F1 := heap_alloc_last w (.cells (((Tryd.zeroCells86.setIfInBounds 0 (.int .i64 s.S)).setIfInBounds 1 (.int .i64 s.W)).setIfInBounds 2 (.int .i64 s.L)) 86)
  have CA := Lib.hid ((Chg.refl w none).alloc (.cells (((Tryd.zeroCells86.setIfInBounds 0 (.int .i64 s.S)).setIfInBounds 1 (.int .i64 s.W)).setIfInBounds 2 (.int .i64 s.L)) 86))
  have X1 := Lib.hid hX1
  have X2 := Lib.hid hX2
  have X3 := Lib.hid hX3
  have FF := Lib.hid (show CacheIs (w.alloc (.cells (((Tryd.zeroCells86.setIfInBounds 0 (.int .i64 s.S)).setIfInBounds 1 (.int .i64 s.W)).setIfInBounds 2 (.int .i64 s.L)) 86)) w.heap.size s (fun _ => []) from new_is s (by rw [← NC]; exact F1))
  clear NC hX1 hX2 hX3 F1
  go_wp2_with ((with_reducible show wpList _ _ _ (_ :: _) _ _); refine wpList_store_new (o := ⟨none, .store 86 (.tmp 5) (.tmp 14), _, _, _, _⟩) rfl 86 (.tmp 5) (.tmp 14) rfl Tryd.zeroCells86 (((Tryd.zeroCells86.setIfInBounds 0 (.int .i64 s.S)).setIfInBounds 1 (.int .i64 s.W)).setIfInBounds 2 (.int .i64 s.L)) 86 rfl rfl (by rw [X1.out]; exact info86) (by rw [X1.out, X3.out]) X2.out ?_)
  generalize w.alloc (.cells (((Tryd.zeroCells86.setIfInBounds 0 (.int .i64 s.S)).setIfInBounds 1 (.int .i64 s.W)).setIfInBounds 2 (.int .i64 s.L)) 86) = w1 at *
  have I0 := Lib.hid (show Chg w w1 none ∧ CacheIs w1 w.heap.size s (part (R.take 0)) from ⟨CA.out, FF.out⟩)
  clear CA FF d0 d1 d2
  go_loopw [7, 8, 9, 17] (fun _ _ _ i wr => ∃ j : Nat, j ≤ R.length ∧ i = .int .i64 j ∧ Hid (Chg w wr none ∧ CacheIs wr w.heap.size s (part (R.take j)))) (fun _ _ _ i _ => R.length - (intOf i).toNat)
  case atStart => exact ⟨0, by omega, rfl, I0⟩
  case round =>
    obtain ⟨j, hj, rfl, I⟩ := hrel
    clear I0
    by_cases hlt : j < R.length
    · have HB := Lib.hid (HH.out.kept I.out.1 (by simp))
      have d0 := HB.out.c0
      have d1 := HB.out.c1
      have d2 := HB.out.c2
      obtain ⟨gq, vc, hA, c0, c1, c2⟩ := rows_cells (HV.out.kept I.out.1 (by cases (Value.slice A R.length cc).ownBlock <;> simp)) hlt
      injection hA with hA _ hc
      subst hA hc
      obtain ⟨p1, p2, p3⟩ := PR.out j hlt
      have pk := RL.out j hlt
      have PNX := Lib.hid (PN.out j hlt)
      have HP := Lib.hid (And.intro p1 (And.intro p2 p3))
      generalize rnth R j = r at *
      obtain ⟨k, t, d⟩ := r
      simp only at *
      have hz := zero51
      have hLb := s.Lle
      have hSb := s.Sle
      have hwL := wrap_u64_small hLb.2
      have hwS := wrap_u64_small hSb.2
      have hwS3 := wrap_u32_small (n := s.S) (by omega)
      obtain ⟨M, hM⟩ : ∃ M, M = 4294967296 / s.L := ⟨_, rfl⟩
      have hq : (4294967296 : Int) / (s.L : Int) = (M : Int) := by rw [hM]; exact (Int.natCast_ediv 4294967296 s.L).symm
      have hbw := HB.out.lt
      have hcw := I.out.2.lt
      clear p1 p2 p3
      have hML : M ≤ 4294967296 := by rw [hM]; exact Nat.div_le_self _ _
      obtain ⟨P, hP⟩ : ∃ P, P = t * s.S := ⟨_, rfl⟩
      have hPi : (t : Int) * (s.S : Int) = (P : Int) := by rw [hP]; push_cast; rfl
      have hPM : P + k < M := by rw [hP, hM]; exact HP.out.2.2
      have htP : t ≤ P := by rw [hP]; exact Nat.le_mul_of_pos_right t (by omega)
      have hgk : decide ((s.S : Int) ≤ (k : Int)) = false := by simp only [decide_eq_false_iff_not]; omega
      have hno : decide ((4294967296 : Int) / (s.L : Int) ≤ (P : Int) + (k : Int)) = false := by rw [hq]; simp only [decide_eq_false_iff_not]; omega
      have hno2 : decide ((M : Int) ≤ (P : Int) + (k : Int)) = false := by simp only [decide_eq_false_iff_not]; omega
      have wt : IntKind.u64.wrap (t : Int) = (t : Int) := by rw [IntKind.wrap_u64]; omega
      have wk : IntKind.u64.wrap (k : Int) = (k : Int) := by rw [IntKind.wrap_u64]; omega
      have wP : IntKind.u64.wrap (P : Int) = (P : Int) := by rw [IntKind.wrap_u64]; omega
      have wPk : IntKind.u64.wrap ((P : Int) + (k : Int)) = (P : Int) + (k : Int) := by rw [IntKind.wrap_u64]; omega
      have K2 := Lib.hid ((Chg.refl wr none).alloc (.cells #[.int .u32 k, .int .u32 t, .bool d] 51))
      have B2 := Lib.hid (heap_alloc_last wr (.cells #[.int .u32 k, .int .u32 t, .bool d] 51))
      clear hP hM
      go_wp2_with fail
      have D2 := Lib.hid (And.intro (cell_kept d0 K2.out (by simp)) (And.intro (cell_kept d1 K2.out (by simp)) (cell_kept d2 K2.out (by simp))))
      have hs2 : (wr.alloc (.cells #[.int .u32 k, .int .u32 t, .bool d] 51)).heap.size = wr.heap.size + 1 := by simp
      clear c0 c1 c2 d0 d1 d2
      generalize wr.alloc (.cells #[.int .u32 k, .int .u32 t, .bool d] 51) = w2 at *
      have c0 : w2.cell? ⟨wr.heap.size, 0, none⟩ = some (.int .u32 k) := by rw [cell_of_row _ _ _ _ _ _ B2.out]; rfl
      have c1 : w2.cell? ⟨wr.heap.size, 1, none⟩ = some (.int .u32 t) := by rw [cell_of_row _ _ _ _ _ _ B2.out]; rfl
      have c2 : w2.cell? ⟨wr.heap.size, 2, none⟩ = some (.bool d) := by rw [cell_of_row _ _ _ _ _ _ B2.out]; rfl
      have d0 := D2.out.1
      go_quiet (fail)
      go_wp2_with fail
      have K3 := Lib.hid (K2.out.trans ((Chg.refl w2 none).drewN nq))
      have B3 := Lib.hid (show (w2.drewN nq).heap[wr.heap.size]? = _ from B2.out)
      have hs3 : (w2.drewN nq).heap.size = wr.heap.size + 1 := hs2
      clear c0 c1 c2 d0
      generalize w2.drewN nq = w3 at *
      have I3 := Lib.hid (I.out.2.kept K3.out (by simp))
      obtain ⟨L, h8, hrg, hmc, hV⟩ := I3.out.sets k (by omega)
      have hnin := HP.out.2.1
      have hVW := HP.out.1
      have c1 : w3.cell? ⟨wr.heap.size, 1, none⟩ = some (.int .u32 t) := by rw [cell_of_row _ _ _ _ _ _ B3.out]; rfl
      have d1 := (HB.out.kept K3.out (by simp)).c1
      have e1 : seekI (part (List.take j R) k) t = -1 := by unfold seekI; rw [if_neg (fun h => hnin (seek_lt.1 h))]
      rw [hV] at e1
      have hWs := s.hW
      obtain ⟨V, hVV⟩ : ∃ V, V = part (List.take j R) k := ⟨_, rfl⟩
      rw [← hVV] at hmc hV hnin hVW e1
      have FI := Lib.hid (fun X (hX : Chg w3 X none) => find_any X w.heap.size (3 + k * 17) t L V.length (range_kept' hrg hX (by simp)) h8 (by omega) (cell_kept hmc hX (by simp)))
      rw [e1] at FI
      have hgm : ((V.length : Int) == (s.W : Int)) = false := by simp only [beq_eq_false_iff_ne]; omega
      have HV3 := Lib.hid (And.intro hVV (And.intro hnin hVW))
      have hcs : w.heap.size < w3.heap.size := by omega
      have hbs : b < w3.heap.size := by omega
      have hqs : wr.heap.size < w3.heap.size := by omega
      clear hrg hV hnin e1 hVV K2 B2 D2 hs2
      have M1 := Lib.hid (And.intro hmc (And.intro d1 c1))
      go_region_held (fun w' => w'.cell? ⟨w.heap.size, 3 + k * 17 + 16, none⟩ = some (.int .i64 V.length) ∧ w'.cell? ⟨b, 1, none⟩ = some (.int .i64 s.W) ∧ w'.cell? ⟨wr.heap.size, 1, none⟩ = some (.int .u32 t)) (go_keep) (first
        | (go_at_call 34; refine (FI.out w3.drew ((Chg.refl w3 none).drewN 1)).mono ?_; rintro e wa ⟨rfl, hC⟩
           have C4 := Lib.hid (((Chg.refl w3 none).drewN 1).trans hC)
           have hmc : wa.cell? ⟨w.heap.size, 3 + k * 17 + 16, none⟩ = some (.int .i64 V.length) := cell_kept M1.out.1 C4.out (by simp)
           have d1 : wa.cell? ⟨b, 1, none⟩ = some (.int .i64 s.W) := cell_kept M1.out.2.1 C4.out (by simp)
           have c1 : wa.cell? ⟨wr.heap.size, 1, none⟩ = some (.int .u32 t) := cell_kept M1.out.2.2 C4.out (by simp)
           clear hC))
      go_wp2_with fail
      have K4 := Lib.hid (K3.out.trans C4.out)
      have I4 := Lib.hid (I3.out.kept C4.out (by simp))
      have B4 := Lib.hid ((C4.out.block wr.heap.size hqs (by simp)).trans B3.out)
      clear hmc d1 c1
      obtain ⟨L4, h84, hrg4, hmc, hV4⟩ := I4.out.sets k (by omega)
      rw [← HV3.out.1] at hmc hV4
      obtain ⟨s0, s1⟩ := range_at hrg4 V.length (by omega)
      obtain ⟨cs4, hcs4, _⟩ := I4.out.row
      have f0 := frozen_of_row wa w.heap.size (3 + k * 17 + V.length * 2) _ _ hcs4
      have f1 := frozen_of_row wa w.heap.size (3 + k * 17 + V.length * 2 + 1) _ _ hcs4
      have f2 := frozen_of_row wa w.heap.size (3 + k * 17 + 16) _ _ hcs4
      have c1 : wa.cell? ⟨wr.heap.size, 1, none⟩ = some (.int .u32 t) := by rw [cell_of_row _ _ _ _ _ _ B4.out]; rfl
      have c2 : wa.cell? ⟨wr.heap.size, 2, none⟩ = some (.bool d) := by rw [cell_of_row _ _ _ _ _ _ B4.out]; rfl
      clear hrg4 hV4 hcs4 h84
      have hz8 := zero80
      have hl8 : (V.length : Int) < 8 := by have := HV3.out.2.2; omega
      have F5 := Lib.hid (show Chg w (((wa.drew.setCell ⟨w.heap.size, 3 + k * 17 + V.length * 2, none⟩ (.int .u32 t)).setCell ⟨w.heap.size, 3 + k * 17 + V.length * 2 + 1, none⟩ (.bool d)).setCell ⟨w.heap.size, 3 + k * 17 + 16, none⟩ (.int .i64 ((V.length : Int) + 1))) none ∧ CacheIs _ w.heap.size s (part (R.take (j + 1))) from by
        have I5 := I4.out.kept ((Chg.refl wa none).drewN 1) (by simp)
        have X5 := ((((I.out.1.trans K4.out).drewN 1).set_new (3 + k * 17 + V.length * 2) (.int .u32 t) (Nat.le_refl _)).set_new (3 + k * 17 + V.length * 2 + 1) (.bool d) (Nat.le_refl _)).set_new (3 + k * 17 + 16) (.int .i64 ((V.length : Int) + 1)) (Nat.le_refl _)
        have S5 := I5.sets k (by omega)
        rw [← HV3.out.1] at S5
        refine ⟨X5, ?_⟩
        have e : part (R.take (j + 1)) = put (part (R.take j)) k (V ++ [(t, d)]) := funext fun i => by
          rw [PNX.out i]
          by_cases h : k = i
          · subst h; rw [put_same, if_pos rfl, HV3.out.1]
          · rw [put_other _ _ (fun e => h e.symm), if_neg h, List.append_nil]
        rw [e]
        refine I5.upd (by omega) (((I5.row.set _ _).set _ _).set _ _) (fun x hx => ?_) (S5.push (by omega) (t, d)) (by simp; have := HV3.out.2.2; omega)
        rw [World.cell?_setCell_other _ _ _ _ (fun e => by injection e; omega), World.cell?_setCell_other _ _ _ _ (fun e => by injection e; omega), World.cell?_setCell_other _ _ _ _ (fun e => by injection e; omega)])
      go_still_tail 13, (by kernel_rfl)
      go_wp2_with fail
      go_roundw
      case rel => exact ⟨j + 1, by omega, by go_num, F5⟩
      case measure => simp [intOf]; omega
    · obtain ⟨cs, hcs, hsz⟩ := I.out.2.row
      obtain rfl : j = R.length := by omega
      have E1 := Lib.hid (show wr.rangeAt w.heap.size 0 cs.toList from fun i v hv => by
        rw [Nat.zero_add, cell_of_row _ _ _ _ _ _ hcs, ← Array.getElem?_toList]; exact hv)
      have E2 := Lib.hid (I.out.2.one hcs hsz)
      have E3 := Lib.hid hsz
      have HB := Lib.hid (HH.out.kept I.out.1 (by simp))
      have E4 := Lib.hid (HB.out.row.there 0 4355 (by omega))
      have E5 := Lib.hid (Chg.setCells cs.toList 0 wr (Chg.refl wr (some b)))
      have E6 := Lib.hid (I.out.2.moved (Row.setCells cs.toList 0 wr HB.out.row) (fun x hx => by
        have h1 := World.rangeAt_setCells_same wr b 0 cs.toList (by rw [Array.length_toList, hsz]; exact E4.out) x cs[x] (by rw [Array.getElem?_toList, Array.getElem?_eq_getElem])
        rw [Nat.zero_add] at h1
        rw [h1, cell_of_row _ _ _ _ _ _ hcs, Array.getElem?_eq_getElem]))
      have hTA : cs.toList.toArray = cs := by simp
      have HTA := Lib.hid hTA
      have TK := Lib.hid (show R.take R.length = R from List.take_length)
      clear hcs hsz hTA
      go_wp2_with (first
        | ((with_reducible show wpList _ _ _ (_ :: _) _ _); refine wpList_load_mid (op := ⟨some 98, .load 86 (.tmp 5), _, _, _, _⟩) rfl 86 (.tmp 5) rfl w.heap.size 0 rfl cs.toList _ E1.out Tryd.underlying86 rfl (by rw [Array.length_toList, E3.out]; exact info86) ?_; rw [HTA.out])
        | ((with_reducible show wpList _ _ _ (_ :: _) _ _); refine wpList_store_mid (op := ⟨none, .store 86 (.tmp 99) (.tmp 98), _, _, _, _⟩) rfl 86 (.tmp 99) (.tmp 98) rfl b 0 cs rfl rfl (by rw [E3.out]; exact E4.out) (by rw [E3.out]; exact info86) E2.out ?_; generalize wr.setCells b 0 cs.toList = w6 at *))
      go_ret
      exact ⟨rfl, by rw [← TK.out]; exact E6.out, (I.out.1.any _).trans E5.out⟩
end Go.Proofs.YtlmgiejemdifkaaDoor.Ca
