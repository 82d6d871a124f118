/- Dirty, Flush: contracts. No statement of the seat is proved here. -/
import Derived.Test.YtlmgiejemdifkaaDoorLines
namespace Go.Proofs.YtlmgiejemdifkaaDoor.Ca
open Go.RowKit Go.Proofs.YtlmgiejemdifkaaDoor.Kit
set_option linter.unusedSimpArgs false
set_option linter.unusedVariables false

/-! ### rows of lines -/
abbrev Rw := Nat × Ln
def lrows (f : Nat → List Ln) : Nat → List Rw
  | 0 => []
  | n + 1 => lrows f n ++ (f n).map (fun l => (n, l))
def rcells : List Rw → List Value
  | [] => []
  | r :: R => .int .u32 r.1 :: .int .u32 r.2.1 :: .bool r.2.2 :: rcells R
theorem rcells_append : ∀ R Q : List Rw, rcells (R ++ Q) = rcells R ++ rcells Q
  | [], Q => rfl
  | r :: R, Q => by simp [rcells, rcells_append R Q]
theorem lset_rows (n : Nat) : ∀ V : List Ln, lset n V = rcells (V.map (fun l => (n, l)))
  | [] => rfl
  | l :: V => by simp [lset, rcells, lset_rows n V]
theorem lall_rows (f : Nat → List Ln) : ∀ n, lall f n = rcells (lrows f n)
  | 0 => rfl
  | n + 1 => by rw [lall, lrows, rcells_append, lall_rows f n, lset_rows]
theorem lnum_rows (f : Nat → List Ln) : ∀ n, lnum f n = (lrows f n).length
  | 0 => rfl
  | n + 1 => by rw [lnum, lrows, List.length_append, List.length_map, lnum_rows f n]
def rnth (R : List Rw) (j : Nat) : Rw := R.getD j (0, (0, false))
theorem rcells_at : ∀ (R : List Rw) (j : Nat), j < R.length → (rcells R)[j * 3]? = some (.int .u32 (rnth R j).1) ∧ (rcells R)[j * 3 + 1]? = some (.int .u32 (rnth R j).2.1) ∧ (rcells R)[j * 3 + 2]? = some (.bool (rnth R j).2.2)
  | r :: R, 0, _ => ⟨rfl, rfl, rfl⟩
  | r :: R, j + 1, h => by
    have := rcells_at R j (by simpa using h)
    rw [show (j + 1) * 3 = j * 3 + 1 + 1 + 1 by omega]
    exact this
def dirts (R : List Rw) : Nat := R.countP (fun r => r.2.2)
theorem dirts_next (R : List Rw) (j : Nat) (h : j < R.length) : dirts (R.take (j + 1)) = dirts (R.take j) + (if (rnth R j).2.2 then 1 else 0) := by
  have e : rnth R j = R[j] := by simp [rnth, h]
  unfold dirts
  rw [List.take_succ_eq_append_getElem h, List.countP_append, e]
  cases hb : (R[j]).2.2 <;> simp [hb]
theorem dirts_le (R : List Rw) : dirts R ≤ R.length := List.countP_le_length
theorem zero51 : ∀ w, (zeroValue 51).run Tryd.prog w = .ok (.agg #[.int .u32 0, .int .u32 0, .bool false]) w := fun _ => by kernel_rfl
set_option maxRecDepth 4000 in
set_option maxHeartbeats 4000000 in
theorem dirty_any (w : World) (b : Nat) (s : Shp) (f : Nat → List Ln) (h : CacheIs w b s f) :
    Calls Tryd.prog 31 #[.pointer (some ⟨b, 0, none⟩)] w fun e w' => e = .returned (.int .i64 (dirts (lrows f s.S))) ∧ Chg w w' none := by
  have LA := Lib.hid (lines_any w b s f h)
  have hn1 : lnum f s.S ≤ 256 * 8 := Nat.le_trans (lnum_le h.len s.S) (Nat.mul_le_mul s.Sle.2 s.hW.2)
  rw [lnum_rows] at hn1
  go_enter Tryd.func31, Tryd.ntmps31
  go_wp2_with fail
  refine LA.out.mono ?_
  rintro e w1 ⟨v, rfl, hown, hC⟩
  rw [lall_rows, lnum_rows] at hown
  obtain ⟨R, hRR⟩ : ∃ R, R = lrows f s.S := ⟨_, rfl⟩
  rw [← hRR] at hown hn1
  have HRR := Lib.hid hRR
  clear hRR
  have hz := zero51
  rcases hown.2 with ⟨hv, h0⟩ | ⟨g, cap, cur, hv, hgb, hrow, hnc, hcm, hcs, htk⟩
  · subst hv
    have hR : R = [] := List.length_eq_zero_iff.1 h0
    have C1 := Lib.hid hC
    subst hR
    clear hown h0 hC LA hn1
    go_wp2_with fail
    go_loopw [3, 5, 9] (fun n _ i wr => n = .int .i64 0 ∧ i = .int .i64 0 ∧ wr = w1) (fun _ _ _ _ => 0)
    case atStart => exact ⟨rfl, rfl, rfl⟩
    case round =>
      obtain ⟨rfl, rfl, rfl⟩ := hrel
      go_wp2
      go_ret
      exact ⟨by rw [← HRR.out]; rfl, C1.out⟩
  · subst hv
    have C1 := Lib.hid hC
    have RW := Lib.hid (And.intro hrow htk)
    have I0 := Lib.hid (Chg.refl w1 none)
    clear hown hC LA hrow hcs htk h
    go_wp2_with fail
    go_loopw [3, 5, 9] (fun n _ i wr => ∃ j : Nat, j ≤ R.length ∧ i = .int .i64 j ∧ n = .int .i64 (dirts (R.take j)) ∧ Hid (Chg w1 wr none)) (fun _ _ i _ => R.length - (intOf i).toNat)
    case atStart => exact ⟨0, by omega, rfl, rfl, I0⟩
    case round =>
      obtain ⟨j, hj, rfl, rfl, I⟩ := hrel
      clear I0
      by_cases hlt : j < R.length
      · have hr := (I.out.block g (Array.getElem?_eq_some_iff.1 RW.out.1).1 (by simp)).trans RW.out.1
        have at_ : ∀ i u, (rcells R)[j * 3 + i]? = some u → i < 3 → wr.cell? ⟨g, j * 3 + i, none⟩ = some u := fun i u hu hi => by
          rw [cell_of_row _ _ _ _ _ _ hr, ← Array.getElem?_toList]
          rw [← RW.out.2, List.getElem?_take, if_pos (by omega)] at hu
          exact hu
        obtain ⟨a0, a1, a2⟩ := rcells_at R j hlt
        have c0 := at_ 0 _ a0 (by decide)
        have c1 := at_ 1 _ a1 (by decide)
        have c2 := at_ 2 _ a2 (by decide)
        rw [Nat.add_zero] at c0
        have DN := Lib.hid (dirts_next R j hlt)
        have hdl : dirts (R.take j) ≤ 2048 := Nat.le_trans (dirts_le _) (by simp; omega)
        clear hr at_ a0 a1 a2
        generalize rnth R j = r at *
        obtain ⟨d, hd⟩ : ∃ d, d = dirts (R.take j) := ⟨_, rfl⟩
        rw [← hd] at hdl DN ⊢
        have HD := Lib.hid hd
        have K := Lib.hid (I.out.alloc (.cells #[.int .u32 r.1, .int .u32 r.2.1, .bool r.2.2] 51))
        have hwd := wrap_small (x := (d : Int) + 1) (by omega) (by omega)
        clear hd
        cases hb : r.2.2 with
        | true =>
          have e1 := Lib.hid (show dirts (R.take (j + 1)) = d + 1 by rw [DN.out, hb]; rfl)
          rw [hb] at c2
          rw [hb] at K
          clear hb DN
          go_wp2
          go_roundw
          case rel => exact ⟨j + 1, by omega, by go_num, by rw [e1.out]; simp, K⟩
          case measure => simp [intOf]; omega
        | false =>
          have e1 := Lib.hid (show dirts (R.take (j + 1)) = d by rw [DN.out, hb]; rfl)
          rw [hb] at c2
          rw [hb] at K
          clear hb DN
          go_wp2
          go_roundw
          case rel => exact ⟨j + 1, by omega, by go_num, by rw [e1.out], K⟩
          case measure => simp [intOf]; omega
      · have hjl : decide (j < R.length) = false := by simp only [decide_eq_false_iff_not]; omega
        have E := Lib.hid (show R.take j = R from List.take_of_length_le (by omega))
        clear hlt
        go_wp2
        go_ret
        exact ⟨by rw [E.out, ← HRR.out]; rfl, C1.out.trans I.out⟩

/-! ### Flush -/
theorem zero84 : Tryd.zeroCells84 = (List.replicate 256 zset).flatten.toArray := by kernel_rfl
theorem info84 : (Tryd.prog.info? 84).map (·.size) = some Tryd.zeroCells84.size := by kernel_rfl
theorem zset_one : ∀ v ∈ zset, v.oneCell' = true := by
  intro v hv
  rw [zset_flat] at hv
  rcases List.mem_append.1 hv with h | h
  · exact flat_one _ v h
  · rw [List.mem_singleton.1 h]; rfl
theorem one84 : Tryd.zeroCells84.all (·.oneCell') = true := by
  rw [Array.all_eq_true_iff_forall_mem]
  intro v hv
  rw [zero84, List.mem_toArray, List.mem_flatten] at hv
  obtain ⟨l, hl, hv⟩ := hv
  rw [List.eq_of_mem_replicate hl] at hv
  exact zset_one v hv
theorem size84 : Tryd.zeroCells84.size = 4352 := by rw [zero84, List.size_toArray, flatten_len]
theorem flush_is {w : World} {b : Nat} {s : Shp} {f : Nat → List Ln} (h : CacheIs w b s f) : CacheIs (w.setCells b 3 Tryd.zeroCells84.toList) b s (fun _ => []) := by
  have hz : Tryd.zeroCells84.toList = (List.replicate 256 zset).flatten := by rw [zero84]
  rw [hz]
  have hlen : (List.replicate 256 zset).flatten.length = 4352 := flatten_len 256
  have ho : ∀ x, x < 3 → (w.setCells b 3 (List.replicate 256 zset).flatten).cell? ⟨b, x, none⟩ = w.cell? ⟨b, x, none⟩ := fun x hx => World.cell?_setCells_out b _ 3 w ⟨b, x, none⟩ (fun _ _ => .inl hx)
  have hin := World.rangeAt_setCells_same w b 3 (List.replicate 256 zset).flatten (h.row.there 3 _ (by rw [hlen]; decide))
  have at_ : ∀ k j u, k < 256 → j < 17 → zset[j]? = some u → (w.setCells b 3 (List.replicate 256 zset).flatten).cell? ⟨b, 3 + k * 17 + j, none⟩ = some u := fun k j u hk hj hu => by
    have := hin (k * 17 + j) u (by rw [flatten_get 256 k j hk hj]; exact hu)
    rw [show 3 + k * 17 + j = 3 + (k * 17 + j) by omega]; exact this
  refine ⟨Row.setCells _ 3 w h.row, by rw [ho 0 (by decide)]; exact h.c0, by rw [ho 1 (by decide)]; exact h.c1, by rw [ho 2 (by decide)]; exact h.c2, fun k hk => ⟨zln, rfl, fun j v hv => ?_, ?_, rfl⟩, fun k => Nat.zero_le _⟩
  · have hj : j < 16 := (List.getElem?_eq_some_iff.1 hv).1
    exact at_ k j v hk (by omega) (by rw [zset_flat, List.getElem?_append_left hj]; exact hv)
  · exact at_ k 16 _ hk (by decide) rfl
set_option maxRecDepth 4000 in
set_option maxHeartbeats 4000000 in
theorem flush_any (w : World) (b : Nat) (s : Shp) (f : Nat → List Ln) (h : CacheIs w b s f) :
    Calls Tryd.prog 19 #[.pointer (some ⟨b, 0, none⟩)] w fun e w' => e = .returned (.tuple #[.int .i64 (s.S + dirts (lrows f s.S) * 8 : Nat), .int .i64 (dirts (lrows f s.S))]) ∧ CacheIs w' b s (fun _ => []) ∧ Chg w w' (some b) := by
  have DA := Lib.hid (dirty_any w b s f h)
  have HH := Lib.hid h
  have hSs := s.Sle
  have hn : dirts (lrows f s.S) ≤ 2048 := Nat.le_trans (dirts_le _) (by rw [← lnum_rows]; exact Nat.le_trans (lnum_le h.len s.S) (Nat.mul_le_mul s.Sle.2 s.hW.2))
  generalize dirts (lrows f s.S) = n at *
  have hw1 := wrap_small (x := (s.S : Int)) (by omega) (by omega)
  have hw2 := wrap_small (x := (n : Int) * 8) (by omega) (by omega)
  have hw3 := wrap_small (x := (s.S : Int) + (n : Int) * 8) (by omega) (by omega)
  clear h
  go_enter Tryd.func19, Tryd.ntmps19
  go_wp2_with fail
  refine DA.out.mono ?_
  rintro e w1 ⟨rfl, hC⟩
  have H1 := Lib.hid (HH.out.kept hC (by simp))
  have C1 := Lib.hid hC
  have HT := Lib.hid (H1.out.row.there 3 Tryd.zeroCells84.size (by rw [size84]; decide))
  have F1 := Lib.hid (flush_is H1.out)
  have K1 := Lib.hid (Chg.setCells Tryd.zeroCells84.toList 3 w1 (Chg.refl w1 (some b)))
  clear hC
  go_wp2_with ((with_reducible show wpList _ _ _ (_ :: _) _ _); refine wpList_store_mid (op := ⟨none, .store 84 (.tmp 9) (.tmp 7), _, _, _, _⟩) rfl 84 (.tmp 9) (.tmp 7) rfl b 3 Tryd.zeroCells84 rfl rfl HT.out info84 one84 ?_; have d0 := F1.out.c0; generalize w1.setCells b 3 Tryd.zeroCells84.toList = w2 at *)
  go_ret2
  exact ⟨by simp, F1.out, (C1.out.any _).trans K1.out⟩
end Go.Proofs.YtlmgiejemdifkaaDoor.Ca
