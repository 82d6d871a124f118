/- Load of the controller: its contract; '==' of two states. No statement of the seat is proved here. -/
import Derived.Test.YtpedciapkalhgaaDoorOnceA
namespace Go.Proofs.YtpedciapkalhgaaDoor.Gk
open Go.RowKit Go.Proofs.YtpedciapkalhgaaDoor.Kit
set_option linter.unusedSimpArgs false
set_option linter.unusedVariables false

/-! ### '==' of two states -/
theorem mapM_ex {α β : Type} (f : α → Option β) : ∀ l : List α, (∀ x ∈ l, ∃ y, f x = some y) → ∃ ys, l.mapM f = some ys
  | [], _ => ⟨[], rfl⟩
  | a :: l, h => by
    obtain ⟨y, hy⟩ := h a (by simp)
    obtain ⟨ys, hys⟩ := mapM_ex f l (fun x hx => h x (by simp [hx]))
    exact ⟨y :: ys, by simp [List.mapM_cons, hy, hys]⟩
theorem wf_of_i64 {n : Int} (h : i64ok n) : (Lit.int .i64 n).wf = true := by
  simpa [Lit.wf, IntKind.min, IntKind.max, IntKind.signed, IntKind.bits, i64ok] using h
theorem wf_of_u32 {n : Nat} (h : n < 4294967296) : (Lit.int .u32 n).wf = true := by
  have : (n : Int) ≤ 4294967295 := by omega
  simpa [Lit.wf, IntKind.min, IntKind.max, IntKind.signed, IntKind.bits] using this
theorem keys3 {n : Int} (h : i64ok n) : Tryd.prog.keyLits 1 3 [.int .i64 n] = some [.int .i64 n] := by
  unfold Program.keyLits; rw [Tryd.underlying3]; simp [wf_of_i64 h]
theorem keys30 {n : Nat} (h : n < 4294967296) : Tryd.prog.keyLits 2 30 [.int .u32 n] = some [.int .u32 n] := by
  unfold Program.keyLits; rw [Tryd.underlying30]; simp [wf_of_u32 h]
theorem keys37 (r : List Int) (hl : r.length = 32) (hr : ∀ i, i < 32 → i64ok (nth r i)) : ∃ ls, Tryd.prog.keyLits 2 37 (r.map (Value.int .i64)) = some ls := by
  unfold Program.keyLits
  rw [Tryd.underlying37]
  simp only [List.length_map, hl, c37, if_true]
  obtain ⟨ys, hys⟩ := mapM_ex (fun i => Tryd.prog.keyLits 1 3 (((r.map (Value.int .i64)).drop (i * Tryd.prog.cellsOf 3)).take (Tryd.prog.cellsOf 3))) (List.range 32) (fun i hi => by
    have hi' := List.mem_range.1 hi
    refine ⟨[.int .i64 (nth r i)], ?_⟩
    rw [c3, Nat.mul_one]
    have : ((r.map (Value.int .i64)).drop i).take 1 = [.int .i64 (nth r i)] := by
      rw [List.drop_eq_getElem_cons (by simp; omega)]
      simp [nth, List.getElem?_eq_getElem (show i < r.length by omega)]
    rw [this]
    exact keys3 (hr i hi'))
  exact ⟨ys.flatten, by rw [hys]; rfl⟩
theorem gl_drop0 (r : List Int) (hl : r.length = 32) (p m : Nat) : ((gcells r p m).toList.drop 0).take 32 = r.map (Value.int .i64) := by
  simp [gcells, List.take_append, hl, List.take_of_length_le]
theorem gl_drop32 (r : List Int) (hl : r.length = 32) (p m : Nat) : ((gcells r p m).toList.drop 32).take 1 = [.int .u32 p] := by
  simp [gcells, List.drop_append, hl]
theorem gl_drop33 (r : List Int) (hl : r.length = 32) (p m : Nat) : ((gcells r p m).toList.drop 33).take 1 = [.int .u32 m] := by
  simp [gcells, List.drop_append, hl, List.drop_of_length_le]
theorem keys39 (r : List Int) (p m : Nat) (hl : r.length = 32) (hp : p < 4294967296) (hm : m < 4294967296) (hr : ∀ i, i < 32 → i64ok (nth r i)) : ∃ ls, Tryd.prog.keyLits 3 39 (gcells r p m).toList = some ls := by
  obtain ⟨ls, hls⟩ := keys37 r hl hr
  unfold Program.keyLits
  rw [Tryd.underlying39]
  simp only [Array.length_toList, gcells_size r hl, c39]
  rw [if_pos ⟨trivial, by kernel_rfl⟩]
  simp only [List.mapM_cons, List.mapM_nil, c37, c30, gl_drop0 r hl, gl_drop32 r hl, gl_drop33 r hl, hls, keys30 hp, keys30 hm]
  exact ⟨_, rfl⟩
theorem eq39 (r : List Int) (p m : Nat) (hl : r.length = 32) (hp : p < 4294967296) (hm : m < 4294967296) (hr : ∀ i, i < 32 → i64ok (nth r i)) (w : World) :
    (Op.equalIn 10000 39 (.agg (gcells r p m)) (.agg (gcells r p m))).run Tryd.prog w = .ok true w := by
  obtain ⟨l, hk⟩ := keys39 r p m hl hp hm hr
  have hf : (Value.agg (gcells r p m)).formed Tryd.prog 39 = true := by
    simp only [Value.formed, Tryd.underlying39, gcells_size r hl, c39]; rfl
  obtain ⟨q, hq, h⟩ := run_equalIn_deep (P := Tryd.prog) 9997 3 39 (by kernel_rfl) w 3 3 (.agg (gcells r p m)) (.agg (gcells r p m)) l l hf hf hk hk
  rw [hq, h.2 rfl]

/-! ### Load -/
theorem lt_lift {n : Nat} (h : n < 4294967296) : ((n : Nat) : Int) < 4294967296 := by omega
theorem gc_range {w : World} {b : Nat} {r : List Int} {p m : Nat} {t : TypeId} {s : Nat × Nat} (hl : r.length = 32) (h : w.heap[b]? = some (.cells (gcells r p m) t s)) : w.rangeAt b 0 (r.map (Value.int .i64)) := by
  intro j v hv
  have hj : j < 32 := by have := (List.getElem?_eq_some_iff.1 hv).1; simpa [hl] using this
  rw [Nat.zero_add, cell_of_row w b j _ _ _ h, gcells_route hl hj]
  simp [List.getElem?_map, List.getElem?_eq_getElem (show j < r.length by rw [hl]; exact hj)] at hv
  rw [← hv]; simp [nth, List.getD_eq_getElem?_getD, List.getElem?_eq_getElem (show j < r.length by rw [hl]; exact hj)]
theorem gc_all {w : World} {b : Nat} {r : List Int} {p m : Nat} {t : TypeId} {s : Nat × Nat} (h : w.heap[b]? = some (.cells (gcells r p m) t s)) : w.rangeAt b 0 (gcells r p m).toList := by
  intro j v hv
  rw [Nat.zero_add, cell_of_row w b j _ _ _ h]
  simpa using hv
theorem Chg.setRow {w w1 : World} {b : Nat} (h : Chg w w1 b) (cs : Array Value) : Chg w (w1.setRow b cs) b :=
  ⟨h.os, h.tape, h.output, by have := h.size; simpa using this, fun i hi hn => by rw [setRow_other _ _ _ _ (fun e => hn (by rw [e]))]; exact h.block i hi hn⟩
set_option maxHeartbeats 1000000 in
theorem load_any (w : World) (b : Nat) (r0 : List Int) (p0 m0 : Nat) (h : GicAt w b r0 p0 m0) (r : List Int) (p m : Nat) (hl : r.length = 32) (hp : p < 4294967296) (hm : m < 4294967296)
    (hr : ∀ i, i < 32 → nth r i = 0 ∨ isC (nth r i) = true) (hz : (p ||| m) &&& own r 0 = 0) :
    Calls Tryd.prog 22 #[.pointer (some ⟨b, 0, none⟩), .agg (gcells r p m)] w fun e w' => e = .returned (.int .i64 0) ∧ GicAt w' b r p m ∧ Chg w w' b := by
  have HL := Lib.hid hl
  have HP := Lib.hid hp
  have HM := Lib.hid hm
  have HR := Lib.hid hr
  have hne : b ≠ w.heap.size := by have := h.lt; omega
  have H1 := Lib.hid (heap_alloc_last w (.cells (gcells r p m) 39))
  have G1 := Lib.hid (h.kept (Chg.alloc (Chg.refl w w.heap.size) (.cells (gcells r p m) 39)) (fun e => hne (Option.some.inj e).symm))
  have C1 := Lib.hid ((Chg.refl w b).alloc (.cells (gcells r p m) 39))
  have hs1 : w.heap.size < (w.alloc (.cells (gcells r p m) 39)).heap.size := by simp
  have hor : bits .or .u32 (p : Int) (m : Int) = ((p ||| m : Nat) : Int) := u32_or_nat p m hp hm
  have hand : bits .and .u32 ((p ||| m : Nat) : Int) ((own r 0 : Nat) : Int) = 0 := by
    rw [u32_and_nat _ _ (Nat.or_lt_two_pow (n := 32) hp hm) (own_lt r 0), hz]; rfl
  have HOR := Lib.hid hor
  have HAND := Lib.hid hand
  clear h hl hp hm hr hz hor hand
  go_enter Tryd.func22, Tryd.ntmps22
  go_wp2_with (refine wpList_load_mid (op := ⟨some 9, _, _, _, _, _⟩) rfl 37 (.tmp 8) rfl w.heap.size 0 rfl (r.map (Value.int .i64)) _ (gc_range HL.out H1.out) Tryd.underlying37 rfl (by rw [List.length_map, HL.out]; kernel_rfl) ?_)
  generalize w.alloc (.cells (gcells r p m) 39) = w1 at *
  generalize w.heap.size = sb at *
  go_loop [6, 10] (fun _ i => ∃ k : Nat, k ≤ 32 ∧ i = .int .i64 k) (fun _ i => 32 - (intOf i).toNat)
  case atStart => exact ⟨0, by omega, rfl⟩
  case round =>
    obtain ⟨k, hk, rfl⟩ := hrel
    by_cases hlt : k < 32
    · have hix := index37 r HL.out k hlt w1
      rcases HR.out k hlt with h0 | hi
      · rw [h0] at hix
        go_wp2
        go_round
        case rel => exact ⟨k + 1, by omega, by go_num⟩
        case measure => simp [intOf]; omega
      · have h0 : (nth r k != 0) = true := by simpa using isC_pos hi
        go_wp2_with (go_at_call 37; refine (is_any _ _).mono ?_; rintro e w' ⟨rfl, rfl⟩)
        go_round
        case rel => exact ⟨k + 1, by omega, by go_num⟩
        case measure => simp [intOf]; omega
    · have hcp : w1.cell? ⟨sb, 32, none⟩ = some (.int .u32 p) := by rw [cell_of_row _ _ _ _ _ _ H1.out]; exact gcells_p HL.out
      have hcm : w1.cell? ⟨sb, 33, none⟩ = some (.int .u32 m) := by rw [cell_of_row _ _ _ _ _ _ H1.out]; exact gcells_m HL.out
      have hz := zero67
      have hd : decide ((k : Int) < 32) = false := by simp only [decide_eq_false_iff_not]; omega
      go_wp2_with ((with_reducible show wpList _ _ _ (_ :: _) _ _); first | refine wpList_load_mid (op := ⟨some 22, _, _, _, _, _⟩) rfl 37 (.tmp 21) rfl sb 0 rfl (r.map (Value.int .i64)) _ (gc_range HL.out H1.out) Tryd.underlying37 rfl (by rw [List.length_map, HL.out]; kernel_rfl) ?_ | refine wpList_of_wp (o := ⟨some 27, _, _, _, _, none⟩) rfl (Kit.wp_build 67 _ rfl _ (by simp [Act.eval]) (.agg (gcells r p m)) (build67 r HL.out p m _) ?_) | refine wpList_store_new (o := ⟨none, .store 67 (.tmp 7) (.tmp 27), _, _, _, _⟩) rfl 67 (.tmp 7) (.tmp 27) rfl gz (gcells r p m) 67 rfl rfl (by rw [gcells_size r HL.out]; exact info67) (by rw [gcells_size r HL.out]; rfl) (gcells_one r p m) ?_)
      have hnb : b ≠ w1.heap.size := by have := G1.out.lt; omega
      have hns : sb ≠ w1.heap.size := by omega
      have G2 := Lib.hid (G1.out.kept (Chg.alloc (Chg.refl w1 w1.heap.size) (.cells (gcells r p m) 67)) (fun e => hnb (Option.some.inj e).symm))
      have C2 := Lib.hid (C1.out.alloc (.cells (gcells r p m) 67))
      have N2 := Lib.hid (show GicAt (w1.alloc (.cells (gcells r p m) 67)) w1.heap.size r p m from ⟨heap_alloc_last w1 _, HL.out, HP.out, HM.out⟩)
      have H2 := Lib.hid ((heap_alloc_old w1 (.cells (gcells r p m) 67) hs1).trans H1.out)
      clear hcp hcm H1 G1 C1 hz hs1 hnb hns
      generalize w1.alloc (.cells (gcells r p m) 67) = w2 at *
      generalize w1.heap.size = nb at *
      have hcp : w2.cell? ⟨sb, 32, none⟩ = some (.int .u32 p) := by rw [cell_of_row _ _ _ _ _ _ H2.out]; exact gcells_p HL.out
      have hcm : w2.cell? ⟨sb, 33, none⟩ = some (.int .u32 m) := by rw [cell_of_row _ _ _ _ _ _ H2.out]; exact gcells_m HL.out
      have hor := HOR.out
      have hand := HAND.out
      go_quiet ((go_at_call 35; exact Calls.quiet_of_same ((own_any _ nb r p m 0 (N2.out.drewN _)).mono (fun e w' h => ⟨h.1, h.2.symm⟩))))
      go_wp2_with ((with_reducible show wpList _ _ _ (_ :: _) _ _); first | refine wpList_load_mid (op := ⟨some 37, _, _, _, _, _⟩) rfl 67 (.tmp 7) rfl nb 0 rfl (gcells r p m).toList _ (gc_all (N2.out.drewN _).heap) Tryd.underlying67 rfl (by rw [Array.length_toList, gcells_size r HL.out]; exact info67) ?_ | refine wpList_store_row (o := ⟨none, .store 67 (.tmp 38) (.tmp 37), _, _, _, _⟩) rfl 67 (.tmp 38) (.tmp 37) rfl b (gcells r p m) rfl rfl 67 (gcells r0 p0 m0) (G2.out.drewN _).heap (by rw [gcells_size r HL.out]; exact info67) (by rw [gcells_size r HL.out, gcells_size r0 G2.out.len]) (gcells_one r p m) ?_)
      go_ret
      exact ⟨rfl, ⟨setRow_heap _ _ _ _ _ _ (G2.out.drewN _).heap, HL.out, HP.out, HM.out⟩, (C2.out.drewN _).setRow _⟩
end Go.Proofs.YtpedciapkalhgaaDoor.Gk
