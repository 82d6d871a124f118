/- The document's controller: Own, Told, Load; the controller's Load where it refuses. No statement of the seat is proved here. -/
import Derived.Test.YtpedciapkalhgaaDoorRefD
import Derived.Test.YtpedciapkalhgaaDoorLoad
namespace Go.Proofs.YtpedciapkalhgaaDoor.Gk
open Go.RowKit Go.Proofs.YtpedciapkalhgaaDoor.Kit
set_option linter.unusedSimpArgs false
set_option linter.unusedVariables false

/-! ### Own -/
set_option maxHeartbeats 2000000 in
theorem rown_any (w : World) (b x y z : Nat) (r : List Int) (p m : Nat) (c : Int) (h : RAt w b x y z r p m) :
    Calls Tryd.prog 47 #[.pointer (some ⟨b, 0, none⟩), .int .i64 c] w fun e w' => ∃ v, e = .returned v ∧ Ow w' w.heap.size v (Lc r c 32) ∧ Below w.heap.size w w' := by
  have H := Lib.hid h
  have hbl := h.ltb
  clear h
  obtain ⟨i0, hi, hz0, hz1, hz2⟩ := info_parts info3
  have I0 := Lib.hid (show Below w.heap.size w w ∧ Ow w w.heap.size (.slice none 0 0) (Lc r c 0) from ⟨Below.refl _ _, World.ownsRow_nil _ _ _ _⟩)
  go_enter Tryd.func47, Tryd.ntmps47
  go_wp2_with fail
  go_loopw [5, 6] (fun v i wr => ∃ k : Nat, k ≤ 32 ∧ i = .int .i64 k ∧ Hid (Below w.heap.size w wr ∧ Ow wr w.heap.size v (Lc r c k))) (fun _ i _ => 32 - (intOf i).toNat)
  case atStart => exact ⟨0, by omega, rfl, I0⟩
  case round =>
    obtain ⟨k, hk, rfl, I⟩ := hrel
    clear I0
    by_cases hlt : k < 32
    · have HW := Lib.hid (H.out.below I.out.1)
      have d0 := HW.out.c0
      have cx := HW.out.cx k hlt
      have hws := I.out.1.size
      by_cases hc : nth r k = c
      · have hd : (nth r k == c) = true := by simp [hc]
        have NX := Lib.hid (Lc_yes hc)
        have O2 := Lib.hid (I.out.2.alloc (.cells #[.int .i64 k] 3))
        have K2 := Lib.hid (I.out.1.alloc I.out.1.size (.cells #[.int .i64 k] 3))
        have TN := Lib.hid (fun (q : Nat) (u : Value) (hu : ([.int .i64 k] : List Value)[q]? = some u) => show (wr.alloc (.cells #[.int .i64 k] 3)).cell? ((⟨wr.heap.size, 0, none⟩ : Addr).add q) = some u by
          rw [Addr.add_mid, Nat.zero_add, cell_of_row _ _ _ _ _ _ (heap_alloc_last wr (.cells #[.int .i64 k] 3))]
          show ([.int .i64 k] : List Value).toArray[q]? = some u
          rw [List.getElem?_toArray]; exact hu)
        have hl2 := Lc_le r c k
        clear hc
        go_wp2_with (at_builtin; refine wpList_append_own _ rfl (.tmp 20) (.tmp 22) 22 rfl w.heap.size 3 i0 (.int .i64 0) 1 8 Tryd.underlying22 hi hz0 hz1 hz2 rfl (by decide) _ (Lc r c k).length (ints (Lc r c k)) rfl O2.out ⟨wr.heap.size, 0, none⟩ 1 1 [.int .i64 k] rfl rfl TN.out ?qa ?qb ?qc ?qd ?_)
        case qa =>
          intro u hu
          simp only [List.mem_cons, List.not_mem_nil, or_false] at hu
          subst hu; rfl
        case qb => simp only [maxLen]; omega
        case qc => omega
        case qd => simp; omega
        intro v7 w8 hown hg hnil
        have F9 := Lib.hid (show Below w.heap.size w w8 ∧ Ow w8 w.heap.size v7 (Lc r c (k + 1)) from
          ⟨K2.out.grown hg K2.out.size (fun g e => (I.out.2.lt g e).1), by
            rw [NX.out]
            show w8.ownsRow _ _ _ _ (Lc r c k ++ [k]).length (ints (Lc r c k ++ [k]))
            rw [List.length_append, ints, List.map_append]; exact hown⟩)
        clear hown hg hnil
        go_wp2
        go_roundw
        case rel => exact ⟨k + 1, by omega, by go_num, F9⟩
        case measure => simp [intOf]; omega
      · have hd : (nth r k == c) = false := by simp [hc]
        have J9 := Lib.hid (show Below w.heap.size w wr ∧ Ow wr w.heap.size u5 (Lc r c (k + 1)) from by rw [Lc_no hc]; exact I.out)
        clear hc
        go_wp2
        go_roundw
        case rel => exact ⟨k + 1, by omega, by go_num, J9⟩
        case measure => simp [intOf]; omega
    · obtain rfl : k = 32 := by omega
      go_wp2
      go_ret
      exact ⟨_, rfl, I.out.2, I.out.1⟩

/-! ### Told -/
set_option maxHeartbeats 2000000 in
theorem rtold_any (w : World) (b x y z : Nat) (r : List Int) (p m : Nat) (h : RAt w b x y z r p m) :
    Calls Tryd.prog 49 #[.pointer (some ⟨b, 0, none⟩)] w fun e w' => e = .returned (.tuple #[.int .u32 p, .int .u32 m]) ∧ w = w' := by
  have E1 : bitsTo p.testBit 32 = p := bitsTo_eq h.hp fun _ _ => rfl
  have E2 : bitsTo m.testBit 32 = m := bitsTo_eq h.hm fun _ _ => rfl
  have d1 := h.c1
  have d2 := h.c2
  have H := Lib.hid h
  have HE := Lib.hid (And.intro E1 E2)
  clear h E1 E2
  go_enter Tryd.func49, Tryd.ntmps49
  go_wp2_with fail
  go_loop [4, 5, 6] (fun u v i => ∃ k : Nat, k ≤ 32 ∧ i = .int .i64 k ∧ u = .int .u32 (bitsTo p.testBit k) ∧ v = .int .u32 (bitsTo m.testBit k)) (fun _ _ i => 32 - (intOf i).toNat)
  case atStart => exact ⟨0, by omega, rfl, rfl, rfl⟩
  case round =>
    obtain ⟨k, hk, rfl, rfl, rfl⟩ := hrel
    by_cases hlt : k < 32
    · have cy := H.out.cy k hlt
      have cz := H.out.cz k hlt
      have A := Lib.hid (add_u32 p.testBit k hlt)
      have B := Lib.hid (add_u32 m.testBit k hlt)
      cases ha : p.testBit k <;> cases hb : m.testBit k
      · have P := Lib.hid (bitsTo_no ha)
        have M := Lib.hid (bitsTo_no hb)
        rw [ha] at cy; rw [hb] at cz
        clear ha hb
        go_wp2
        go_round
        case rel => exact ⟨k + 1, by omega, by go_num, by rw [P.out], by rw [M.out]⟩
        case measure => simp [intOf]; omega
      · have P := Lib.hid (bitsTo_no ha)
        have M := Lib.hid (bitsTo_yes hb)
        rw [ha] at cy; rw [hb] at cz
        clear ha hb
        go_wp2
        go_round
        case rel => exact ⟨k + 1, by omega, by go_num, by rw [P.out], by rw [B.out, M.out]⟩
        case measure => simp [intOf]; omega
      · have P := Lib.hid (bitsTo_yes ha)
        have M := Lib.hid (bitsTo_no hb)
        rw [ha] at cy; rw [hb] at cz
        clear ha hb
        go_wp2
        go_round
        case rel => exact ⟨k + 1, by omega, by go_num, by rw [A.out, P.out], by rw [M.out]⟩
        case measure => simp [intOf]; omega
      · have P := Lib.hid (bitsTo_yes ha)
        have M := Lib.hid (bitsTo_yes hb)
        rw [ha] at cy; rw [hb] at cz
        clear ha hb
        go_wp2
        go_round
        case rel => exact ⟨k + 1, by omega, by go_num, by rw [A.out, P.out], by rw [B.out, M.out]⟩
        case measure => simp [intOf]; omega
    · obtain rfl : k = 32 := by omega
      go_wp2
      go_ret2
      exact ⟨by rw [HE.out.1, HE.out.2]; rfl, rfl⟩

/-! ### Load -/
def okC (c : Int) : Prop := c = 0 ∨ isC c = true
set_option maxHeartbeats 2000000 in
theorem load_bad (w : World) (b : Nat) (r0 : List Int) (p0 m0 : Nat) (h : GicAt w b r0 p0 m0) (r : List Int) (p m : Nat) (hl : r.length = 32)
    (j : Nat) (hj : j < 32) (hb : ¬ okC (nth r j)) :
    Calls Tryd.prog 22 #[.pointer (some ⟨b, 0, none⟩), .agg (gcells r p m)] w fun e w' => e = .returned (.int .i64 91) ∧ Below w.heap.size w w' := by
  have HL := Lib.hid hl
  have HB := Lib.hid hb
  have H1 := Lib.hid (heap_alloc_last w (.cells (gcells r p m) 39))
  have C1 := Lib.hid ((Below.refl w.heap.size w).alloc (Nat.le_refl _) (.cells (gcells r p m) 39))
  clear h hl hb
  go_enter Tryd.func22, Tryd.ntmps22
  go_wp2_with (refine wpList_load_mid (op := ⟨some 9, _, _, _, _, _⟩) rfl 37 (.tmp 8) rfl w.heap.size 0 rfl (r.map (Value.int .i64)) _ (gc_range HL.out H1.out) Tryd.underlying37 rfl (by rw [List.length_map, HL.out]; kernel_rfl) ?_)
  generalize w.alloc (.cells (gcells r p m) 39) = w1 at *
  go_loop [6, 10] (fun _ i => ∃ k : Nat, k ≤ 32 ∧ i = .int .i64 k ∧ Hid (∀ i, i < k → okC (nth r i))) (fun _ i => 32 - (intOf i).toNat)
  case atStart => exact ⟨0, by omega, rfl, Lib.hid (fun i hi => by omega)⟩
  case round =>
    obtain ⟨k, hk, rfl, OK⟩ := hrel
    by_cases hlt : k < 32
    · have hix := index37 r HL.out k hlt w1
      by_cases h0 : nth r k = 0
      · have OK2 := Lib.hid (show ∀ i, i < k + 1 → okC (nth r i) from fun i hi => by
          by_cases e : i = k
          · subst e; exact .inl h0
          · exact OK.out i (by omega))
        rw [h0] at hix
        clear h0
        go_wp2
        go_round
        case rel => exact ⟨k + 1, by omega, by go_num, OK2⟩
        case measure => simp [intOf]; omega
      · have hn0 : (nth r k != 0) = true := by simpa using h0
        cases hi : isC (nth r k) with
        | true =>
          have OK2 := Lib.hid (show ∀ i, i < k + 1 → okC (nth r i) from fun i hj => by
            by_cases e : i = k
            · subst e; exact .inr hi
            · exact OK.out i (by omega))
          have HI := Lib.hid hi
          clear h0 hi
          go_wp2_with (go_at_call 37; refine (is_any _ _).mono ?_; rintro e w' ⟨rfl, rfl⟩; rw [HI.out])
          go_round
          case rel => exact ⟨k + 1, by omega, by go_num, OK2⟩
          case measure => simp [intOf]; omega
        | false =>
          have HI := Lib.hid hi
          clear h0 hi
          go_wp2_with (go_at_call 37; refine (is_any _ _).mono ?_; rintro e w' ⟨rfl, rfl⟩; rw [HI.out])
          go_ret
          exact ⟨rfl, C1.out⟩
    · exact absurd (OK.out j (by omega)) HB.out
set_option maxHeartbeats 2000000 in
theorem load_line (w : World) (b : Nat) (r0 : List Int) (p0 m0 : Nat) (h : GicAt w b r0 p0 m0) (r : List Int) (p m : Nat) (hl : r.length = 32) (hp : p < 4294967296) (hm : m < 4294967296)
    (hr : ∀ i, i < 32 → nth r i = 0 ∨ isC (nth r i) = true) (hz : (p ||| m) &&& own r 0 ≠ 0) :
    Calls Tryd.prog 22 #[.pointer (some ⟨b, 0, none⟩), .agg (gcells r p m)] w fun e w' => e = .returned (.int .i64 90) ∧ Below w.heap.size w w' := by
  have HL := Lib.hid hl
  have HP := Lib.hid hp
  have HM := Lib.hid hm
  have HR := Lib.hid hr
  have H1 := Lib.hid (heap_alloc_last w (.cells (gcells r p m) 39))
  have C1 := Lib.hid ((Below.refl w.heap.size w).alloc (Nat.le_refl _) (.cells (gcells r p m) 39))
  have hs1 : w.heap.size < (w.alloc (.cells (gcells r p m) 39)).heap.size := by simp
  have hor : bits .or .u32 (p : Int) (m : Int) = ((p ||| m : Nat) : Int) := u32_or_nat p m hp hm
  obtain ⟨v, hv⟩ : ∃ v, (p ||| m) &&& own r 0 = v := ⟨_, rfl⟩
  have hand : bits .and .u32 ((p ||| m : Nat) : Int) ((own r 0 : Nat) : Int) = (v : Nat) := by
    rw [u32_and_nat _ _ (Nat.or_lt_two_pow (n := 32) hp hm) (own_lt r 0), hv]
  have hvz : (((v : Nat) : Int) != 0) = true := by rw [hv] at hz; simp; omega
  have HOR := Lib.hid hor
  have HAND := Lib.hid hand
  clear h hl hp hm hr hz hor hand hv
  go_enter Tryd.func22, Tryd.ntmps22
  go_wp2_with (refine wpList_load_mid (op := ⟨some 9, _, _, _, _, _⟩) rfl 37 (.tmp 8) rfl w.heap.size 0 rfl (r.map (Value.int .i64)) _ (gc_range HL.out H1.out) Tryd.underlying37 rfl (by rw [List.length_map, HL.out]; kernel_rfl) ?_)
  generalize w.alloc (.cells (gcells r p m) 39) = w1 at *
  have hsb : w.heap.size ≤ w1.heap.size := by omega
  go_loop [6, 10] (fun _ i => ∃ k : Nat, k ≤ 32 ∧ i = .int .i64 k) (fun _ i => 32 - (intOf i).toNat)
  case atStart => exact ⟨0, by omega, rfl⟩
  case round =>
    obtain ⟨k, hk, rfl⟩ := hrel
    by_cases hlt : k < 32
    · have hix := index37 r HL.out k hlt w1
      rcases HR.out k hlt with h0 | hi
      · rw [h0] at hix
        go_wp2
        go_round
        case rel => exact ⟨k + 1, by omega, by go_num⟩
        case measure => simp [intOf]; omega
      · have h0 : (nth r k != 0) = true := by simpa using isC_pos hi
        go_wp2_with (go_at_call 37; refine (is_any _ _).mono ?_; rintro e w' ⟨rfl, rfl⟩)
        go_round
        case rel => exact ⟨k + 1, by omega, by go_num⟩
        case measure => simp [intOf]; omega
    · have hcp : w1.cell? ⟨w.heap.size, 32, none⟩ = some (.int .u32 p) := by rw [cell_of_row _ _ _ _ _ _ H1.out]; exact gcells_p HL.out
      have hcm : w1.cell? ⟨w.heap.size, 33, none⟩ = some (.int .u32 m) := by rw [cell_of_row _ _ _ _ _ _ H1.out]; exact gcells_m HL.out
      have hz := zero67
      have hd : decide ((k : Int) < 32) = false := by simp only [decide_eq_false_iff_not]; omega
      go_wp2_with ((with_reducible show wpList _ _ _ (_ :: _) _ _); first | refine wpList_load_mid (op := ⟨some 22, _, _, _, _, _⟩) rfl 37 (.tmp 21) rfl w.heap.size 0 rfl (r.map (Value.int .i64)) _ (gc_range HL.out H1.out) Tryd.underlying37 rfl (by rw [List.length_map, HL.out]; kernel_rfl) ?_ | refine wpList_of_wp (o := ⟨some 27, _, _, _, _, none⟩) rfl (Kit.wp_build 67 _ rfl _ (by simp [Act.eval]) (.agg (gcells r p m)) (build67 r HL.out p m _) ?_) | refine wpList_store_new (o := ⟨none, .store 67 (.tmp 7) (.tmp 27), _, _, _, _⟩) rfl 67 (.tmp 7) (.tmp 27) rfl gz (gcells r p m) 67 rfl rfl (by rw [gcells_size r HL.out]; exact info67) (by rw [gcells_size r HL.out]; rfl) (gcells_one r p m) ?_)
      have C2 := Lib.hid (C1.out.alloc hsb (.cells (gcells r p m) 67))
      have N2 := Lib.hid (show GicAt (w1.alloc (.cells (gcells r p m) 67)) w1.heap.size r p m from ⟨heap_alloc_last w1 _, HL.out, HP.out, HM.out⟩)
      have H2 := Lib.hid ((heap_alloc_old w1 (.cells (gcells r p m) 67) hs1).trans H1.out)
      clear hcp hcm H1 C1 hz hs1
      generalize w1.alloc (.cells (gcells r p m) 67) = w2 at *
      generalize w1.heap.size = nb at *
      have hcp : w2.cell? ⟨w.heap.size, 32, none⟩ = some (.int .u32 p) := by rw [cell_of_row _ _ _ _ _ _ H2.out]; exact gcells_p HL.out
      have hcm : w2.cell? ⟨w.heap.size, 33, none⟩ = some (.int .u32 m) := by rw [cell_of_row _ _ _ _ _ _ H2.out]; exact gcells_m HL.out
      have hor := HOR.out
      have hand := HAND.out
      go_quiet ((go_at_call 35; exact Calls.quiet_of_same ((own_any _ nb r p m 0 (N2.out.drewN _)).mono (fun e w' h => ⟨h.1, h.2.symm⟩))))
      go_wp2
      go_ret
      exact ⟨rfl, pw_drewN C2.out _⟩
end Go.Proofs.YtpedciapkalhgaaDoor.Gk
