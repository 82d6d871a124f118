/- Lines, Dirty: contracts. No statement of the seat is proved here. -/
import Derived.Test.YtlmgiejemdifkaaDoorShape
import Derived.Deep.Onto
namespace Go.Proofs.YtlmgiejemdifkaaDoor.Ca
open Go.RowKit Go.Proofs.YtlmgiejemdifkaaDoor.Kit
set_option linter.unusedSimpArgs false
set_option linter.unusedVariables false

/-! ### all lines, as lists -/
def lset (k : Nat) : List Ln → List Value
  | [] => []
  | l :: V => .int .u32 k :: .int .u32 l.1 :: .bool l.2 :: lset k V
def lall (f : Nat → List Ln) : Nat → List Value
  | 0 => []
  | n + 1 => lall f n ++ lset n (f n)
def lnum (f : Nat → List Ln) : Nat → Nat
  | 0 => 0
  | n + 1 => lnum f n + (f n).length
theorem lset_append (k : Nat) : ∀ V U : List Ln, lset k (V ++ U) = lset k V ++ lset k U
  | [], U => rfl
  | l :: V, U => by simp [lset, lset_append k V U]
theorem lset_next (k j : Nat) (V : List Ln) (h : j < V.length) : lset k (V.take (j + 1)) = lset k (V.take j) ++ [.int .u32 k, .int .u32 (lnth V j).1, .bool (lnth V j).2] := by
  rw [List.take_succ_eq_append_getElem h, lset_append, ← lnth_eq h]; rfl
theorem lnum_le {f : Nat → List Ln} {W : Nat} (h : ∀ k, (f k).length ≤ W) : ∀ n, lnum f n ≤ n * W
  | 0 => by simp [lnum]
  | n + 1 => by have := lnum_le h n; have := h n; simp only [lnum, Nat.succ_mul]; omega
theorem info51 : (Tryd.prog.info? 51).map (fun i => (i.zero, i.size, i.bytes)) = some (some (.agg #[.int .u32 0, .int .u32 0, .bool false]), 3, 12) := by kernel_rfl
theorem zero80 : ∀ w, (zeroValue 80).run Tryd.prog w = .ok (.agg #[.int .u32 0, .bool false]) w := fun _ => by kernel_rfl
theorem wrap_u32_small {n : Nat} (h : n < 4294967296) : IntKind.u32.wrap (n : Int) = n := by
  rw [IntKind.wrap_u32']; omega
/-- Behind an append to a list of one's own. -/
theorem own_trans {w w1 w2 : World} {r o : Option Nat} (h : Chg w w1 r) (k : Chg w1 w2 o) (hn : ∀ g, o = some g → w.heap.size ≤ g) : Chg w w2 r := by
  cases o with
  | none => exact h.trans (k.any r)
  | some g => exact h.trans_new k (hn g rfl)
theorem set_cell {w : World} {b k j : Nat} {s : Shp} {f : Nat → List Ln} (h : CacheIs w b s f) (hk : k < 256) (hj : j < (f k).length) :
    w.cell? ⟨b, 3 + k * 17 + j * 2, none⟩ = some (.int .u32 (lnth (f k) j).1) ∧ w.cell? ⟨b, 3 + k * 17 + j * 2 + 1, none⟩ = some (.bool (lnth (f k) j).2) := by
  obtain ⟨L, h8, hr, _, hV⟩ := h.sets k hk
  have hl := h.len k
  have hW := s.hW
  have e : lnth (f k) j = lnth L j := by rw [hV]; exact lnth_take hj
  rw [e]
  exact range_at hr j (by omega)
set_option maxRecDepth 4000 in
set_option maxHeartbeats 4000000 in
theorem lines_any (w : World) (b : Nat) (s : Shp) (f : Nat → List Ln) (h : CacheIs w b s f) :
    Calls Tryd.prog 18 #[.pointer (some ⟨b, 0, none⟩)] w fun e w' => ∃ v', e = .returned v' ∧ w'.ownsRow w.heap.size 51 3 v' (lnum f s.S) (lall f s.S) ∧ Chg w w' none := by
  have HH := Lib.hid h
  have hbl := h.lt
  have d0 := h.c0
  have hSs := s.Sle
  have hWs := s.hW
  have LN := Lib.hid (lnum_le h.len)
  have I0 := Lib.hid (show Chg w w none ∧ w.ownsRow w.heap.size 51 3 (.slice none 0 0) (lnum f 0) (lall f 0) from ⟨Chg.refl _ _, World.ownsRow_nil _ _ _ _⟩)
  obtain ⟨i0, hi, hz0, hz1, hz2⟩ := info_parts info51
  clear h
  go_enter Tryd.func18, Tryd.ntmps18
  go_wp2_with fail
  go_loopw [3, 4, 5, 7, 13] (fun v3 _ _ _ i wr => ∃ k : Nat, k ≤ s.S ∧ i = .int .i64 k ∧ Hid (Chg w wr none ∧ wr.ownsRow w.heap.size 51 3 v3 (lnum f k) (lall f k))) (fun _ _ _ _ i _ => s.S - (intOf i).toNat)
  case atStart => exact ⟨0, by omega, rfl, I0⟩
  case round =>
    obtain ⟨k, hk, rfl, I⟩ := hrel
    clear I0 d0
    by_cases hlt : k < s.S
    · have H1 := Lib.hid (HH.out.kept I.out.1 (by simp))
      obtain ⟨Ls, h8, hrg, hmc, hV⟩ := H1.out.sets k (by omega)
      have hml := H1.out.len k
      have hsl := slice_h b (3 + k * 17) (f k).length (by omega)
      have HRG := Lib.hid hrg
      have HV := Lib.hid hV
      clear hrg hV
      go_wp2_with fail
      go_quiet (fail)
      go_wp2_with fail
      have K1 := Lib.hid ((Chg.refl wr none).drewN nq)
      have J0 := Lib.hid (show Chg w (wr.drewN nq) none ∧ (wr.drewN nq).ownsRow w.heap.size 51 3 u3 (lnum f k + 0) (lall f k ++ lset k ((f k).take 0)) from ⟨I.out.1.trans K1.out, by rw [List.take_zero, lset, List.append_nil]; show wr.ownsRow _ _ _ _ _ _; exact I.out.2⟩)
      clear hmc hsl
      generalize wr.drewN nq = w8 at *
      go_loopw [3, 7, 30] (fun v3 _ i wr => ∃ j : Nat, j ≤ (f k).length ∧ i = .int .i64 j ∧ Hid (Chg w wr none ∧ wr.ownsRow w.heap.size 51 3 v3 (lnum f k + j) (lall f k ++ lset k ((f k).take j)))) (fun _ _ i _ => (f k).length - (intOf i).toNat)
      case atStart => exact ⟨0, by omega, rfl, J0⟩
      case round =>
        obtain ⟨j, hj, rfl, J⟩ := hrel
        clear J0
        by_cases hjl : j < (f k).length
        · obtain ⟨c0, c1⟩ := set_cell (HH.out.kept J.out.1 (by simp)) (show k < 256 by omega) hjl
          have NX := Lib.hid (lset_next k j (f k) hjl)
          generalize lnth (f k) j = l at *
          have hwk := wrap_u32_small (n := k) (by omega)
          have hz := zero80
          have K2 := Lib.hid (((Chg.refl wr none).alloc (.cells #[.int .u32 l.1, .bool l.2] 80)).alloc (.cells #[.int .u32 k, .int .u32 l.1, .bool l.2] 51))
          have O2 := Lib.hid ((J.out.2.alloc (.cells #[.int .u32 l.1, .bool l.2] 80)).alloc (.cells #[.int .u32 k, .int .u32 l.1, .bool l.2] 51))
          have hs2 : (wr.alloc (.cells #[.int .u32 l.1, .bool l.2] 80)).heap.size = wr.heap.size + 1 := by simp
          have TN := Lib.hid (fun (q : Nat) (u : Value) (hu : ([.int .u32 k, .int .u32 l.1, .bool l.2] : List Value)[q]? = some u) => show ((wr.alloc (.cells #[.int .u32 l.1, .bool l.2] 80)).alloc (.cells #[.int .u32 k, .int .u32 l.1, .bool l.2] 51)).cell? ((⟨wr.heap.size + 1, 0, none⟩ : Addr).add q) = some u by
            rw [Addr.add_mid, Nat.zero_add, ← hs2, cell_of_row _ _ _ _ _ _ (heap_alloc_last (wr.alloc (.cells #[.int .u32 l.1, .bool l.2] 80)) (.cells #[.int .u32 k, .int .u32 l.1, .bool l.2] 51))]
            show ([.int .u32 k, .int .u32 l.1, .bool l.2] : List Value).toArray[q]? = some u
            rw [List.getElem?_toArray]; exact hu)
          have hn1 := LN.out k
          have hn2 : k * s.W ≤ 256 * 8 := Nat.mul_le_mul (by omega) (by omega)
          have hws := J.out.1.size
          clear hs2
          go_wp2_with (at_builtin; refine wpList_append_own _ rfl (.tmp 34) (.tmp 42) 45 rfl w.heap.size 51 i0 (.agg #[.int .u32 0, .int .u32 0, .bool false]) 3 12 Tryd.underlying45 hi hz0 hz1 hz2 rfl (by decide) _ (lnum f k + j) (lall f k ++ lset k ((f k).take j)) rfl O2.out ⟨wr.heap.size + 1, 0, none⟩ 1 1 [.int .u32 k, .int .u32 l.1, .bool l.2] rfl rfl TN.out ?qa ?qb ?qc ?qd ?_)
          case qa =>
            intro u hu
            simp only [List.mem_cons, List.not_mem_nil, or_false] at hu
            rcases hu with rfl | rfl | rfl <;> rfl
          case qb => simp only [maxLen]; omega
          case qc => omega
          case qd => simp; omega
          intro v7 w9 hown hg hnil
          have F9 := Lib.hid (show Chg w w9 none ∧ w9.ownsRow w.heap.size 51 3 v7 (lnum f k + (j + 1)) (lall f k ++ lset k ((f k).take (j + 1))) from
            ⟨own_trans (J.out.1.trans K2.out) (show Chg _ w9 (Value.ownBlock u3) from hg) (fun g e => (J.out.2.lt g e).1), by rw [NX.out]; exact hown⟩)
          clear hown hg hnil
          go_wp2
          go_roundw
          case rel => exact ⟨j + 1, by omega, by go_num, F9⟩
          case measure => simp [intOf]; omega
        · have J9 := Lib.hid (show Chg w wr none ∧ wr.ownsRow w.heap.size 51 3 u3 (lnum f (k + 1)) (lall f (k + 1)) from
            ⟨J.out.1, by
              have e : j = (f k).length := by omega
              have := J.out.2
              rw [e, List.take_length] at this
              exact this⟩)
          have hjl2 : decide (j < (f k).length) = false := by simp only [decide_eq_false_iff_not]; omega
          clear hjl
          go_wp2
          go_roundw
          case rel => exact ⟨k + 1, by omega, by go_num, J9⟩
          case measure => simp [intOf]; omega
    · go_wp2
      go_ret
      obtain rfl : k = s.S := by omega
      exact ⟨_, rfl, I.out.2, I.out.1⟩
end Go.Proofs.YtlmgiejemdifkaaDoor.Ca
