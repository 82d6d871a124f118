/- Decode: its contract. No statement of the seat is proved here. -/
import Derived.Test.YthppjmlcehjjlaaDoorBase
import Derived.Laws.Rows
namespace Go.Proofs.YthppjmlcehjjlaaDoor.En
open Go.RowKit Go.Proofs.YthppjmlcehjjlaaDoor.Kit
set_option linter.unusedSimpArgs false
set_option linter.unusedVariables false

theorem results_cell_tmp {P : Program} {fn : Func} {p q : Tmp} {ty : TypeId} (h : fn.results = #[.cell p ty, .tmp q]) (tmps : Array Value) (w : World) (g : Nat) (t : TypeId) (cs : Array Value) (fr : Nat × Nat) (d : TypeDesc)
    (hp : tmps.getD p undef = .pointer (some ⟨g, 0, none⟩)) (hg : w.heap[g]? = some (.cells cs t fr))
    (hu : P.underlying ty = some d) (hd : (match d with | .struct _ | .array _ _ => true | _ => false) = true) (hi : (P.info? ty).map (·.size) = some cs.size) (v : Value) (hv : tmps.getD q undef = v) :
    (results fn tmps).run P w = .ok (.tuple #[.agg cs, v]) w := by
  have hp' : tmps[p]?.getD undef = .pointer (some ⟨g, 0, none⟩) := by simpa using hp
  have hv' : tmps[q]?.getD undef = v := by simpa using hv
  simp [results, h, hp', hv', asAddr, run_loadVar_row w g t ty cs fr d hg hu hd hi]
theorem info26 : (Tryd.prog.info? 27).map (·.size) = some 3 := by kernel_rfl
theorem zero26 : ∀ w, (zeroValue 27).run Tryd.prog w = .ok (.agg #[.int .i64 0, .int .u8 0, .int .u32 0]) w := fun _ => by kernel_rfl
def entA (e : Ent) : Value := .agg #[.int .i64 e.k, .int .u8 e.p, .int .u32 e.f]

/-! ### bits -/
theorem and_u32 (a b : Nat) (ha : a < 4294967296) (hb : b < 4294967296) : bits .and .u32 (a : Int) (b : Int) = ((a &&& b : Nat) : Int) := by
  have hx : a &&& b < 2 ^ 32 := Nat.and_lt_two_pow _ (by omega)
  show IntKind.u32.wrap ((BitVec.ofInt 32 (a : Int) &&& BitVec.ofInt 32 (b : Int)).toNat : Int) = _
  rw [BitVec.toNat_and, ofInt_32 a ha, ofInt_32 b hb, IntKind.wrap_u32']
  omega
theorem and_1 (a : Nat) (ha : a < 4294967296) : bits BinOp.and IntKind.u32 (a : Int) 1 = ((a % 2 : Nat) : Int) := by
  have h := and_u32 a 1 ha (by omega)
  rw [show a &&& 1 = a % 2 from Nat.and_two_pow_sub_one_eq_mod a 1] at h
  exact h
theorem and_4095 (a : Nat) (ha : a < 4294967296) : bits BinOp.and IntKind.u32 (a : Int) 4095 = ((a % 4096 : Nat) : Int) := by
  have h := and_u32 a 4095 ha (by omega)
  rw [show a &&& 4095 = a % 4096 from Nat.and_two_pow_sub_one_eq_mod a 12] at h
  exact h
theorem and_low (a m : Nat) (ha : a < 4294967296) (hm : m < 32) : bits BinOp.and IntKind.u32 (a : Int) (m : Int) = ((a % 32 &&& m : Nat) : Int) := by
  rw [and_u32 a m ha (by omega), ← show a &&& 31 = a % 32 from Nat.and_two_pow_sub_one_eq_mod a 5, Nat.and_assoc]
  have key : ∀ m : Fin 32, 31 &&& m.val = m.val := by decide
  rw [key ⟨m, hm⟩]
theorem and_14 (a : Nat) (ha : a < 4294967296) : bits BinOp.and IntKind.u32 (a : Int) 14 = ((a / 2 % 8 * 2 : Nat) : Int) := by
  have h := and_low a 14 ha (by omega)
  have key : ∀ m : Fin 32, m.val &&& 14 = m.val / 2 % 8 * 2 := by decide
  rw [key ⟨a % 32, by omega⟩] at h
  simp only at h
  rw [show a % 32 / 2 % 8 * 2 = a / 2 % 8 * 2 by omega] at h
  exact h
theorem and_16 (a : Nat) (ha : a < 4294967296) : bits BinOp.and IntKind.u32 (a : Int) 16 = ((a / 16 % 2 * 16 : Nat) : Int) := by
  have h := and_low a 16 ha (by omega)
  have key : ∀ m : Fin 32, m.val &&& 16 = m.val / 16 % 2 * 16 := by decide
  rw [key ⟨a % 32, by omega⟩] at h
  simp only at h
  rw [show a % 32 / 16 % 2 * 16 = a / 16 % 2 * 16 by omega] at h
  exact h
theorem high_key : ∀ i : Fin 64, ∀ j : Fin 64, (bits BinOp.andNot IntKind.u32 ((64 * i.val + j.val : Nat) : Int) 31 != 0) = decide (32 ≤ 64 * i.val + j.val) := by decide +kernel
theorem high_bits (b : Nat) (h : b < 4096) : (bits BinOp.andNot IntKind.u32 (b : Int) 31 != 0) = decide (32 ≤ b) := by
  have k := high_key ⟨b / 64, by omega⟩ ⟨b % 64, by omega⟩
  simp only at k
  rw [show 64 * (b / 64) + b % 64 = b by omega] at k
  exact k
set_option maxHeartbeats 2000000 in
theorem dec_any (w : World) (a : Nat) (ha : a < 4294967296) :
    Calls Tryd.prog 5 #[.int .u32 a] w fun e w' => e = .returned (.tuple #[.agg #[.int .i64 (decW a).1.k, .int .u8 (decW a).1.p, .int .u32 (decW a).1.f], .int .i64 (decW a).2]) ∧ Chg w w' none := by
  have hz := zero26
  by_cases h0 : a = 0
  · subst h0
    have C1 := Lib.hid ((Chg.refl w none).alloc (.cells #[.int .i64 0, .int .u8 0, .int .u32 0] 27))
    have hg := heap_alloc_last w (.cells #[.int .i64 0, .int .u8 0, .int .u32 0] 27)
    have HG := Lib.hid hg
    clear hg
    go_enter Tryd.func5, Tryd.ntmps5
    go_wp2
    refine bodyPost_ret (results_cell_tmp (p := 2) (q := 3) (ty := 27) rfl _ _ w.heap.size 27 #[.int .i64 0, .int .u8 0, .int .u32 0] (0, 0) _ rfl HG.out Tryd.underlying27 rfl info26 (.int .i64 0) rfl) rfl ?_
    exact ⟨rfl, C1.out⟩
  · have x0 : ((a : Int) == 0) = false := by simp; omega
    have A1 := and_1 a ha
    have A2 := and_4095 a ha
    by_cases h1 : a % 2 = 0
    · have e : decW a = (zeroE, 43) := by unfold decW; rw [if_neg h0, if_pos (.inl h1)]
      rw [e]
      rw [h1] at A1
      have C1 := Lib.hid ((Chg.refl w none).alloc (.cells #[.int .i64 0, .int .u8 0, .int .u32 0] 27))
      have HG := Lib.hid (heap_alloc_last w (.cells #[.int .i64 0, .int .u8 0, .int .u32 0] 27))
      clear e h0 h1
      go_enter Tryd.func5, Tryd.ntmps5
      go_wp2
      refine bodyPost_ret (results_cell_tmp (p := 2) (q := 3) (ty := 27) rfl _ _ w.heap.size 27 #[.int .i64 0, .int .u8 0, .int .u32 0] (0, 0) _ rfl HG.out Tryd.underlying27 rfl info26 (.int .i64 43) rfl) rfl ?_
      exact ⟨rfl, C1.out⟩
    · have x1 : (((a % 2 : Nat) : Int) == 0) = false := by simp; omega
      have HB := high_bits (a % 4096) (by omega)
      obtain ⟨r, hr⟩ : ∃ r, r = a % 2 := ⟨_, rfl⟩
      rw [← hr] at A1 x1
      obtain ⟨m, hm⟩ : ∃ m, m = a % 4096 := ⟨_, rfl⟩
      rw [← hm] at A2 HB
      have A5 : bits BinOp.andNot IntKind.u32 (m : Int) 31 = bits BinOp.andNot IntKind.u32 (m : Int) 31 := rfl
      generalize hc : bits BinOp.andNot IntKind.u32 (m : Int) 31 = c at HB A5
      rw [hm] at HB
      clear A5
      by_cases h2 : 32 ≤ a % 4096
      · have e : decW a = (zeroE, 43) := by unfold decW; rw [if_neg h0, if_pos (.inr h2)]
        rw [e]
        have x2 : (c != 0) = true := by rw [HB]; exact decide_eq_true h2
        have C1 := Lib.hid ((Chg.refl w none).alloc (.cells #[.int .i64 0, .int .u8 0, .int .u32 0] 27))
        have HG := Lib.hid (heap_alloc_last w (.cells #[.int .i64 0, .int .u8 0, .int .u32 0] 27))
        clear e h0 h1 h2 HB hr hm
        go_enter Tryd.func5, Tryd.ntmps5
        go_wp2
        refine bodyPost_ret (results_cell_tmp (p := 2) (q := 3) (ty := 27) rfl _ _ w.heap.size 27 #[.int .i64 0, .int .u8 0, .int .u32 0] (0, 0) _ rfl HG.out Tryd.underlying27 rfl info26 (.int .i64 43) rfl) rfl ?_
        exact ⟨rfl, C1.out⟩
      · have x2 : (c != 0) = false := by rw [HB]; exact decide_eq_false h2
        have A3 := and_14 a ha
        have A4 := and_16 a ha
        have hp8 : a / 2 % 8 < 8 := by omega
        have hf : a / 4096 < 1048576 := by omega
        have s1 : ((a / 2 % 8 * 2 : Nat) : Int) / 2 = ((a / 2 % 8 : Nat) : Int) := by omega
        have s2 : (a : Int) / 4096 = ((a / 4096 : Nat) : Int) := by omega
        have e : decW a = if 16 ≤ a % 4096 then (if a / 2 % 8 ≠ 0 then (zeroE, 41) else if 4095 < a / 4096 then (zeroE, 42) else (⟨2, 0, a / 4096⟩, 0)) else (if pagep (a / 2 % 8) = false then (zeroE, 41) else if 4095 < a / 4096 then (zeroE, 42) else (⟨1, a / 2 % 8, a / 4096⟩, 0)) := by
          unfold decW; rw [if_neg h0, if_neg (by omega)]
        by_cases h3 : 16 ≤ a % 4096
        · have e3 : a / 16 % 2 * 16 = 16 := by omega
          rw [e3] at A4
          rw [if_pos h3] at e
          have key : decW a = if (encW ⟨2, a / 2 % 8, a / 4096⟩).2 = 0 then (⟨2, a / 2 % 8, a / 4096⟩, 0) else (zeroE, (encW ⟨2, a / 2 % 8, a / 4096⟩).2) := by
            rw [e]
            unfold encW
            by_cases hf : 4095 < a / 4096 <;> cases hp : pagep (a / 2 % 8) <;> by_cases hz : a / 2 % 8 = 0 <;> simp [hf, hp, hz]
          rw [key]
          clear h0 h1 h2 HB e e3 h3 hr hm key
          obtain ⟨q2, hq2⟩ : ∃ q2, q2 = a / 2 % 8 * 2 := ⟨_, rfl⟩
          rw [← hq2] at A3 s1
          clear hq2
          generalize a / 2 % 8 = p at *
          generalize a / 4096 = f at *
          have EN := Lib.hid (fun X => enc_any X 2 p f (by omega) (by omega) (by omega))
          generalize encW ⟨2, p, f⟩ = x at *
          obtain ⟨W, n⟩ := x
          have C2 := Lib.hid (((Chg.refl w none).alloc (.cells #[.int .i64 0, .int .u8 0, .int .u32 0] 27)).alloc (.cells #[.int .i64 2, .int .u8 p, .int .u32 f] 27))
          have G0 := Lib.hid ((heap_alloc_old (w.alloc (.cells #[.int .i64 0, .int .u8 0, .int .u32 0] 27)) (.cells #[.int .i64 2, .int .u8 p, .int .u32 f] 27) (r := w.heap.size) (h := by simp)).trans (heap_alloc_last w (.cells #[.int .i64 0, .int .u8 0, .int .u32 0] 27)))
          have G1 := Lib.hid (heap_alloc2_new w (.cells #[.int .i64 0, .int .u8 0, .int .u32 0] 27) (.cells #[.int .i64 2, .int .u8 p, .int .u32 f] 27))
          go_enter Tryd.func5, Tryd.ntmps5
          go_wp2_with fail
          refine (EN.out _).mono ?_
          rintro e w2 ⟨rfl, hC⟩
          have H0 := Lib.hid ((hC.block w.heap.size (by simp; omega) (by simp)).trans G0.out)
          have H1 := Lib.hid ((hC.block (w.heap.size + 1) (by simp) (by simp)).trans G1.out)
          have C3 := Lib.hid (C2.out.trans hC)
          have f0 := frozen_of_row w2 w.heap.size 0 _ _ H0.out
          have f1 := frozen_of_row w2 w.heap.size 1 _ _ H0.out
          have f2 := frozen_of_row w2 w.heap.size 2 _ _ H0.out
          have d0 : w2.cell? ⟨w.heap.size, 0, none⟩ = some (.int .i64 0) := by rw [cell_of_row _ _ _ _ _ _ H0.out]; rfl
          have d1 : w2.cell? ⟨w.heap.size, 1, none⟩ = some (.int .u8 0) := by rw [cell_of_row _ _ _ _ _ _ H0.out]; rfl
          have d2 : w2.cell? ⟨w.heap.size, 2, none⟩ = some (.int .u32 0) := by rw [cell_of_row _ _ _ _ _ _ H0.out]; rfl
          have c0 : w2.cell? ⟨w.heap.size + 1, 0, none⟩ = some (.int .i64 2) := by rw [cell_of_row _ _ _ _ _ _ H1.out]; rfl
          have c1 : w2.cell? ⟨w.heap.size + 1, 1, none⟩ = some (.int .u8 p) := by rw [cell_of_row _ _ _ _ _ _ H1.out]; rfl
          have c2 : w2.cell? ⟨w.heap.size + 1, 2, none⟩ = some (.int .u32 f) := by rw [cell_of_row _ _ _ _ _ _ H1.out]; rfl
          clear hC
          by_cases hn : n = 0
          · subst hn
            have K := Lib.hid (heap_setCell_same _ w.heap.size 2 _ _ (.int .u32 f) (heap_setCell_same _ w.heap.size 1 _ _ (.int .u8 p) (heap_setCell_same w2 w.heap.size 0 _ _ (.int .i64 2) H0.out)))
            have C4 := Lib.hid (((C3.out.set_new 0 (.int .i64 2) (Nat.le_refl _)).set_new 1 (.int .u8 p) (Nat.le_refl _)).set_new 2 (.int .u32 f) (Nat.le_refl _))
            go_wp2
            refine bodyPost_ret (results_cell_tmp (p := 2) (q := 3) (ty := 27) rfl _ _ w.heap.size 27 #[.int .i64 2, .int .u8 p, .int .u32 f] (0, 0) _ rfl K.out Tryd.underlying27 rfl info26 (.int .i64 0) rfl) rfl ?_
            exact ⟨rfl, C4.out⟩
          · have xn : (n != 0) = true := by simpa using hn
            have K := Lib.hid (heap_setCell_same _ w.heap.size 2 _ _ (.int .u32 0) (heap_setCell_same _ w.heap.size 1 _ _ (.int .u8 0) (heap_setCell_same w2 w.heap.size 0 _ _ (.int .i64 0) H0.out)))
            have C4 := Lib.hid (((C3.out.set_new 0 (.int .i64 0) (Nat.le_refl _)).set_new 1 (.int .u8 0) (Nat.le_refl _)).set_new 2 (.int .u32 0) (Nat.le_refl _))
            have HN := Lib.hid hn
            clear hn
            go_wp2
            refine bodyPost_ret (results_cell_tmp (p := 2) (q := 3) (ty := 27) rfl _ _ w.heap.size 27 #[.int .i64 0, .int .u8 0, .int .u32 0] (0, 0) _ rfl K.out Tryd.underlying27 rfl info26 (.int .i64 n) rfl) rfl ?_
            exact ⟨rfl, C4.out⟩
        · have e3 : a / 16 % 2 * 16 = 0 := by omega
          rw [e3] at A4
          rw [if_neg h3] at e
          have key : decW a = if (encW ⟨1, a / 2 % 8, a / 4096⟩).2 = 0 then (⟨1, a / 2 % 8, a / 4096⟩, 0) else (zeroE, (encW ⟨1, a / 2 % 8, a / 4096⟩).2) := by
            rw [e]
            unfold encW
            by_cases hf : 4095 < a / 4096 <;> cases hp : pagep (a / 2 % 8) <;> by_cases hz : a / 2 % 8 = 0 <;> simp [hf, hp, hz]
          rw [key]
          clear h0 h1 h2 HB e e3 h3 hr hm key
          obtain ⟨q2, hq2⟩ : ∃ q2, q2 = a / 2 % 8 * 2 := ⟨_, rfl⟩
          rw [← hq2] at A3 s1
          clear hq2
          generalize a / 2 % 8 = p at *
          generalize a / 4096 = f at *
          have EN := Lib.hid (fun X => enc_any X 1 p f (by omega) (by omega) (by omega))
          generalize encW ⟨1, p, f⟩ = x at *
          obtain ⟨W, n⟩ := x
          have C2 := Lib.hid (((Chg.refl w none).alloc (.cells #[.int .i64 0, .int .u8 0, .int .u32 0] 27)).alloc (.cells #[.int .i64 1, .int .u8 p, .int .u32 f] 27))
          have G0 := Lib.hid ((heap_alloc_old (w.alloc (.cells #[.int .i64 0, .int .u8 0, .int .u32 0] 27)) (.cells #[.int .i64 1, .int .u8 p, .int .u32 f] 27) (r := w.heap.size) (h := by simp)).trans (heap_alloc_last w (.cells #[.int .i64 0, .int .u8 0, .int .u32 0] 27)))
          have G1 := Lib.hid (heap_alloc2_new w (.cells #[.int .i64 0, .int .u8 0, .int .u32 0] 27) (.cells #[.int .i64 1, .int .u8 p, .int .u32 f] 27))
          go_enter Tryd.func5, Tryd.ntmps5
          go_wp2_with fail
          refine (EN.out _).mono ?_
          rintro e w2 ⟨rfl, hC⟩
          have H0 := Lib.hid ((hC.block w.heap.size (by simp; omega) (by simp)).trans G0.out)
          have H1 := Lib.hid ((hC.block (w.heap.size + 1) (by simp) (by simp)).trans G1.out)
          have C3 := Lib.hid (C2.out.trans hC)
          have f0 := frozen_of_row w2 w.heap.size 0 _ _ H0.out
          have f1 := frozen_of_row w2 w.heap.size 1 _ _ H0.out
          have f2 := frozen_of_row w2 w.heap.size 2 _ _ H0.out
          have d0 : w2.cell? ⟨w.heap.size, 0, none⟩ = some (.int .i64 0) := by rw [cell_of_row _ _ _ _ _ _ H0.out]; rfl
          have d1 : w2.cell? ⟨w.heap.size, 1, none⟩ = some (.int .u8 0) := by rw [cell_of_row _ _ _ _ _ _ H0.out]; rfl
          have d2 : w2.cell? ⟨w.heap.size, 2, none⟩ = some (.int .u32 0) := by rw [cell_of_row _ _ _ _ _ _ H0.out]; rfl
          have c0 : w2.cell? ⟨w.heap.size + 1, 0, none⟩ = some (.int .i64 1) := by rw [cell_of_row _ _ _ _ _ _ H1.out]; rfl
          have c1 : w2.cell? ⟨w.heap.size + 1, 1, none⟩ = some (.int .u8 p) := by rw [cell_of_row _ _ _ _ _ _ H1.out]; rfl
          have c2 : w2.cell? ⟨w.heap.size + 1, 2, none⟩ = some (.int .u32 f) := by rw [cell_of_row _ _ _ _ _ _ H1.out]; rfl
          clear hC
          by_cases hn : n = 0
          · subst hn
            have K := Lib.hid (heap_setCell_same _ w.heap.size 2 _ _ (.int .u32 f) (heap_setCell_same _ w.heap.size 1 _ _ (.int .u8 p) (heap_setCell_same w2 w.heap.size 0 _ _ (.int .i64 1) H0.out)))
            have C4 := Lib.hid (((C3.out.set_new 0 (.int .i64 1) (Nat.le_refl _)).set_new 1 (.int .u8 p) (Nat.le_refl _)).set_new 2 (.int .u32 f) (Nat.le_refl _))
            go_wp2
            refine bodyPost_ret (results_cell_tmp (p := 2) (q := 3) (ty := 27) rfl _ _ w.heap.size 27 #[.int .i64 1, .int .u8 p, .int .u32 f] (0, 0) _ rfl K.out Tryd.underlying27 rfl info26 (.int .i64 0) rfl) rfl ?_
            exact ⟨rfl, C4.out⟩
          · have xn : (n != 0) = true := by simpa using hn
            have K := Lib.hid (heap_setCell_same _ w.heap.size 2 _ _ (.int .u32 0) (heap_setCell_same _ w.heap.size 1 _ _ (.int .u8 0) (heap_setCell_same w2 w.heap.size 0 _ _ (.int .i64 0) H0.out)))
            have C4 := Lib.hid (((C3.out.set_new 0 (.int .i64 0) (Nat.le_refl _)).set_new 1 (.int .u8 0) (Nat.le_refl _)).set_new 2 (.int .u32 0) (Nat.le_refl _))
            have HN := Lib.hid hn
            clear hn
            go_wp2
            refine bodyPost_ret (results_cell_tmp (p := 2) (q := 3) (ty := 27) rfl _ _ w.heap.size 27 #[.int .i64 0, .int .u8 0, .int .u32 0] (0, 0) _ rfl K.out Tryd.underlying27 rfl info26 (.int .i64 n) rfl) rfl ?_
            exact ⟨rfl, C4.out⟩
end Go.Proofs.YthppjmlcehjjlaaDoor.En
