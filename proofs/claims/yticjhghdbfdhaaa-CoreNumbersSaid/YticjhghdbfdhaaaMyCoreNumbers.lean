/- 'CoreNumbers' is proved: the closed sentence holds: the call returns true, whatever the memory it begins in. No condition. -/
import Derived.Test.YticjhghdbfdhaaaRows
import Derived.WalkKit
import Derived.WalkLawsBesides
import Derived.WalkSpells
import Derived.ProofKit
import Derived.OpenShut
import Derived.Below
import Derived.SizedLaws
import Derived.DeepKeys
import Derived.Lib.Hide
import Derived.Deep.WholeRow
namespace Go.Proofs.Yticjhghdbfdhaaa.coreNumbers
open Go.ChangeShapes Go.WideShapes Go.ChangeAt Go.RowKit
theorem own : ownKnob Try.prog.godebug = none := by kernel_rfl
def zs : Array Value := #[.int .u32 0, .int .u32 0, .int .u32 0, .int .u32 0, .int .u32 0, .int .u32 0, .int .u32 0, .int .u32 0, .int .u32 0, .int .u32 0, .int .u32 0, .int .u32 0, .int .u32 0, .int .u32 0, .int .u32 0, .int .u32 0, .int .u32 0, .int .u32 0, .int .u32 0, .bool false, .bool false]
def rs : Array Value := zs.setIfInBounds 16 (.int .u32 12)
theorem zsize : zs.size = 21 := rfl
theorem rsize : rs.size = 21 := rfl
theorem rlist : zs.toList.set 16 (.int .u32 12) = rs.toList := rfl
theorem reset_any (w : World) : Calls Try.prog 21 #[.int .u32 12] w fun e w' => e = .returned (.agg rs) ∧ w.alloc (.cells rs 35) = w' := by
  have hz : ∀ w, (zeroValue 35).run Try.prog w = .ok (.agg zs) w := fun _ => by kernel_rfl
  have hn := zsize
  have hs := run_storeCells_new (P := Try.prog) w 35 zs rs (by kernel_rfl) rfl (by kernel_rfl)
  rw [← rlist] at hs
  have hr : ∀ tm : Array Value, tm.getD 2 undef = .pointer (some ⟨w.heap.size, 0, none⟩) → (results Try.f21 tm).run Try.prog (w.alloc (.cells rs 35)) = .ok (.agg rs) (w.alloc (.cells rs 35)) :=
    fun tm h => results_cell_row (fn := Try.f21) (p := 2) (ty := 35) rfl tm _ w.heap.size 35 rs (0, 0) _ h (heap_alloc_last w _) Try.underlying35 rfl (by kernel_rfl)
  go_enter Try.func21, Try.ntmps21
  go_wp2
  exact bodyPost_ret (hr _ rfl) rfl ⟨rfl, rfl⟩
theorem eq_rs (w : World) : (Op.equalIn 10000 35 (.agg rs) (.agg rs)).run Try.prog w = .ok true w := by
  obtain ⟨l, hl⟩ := Option.isSome_iff_exists.1 (show (Try.prog.keyLits 3 35 rs.toList).isSome = true by kernel_rfl)
  obtain ⟨r, hr, h⟩ := run_equalIn_deep (P := Try.prog) 9997 3 35 (by kernel_rfl) w 3 3 (.agg rs) (.agg rs) l l (by kernel_rfl) (by kernel_rfl) hl hl
  rw [hr, h.2 rfl]
theorem wpList_of_wp {P : Program} {ops : Array Oper} {Q : Exit → Act → World → Prop} {a : Act} {w : World} {rest : List Oper} {o : Oper} (hw : Region.wanted o (yielded ops a.tmps) = true) (h : o.wp P a w (wpList P ops Q rest) Q) : wpList P ops Q (o :: rest) a w := by
  simp only [wpList, hw, if_true]; exact .inl h
theorem wp_run {P : Program} {Q : Exit → Act → World → Prop} {a : Act} {w W : World} {o : Oper} {K : Act → World → Prop} (v : Value) (hr : (execOp a.eval o).run P w = .ok (.value v) W) (h : K (a.put o.dst v) W) : o.wp P a w K Q := by
  unfold Oper.wp; rw [hr]; exact h
/-- '==' of two structs or arrays by value, of a type that holds no interface. -/
theorem run_eqGuard_agg {P : Program} {t : TypeId} (op : BinOp) (x y : Operand) (xs ys : Array Value) (w : World) (h : P.eqGuardType P.depth t = false) : (eqGuard op t x y (.agg xs) (.agg ys)).run P w = .ok () w := by
  cases op <;> first | rfl | (simp [eqGuard, Sem.run_bind, run_program, h])
theorem wp_eql_agg {P : Program} {Q : Exit → Act → World → Prop} {a : Act} {w : World} {o : Oper} {K : Act → World → Prop} (t t' : TypeId) (x y : Operand) (ho : o.op = .binOp .eql t x y t') (xs ys : Array Value) (hx : a.eval x = .agg xs) (hy : a.eval y = .agg ys)
    (hg : P.eqGuardType P.depth t = false) (r : Bool) (he : (Op.equalIn 10000 t (.agg xs) (.agg ys)).run P w = .ok r w) (h : K (a.put o.dst (.bool r)) w) : o.wp P a w K Q := by
  unfold Oper.wp execOp
  simp only [ho, hx, hy, Sem.run_bind, run_eqGuard_agg .eql x y xs ys w hg, Result.andThen_ok, run_eql_struct, he, Sem.run_pure]
  exact h
theorem walk (w : World) : Calls Try.prog 13 #[] w fun e w' => e = .returned (.bool true) ∧ Below w.heap.size w w' := by
  have hz : ∀ w, (zeroValue 35).run Try.prog w = .ok (.agg zs) w := fun _ => by kernel_rfl
  have hn := zsize
  have hn2 := rsize
  have hs := run_storeCells_new (P := Try.prog) (w.alloc (.cells rs 35)) 35 zs rs (by kernel_rfl) rfl (by kernel_rfl)
  have hsz : (w.alloc (.cells rs 35)).heap.size = w.heap.size + 1 := by simp
  have hg := heap_alloc_last (w.alloc (.cells rs 35)) (.cells rs 35)
  rw [hsz] at hs hg
  clear hsz
  have hE := Lib.hid hg
  clear hg
  go_enter Try.func13, Try.ntmps13
  go_wp2_with (first | (go_at_call 21; refine (reset_any _).mono ?_; rintro e w' ⟨rfl, rfl⟩) | (refine wpList_of_wp (o := ⟨some 4, _, _, _, _, _⟩) rfl (wp_load_row 35 (.tmp 1) rfl (w.heap.size + 1) rfl 35 rs (0, 0) _ hE.out Try.underlying35 rfl (by kernel_rfl) ?_)) | (refine wpList_of_wp (o := ⟨some 6, _, _, _, _, _⟩) rfl (wp_eql_agg 35 _ (.tmp 4) (.tmp 5) rfl rs rs rfl rfl (by kernel_rfl) true (eq_rs _) ?_)))
  go_ret
  exact ⟨rfl, by repeat (first | exact Below.refl _ _ | refine Below.drew ?_ | refine Below.alloc ?_ (by simp) _)⟩
set_option maxRecDepth 100000 in
theorem lifted (os : Os) (started : os.Started) (H : Type) (enc : TypeId × Value → H) :
    ReturnsInHanded {} Try.checked os 13 .any (Rows.coreNumbersSpec.pre6 enc Try.prog Try.f13 Rows.coreNumbersRow.domain false) (Rows.coreNumbersSpec.post enc Try.prog Try.f13 false true false false) := by
  refine returnsInHanded_of_change_sized (C := Try.checked) own started (by kernel_rfl) Try.func13
    (ChangeSpec.witness6 (enc := enc) (C := Try.checked) false ⟨#[], #[], []⟩ 8 (by kernel_rfl) (by kernel_rfl) (by kernel_rfl) (by kernel_rfl)) ?_
  intro W base args ds gs before _ hW _ _ _
  have hW' := hW
  obtain ⟨p, q, hA0, hV, rfl, _, _⟩ := hW
  have hA : DataW.TrodAll enc Try.prog W 0 (fun _ => true) true Try.f13.params.toList args.toList ds p := hA0
  rw [Try.params13] at hA
  obtain ⟨rfl, rfl, rfl⟩ := trodAll_none hA
  obtain ⟨rfl, rfl⟩ := trodVars_none hV
  clear hA0
  refine (walk W).mono fun e W' ⟨he, bel⟩ => ?_
  subst he
  exact ⟨_, rfl, _, _, _, [], _, [], hW', trodAll_mk1 (shut_bool Try.underlying4 _), trodAll_mk0, rfl, bel.frame _, fun h => by cases h⟩
theorem over : Rows.coreNumbersRow.holds Try.pinned (OpenSpec.ofChange Rows.coreNumbersSpec) :=
  OpenClaim.holds_of_wide 13 Try.f13 rfl rfl rfl rfl rfl rfl rfl ⟨rfl, rfl, rfl, rfl, rfl⟩ rfl rfl rfl rfl rfl (by kernel_rfl) Try.func13 (by kernel_rfl)
    (of_decide_eq_true (by kernel_rfl)) (by unfold Func.isWrapper; first | (rw [if_pos (by decide +kernel)]; kernel_rfl) | (rw [if_neg (by decide +kernel)]; exact ⟨rfl, rfl⟩))
    (fun os started H enc _ => lifted os started H enc)
theorem proved : Rows.CoreNumbersSaid := over
end Go.Proofs.Yticjhghdbfdhaaa.coreNumbers
#print axioms Go.Proofs.Yticjhghdbfdhaaa.coreNumbers.proved
