/- Small laws of my own over any program, for the walks of this seat. No statement of the seat is proved here. -/
import Derived.WalkKit
import Derived.WalkLawsBesides
import Derived.WalkSpells
import Derived.Below
import Derived.Lib.Hide
import Derived.Deep.MidRow
import Derived.Deep.WholeRow
import Derived.Deep.QuietTactic
import Derived.BigQuiet
import Derived.IntWalk
import Derived.DeepKeys
import Derived.Deep.RegionWith
import Derived.StillTail
import Derived.StillTactics
namespace Go.Proofs.Ytfoofipkbijajaa.Kit
open Go.RowKit
set_option linter.unusedSimpArgs false
set_option linter.unusedVariables false

section
variable {P : Program} {ops : Array Oper} {Q : Exit → Act → World → Prop} {a : Act} {w : World} {rest : List Oper} {o : Oper} {K : Act → World → Prop}

/-! ### a list of operations, one step by hand (a guard too) -/
theorem wpList_of_wp (hw : Region.wanted o (yielded ops a.tmps) = true) (h : o.wp P a w (wpList P ops Q rest) Q) : wpList P ops Q (o :: rest) a w := by
  simp only [wpList, hw, if_true]; exact .inl h

/-! ### '==' of two structs or arrays by value, of a type that holds no interface -/
theorem run_eqGuard_agg {t : TypeId} (op : BinOp) (x y : Operand) (xs ys : Array Value) (w : World) (h : P.eqGuardType P.depth t = false) : (eqGuard op t x y (.agg xs) (.agg ys)).run P w = .ok () w := by
  cases op <;> first | rfl | (simp [eqGuard, Sem.run_bind, run_program, h])
theorem wp_eql_agg (t t' : TypeId) (x y : Operand) (ho : o.op = .binOp .eql t x y t') (xs ys : Array Value) (hx : a.eval x = .agg xs) (hy : a.eval y = .agg ys)
    (hg : P.eqGuardType P.depth t = false) (r : Bool) (he : (Op.equalIn 10000 t (.agg xs) (.agg ys)).run P w = .ok r w) (h : K (a.put o.dst (.bool r)) w) : o.wp P a w K Q := by
  unfold Oper.wp execOp
  simp only [ho, hx, hy, Sem.run_bind, run_eqGuard_agg .eql x y xs ys w hg, Result.andThen_ok, run_eql_struct, he, Sem.run_pure]
  exact h
theorem wp_neq_agg (t t' : TypeId) (x y : Operand) (ho : o.op = .binOp .neq t x y t') (xs ys : Array Value) (hx : a.eval x = .agg xs) (hy : a.eval y = .agg ys)
    (hg : P.eqGuardType P.depth t = false) (r : Bool) (he : (Op.equalIn 10000 t (.agg xs) (.agg ys)).run P w = .ok r w) (h : K (a.put o.dst (.bool (!r))) w) : o.wp P a w K Q := by
  unfold Oper.wp execOp
  simp only [ho, hx, hy, Sem.run_bind, run_eqGuard_agg .neq x y xs ys w hg, Result.andThen_ok, run_neq_struct, he, Sem.run_pure]
  exact h

/-! ### a struct put together -/
theorem wp_build (t : TypeId) (parts : Array (Nat × Operand)) (ho : o.op = .build t parts) (ps : Array (Nat × Value)) (hp : (parts.map fun (i, x) => (i, a.eval x)) = ps) (v : Value)
    (hb : (Instr.build t ps).run P w = .ok v w) (h : K (a.put o.dst v) w) : o.wp P a w K Q := by
  unfold Oper.wp execOp
  simp only [ho, hp, Sem.run_bind, hb, Sem.run_pure, Result.andThen_ok]
  exact h

/-! ### a whole struct or array stored into the block that was made last -/
theorem wpList_store_new (hgd : o.guard = none) (ty : TypeId) (x y : Operand) (ho : o.op = .store ty x y) (c cells : Array Value) (t : TypeId)
    (hx : a.eval x = .pointer (some ⟨w.heap.size, 0, none⟩)) (hy : a.eval y = .agg cells) (hi : (P.info? ty).map (·.size) = some cells.size) (hold : c.size = cells.size) (h1 : cells.all (·.oneCell') = true)
    (h : wpList P ops Q rest (a.put o.dst undef) (w.alloc (.cells cells t))) : wpList P ops Q (o :: rest) a (w.alloc (.cells c t)) :=
  wpList_store_row hgd ty x y ho w.heap.size cells hx hy t c (heap_alloc_last w _) hi hold h1 (by rw [World.setRow_alloc_new]; exact h)

/-! ### an array by value, indexed -/
theorem run_index_array {t e : TypeId} {n : Nat} {cs : Array Value} {v : Value} (k : IntKind) (i : Nat) (hu : P.underlying t = some (.array n e)) (hi : i < n)
    (hs : ∀ w, (sizeOf e).run P w = .ok 1 w) (ha : ∀ w, (isAgg e).run P w = .ok false w) (hc : cs[i]? = some v) (w : World) :
    (Instr.index t (.agg cs) (.int k i)).run P w = .ok v w := by
  have h1 : (0 : Int) ≤ (i : Int) ∧ (i : Int) < (n : Int) := ⟨by omega, by omega⟩
  simp only [Instr.index, asIntOf, Sem.run_bind, Sem.run_pure, Result.andThen_ok, run_underlying hu, h1, and_self, if_true, hs, part, ha, Int.toNat_natCast, Nat.mul_one, hc, Bool.false_eq_true, if_false]

/-! ### a region that draws its order: what only reads, one operation by hand -/
/-- Of a region that draws its order: the first n operations only read (or call what only reads), the others come behind them one by one. -/
theorem wp_region_tail {id : Nat} {Q : Exit → Act → World → Prop} {l : List Oper} (n : Nat) (hm : P.follows .mixedOrders = true) (hB : Region.lexTailB .any l.toArray n = true)
    (h : wpStill P l.toArray w.drew (fun a' => wpList P l.toArray Q (l.drop n) a' w.drew) (l.take n) a) : (Code.region id l.toArray true).wp P Q a w :=
  wp_region_still_tail n hm hB h
theorem wpStill_val {Q : Act → Prop} {v : Value} (hw : Region.wanted o (yielded ops a.tmps) = true) (hr : (execOp a.eval o).run P w = .ok (.value v) w) (h : wpStill P ops w Q rest (a.put o.dst v)) : wpStill P ops w Q (o :: rest) a := by
  simp only [wpStill, hw, if_true, Oper.still, hr, Oper.stillUpon_value]; exact h
theorem wpStill_load_mid {Q : Act → Prop} (hw : Region.wanted o (yielded ops a.tmps) = true) (ty : TypeId) (x : Operand) (ho : o.op = .load ty x)
    (b f : Nat) (hx : a.eval x = .pointer (some ⟨b, f, none⟩)) (cs : List Value) (d : TypeDesc) (hc : w.rangeAt b f cs)
    (hu : P.underlying ty = some d) (hd : d.isRow = true) (hi : (P.info? ty).map (·.size) = some cs.length)
    (h : wpStill P ops w Q rest (a.put o.dst (.agg cs.toArray))) : wpStill P ops w Q (o :: rest) a :=
  wpStill_val hw (by
    unfold execOp
    simp only [ho, hx, Instr.loadAt, Instr.sureAddr, Sem.run_bind, Sem.run_pure, Result.andThen_ok, run_loadVar_mid w b f ty cs d hc hu hd hi]) h
theorem wpStill_build {Q : Act → Prop} (hw : Region.wanted o (yielded ops a.tmps) = true) (t : TypeId) (parts : Array (Nat × Operand)) (ho : o.op = .build t parts) (ps : Array (Nat × Value)) (hp : (parts.map fun (i, x) => (i, a.eval x)) = ps) (v : Value)
    (hb : (Instr.build t ps).run P w = .ok v w)
    (h : wpStill P ops w Q rest (a.put o.dst v)) : wpStill P ops w Q (o :: rest) a :=
  wpStill_val hw (by unfold execOp; simp only [ho, hp, Sem.run_bind, hb, Sem.run_pure, Result.andThen_ok]) h
end
end Go.Proofs.Ytfoofipkbijajaa.Kit
