/- append of a slice that may be nil, as one law. No statement of the seat is proved here. -/
import Derived.Test.YtfoofipkbijajaaKnown
import Derived.Laws.AppendOwnNone
namespace Go.Proofs.Ytfoofipkbijajaa.Sa
open Go.RowKit Go.Proofs.Ytfoofipkbijajaa.Kit
set_option linter.unusedSimpArgs false
set_option linter.unusedVariables false

theorem wpList_append_sl {P : Program} {w : World} {ops : Array Oper} {rest : List Oper} {o : Oper} {a : Act} {Q : Exit → Act → World → Prop} (hgd : o.guard = none) (s x : Operand) (t : TypeId)
    (ho : o.op = .call { callee := .builtin .append, args := #[s, x], argTypes := #[t, t] }) (k : IntKind) (m base : Nat) (e : TypeId) (hu : P.underlying t = some (.slice e))
    (hi : (P.info? e).map (fun i => (i.zero, i.size, i.bytes)) = some (some (.int k 0), 1, m))
    (v : Value) (xs : List Int) (hs : a.eval s = v) (hown : w.ownsRow base e 1 v xs.length (xs.map (Value.int k)))
    (u : Value) (ys : List Int) (hx : a.eval x = u) (hsl : Sl k m w u ys) (hm : xs.length + ys.length ≤ maxLen) (hbytes : (xs.length + ys.length) * m ≤ 140737488355328) (hbase : base ≤ w.heap.size)
    (h : ∀ v' w', w'.ownsRow base e 1 v' (xs ++ ys).length ((xs ++ ys).map (Value.int k)) → Chg w w' v.ownBlock → wpList P ops Q rest (a.put o.dst v') w') : wpList P ops Q (o :: rest) a w := by
  obtain ⟨i0, hi0, hz0, hz1, hz2⟩ := info_parts hi
  have hsl' := hsl
  obtain ⟨⟨A, cap, rfl, hcap, hcc⟩, hf⟩ := hsl
  cases A with
  | none =>
    have h0 : ys = [] := by
      cases ys with
      | nil => rfl
      | cons a l => obtain ⟨b, off, hA, _⟩ := hcc (by simp); cases hA
    subst h0
    refine wpList_plain hgd fun K hK => ?_
    have hrun : (Builtin.append_ #[t, t] o.type #[v, .slice none 0 cap]).run P w = .ok v w := by
      rcases hown.2 with ⟨rfl, h0⟩ | ⟨g, cp, cur, rfl, _, _, hnc, _⟩
      · simp [Builtin.append_, run_underlying hu, sizeOf, typeInfo, hi0, Builtin.lenOf, Builtin.firstCells]
      · simp [Builtin.append_, run_underlying hu, sizeOf, typeInfo, hi0, Builtin.lenOf, Builtin.firstCells, hnc, storeCells]
    unfold Oper.wp
    have hx' : a.eval x = .slice none 0 cap := hx
    simp only [execOp, ho, resolve, invoke, builtin, Sem.run_bind, Sem.run_pure, Result.andThen_ok, List.map_toArray, List.map_cons, List.map_nil, hs, hx', hrun]
    exact hK _ _ (h v w (by simpa using hown) (Chg.refl w _))
  | some ad =>
    refine wpList_append_own w hgd s x t ho base e i0 (.int k 0) 1 m hu hi0 hz0 hz1 hz2 rfl (by decide) v xs.length _ hs hown ad ys.length cap (ys.map (Value.int k)) hx (by simp) (sl_cells hsl') (map_one k ys) hm hbytes hbase ?_
    intro v' w' h1 h2 _
    exact h v' w' (by simpa using h1) h2
end Go.Proofs.Ytfoofipkbijajaa.Sa
