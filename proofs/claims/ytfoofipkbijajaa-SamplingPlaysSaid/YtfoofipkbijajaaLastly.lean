/- A region whose last operation waits for all others: the condition that lets a load be taken first need not outlive that last operation. No statement of the seat is proved here. -/
import Derived.Test.YtfoofipkbijajaaMid2
namespace Go.Proofs.Ytfoofipkbijajaa.Sa
open Go.RowKit Go.Proofs.Ytfoofipkbijajaa.Kit
section
variable {P : Program} {ops : Array Oper} {Q : Exit → Act → World → Prop} {md : Region.Mode} {S : World → Prop}
/-- Any order; S holds behind each operation but number z. -/
def AnyZ (P : Program) (md : Region.Mode) (ops : Array Oper) (Q : Exit → Act → World → Prop) (S : World → Prop) (z : Nat) : Nat → Array Bool → Act → World → Prop
  | 0, l, a, w => Region.ready md ops l = [] ∧ Q .normal a w
  | n + 1, l, a, w => (Region.ready md ops l = [] → Q .normal a w) ∧
      ∀ j, j ∈ Region.ready md ops l → wpOp P ops Q j (fun a' w' => (j ≠ z → S w') ∧ AnyZ P md ops Q S z n (l.setIfInBounds j true) a' w') a w
theorem AnyZ.plain {z : Nat} {n : Nat} : ∀ {l : Array Bool} {a : Act} {w : World}, AnyZ P md ops Q S z n l a w → wpAny P md ops Q n l a w := by
  induction n with
  | zero => exact fun h => h
  | succ n ih => exact fun h => ⟨h.1, fun j hj => wpOp_mono (fun _ _ k => ih k.2) (h.2 j hj)⟩
/-- Number i may be taken first, when z waits for it. -/
theorem AnyZ.first {z i : Nat} {oi oz : Oper} {v : Value} (hi : ops[i]? = some oi) (hz : ops[z]? = some oz) (hw : ∃ e ∈ oz.after, Region.binds md e = true ∧ e.on = i)
    (hsel : Region.noSelect ops = true) (hQ : ∀ c a w, Q (.panic c) (a.put oi.dst v) w → Q (.panic c) a w) {n : Nat} :
    ∀ {l : Array Bool} {a : Act} {w : World}, (∀ j oj, ops[j]? = some oj → j ≠ i → l.getD j true = false → (∀ e ∈ oj.after, Region.binds md e = true → e.on ≠ i) → oi.apart ops oj = true) →
      i ∈ Region.ready md ops l → YieldsIf P ops S oi v a → S w → AnyZ P md ops Q S z n (l.setIfInBounds i true) (a.put oi.dst v) w → AnyZ P md ops Q S z (n + 1) l a w := by
  have hsl := fun (j : Nat) (o : Oper) cs b ho => Region.noSelect_spec hsel j o cs b ho
  -- an operation that is ready while i is still to come does not wait for i, so it is not z
  have hno : ∀ {l : Array Bool} {j : Nat}, i ∈ Region.ready md ops l → j ∈ Region.ready md ops l → ∃ oj, ops[j]? = some oj ∧ (∀ e ∈ oj.after, Region.binds md e = true → e.on ≠ i) ∧ j ≠ z := by
    intro l j h1 h2
    obtain ⟨-, oj, hoj, hall⟩ := mem_ready.1 h2
    have h0 := (mem_ready.1 h1).1
    have hun : ∀ e ∈ oj.after, Region.binds md e = true → e.on ≠ i := by
      intro e he hb hon
      have h3 := hall e he hb
      rw [hon, Array.getD_eq_getD_getElem?] at h3
      rw [Array.getD_eq_getD_getElem?] at h0
      cases hx : l[i]? with
      | none => rw [hx] at h3; cases h3
      | some x => rw [hx] at h3 h0; simp only [Option.getD_some] at h3 h0; rw [h3] at h0; cases h0
    refine ⟨oj, hoj, hun, fun e => ?_⟩
    subst e
    obtain ⟨e, he, hb, hon⟩ := hw
    rw [hz] at hoj
    injection hoj with hoj
    subst hoj
    exact hun e he hb hon
  induction n with
  | zero =>
    intro l a w _ hr hy hS H
    refine ⟨fun h => absurd hr (by rw [h]; exact List.not_mem_nil), fun j hj => ?_⟩
    rcases Nat.decEq j i with e | e
    · have h1 := ready_mono hj e
      rw [H.1] at h1
      exact absurd h1 List.not_mem_nil
    · subst e
      exact hy.wpOp hi hS ⟨fun _ => hS, H⟩
  | succ n ih =>
    intro l a w hf hr hy hS H
    refine ⟨fun h => absurd hr (by rw [h]; exact List.not_mem_nil), fun j hj => ?_⟩
    rcases Nat.decEq j i with e | e
    · obtain ⟨oj, hoj, hun, hjz⟩ := hno hr hj
      have hl := (mem_ready.1 hj).1
      refine wpOp_mono (fun a' w' k => ⟨fun _ => k.2.1 hjz, ih (fun m om hm hmi hml hmu => hf m om hm hmi ?_ hmu) (ready_mono hr (fun x => e x.symm)) k.1 (k.2.1 hjz) ?_⟩)
        (wpOp_putIf hoj (hf j oj hoj e hl hun) (fun cs b => hsl i oi cs b hi) (fun cs b => hsl j oj cs b hoj) hQ hy (H.2 j (ready_mono hj e)))
      · rcases Nat.decEq j m with x | x
        · rw [getD_set_ne true x] at hml; exact hml
        · subst x; exact hl
      · have k2 := k.2.2
        rw [Array.setIfInBounds_comm _ _ (fun x => e x.symm)] at k2
        exact k2
    · subst e
      exact hy.wpOp hi hS ⟨fun _ => hS, H⟩
theorem AnyZ.take {z : Nat} (i : Nat) {oi oz : Oper} {v : Value} {n : Nat} {l : Array Bool} {a : Act} {w : World} (hi : ops[i]? = some oi) (hz : ops[z]? = some oz)
    (hw : (oz.after.any fun e => Region.binds md e && e.on == i) = true) (hsel : Region.noSelect ops = true) (hf : Region.free md ops l i = true) (hr : (Region.ready md ops l).contains i = true)
    (hQ : ∀ c a w, Q (.panic c) (a.put oi.dst v) w → Q (.panic c) a w) (hy : YieldsIf P ops S oi v a) (hS : S w)
    (h : AnyZ P md ops Q S z n (l.setIfInBounds i true) (a.put oi.dst v) w) : AnyZ P md ops Q S z (n + 1) l a w := by
  refine AnyZ.first hi hz ?_ hsel hQ (Region.free_spec hi hf) (by simpa using hr) hy hS h
  rw [Array.any_eq_true'] at hw
  obtain ⟨e, he, hb⟩ := hw
  rw [Bool.and_eq_true, beq_iff_eq] at hb
  exact ⟨e, he, hb.1, hb.2⟩
/-- One alone may come up. -/
theorem AnyZ.one {z i : Nat} {n : Nat} {l : Array Bool} {a : Act} {w : World} (hr : Region.ready md ops l = [i])
    (h : wpOp P ops Q i (fun a' w' => (i ≠ z → S w') ∧ AnyZ P md ops Q S z n (l.setIfInBounds i true) a' w') a w) : AnyZ P md ops Q S z (n + 1) l a w := by
  refine ⟨fun h0 => ?_, fun j hj => ?_⟩
  · rw [hr] at h0; cases h0
  · rw [hr] at hj
    obtain rfl := List.mem_singleton.1 hj
    exact h
/-- An operation, and what follows it as a letter. -/
def StepG (P : Program) (ops : Array Oper) (o : Oper) (a : Act) (w : World) (K : Act → World → Prop) (Q : Exit → Act → World → Prop) : Prop :=
  if Region.wanted o (yielded ops a.tmps) = true then Oper.wp P o a w K Q else K (a.put o.dst undef) w
theorem StepG.of {o : Oper} {a : Act} {w : World} {K : Act → World → Prop} (h : if Region.wanted o (yielded ops a.tmps) = true then Oper.wp P o a w K Q else K (a.put o.dst undef) w) : StepG P ops o a w K Q := h
/-- One alone may come up: the step is handed over with a letter for what follows. -/
theorem AnyZ.step (i : Nat) {z : Nat} {o : Oper} {n : Nat} {l : Array Bool} {a : Act} {w : World} (hr : Region.ready md ops l = [i]) (ho : ops[i]? = some o)
    (h : ∀ K : Act → World → Prop, Hid (∀ a' w', (i ≠ z → S w') → AnyZ P md ops Q S z n (l.setIfInBounds i true) a' w' → K a' w') → StepG P ops o a w K Q) :
    AnyZ P md ops Q S z (n + 1) l a w :=
  AnyZ.one hr (wpOp_step ho fun K hK => h K (Lib.hid fun a' w' h1 h2 => hK a' w' ⟨h1, h2⟩))
theorem cell_keeps {w w' : World} {base e n : Nat} {xs : List Value} {g cap p : Nat} {u : Value} (h : w.ownsRow base e 1 (.slice (some ⟨g, 0, none⟩) n cap) n xs) (h' : w'.ownsRow base e 1 (.slice (some ⟨g, 0, none⟩) n cap) n xs)
    (hp : p < xs.length) (hx : w.cell? ⟨g, p, none⟩ = some u) : w'.cell? ⟨g, p, none⟩ = some u := by
  obtain ⟨g1, c1, e1, x1⟩ := row_at h hp
  obtain ⟨g2, c2, e2, x2⟩ := row_at h' hp
  injection e1 with e1
  injection e1 with e1
  injection e1 with e1
  injection e2 with e2
  injection e2 with e2
  injection e2 with e2
  subst e1 e2
  rw [x2, ← hx, x1]
theorem AnyZ.done {z n : Nat} {l : Array Bool} {a : Act} {w : World} (hr : Region.ready md ops l = []) (h : Q .normal a w) : AnyZ P md ops Q S z n l a w := by
  cases n with
  | zero => exact ⟨hr, h⟩
  | succ n => exact ⟨fun _ => h, fun j hj => by rw [hr] at hj; exact absurd hj List.not_mem_nil⟩
theorem wp_region_z (S : World → Prop) (z : Nat) {id : Nat} {a : Act} {w : World} (hm : P.follows .mixedOrders = true)
    (h : AnyZ P .any ops Q S z ops.size (Array.replicate ops.size false) a w.drew) : (Code.region id ops true).wp P Q a w :=
  wp_region_any hm (AnyZ.plain h)
/-- Behind the loads S is asked no more. -/
theorem AnyZ.off {z : Nat} {n : Nat} {l : Array Bool} {a : Act} {w : World} (h : wpAny P md ops Q n l a w) : AnyZ P md ops Q (fun _ => True) z n l a w := by
  induction n generalizing l a w with
  | zero => exact h
  | succ n ih => exact ⟨h.1, fun j hj => wpOp_mono (fun _ _ k => ⟨fun _ => trivial, ih k⟩) (h.2 j hj)⟩
end
end Go.Proofs.Ytfoofipkbijajaa.Sa
