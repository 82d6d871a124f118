/- What stands in a call of lines. No statement of the seat is proved here. -/
import Derived.Test.YtpedciapkalhgaaDoorOthers
import Derived.Deep.CutRange
import Derived.Deep.CutBlock
import Derived.Laws.EntriesVeiled
namespace Go.Proofs.YtpedciapkalhgaaDoor.Gk
open Go.RowKit Go.Shelf Go.Proofs.YtpedciapkalhgaaDoor.Kit
attribute [local go_sem] Oper.semAt_some
set_option linter.unusedSimpArgs false
set_option linter.unusedVariables false

theorem Ex.more {S T : Nat → Prop} {w w1 w2 : World} (h : Ex S w w1) (k : Ex T w1 w2) (hT : ∀ i, i < w.heap.size → T i → S i) : Ex S w w2 :=
  ⟨k.os.trans h.os, k.tape.trans h.tape, k.output.trans h.output, Nat.le_trans h.size k.size, fun i hi hn => (k.block i (Nat.lt_of_lt_of_le hi h.size) (fun x => hn (hT i hi x))).trans (h.block i hi hn)⟩
theorem kf_ex {S : Nat → Prop} {B : Nat} {w w' : World} (h : Ex S w w') (hS : ∀ i, S i → i < B) : KeepsFrom B w w' :=
  ⟨h.size, fun k o hB hk _ => (h.block k (Array.getElem?_eq_some_iff.1 hk).1 (fun x => by have := hS k x; omega)).trans hk⟩
/-- No panic leaves. -/
def NoPanic (Q : Exit → Act → World → Prop) : Exit → Act → World → Prop
  | .panic _, _, _ => False
  | .normal, a, w => Q .normal a w
  | .ret, a, w => Q .ret a w
  | .exit i, a, w => Q (.exit i) a w
  | .goto t, a, w => Q (.goto t) a w
  | .outgrown, a, w => Q .outgrown a w
theorem nopanic {Q : Exit → Act → World → Prop} : ∀ (e : Exit) (a : Act) (w : World), NoPanic Q e a w → Q e a w
  | .panic _, _, _, h => h.elim
  | .normal, _, _, h => h
  | .ret, _, _, h => h
  | .exit _, _, _, h => h
  | .goto _, _, _, h => h
  | .outgrown, _, _, h => h
/-- Behind a range that counted in box nb. -/
def AfterR (tm : Array Value) (ds : List Deferred) (wA : World) (nb : Nat) (P : Nat → Prop) (e : Exit) (a' : Act) (w' : World) : Prop :=
  e = Exit.normal ∧ ∃ (D k : Nat), a' = { tmps := tm, defers := { target := .collected D, args := #[] } :: ds } ∧
    Hid (Boxed w' nb 3 (.int .i64 k) ∧ Ex (fun j => j = nb) wA w' ∧ P k ∧ wA.heap.size ≤ D ∧ w'.heap[D]? = some (.deferred (some [])))
/-- A list that the call holds in box tb. -/
def Want (w wx : World) (tb : Nat) (AA : Option Addr) (cp : Nat) (L : List Nat) : Prop :=
  w.heap.size ≤ tb ∧ Boxed wx tb 22 (.slice AA L.length cp) ∧ Below w.heap.size w wx ∧ (0 < L.length → ∃ gl, AA = some ⟨gl, 0, none⟩) ∧
    ∀ gl, AA = some ⟨gl, 0, none⟩ → 0 < L.length → ∀ j, j < L.length → wx.cell? ⟨gl, j, none⟩ = some (.int .i64 (L.getD j 0 : Nat))
/-- An iterator that the call holds in box sb. -/
def Seqb (w wx : World) (sb cb : Nat) (g : Nat) (c : Int) : Prop :=
  w.heap.size ≤ sb ∧ Boxed wx sb 47 (.func (.func 34) #[] #[.pointer (some ⟨cb, 0, none⟩), .pointer (some ⟨cb + 1, 0, none⟩)]) ∧ Boxed wx cb 24 (.pointer (some ⟨g, 0, none⟩)) ∧ Boxed wx (cb + 1) 3 (.int .i64 c) ∧ Below w.heap.size w wx
structure Ln (W : World) (q g b x y z : Nat) (r : List Int) (p m : Nat) (h0 : Nat) (c most : Int) : Prop where
  pa : PAt W q g b x y z r p m
  b3 : Boxed W h0 56 (.pointer (some ⟨q, 0, none⟩))
  b4 : Boxed W (h0 + 1) 3 (.int .i64 c)
  b5 : Boxed W (h0 + 1 + 1) 3 (.int .i64 most)
  b6 : Boxed W (h0 + 1 + 1 + 1) 4 (.bool false)
theorem Ln.below {W W' : World} {q g b x y z : Nat} {r : List Int} {p m h0 : Nat} {c most : Int} (h : Ln W q g b x y z r p m h0 c most) (k : Below W.heap.size W W') : Ln W' q g b x y z r p m h0 c most :=
  ⟨h.pa.below k, (k.block _ h.b3.lt).trans h.b3, (k.block _ h.b4.lt).trans h.b4, (k.block _ h.b5.lt).trans h.b5, (k.block _ h.b6.lt).trans h.b6⟩
theorem wantA {w1 w2 : World} {base cp : Nat} {AA : Option Addr} {L : List Nat} (b2 : Below w1.heap.size w1.drew w2) (OW : 0 < L.length → ∃ g, AA = some ⟨g, 0, none⟩ ∧ base ≤ g ∧ g < w2.heap.size ∧ ∀ j, j < L.length → w2.cell? ⟨g, j, none⟩ = some (.int .i64 (L.getD j 0 : Nat))) :
    Want w1 (w2.alloc (.cells #[.slice AA L.length cp] 22)) w2.heap.size AA cp L := by
  have b3 : Below w1.heap.size w1 w2 := ⟨b2.os, b2.tape, b2.output, b2.size, b2.block⟩
  refine ⟨b3.size, Boxed.new w2 22 _, b3.alloc b3.size _, fun h => by obtain ⟨g, e, _⟩ := OW h; exact ⟨g, e⟩, fun gl e h j hj => ?_⟩
  obtain ⟨g, e2, _, _, hc⟩ := OW h
  rw [e] at e2; cases e2
  exact cell_alloc_l _ (hc j hj)
theorem wantB {w1 w2 : World} {base cp : Nat} {AA : Option Addr} {L : List Nat} {o : Obj} {u : Value} (b2 : Below (w1.alloc o).heap.size (w1.alloc o).drew w2) (K1 : Boxed w2 w1.heap.size 22 u) (hb : w1.heap.size < base)
    (OW : 0 < L.length → ∃ g, AA = some ⟨g, 0, none⟩ ∧ base ≤ g ∧ g < w2.heap.size ∧ ∀ j, j < L.length → w2.cell? ⟨g, j, none⟩ = some (.int .i64 (L.getD j 0 : Nat))) :
    Want w1 (w2.setCell ⟨w1.heap.size, 0, none⟩ (.slice AA L.length cp)) w1.heap.size AA cp L := by
  have b3 : Below (w1.alloc o).heap.size (w1.alloc o) w2 := ⟨b2.os, b2.tape, b2.output, b2.size, b2.block⟩
  have b4 : Below w1.heap.size w1 w2 := ((Below.refl w1.heap.size w1).alloc (Nat.le_refl _) o).trans (b3.mono (by simp))
  refine ⟨Nat.le_refl _, K1.set _, b4.setCell (p := ⟨w1.heap.size, 0, none⟩) (Nat.le_refl _) _, fun h => by obtain ⟨g, e, _⟩ := OW h; exact ⟨g, e⟩, fun gl e h j hj => ?_⟩
  obtain ⟨g, e2, h2, h3, hc⟩ := OW h
  rw [e] at e2; cases e2
  exact cell_of_kept (set_chg w2 w1.heap.size _) (hc j hj) (by omega)
theorem lines_box (w : World) (b : Nat) (c : Int) :
    Calls Tryd.prog 19 #[.pointer (some ⟨b, 0, none⟩), .int .i64 c] w fun e w' => ∃ cb, e = .returned (.func (.func 34) #[] #[.pointer (some ⟨cb, 0, none⟩), .pointer (some ⟨cb + 1, 0, none⟩)]) ∧
      w.heap.size ≤ cb ∧ Boxed w' cb 24 (.pointer (some ⟨b, 0, none⟩)) ∧ Boxed w' (cb + 1) 3 (.int .i64 c) ∧ Below w.heap.size w w' := by
  refine (lines_any w b c).mono ?_
  rintro e w' ⟨rfl, rfl⟩
  have := Boxed.new (w.alloc (.cells #[.pointer (some ⟨b, 0, none⟩)] 24)) 3 (.int .i64 c)
  rw [World.size_alloc] at this
  exact ⟨_, rfl, Nat.le_refl _, (Boxed.new w 24 _).alloc _, this, ((Below.refl _ w).alloc (Nat.le_refl _) _).alloc (by simp) _⟩
theorem seqA {w1 w2 : World} {cb g : Nat} {c : Int} (b2 : Below w1.heap.size w1.drew w2) (XL : Boxed w2 cb 24 (.pointer (some ⟨g, 0, none⟩))) (XC : Boxed w2 (cb + 1) 3 (.int .i64 c)) :
    Seqb w1 (w2.alloc (.cells #[.func (.func 34) #[] #[.pointer (some ⟨cb, 0, none⟩), .pointer (some ⟨cb + 1, 0, none⟩)]] 47)) w2.heap.size cb g c := by
  have b3 : Below w1.heap.size w1 w2 := ⟨b2.os, b2.tape, b2.output, b2.size, b2.block⟩
  exact ⟨b3.size, Boxed.new w2 47 _, XL.alloc _, XC.alloc _, b3.alloc b3.size _⟩
theorem seqB {w1 w2 : World} {cb g : Nat} {c : Int} {o : Obj} {u : Value} (b2 : Below (w1.alloc o).heap.size (w1.alloc o).drew w2) (K1 : Boxed w2 w1.heap.size 47 u) (hb : w1.heap.size < cb) (XL : Boxed w2 cb 24 (.pointer (some ⟨g, 0, none⟩))) (XC : Boxed w2 (cb + 1) 3 (.int .i64 c)) :
    Seqb w1 (w2.setCell ⟨w1.heap.size, 0, none⟩ (.func (.func 34) #[] #[.pointer (some ⟨cb, 0, none⟩), .pointer (some ⟨cb + 1, 0, none⟩)])) w1.heap.size cb g c := by
  have b3 : Below (w1.alloc o).heap.size (w1.alloc o) w2 := ⟨b2.os, b2.tape, b2.output, b2.size, b2.block⟩
  have b4 : Below w1.heap.size w1 w2 := ((Below.refl w1.heap.size w1).alloc (Nat.le_refl _) o).trans (b3.mono (by simp))
  exact ⟨Nat.le_refl _, K1.set _, XL.kept (set_chg w2 w1.heap.size _) (fun e => by have := Option.some.inj e; omega), XC.kept (set_chg w2 w1.heap.size _) (fun e => by have := Option.some.inj e; omega), b4.setCell (p := ⟨w1.heap.size, 0, none⟩) (Nat.le_refl _) _⟩
theorem ln_start (w : World) (q g b x y z : Nat) (r : List Int) (p m : Nat) (h : PAt w q g b x y z r p m) (c most : Int) :
    Ln ((((w.alloc (.cells #[.pointer (some ⟨q, 0, none⟩)] 56)).alloc (.cells #[.int .i64 c] 3)).alloc (.cells #[.int .i64 most] 3)).alloc (.cells #[.bool false] 4)) q g b x y z r p m w.heap.size c most ∧
    Below w.heap.size w ((((w.alloc (.cells #[.pointer (some ⟨q, 0, none⟩)] 56)).alloc (.cells #[.int .i64 c] 3)).alloc (.cells #[.int .i64 most] 3)).alloc (.cells #[.bool false] 4)) := by
  have e1 : (w.alloc (.cells #[.pointer (some ⟨q, 0, none⟩)] 56)).heap.size = w.heap.size + 1 := by simp
  have e2 : ((w.alloc (.cells #[.pointer (some ⟨q, 0, none⟩)] 56)).alloc (.cells #[.int .i64 c] 3)).heap.size = w.heap.size + 1 + 1 := by simp
  have e3 : (((w.alloc (.cells #[.pointer (some ⟨q, 0, none⟩)] 56)).alloc (.cells #[.int .i64 c] 3)).alloc (.cells #[.int .i64 most] 3)).heap.size = w.heap.size + 1 + 1 + 1 := by simp
  have n1 := Boxed.new w 56 (.pointer (some ⟨q, 0, none⟩))
  have n2 := Boxed.new (w.alloc (.cells #[.pointer (some ⟨q, 0, none⟩)] 56)) 3 (.int .i64 c)
  have n3 := Boxed.new ((w.alloc (.cells #[.pointer (some ⟨q, 0, none⟩)] 56)).alloc (.cells #[.int .i64 c] 3)) 3 (.int .i64 most)
  have n4 := Boxed.new (((w.alloc (.cells #[.pointer (some ⟨q, 0, none⟩)] 56)).alloc (.cells #[.int .i64 c] 3)).alloc (.cells #[.int .i64 most] 3)) 4 (.bool false)
  rw [e1] at n2; rw [e2] at n3; rw [e3] at n4
  have B : Below w.heap.size w ((((w.alloc (.cells #[.pointer (some ⟨q, 0, none⟩)] 56)).alloc (.cells #[.int .i64 c] 3)).alloc (.cells #[.int .i64 most] 3)).alloc (.cells #[.bool false] 4)) :=
    ((((Below.refl w.heap.size w).alloc (Nat.le_refl _) _).alloc (by omega) _).alloc (by omega) _).alloc (by omega) _
  exact ⟨⟨h.below B, ((n1.alloc _).alloc _).alloc _, (n2.alloc _).alloc _, n3.alloc _, n4⟩, B⟩
end Go.Proofs.YtpedciapkalhgaaDoor.Gk
