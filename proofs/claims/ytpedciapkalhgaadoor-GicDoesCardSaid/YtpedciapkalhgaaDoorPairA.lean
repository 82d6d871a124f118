/- A controller beside the document's: one contract for each call of both, in the same words. No statement of the seat is proved here. -/
import Derived.Test.YtpedciapkalhgaaDoorRefF
namespace Go.Proofs.YtpedciapkalhgaaDoor.Gk
open Go.RowKit Go.Proofs.YtpedciapkalhgaaDoor.Kit
set_option linter.unusedSimpArgs false
set_option linter.unusedVariables false

structure PAt (w : World) (q g b x y z : Nat) (r : List Int) (p m : Nat) : Prop where
  pr : w.heap[q]? = some (.cells #[.pointer (some ⟨g, 0, none⟩), .pointer (some ⟨b, 0, none⟩)] 60 (0, 0))
  gc : GicAt w g r p m
  rf : RAt w b x y z r p m
section
variable {w w' : World} {q g b x y z : Nat} {r : List Int} {p m : Nat}
theorem PAt.cg (h : PAt w q g b x y z r p m) : w.cell? ⟨q, 0, none⟩ = some (.pointer (some ⟨g, 0, none⟩)) := by rw [cell_of_row _ _ _ _ _ _ h.pr]; rfl
theorem PAt.cb (h : PAt w q g b x y z r p m) : w.cell? ⟨q, 1, none⟩ = some (.pointer (some ⟨b, 0, none⟩)) := by rw [cell_of_row _ _ _ _ _ _ h.pr]; rfl
theorem PAt.lt (h : PAt w q g b x y z r p m) : q < w.heap.size := (Array.getElem?_eq_some_iff.1 h.pr).1
theorem PAt.ne (h : PAt w q g b x y z r p m) : q ≠ g ∧ q ≠ b ∧ q ≠ x ∧ q ≠ y ∧ q ≠ z ∧ g ≠ b ∧ g ≠ x ∧ g ≠ y ∧ g ≠ z := by
  refine ⟨fun e => ?_, fun e => ?_, fun e => ?_, fun e => ?_, fun e => ?_, fun e => ?_, fun e => ?_, fun e => ?_, fun e => ?_⟩
  · have := h.pr.symm.trans (e ▸ h.gc.heap); simp at this
  · have := h.pr.symm.trans (e ▸ h.rf.hb); simp at this
  · have := h.pr.symm.trans (e ▸ h.rf.hx); simp at this
  · have := h.pr.symm.trans (e ▸ h.rf.hy); simp at this
  · have := h.pr.symm.trans (e ▸ h.rf.hz); simp at this
  · have := h.gc.heap.symm.trans (e ▸ h.rf.hb); simp at this
  · have := h.gc.heap.symm.trans (e ▸ h.rf.hx); simp at this
  · have := h.gc.heap.symm.trans (e ▸ h.rf.hy); simp at this
  · have := h.gc.heap.symm.trans (e ▸ h.rf.hz); simp at this
/-- The blocks that a pair writes. -/
def F4 (g x y z : Nat) (j : Nat) : Prop := j = g ∨ j = x ∨ j = y ∨ j = z
theorem PAt.ex {S : Nat → Prop} (h : PAt w q g b x y z r p m) (k : Ex S w w') (nq : ¬ S q) (ng : ¬ S g) (nb : ¬ S b) (nx : ¬ S x) (ny : ¬ S y) (nz : ¬ S z) : PAt w' q g b x y z r p m :=
  ⟨(k.block q h.lt nq).trans h.pr, h.gc.ex k ng, h.rf.ex k nb nx ny nz⟩
theorem PAt.below (h : PAt w q g b x y z r p m) (k : Below w.heap.size w w') : PAt w' q g b x y z r p m := h.ex (Ex.of_below k (fun _ => False)) id id id id id id
theorem PAt.alloc (h : PAt w q g b x y z r p m) (o : Obj) : PAt (w.alloc o) q g b x y z r p m := h.below ((Below.refl _ w).alloc (Nat.le_refl _) o)
theorem PAt.drewN (h : PAt w q g b x y z r p m) (n : Nat) : PAt (w.drewN n) q g b x y z r p m := ⟨h.pr, h.gc.drewN n, h.rf.drewN n⟩
theorem PAt.drew (h : PAt w q g b x y z r p m) : PAt w.drew q g b x y z r p m := ⟨h.pr, h.gc.drew, h.rf.drew⟩
/-- The controller has turned; then the document's. -/
theorem PAt.both {w1 w2 : World} (h : PAt w q g b x y z r p m) {r' : List Int} {p' m' : Nat} (g1 : GicAt w1 g r' p' m') (c1 : Chg w w1 g) (r2 : RAt w2 b x y z r' p' m') (c2 : Ex (F3 x y z) w1 w2) : PAt w2 q g b x y z r' p' m' ∧ Ex (F4 g x y z) w w2 := by
  obtain ⟨n1, n2, n3, n4, n5, n6, n7, n8, n9⟩ := h.ne
  have hq : w1.heap[q]? = w.heap[q]? := c1.block q h.lt (fun e => n1 (Option.some.inj e))
  have hq1 : q < w1.heap.size := Nat.lt_of_lt_of_le h.lt c1.size
  refine ⟨⟨(c2.block q hq1 (fun e => by rcases e with e | e | e <;> omega)).trans (hq.trans h.pr), g1.ex c2 (fun e => by rcases e with e | e | e <;> omega), r2⟩, ?_⟩
  exact ((Ex.refl (F4 g x y z) w).chg c1 (.inl (.inl rfl))).trans (c2.mono fun i _ e => by rcases e with e | e | e; exact .inr (.inl e); exact .inr (.inr (.inl e)); exact .inr (.inr (.inr e)))
theorem PAt.mid {w1 : World} (h : PAt w q g b x y z r p m) (c1 : Chg w w1 g) : RAt w1 b x y z r p m ∧ w1.cell? ⟨q, 1, none⟩ = some (.pointer (some ⟨b, 0, none⟩)) ∧ w1.cell? ⟨q, 0, none⟩ = some (.pointer (some ⟨g, 0, none⟩)) := by
  obtain ⟨n1, n2, n3, n4, n5, n6, n7, n8, n9⟩ := h.ne
  have e := (Ex.refl (fun j => j = g) w).chg c1 (.inl rfl)
  exact ⟨h.rf.ex e (Ne.symm n6) (Ne.symm n7) (Ne.symm n8) (Ne.symm n9), cell_of_kept c1 h.cb n1, cell_of_kept c1 h.cg n1⟩
end

/-! ### Route -/
def rcode (l c : Int) : Int := if isL l = true then (if c = 0 ∨ isC c = true then 0 else 91) else 90
def does3 (l c : Int) (r : List Int) : Prop := (isL l = true ∧ (c = 0 ∨ isC c = true)) ∧ nth r l.toNat ≠ c
instance (l c : Int) (r : List Int) : Decidable (does3 l c r) := by unfold does3; exact inferInstance
def roR (l c : Int) (r : List Int) : List Int := if does3 l c r then r.set l.toNat c else r
def roP (l c : Int) (r : List Int) (p : Nat) : Nat := if does3 l c r then drop p l.toNat else p
theorem isC_out {c : Int} (h : ¬ (c = 0 ∨ isC c = true)) : c ≠ 0 ∧ isC c = false := ⟨fun e => h (.inl e), by cases hc : isC c with | false => rfl | true => exact absurd (.inr hc) h⟩
theorem isL_out {l : Int} (h : ¬ isL l = true) : l < 0 ∨ 32 ≤ l := by simp [isL] at h; omega
theorem groute (w : World) (g : Nat) (r : List Int) (p m : Nat) (l c : Int) (h : GicAt w g r p m) :
    Calls Tryd.prog 20 #[.pointer (some ⟨g, 0, none⟩), .int .i64 l, .int .i64 c] w fun e w' => e = .returned (.int .i64 (rcode l c)) ∧ GicAt w' g (roR l c r) (roP l c r p) (roP l c r m) ∧ Chg w w' g := by
  unfold rcode roR roP
  by_cases hl : isL l = true
  · obtain ⟨k, rfl, hk⟩ := isL_nat hl
    by_cases hc : c = 0 ∨ isC c = true
    · by_cases hn : nth r k = c
      · have hd : ¬ does3 (k : Int) c r := fun h => h.2 (by simpa using hn)
        rw [if_pos hl, if_pos hc, if_neg hd, if_neg hd, if_neg hd]
        exact (route_same w g r p m k c h hk hc hn).mono fun e w' h2 => ⟨h2.1, h2.2 ▸ h, h2.2 ▸ Chg.refl w g⟩
      · have hd : does3 (k : Int) c r := ⟨⟨hl, hc⟩, by simpa using hn⟩
        rw [if_pos hl, if_pos hc, if_pos hd, if_pos hd, if_pos hd]
        simpa using route_new w g r p m k c h hk hc hn
    · obtain ⟨h0, h1⟩ := isC_out hc
      have hd : ¬ does3 (k : Int) c r := fun h => hc h.1.2
      rw [if_pos hl, if_neg hc, if_neg hd, if_neg hd, if_neg hd]
      exact (route_cell w g k c hk h0 h1).mono fun e w' h2 => ⟨h2.1, h2.2 ▸ h, h2.2 ▸ Chg.refl w g⟩
  · have hd : ¬ does3 l c r := fun h => hl h.1.1
    rw [if_neg hl, if_neg hd, if_neg hd, if_neg hd]
    exact (route_line w g l c (isL_out hl)).mono fun e w' h2 => ⟨h2.1, h2.2 ▸ h, h2.2 ▸ Chg.refl w g⟩
theorem rroute (w : World) (b x y z : Nat) (r : List Int) (p m : Nat) (l c : Int) (h : RAt w b x y z r p m) :
    Calls Tryd.prog 39 #[.pointer (some ⟨b, 0, none⟩), .int .i64 l, .int .i64 c] w fun e w' => e = .returned (.int .i64 (rcode l c)) ∧ RAt w' b x y z (roR l c r) (roP l c r p) (roP l c r m) ∧ Ex (F3 x y z) w w' := by
  unfold rcode roR roP
  by_cases hl : isL l = true
  · obtain ⟨k, rfl, hk⟩ := isL_nat hl
    by_cases hc : c = 0 ∨ isC c = true
    · refine (rroute_ok w b x y z r p m k c h hk hc).mono fun e w' h2 => ?_
      by_cases hn : nth r k = c
      · have hd : ¬ does3 (k : Int) c r := fun h => h.2 (by simpa using hn)
        rw [if_pos hl, if_pos hc, if_neg hd, if_neg hd, if_neg hd]
        simpa only [if_pos hn] using h2
      · have hd : does3 (k : Int) c r := ⟨⟨hl, hc⟩, by simpa using hn⟩
        rw [if_pos hl, if_pos hc, if_pos hd, if_pos hd, if_pos hd]
        simpa only [if_neg hn, Int.toNat_natCast] using h2
    · obtain ⟨h0, h1⟩ := isC_out hc
      have hd : ¬ does3 (k : Int) c r := fun h => hc h.1.2
      rw [if_pos hl, if_neg hc, if_neg hd, if_neg hd, if_neg hd]
      exact (rroute_cell w b k c hl h0 h1).mono fun e w' h2 => ⟨h2.1, h2.2 ▸ h, h2.2 ▸ Ex.refl _ w⟩
  · have hd : ¬ does3 l c r := fun h => hl h.1.1
    rw [if_neg hl, if_neg hd, if_neg hd, if_neg hd]
    exact (rroute_line w b l c (by simpa using hl)).mono fun e w' h2 => ⟨h2.1, h2.2 ▸ h, h2.2 ▸ Ex.refl _ w⟩

/-! ### Raise -/
def nw (r : List Int) (p : Nat) (l : Int) : Bool := isL l && isNew r p l.toNat
def lcode (l : Int) : Int := if isL l = true then 0 else 90
def rsd (r : List Int) (p : Nat) (l : Int) : Nat := if isL l = true then raised r p l.toNat else p
theorem graise (w : World) (g : Nat) (r : List Int) (p m : Nat) (l : Int) (h : GicAt w g r p m) :
    Calls Tryd.prog 12 #[.pointer (some ⟨g, 0, none⟩), .int .i64 l] w fun e w' => e = .returned (.tuple #[.bool (nw r p l), .int .i64 (lcode l)]) ∧ GicAt w' g r (rsd r p l) m ∧ Chg w w' g := by
  unfold nw lcode rsd
  by_cases hl : isL l = true
  · have h2 := hl
    simp only [isL, Bool.and_eq_true, decide_eq_true_eq] at h2
    rw [if_pos hl, if_pos hl, hl, Bool.true_and]
    exact raise_any w g r p m l h h2.1 h2.2
  · rw [if_neg hl, if_neg hl, show isL l = false by simpa using hl, Bool.false_and]
    exact (raise_out w g r p m l h (isL_out hl)).mono fun e w' h2 => ⟨h2.1, h2.2 ▸ h, h2.2 ▸ Chg.refl w g⟩
theorem rraise (w : World) (b x y z : Nat) (r : List Int) (p m : Nat) (l : Int) (h : RAt w b x y z r p m) :
    Calls Tryd.prog 40 #[.pointer (some ⟨b, 0, none⟩), .int .i64 l] w fun e w' => e = .returned (.tuple #[.bool (nw r p l), .int .i64 (lcode l)]) ∧ RAt w' b x y z r (rsd r p l) m ∧ Ex (F3 x y z) w w' := by
  unfold nw lcode rsd
  by_cases hl : isL l = true
  · obtain ⟨k, rfl, hk⟩ := isL_nat hl
    rw [if_pos hl, if_pos hl, hl, Bool.true_and]
    simpa using rraise_ok w b x y z r p m k h hk
  · rw [if_neg hl, if_neg hl, show isL l = false by simpa using hl, Bool.false_and]
    exact (rraise_out w b l (by simpa using hl)).mono fun e w' h2 => ⟨h2.1, h2.2 ▸ h, h2.2 ▸ Ex.refl _ w⟩

/-! ### Mask, Clear, Take -/
def mk (r : List Int) (c : Int) (m s : Nat) : Nat := if isC c = true then maskTo r c m s else m
theorem gmask (w : World) (g : Nat) (r : List Int) (p m : Nat) (c : Int) (s : Nat) (hs : s < 4294967296) (h : GicAt w g r p m) :
    Calls Tryd.prog 32 #[.pointer (some ⟨g, 0, none⟩), .int .i64 c, .int .u32 s] w fun e w' => e = .returned (.tuple #[]) ∧ GicAt w' g r p (mk r c m s) ∧ Chg w w' g := by
  unfold mk
  by_cases hi : isC c = true
  · rw [if_pos hi]; exact mask_yes w g r p m c s hs h hi
  · rw [if_neg hi]; exact (mask_not w g c s (by simpa using hi)).mono fun e w' h2 => ⟨h2.1, h2.2 ▸ h, h2.2 ▸ Chg.refl w g⟩
theorem rmask (w : World) (b x y z : Nat) (r : List Int) (p m : Nat) (c : Int) (s : Nat) (hs : s < 4294967296) (h : RAt w b x y z r p m) :
    Calls Tryd.prog 41 #[.pointer (some ⟨b, 0, none⟩), .int .i64 c, .int .u32 s] w fun e w' => e = .returned (.tuple #[]) ∧ RAt w' b x y z r p (mk r c m s) ∧ Ex (F3 x y z) w w' := by
  unfold mk
  by_cases hi : isC c = true
  · rw [if_pos hi]; exact rmask_yes w b x y z r p m c s hs h hi
  · rw [if_neg hi]; exact (rmask_not w b c s (by simpa using hi)).mono fun e w' h2 => ⟨h2.1, h2.2 ▸ h, h2.2 ▸ Ex.refl _ w⟩
theorem wait_zero (p : Nat) (hp : p < 4294967296) : wait p 0 = p := by
  apply Nat.eq_of_testBit_eq; intro i
  rw [wait_bit _ _ _ (by decide), Nat.zero_testBit]
  by_cases hi : i < 32
  · simp [hi]
  · rw [lt_bit p i hp hi]; rfl
theorem rclear (w : World) (b x y z : Nat) (r : List Int) (p m : Nat) (c : Int) (h : RAt w b x y z r p m) :
    Calls Tryd.prog 42 #[.pointer (some ⟨b, 0, none⟩), .int .i64 c] w fun e w' => e = .returned (.tuple #[]) ∧ RAt w' b x y z r (wait p (someOf r c 4294967295)) m ∧ Ex (F3 x y z) w w' := by
  by_cases hi : isC c = true
  · exact rclear_yes w b x y z r p m c h hi
  · have hi' : isC c = false := by simpa using hi
    rw [some_not r c _ hi', wait_zero p h.hp]
    exact (rclear_not w b c hi').mono fun e w' h2 => ⟨h2.1, h2.2 ▸ h, h2.2 ▸ Ex.refl _ w⟩
def nt (v : Nat) : Int := if v = 0 then 0 else (Lib.ctz 32 v : Nat)
def tk (v : Nat) : Bool := !decide (v = 0)
theorem gtake (w : World) (g : Nat) (r : List Int) (p m : Nat) (c : Int) (h : GicAt w g r p m) (hT : TabAt w) :
    Calls Tryd.prog 14 #[.pointer (some ⟨g, 0, none⟩), .int .i64 c] w fun e w' => e = .returned (.tuple #[.int .i64 (nt (someOf r c (wait p m))), .bool (tk (someOf r c (wait p m)))]) ∧
      GicAt w' g r (taken p (someOf r c (wait p m))) m ∧ Chg w w' g := by
  unfold nt tk taken
  by_cases hz : someOf r c (wait p m) = 0
  · rw [if_pos hz, if_pos hz, decide_eq_true hz]; exact take_none w g r p m c h hz
  · rw [if_neg hz, if_neg hz, decide_eq_false hz]; exact take_some w g r p m c _ h hT hz rfl
/-- What Take and Next answer: the same of both. -/
theorem same_next (v : Nat) : (v = 0 → nt v = 0 ∧ tk v = false ∧ nx v = -1) ∧ (v ≠ 0 → tk v = true ∧ nt v = nx v ∧ 0 ≤ nx v) := by
  refine ⟨fun h => ?_, fun h => ?_⟩
  · simp [nt, tk, nx, h]
  · simp [nt, tk, nx, h]

/-! ### Load -/
def gLd (w : World) (g : Nat) (lr : Int) (r : List Int) (p m : Nat) (r0 : List Int) (p0 m0 : Nat) : Prop := GicAt w g (if lr = 0 then r else r0) (if lr = 0 then p else p0) (if lr = 0 then m else m0)
theorem gload (w : World) (g : Nat) (r0 : List Int) (p0 m0 : Nat) (h : GicAt w g r0 p0 m0) (r : List Int) (p m : Nat) (hl : r.length = 32) (hp : p < 4294967296) (hm : m < 4294967296) :
    Calls Tryd.prog 22 #[.pointer (some ⟨g, 0, none⟩), .agg (gcells r p m)] w fun e w' => e = .returned (.int .i64 (lres r p m)) ∧ gLd w' g (lres r p m) r p m r0 p0 m0 ∧ Chg w w' g := by
  unfold gLd
  by_cases hok : okB r = true
  · have hr := (okB_iff r).1 hok
    by_cases hz : (p ||| m) &&& own r 0 = 0
    · have e : lres r p m = 0 := by unfold lres; rw [if_pos hok, if_pos hz]
      rw [e]
      exact load_any w g r0 p0 m0 h r p m hl hp hm hr hz
    · have e : lres r p m = 90 := by unfold lres; rw [if_pos hok, if_neg hz]
      rw [e]
      exact (load_line w g r0 p0 m0 h r p m hl hp hm hr hz).mono fun e w' h2 => ⟨h2.1, h.below h2.2 h.lt, ⟨h2.2.os, h2.2.tape, h2.2.output, h2.2.size, fun i hi _ => h2.2.block i hi⟩⟩
  · have e : lres r p m = 91 := by unfold lres; rw [if_neg hok]
    rw [e]
    obtain ⟨j, hj, hb⟩ : ∃ j, j < 32 ∧ ¬ okC (nth r j) := by
      refine Classical.byContradiction fun hne => hok ((okB_iff r).2 fun i hi => ?_)
      exact Classical.byContradiction fun hb => hne ⟨i, hi, hb⟩
    exact (load_bad w g r0 p0 m0 h r p m hl j hj hb).mono fun e w' h2 => ⟨h2.1, h.below h2.2 h.lt, ⟨h2.2.os, h2.2.tape, h2.2.output, h2.2.size, fun i hi _ => h2.2.block i hi⟩⟩
end Go.Proofs.YtpedciapkalhgaaDoor.Gk
