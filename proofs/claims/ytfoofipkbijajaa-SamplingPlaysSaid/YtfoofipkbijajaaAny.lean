/- Write, Turn, Read of a port, whoever asks: contracts; two ports side by side. No statement of the seat is proved here. -/
import Derived.Test.YtfoofipkbijajaaTurn
namespace Go.Proofs.Ytfoofipkbijajaa.Sa
open Go.RowKit Go.Proofs.Ytfoofipkbijajaa.Kit
set_option linter.unusedSimpArgs false
set_option linter.unusedVariables false

theorem Chg.drw0 {w w' : World} (h : Drw w w') : Chg w w' none := by obtain ⟨n, rfl⟩ := h; exact (Chg.refl w none).drewN n
def wres (W S c : Int) (n : Nat) : Int := if c = W then chk S n else 161
def wmsg (W S c : Int) (t : Nat) (xs : List Int) (B : Msg) : Msg := if c = W ∧ chk S xs.length = 0 then ⟨true, xs, t⟩ else B
def wput (P : PA) (c : Int) (t : Nat) (xs : List Int) : PA := { P with B := wmsg P.W P.S c t xs P.B }
theorem write_any (w : World) (b : Nat) (F : Nat → Prop) (P : PA) (h : PortIs w b F P) (c : Int) (t : Nat) (v : Value) (xs : List Int) (hv : Rb w v xs) :
    Calls Try.prog 14 #[.pointer (some ⟨b, 0, none⟩), .int .i64 c, .int .u64 t, v] w fun e w' =>
      e = .returned (.int .i64 (wres P.W P.S c xs.length)) ∧ Chg w w' (some b) ∧ ∃ F', PortIs w' b F' (wput P c t xs) ∧ ∀ x, F' x → F x ∨ w.heap.size ≤ x := by
  by_cases hc : c = P.W
  · by_cases hk : chk P.S xs.length = 0
    · refine (write_ok w b F P h c t v xs hv hc hk).mono ?_
      rintro e w' ⟨rfl, hC, F', hP, hF⟩
      have e1 : wput P c t xs = { P with B := ⟨true, xs, t⟩ } := by simp [wput, wmsg, hc, hk]
      exact ⟨by simp [wres, hc, hk], hC, F', by rw [e1]; exact hP, hF⟩
    · refine (write_bad w b F P h c t v xs hv hc hk).mono ?_
      rintro e w' ⟨rfl, rfl⟩
      have e1 : wput P c t xs = P := by simp [wput, wmsg, hc, hk]
      exact ⟨by simp [wres, hc], Chg.refl _ _, F, by rw [e1]; exact h, fun x hx => .inl hx⟩
  · refine (write_who w b F P h c t v hc).mono ?_
    rintro e w' ⟨rfl, rfl⟩
    have e1 : wput P c t xs = P := by simp [wput, wmsg, hc]
    exact ⟨by simp [wres, hc], Chg.refl _ _, F, by rw [e1]; exact h, fun x hx => .inl hx⟩

def tres (W c : Int) (B : Msg) : Int := if c = W ∧ B.there = true then B.data.length else 0
def tput (P : PA) (c : Int) : PA := if c = P.W ∧ P.B.there = true then { P with A := P.B, B := Msg.none } else P
theorem turn_any (w : World) (b : Nat) (F : Nat → Prop) (P : PA) (h : PortIs w b F P) (c : Int) :
    Calls Try.prog 15 #[.pointer (some ⟨b, 0, none⟩), .int .i64 c] w fun e w' => e = .returned (.int .i64 (tres P.W c P.B)) ∧ Chg w w' (some b) ∧ PortIs w' b F (tput P c) := by
  by_cases hc : c = P.W
  · cases hn : P.B.there with
    | true =>
      refine (turn_yes w b F P h c hc hn).mono ?_
      rintro e w' ⟨rfl, hC, hP⟩
      have e1 : tput P c = { P with A := P.B, B := Msg.none } := by simp [tput, hc, hn]
      exact ⟨by simp [tres, hc, hn], hC, by rw [e1]; exact hP⟩
    | false =>
      refine (turn_none w b F P h c hc hn).mono ?_
      rintro e w' ⟨rfl, n, rfl⟩
      have e1 : tput P c = P := by simp [tput, hc, hn]
      exact ⟨by simp [tres, hc, hn], (Chg.refl _ _).drewN n, by rw [e1]; exact h.drewN n⟩
  · refine (turn_who w b F P h c hc).mono ?_
    rintro e w' ⟨rfl, n, rfl⟩
    have e1 : tput P c = P := by simp [tput, hc]
    exact ⟨by simp [tres, hc], (Chg.refl _ _).drewN n, by rw [e1]; exact h.drewN n⟩
theorem read_any (w : World) (b : Nat) (F : Nat → Prop) (P : PA) (h : PortIs w b F P) (c : Int) :
    Calls Try.prog 11 #[.pointer (some ⟨b, 0, none⟩), .int .i64 c] w fun e w' => ∃ v u x y, e = .returned (.tuple #[v, u, x, y]) ∧ Chg w w' none := by
  by_cases hc : c ∈ P.rs
  · refine (read_ok w b F P h c hc).mono ?_
    rintro e w' ⟨v, rfl, _, _, hC⟩
    exact ⟨_, _, _, _, rfl, hC⟩
  · refine (read_who w b F P h c hc).mono ?_
    rintro e w' ⟨rfl, rfl⟩
    exact ⟨_, _, _, _, rfl, Chg.refl _ _⟩

/-! ### two ports, declared alike -/
structure Two (w wr : World) (b c : Nat) (F G : Nat → Prop) (P Q : PA) : Prop where
  p : PortIs wr b F P
  q : PortIs wr c G Q
  ne : b ≠ c
  fb : ¬ G b
  gc : ¬ F c
  hb : w.heap.size ≤ b
  hc : w.heap.size ≤ c
  chg : Chg w wr none
  dp : P.W = 1 ∧ P.S = 16 ∧ 3 ∈ P.rs
  dq : Q.W = 1 ∧ Q.S = 16 ∧ 3 ∈ Q.rs
theorem Two.grow {w wr w2 : World} {b c : Nat} {F G : Nat → Prop} {P Q : PA} (h : Two w wr b c F G P Q) (hC : Chg wr w2 none) : Two w w2 b c F G P Q :=
  ⟨h.p.kept hC (by simp) (fun _ _ => by simp), h.q.kept hC (by simp) (fun _ _ => by simp), h.ne, h.fb, h.gc, h.hb, h.hc, h.chg.trans hC, h.dp, h.dq⟩
theorem Two.onP {w wr w2 : World} {b c : Nat} {F G F' : Nat → Prop} {P Q P' : PA} (h : Two w wr b c F G P Q) (hC : Chg wr w2 (some b)) (hP : PortIs w2 b F' P') (hF : ∀ x, F' x → F x ∨ wr.heap.size ≤ x) (hd : P'.W = P.W ∧ P'.S = P.S ∧ P'.rs = P.rs) : Two w w2 b c F' G P' Q :=
  ⟨hP, h.q.kept hC (fun e => h.ne (by injection e)) (fun x hx e => h.fb (by injection e with e; rw [e]; exact hx)), h.ne, h.fb, fun hx => (hF c hx).elim h.gc (fun hl => by have := h.q.blt; omega), h.hb, h.hc, h.chg.trans_new hC h.hb, by rw [hd.1, hd.2.1, hd.2.2]; exact h.dp, h.dq⟩
theorem Two.onQ {w wr w2 : World} {b c : Nat} {F G G' : Nat → Prop} {P Q Q' : PA} (h : Two w wr b c F G P Q) (hC : Chg wr w2 (some c)) (hQ : PortIs w2 c G' Q') (hG : ∀ x, G' x → G x ∨ wr.heap.size ≤ x) (hd : Q'.W = Q.W ∧ Q'.S = Q.S ∧ Q'.rs = Q.rs) : Two w w2 b c F G' P Q' :=
  ⟨h.p.kept hC (fun e => h.ne (by injection e with e; exact e.symm)) (fun x hx e => h.gc (by injection e with e; rw [e]; exact hx)), hQ, h.ne, fun hx => (hG b hx).elim h.fb (fun hl => by have := h.p.blt; omega), h.gc, h.hb, h.hc, h.chg.trans_new hC h.hc, h.dp, by rw [hd.1, hd.2.1, hd.2.2]; exact h.dq⟩
theorem wput_decl (P : PA) (c : Int) (t : Nat) (xs : List Int) : (wput P c t xs).W = P.W ∧ (wput P c t xs).S = P.S ∧ (wput P c t xs).rs = P.rs := ⟨rfl, rfl, rfl⟩
theorem tput_decl (P : PA) (c : Int) : (tput P c).W = P.W ∧ (tput P c).S = P.S ∧ (tput P c).rs = P.rs := by
  unfold tput; split <;> exact ⟨rfl, rfl, rfl⟩
/-- What two ports hold alike. -/
def Alike (P Q : PA) : Prop := P.A = Q.A ∧ P.B = Q.B
theorem Alike.write {P Q : PA} (h : Alike P Q) (hp : P.W = 1 ∧ P.S = 16 ∧ 3 ∈ P.rs) (hq : Q.W = 1 ∧ Q.S = 16 ∧ 3 ∈ Q.rs) (c : Int) (t : Nat) (xs : List Int) : Alike (wput P c t xs) (wput Q c t xs) :=
  ⟨h.1, by show wmsg P.W P.S c t xs P.B = wmsg Q.W Q.S c t xs Q.B; rw [hp.1, hp.2.1, hq.1, hq.2.1, h.2]⟩
theorem Alike.writeOther {P Q : PA} (h : Alike P Q) (hp : P.W = 1 ∧ P.S = 16 ∧ 3 ∈ P.rs) (c : Int) (hc : c ≠ 1) (t : Nat) (xs : List Int) : Alike (wput P c t xs) Q :=
  ⟨h.1, by show wmsg P.W P.S c t xs P.B = Q.B; rw [← h.2, wmsg, hp.1, if_neg (fun h => hc h.1)]⟩
theorem Alike.turn {P Q : PA} (h : Alike P Q) (hp : P.W = 1 ∧ P.S = 16 ∧ 3 ∈ P.rs) (hq : Q.W = 1 ∧ Q.S = 16 ∧ 3 ∈ Q.rs) (c : Int) : Alike (tput P c) (tput Q c) := by
  unfold tput
  rw [hp.1, hq.1, ← h.2]
  split
  · exact ⟨rfl, rfl⟩
  · exact h
theorem Alike.turnOther {P Q : PA} (h : Alike P Q) (hp : P.W = 1 ∧ P.S = 16 ∧ 3 ∈ P.rs) (c : Int) (hc : c ≠ 1) : Alike (tput P c) Q := by
  rw [tput, hp.1, if_neg (fun h => hc h.1)]; exact h
end Go.Proofs.Ytfoofipkbijajaa.Sa
