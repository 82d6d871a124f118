/- SamplingPlays: a step of any kind; what stands between two rounds. No statement of the seat is proved here. -/
import Derived.Test.YtfoofipkbijajaaStepB
import Derived.Test.YtfoofipkbijajaaStepC
import Derived.Test.YtfoofipkbijajaaStepD
import Derived.Test.YtfoofipkbijajaaStepE
import Derived.Test.YtfoofipkbijajaaStepF
import Derived.Test.YtfoofipkbijajaaStepG
import Derived.Test.YtfoofipkbijajaaMid2
namespace Go.Proofs.Ytfoofipkbijajaa.Sa
open Go.RowKit Go.Proofs.Ytfoofipkbijajaa.Kit
set_option linter.unusedSimpArgs false
set_option linter.unusedVariables false
theorem step_any (w : World) (bx by_ b t c : Nat) (T : Nat → Nat) (P : PA) (d : OpD) (ls : List En) (hs fs : List Fr) (pr : Pr w T bx by_ t P P) (bk : BkIs w b T c ls hs fs) (ar : Oa w T d) (ht : 20 ≤ t ∧ t ≤ 900) (hfl : fs.length ≤ 990) :
    Calls Try.prog 19 #[.pointer (some ⟨bx, 0, none⟩), .pointer (some ⟨by_, 0, none⟩), .agg (opCells d).toArray, .pointer (some ⟨b, 0, none⟩)] w (StepPost w T bx by_ b t c ls hs fs []) := by
  by_cases h1 : d.kind = 1
  · exact step_write w bx by_ b t c T P d ls hs fs pr bk ar ht h1 hfl
  by_cases h2 : d.kind = 2
  · exact step_read w bx by_ b t c T P d ls hs fs pr bk ar ht h2 hfl
  by_cases h3 : d.kind = 3
  · exact step_turn w bx by_ b t c T P d ls hs fs pr bk ar ht h3 hfl
  by_cases h4 : d.kind = 4
  · exact step_state w bx by_ b t c T P d ls hs fs pr bk ar ht h4 hfl
  by_cases h5 : d.kind = 5
  · exact step_load w bx by_ b t c T P d ls hs fs pr bk ar ht h5 hfl
  by_cases h6 : d.kind = 6
  · exact step_many w bx by_ b t c T P d ls hs fs pr bk ar ht h6 hfl
  exact step_none w bx by_ b t c T P d ls hs fs pr bk ar ht ⟨h1, h2, h3, h4, h5, h6⟩ hfl
/-- Two pairs of ports, and the book. -/
structure Mn (w wr : World) (T : Nat → Nat) (bx by_ bz bw b c : Nat) (P Q : PA) (ls : List En) (hs fs : List Fr) : Prop where
  p : Pr wr T bx by_ 20 P P
  q : Pr wr T bz bw 30 Q Q
  bk : BkIs wr b T c ls hs fs
  zero : ∀ x, x < w.heap.size → T x = 0
  chg : Chg w wr none
theorem Mn.grow {w wr w' : World} {T T' : Nat → Nat} {bx by_ bz bw b c : Nat} {P Q : PA} {ls : List En} {hs fs : List Fr} (h : Mn w wr T bx by_ bz bw b c P Q ls hs fs) (hc : Chg wr w' none) (hT : ∀ x, x < wr.heap.size → T' x = T x) : Mn w w' T' bx by_ bz bw b c P Q ls hs fs :=
  ⟨h.p.kept hT hc.size (fun g hg _ _ => hc.block g hg (by simp)), h.q.kept hT hc.size (fun g hg _ _ => hc.block g hg (by simp)), h.bk.kept hT hc.size (fun g hg _ => hc.block g hg (by simp)), fun x hx => (hT x (Nat.lt_of_lt_of_le hx h.chg.size)).trans (h.zero x hx), h.chg.trans hc⟩
theorem Mn.frame {w wr w' : World} {T : Nat → Nat} {bx by_ bz bw b c : Nat} {P Q : PA} {ls : List En} {hs fs : List Fr} (h : Mn w wr T bx by_ bz bw b c P Q ls hs fs) {S : Nat → Prop} (hf : Fz wr w' T S) (h0 : ¬ S 0) : Chg w w' none :=
  ⟨hf.os.trans h.chg.os, hf.tape.trans h.chg.tape, hf.output.trans h.chg.output, Nat.le_trans h.chg.size hf.size, fun i hi hn => (hf.block i (Nat.lt_of_lt_of_le hi h.chg.size) (by rw [h.zero i hi]; exact h0)).trans (h.chg.block i hi hn)⟩
theorem Mn.onp {w wr w' : World} {T : Nat → Nat} {bx by_ bz bw b c : Nat} {P Q : PA} {ls : List En} {hs fs : List Fr} (h : Mn w wr T bx by_ bz bw b c P Q ls hs fs) {e : Ending} (hp : StepPost wr T bx by_ b 20 c ls hs fs [] e w') : e = .returned (.bool true) ∧ ∃ T' P' fs', Mn w w' T' bx by_ bz bw b c P' Q ls hs fs' ∧ fs'.length ≤ fs.length + 4 := by
  obtain ⟨rfl, T', P', fs', h1, h2, h3, h4, h5⟩ := hp
  exact ⟨rfl, T', P', fs', ⟨h1, h.q.kept h4 h5.size (fun g hg a1 a2 => h5.block g hg (by simp only [Sp, Bt]; omega)), h2, fun x hx => (h4 x (Nat.lt_of_lt_of_le hx h.chg.size)).trans (h.zero x hx), h.frame h5 (by simp only [Sp, Bt]; omega)⟩, h3⟩
theorem Mn.onq {w wr w' : World} {T : Nat → Nat} {bx by_ bz bw b c : Nat} {P Q : PA} {ls : List En} {hs fs : List Fr} (h : Mn w wr T bx by_ bz bw b c P Q ls hs fs) {e : Ending} (hp : StepPost wr T bz bw b 30 c ls hs fs [] e w') : e = .returned (.bool true) ∧ ∃ T' Q' fs', Mn w w' T' bx by_ bz bw b c P Q' ls hs fs' ∧ fs'.length ≤ fs.length + 4 := by
  obtain ⟨rfl, T', P', fs', h1, h2, h3, h4, h5⟩ := hp
  exact ⟨rfl, T', P', fs', ⟨h.p.kept h4 h5.size (fun g hg a1 a2 => h5.block g hg (by simp only [Sp, Bt]; omega)), h1, h2, fun x hx => (h4 x (Nat.lt_of_lt_of_le hx h.chg.size)).trans (h.zero x hx), h.frame h5 (by simp only [Sp, Bt]; omega)⟩, h3⟩
theorem Pr.keptB {w w' : World} {T T' : Nat → Nat} {bx by_ t : Nat} {Px Py : PA} (h : Pr w T bx by_ t Px Py) (ht : 20 ≤ t ∧ t ≤ 900) (hT : ∀ g, g < w.heap.size → ¬ Bt (T g) → T' g = T g) (hf : Fz w w' T Bt) : Pr w' T' bx by_ t Px Py := by
  have hn : ∀ s, t ≤ s → s ≤ t + 3 → ¬ Bt s := fun s a1 a2 => by simp only [Bt]; omega
  obtain ⟨⟨F, hF, hFt⟩, ⟨G, hG, hGt⟩, tx, ty, hl, hsz⟩ := h
  have b1 := hF.blt
  have b2 := hG.blt
  exact ⟨⟨F, hF.same hf.size (hf.block bx b1 (hn _ (by omega) (by omega))) (fun g hg => hf.block g (hF.lt g hg) (hn _ (by rw [hFt g hg]; omega) (by rw [hFt g hg]; omega))), fun g hg => (hT g (hF.lt g hg) (hn _ (by rw [hFt g hg]; omega) (by rw [hFt g hg]; omega))).trans (hFt g hg)⟩,
    ⟨G, hG.same hf.size (hf.block by_ b2 (hn _ (by omega) (by omega))) (fun g hg => hf.block g (hG.lt g hg) (hn _ (by rw [hGt g hg]; omega) (by rw [hGt g hg]; omega))), fun g hg => (hT g (hG.lt g hg) (hn _ (by rw [hGt g hg]; omega) (by rw [hGt g hg]; omega))).trans (hGt g hg)⟩,
    (hT bx b1 (hn _ (by omega) (by omega))).trans tx, (hT by_ b2 (hn _ (by omega) (by omega))).trans ty, hl, hsz⟩
theorem Mn.looked {w wr w' : World} {T T' : Nat → Nat} {bx by_ bz bw b c : Nat} {P Q : PA} {ls ls' : List En} {hs fs : List Fr} (h : Mn w wr T bx by_ bz bw b c P Q ls hs fs) (hb : BkIs w' b T' (c + hs.length) ls' fs []) (hT : ∀ x, x < wr.heap.size → ¬ Bt (T x) → T' x = T x) (hf : Fz wr w' T Bt) : Mn w w' T' bx by_ bz bw b (c + hs.length) P Q ls' fs [] :=
  ⟨h.p.keptB (by omega) hT hf, h.q.keptB (by omega) hT hf, hb, fun x hx => by
    have h0 := h.zero x hx
    rw [hT x (Nat.lt_of_lt_of_le hx h.chg.size) (by rw [h0]; simp only [Bt]; omega)]; exact h0, h.frame hf (by simp only [Bt]; omega)⟩
theorem Mn.oa {w wr : World} {T : Nat → Nat} {bx by_ bz bw b c : Nat} {P Q : PA} {ls : List En} {hs fs : List Fr} (h : Mn w wr T bx by_ bz bw b c P Q ls hs fs) {d : OpD} (hd : d.okay w) : Oa wr T d := by
  have ha : ∀ v xs, Rb w v xs → Arg wr T v xs := fun v xs hv => ⟨Chg.sl hv h.chg, fun h0 g e => h.zero g (hv.blt h0 g e)⟩
  exact ⟨hd.kind, hd.cell, hd.tick, hd.ltick, hd.ntick, ha _ _ hd.data, ha _ _ hd.ldata, ha _ _ hd.ndata⟩
end Go.Proofs.Ytfoofipkbijajaa.Sa
