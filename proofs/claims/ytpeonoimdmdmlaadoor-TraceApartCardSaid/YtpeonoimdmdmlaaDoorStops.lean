/- What Of gives, ranged over: as the loop's law wants it. No statement of the seat is proved here. -/
import Derived.Test.YtpeonoimdmdmlaaDoorSeq
namespace Go.Proofs.YtpeonoimdmdmlaaDoor.Tr
open Go.RowKit Go.Shelf Go.Proofs.YtpeonoimdmdmlaaDoor.Kit
set_option linter.unusedSimpArgs false
set_option linter.unusedVariables false

/-- Where the list lies. -/
theorem os_gl {w : World} {base : Nat} {A : Option Addr} {n cap : Nat} {L : List Ob} (h : Os w base (.slice A n cap) L) (h0 : 0 < w.heap.size) :
    ∃ gl, gl < w.heap.size ∧ (gl = 0 ∨ base ≤ gl) ∧ ∀ k, k < L.length → A = some ⟨gl, 0, none⟩ ∧ ∀ (hk : k < L.length) i u, (oc L[k])[i]? = some u → w.cell? ⟨gl, k * 6 + i, none⟩ = some u := by
  rcases h.2 with ⟨e, hz⟩ | ⟨g, cap2, cur, hv, hb, hrow, _⟩
  · injection e with eA _ _
    exact ⟨0, h0, .inl rfl, fun k hk => by omega⟩
  · injection hv with eA _ _
    subst eA
    refine ⟨g, (Array.getElem?_eq_some_iff.1 hrow).1, .inr hb, fun k hk => ⟨rfl, fun hk i u hu => ?_⟩⟩
    obtain ⟨g2, c2, e2, _, _, hc, _⟩ := Ol.at_ h oc_len hk
    injection e2 with e3 _ _
    injection e3 with e3
    injection e3 with e3 _ _
    subst e3
    refine hc i u ?_ hu
    have := (List.getElem?_eq_some_iff.1 hu).1
    rwa [oc_len] at this
/-- An observation that may be. -/
abbrev OkO := {o : Ob // Ok o}
/-- Only observations that may be come out of a list of such. -/
theorem of_stops (n s gl : Nat) (hn : 1 ≤ n) (A : Option Addr) (cap : Nat) (L : List Ob) (hok : ∀ o ∈ L, Ok o) (c : Int) (w : World) (hsl : s + 1 < w.heap.size) (hgl : gl < w.heap.size)
    (hs : w.cell? ⟨s, 0, none⟩ = some (.int .i64 c)) (hl : w.cell? ⟨s + 1, 0, none⟩ = some (.slice A L.length cap))
    (hel : ∀ k, k < L.length → A = some ⟨gl, 0, none⟩ ∧ ∀ (hk : k < L.length) i u, (oc L[k])[i]? = some u → w.cell? ⟨gl, k * 6 + i, none⟩ = some u) (hlen : L.length ≤ 1000000) :
    SeqStopsK Fence.wide n Tryd.prog 18 #[.pointer (some ⟨s + 1, 0, none⟩), .pointer (some ⟨s, 0, none⟩)] (fun x : OkO => #[Value.agg (oc x.1).toArray]) (KpO s gl) (fun ys => ys.map (·.1) = flt c L) (fun pre => pre.map (·.1) <+: flt c L) (L.length + 1) w := fun l J Jx W hW hJ _ hY h0 => by
  refine (of_in n l s gl hn A cap L c (fun pre W => ∃ p : List OkO, p.map (·.1) = pre ∧ J p W) (fun pre W => ∃ p : List OkO, p.map (·.1) = pre ∧ Jx p W) (L.length + 1) (by omega) W (fun pre A B row hs hg hr => ?_) (fun pre x W1 hx hj hl => ?_)
    ((hW.cell (p := ⟨s, 0, none⟩) (by show s < _; omega)).trans hs) ((hW.cell (p := ⟨s + 1, 0, none⟩) (by show s + 1 < _; omega)).trans hl)
    (fun k hk => ⟨(hel k hk).1, fun hk i u hu => (hW.cell (p := ⟨gl, k * 6 + i, none⟩) (by show gl < _; omega)).trans ((hel k hk).2 hk i u hu)⟩) hlen ⟨[], rfl, h0⟩).mono ?_
  · obtain ⟨p, h1, h2⟩ := hs
    exact ⟨p, h1, hJ p A B row h2 hg hr⟩
  · obtain ⟨p, rfl, h2⟩ := hj
    obtain ⟨fn, tmps, assign, body, hy, hR⟩ := hY p ⟨x, hok x hx⟩ W1 h2 (by simpa using hl)
    refine ⟨fn, tmps, assign, body, hy, hR.mono ?_⟩
    rintro e W' (⟨h1, h2, h3⟩ | ⟨h1, h2⟩)
    · exact .inl ⟨h1, ⟨_, by simp, h2⟩, h3⟩
    · exact .inr ⟨h1, _, by simp, h2⟩
  · rintro e W' ⟨h1, ⟨ys, rfl, p, h2, h3⟩ | ⟨pre, h2, p, rfl, h3⟩⟩
    · exact ⟨h1, .inl ⟨p, h2, h3⟩⟩
    · exact ⟨h1, .inr ⟨p, h2, h3⟩⟩
end Go.Proofs.YtpeonoimdmdmlaaDoor.Tr
