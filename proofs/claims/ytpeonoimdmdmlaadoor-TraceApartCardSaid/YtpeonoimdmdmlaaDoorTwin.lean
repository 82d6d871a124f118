/- twin, all: contracts. No statement of the seat is proved here. -/
import Derived.Test.YtpeonoimdmdmlaaDoorOf
import Derived.Test.YtpeonoimdmdmlaaDoorMade
namespace Go.Proofs.YtpeonoimdmdmlaaDoor.Tr
open Go.RowKit Go.Proofs.YtpeonoimdmdmlaaDoor.Kit
set_option linter.unusedSimpArgs false
set_option linter.unusedVariables false
set_option maxHeartbeats 4000000 in
theorem twin_any (w : World) (base : Nat) (v : Value) (L : List Ob) (h : Os w base v L) (hl : L.length ≤ 1000000) :
    Calls Tryd.prog 7 #[v] w fun e w' => ∃ v', e = .returned v' ∧ Os w' w.heap.size v' L ∧ Below w.heap.size w w' := by
  obtain ⟨i0, hi, hz0, hz1, hz2⟩ := info_parts info31'
  rcases h.2 with ⟨rfl, h0⟩ | ⟨g, cap, cur, rfl, hb, hrow, hn, _⟩
  · have hL : L = [] := List.eq_nil_of_length_eq_zero h0
    subst hL
    clear h
    go_enter Tryd.func7, Tryd.ntmps7
    go_wp2
    go_ret
    exact ⟨_, rfl, World.ownsRow_nil _ _ _ _, Below.refl _ _⟩
  · have NW := Lib.hid (show ∀ j u, (rows oc L)[j]? = some u → w.cell? ((⟨g, 0, none⟩ : Addr).add j) = some u from fun j u hu => by
      have := Ol.news h oc_len 0 L.length (by omega) j u (by rw [List.drop_zero, List.take_length]; exact hu)
      rwa [Nat.zero_mul] at this)
    have OC := Lib.hid (oc_one L)
    have RL := Lib.hid (show (rows oc L).length = L.length * 6 from rows_length oc_len L)
    obtain ⟨n, hn1⟩ : ∃ n, n = L.length := ⟨_, rfl⟩
    have HN := Lib.hid hn1
    rw [← hn1] at hl hn RL ⊢
    clear h hrow hn1 hn hb
    go_enter Tryd.func7, Tryd.ntmps7
    go_wp2_with (at_builtin; refine wpList_append_own _ rfl (.tmp 4) (.tmp 5) 25 rfl w.heap.size 31 i0 _ 6 40 Tryd.underlying25 hi hz0 hz1 hz2 rfl (by decide) (.slice none 0 0) 0 [] rfl (World.ownsRow_nil _ _ _ _) ⟨g, 0, none⟩ n cap (rows oc L) rfl RL.out NW.out ?qa ?qb ?qc ?qd ?_)
    case qa => exact OC.out
    case qb => simp only [maxLen]; omega
    case qc => omega
    case qd => exact Nat.le_refl _
    intro v' w' hown hgr hnil
    have F := Lib.hid (show Os w' w.heap.size v' L ∧ Below w.heap.size w w' from ⟨by
      show w'.ownsRow _ _ _ _ L.length (rows oc L)
      rw [← HN.out]; simpa using hown, (Below.refl _ w).grown hgr (Nat.le_refl _) (fun k e => by cases e)⟩)
    clear hown hgr hnil
    go_wp2
    go_ret
    exact ⟨_, rfl, F.out⟩
end Go.Proofs.YtpeonoimdmdmlaaDoor.Tr
