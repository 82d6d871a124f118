/- wire: rows and what is done; trace.row: contracts. No statement of the seat is proved here. -/
import Derived.Test.YtpeonoimdmdmlaaDoorWrB
import Derived.WideLaws
namespace Go.Proofs.YtpeonoimdmdmlaaDoor.Tr
open Go.RowKit Go.Proofs.YtpeonoimdmdmlaaDoor.Kit
set_option linter.unusedSimpArgs false
set_option linter.unusedVariables false
/-! ### Done -/
set_option maxHeartbeats 4000000 in
theorem done_any (w : World) (n₀ b lim : Nat) (L : List Int) (h : Wr w n₀ b lim L) (h0 : 0 < L.length) (hl : L.length ≤ 1000000) :
    Calls Tryd.prog 14 #[.pointer (some ⟨b, 0, none⟩)] w fun e w' => ∃ v', e = .returned (.tuple #[v', .int .i64 0]) ∧ By w' w.heap.size v' L ∧ Below w.heap.size w w' := by
  obtain ⟨v, m, hb, ho, hm⟩ := h.at_
  obtain ⟨i0, hi, hz0, hz1, hz2⟩ := info_parts info5
  obtain ⟨g, cap, hv, hg, hgl, x1, x2, x3⟩ := Ol.at_ ho eb_len h0
  clear x1 x2 x3
  subst hv
  have c1 : w.cell? ⟨b, 1, none⟩ = some (.slice (some ⟨g, 0, none⟩) L.length cap) := by rw [cell_of_row _ _ _ _ _ _ hb]; rfl
  have c2 : w.cell? ⟨b, 2, none⟩ = some (.map (some m)) := by rw [cell_of_row _ _ _ _ _ _ hb]; rfl
  have c3 : w.cell? ⟨b, 3, none⟩ = some (.int .i64 0) := by rw [cell_of_row _ _ _ _ _ _ hb]; rfl
  have NW := Lib.hid (show ∀ j u, (rows eb L)[j]? = some u → w.cell? ((⟨g, 0, none⟩ : Addr).add j) = some u from fun j u hu => by
    have := Ol.news ho eb_len 0 L.length (by omega) j u (by rw [List.drop_zero, List.take_length]; exact hu)
    rwa [Nat.zero_mul] at this)
  have hlm : (Builtin.len_ #[53] 3 #[.map (some m)]).run Tryd.prog w = .ok (.int .i64 0) w := run_len_map w 53 3 m #[] 0 (by kernel_rfl) hm
  have OC := Lib.hid (show ∀ u ∈ rows eb L, u.oneCell' = true from by
    clear ho NW c1 hb h0 hl h
    induction L with
    | nil => intro u hu; cases hu
    | cons a L ih => intro u hu; simp only [rows, eb, List.cons_append, List.nil_append, List.mem_cons] at hu; rcases hu with rfl | hu; rfl; exact ih u hu)
  have RL := Lib.hid (show (rows eb L).length = L.length * 1 from rows_length eb_len L)
  generalize hn : L.length = n at *
  clear hb ho hm
  go_enter Tryd.func14, Tryd.ntmps14
  go_wp2_with (at_builtin; refine wpList_append_own _ rfl (.const (.slice none 0 0)) (.tmp 24) 39 rfl w.heap.size 5 i0 (.int .u8 0) 1 1 Tryd.underlying39 hi hz0 hz1 hz2 rfl (by decide) (.slice none 0 0) 0 [] rfl (World.ownsRow_nil _ _ _ _) ⟨g, 0, none⟩ n cap (rows eb L) rfl RL.out NW.out ?qa ?qb ?qc ?qd ?_)
  case qa => exact OC.out
  case qb => simp only [maxLen]; omega
  case qc => omega
  case qd => exact Nat.le_refl _
  intro v' w' hown hgr hnil
  have F := Lib.hid (show By w' w.heap.size v' L ∧ Below w.heap.size w w' from ⟨by
    show w'.ownsRow _ _ _ _ L.length (rows eb L)
    rw [hn]; simpa using hown, (Below.refl _ w).grown hgr (Nat.le_refl _) (fun k e => by cases e)⟩)
  clear hown hgr hnil
  go_wp2
  refine bodyPost_ret (results_tmp2 rfl _ _ _) rfl ?_
  exact ⟨_, rfl, F.out⟩
end Go.Proofs.YtpeonoimdmdmlaaDoor.Tr
