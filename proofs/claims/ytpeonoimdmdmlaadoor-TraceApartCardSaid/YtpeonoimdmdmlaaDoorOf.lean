/- slices.Clone, trace.Of: contracts. No statement of the seat is proved here. -/
import Derived.Test.YtpeonoimdmdmlaaDoorWrB
import Derived.RangeFuncBox
namespace Go.Proofs.YtpeonoimdmdmlaaDoor.Tr
open Go.RowKit Go.Proofs.YtpeonoimdmdmlaaDoor.Kit
set_option linter.unusedSimpArgs false
set_option linter.unusedVariables false

/-- Observations of one's own. -/
abbrev Os (w : World) (base : Nat) (v : Value) (L : List Ob) : Prop := Ol w base 31 6 oc v L
theorem info31' : (Tryd.prog.info? 31).map (fun i => (i.zero, i.size, i.bytes)) = some (some (.agg #[.int .u64 0, .int .i64 0, .int .i64 0, .int .u32 0, .int .u32 0, .int .u32 0]), 6, 40) := by kernel_rfl
theorem oc_one (L : List Ob) : ∀ u ∈ rows oc L, u.oneCell' = true := by
  induction L with
  | nil => intro u hu; cases hu
  | cons a L ih =>
    intro u hu
    rw [rows, List.mem_append] at hu
    rcases hu with hu | hu
    · simp only [oc, List.mem_cons, List.not_mem_nil, or_false] at hu
      rcases hu with rfl | rfl | rfl | rfl | rfl | rfl <;> rfl
    · exact ih u hu
theorem Os.lt {w : World} {base : Nat} {v : Value} {L : List Ob} (h : Os w base v L) (g : Nat) (e : v.ownBlock = some g) : base ≤ g ∧ g < w.heap.size := by
  rcases h.2 with ⟨h1, _⟩ | ⟨g2, cap, cur, hv, hb, hrow, _⟩
  · rw [h1] at e; cases e
  · rw [hv] at e; cases e; exact ⟨hb, (Array.getElem?_eq_some_iff.1 hrow).1⟩
theorem eql_nil : ∀ w, (binOp .eql 25 (.slice none 0 0) (.slice none 0 0)).run Tryd.prog w = .ok (.bool true) w := fun _ => by kernel_rfl
theorem eql_some (g n cap : Nat) : ∀ w, (binOp .eql 25 (.slice (some ⟨g, 0, none⟩) n cap) (.slice none 0 0)).run Tryd.prog w = .ok (.bool false) w := fun _ => by kernel_rfl
/-- Nothing, in memory of its own. -/
theorem own_none (w : World) (t : TypeId) (size : Nat) : (w.alloc (.cells #[] t)).ownsRow w.heap.size t size (.slice (some ⟨w.heap.size, 0, none⟩) 0 0) 0 [] :=
  ⟨by simp, .inr ⟨w.heap.size, 0, #[], rfl, Nat.le_refl _, heap_alloc_last w _, by omega, by simp [maxLen], by simp, by simp⟩⟩
set_option maxHeartbeats 4000000 in
theorem clone_any (w : World) (base : Nat) (v : Value) (L : List Ob) (h : Os w base v L) (hl : L.length ≤ 1000000) :
    Calls Tryd.prog 17 #[v] w fun e w' => ∃ v', e = .returned v' ∧ Os w' w.heap.size v' L ∧ Below w.heap.size w w' := by
  obtain ⟨i0, hi, hz0, hz1, hz2⟩ := info_parts info31'
  rcases h.2 with ⟨rfl, h0⟩ | ⟨g, cap, cur, rfl, hb, hrow, hn, _⟩
  · have hL : L = [] := List.eq_nil_of_length_eq_zero h0
    subst hL
    clear h
    have he := eql_nil
    go_enter Tryd.func17, Tryd.ntmps17
    go_wp2
    go_ret
    exact ⟨_, rfl, World.ownsRow_nil _ _ _ _, Below.refl _ _⟩
  · have NW := Lib.hid (show ∀ j u, (rows oc L)[j]? = some u → (w.alloc (.cells #[] 31)).cell? ((⟨g, 0, none⟩ : Addr).add j) = some u from fun j u hu => by
      have := Ol.news h oc_len 0 L.length (by omega) j u (by rw [List.drop_zero, List.take_length]; exact hu)
      rw [Nat.zero_mul] at this
      have hg := (Array.getElem?_eq_some_iff.1 hrow).1
      rw [Addr.add_mid] at this ⊢
      exact (World.cell?_of_block (Below.heap_alloc w _ g hg)).trans this)
    have OC := Lib.hid (oc_one L)
    have RL := Lib.hid (show (rows oc L).length = L.length * 6 from rows_length oc_len L)
    have OE := Lib.hid (own_none w 31 6)
    obtain ⟨n, hn1⟩ : ∃ n, n = L.length := ⟨_, rfl⟩
    have HN := Lib.hid hn1
    rw [← hn1] at hl hn RL ⊢
    clear h hrow hn1 hn hb
    have he := eql_some g n cap
    go_enter Tryd.func17, Tryd.ntmps17
    go_wp2_with (at_builtin; refine wpList_append_own _ rfl (.tmp 5) (.tmp 6) 25 rfl w.heap.size 31 i0 _ 6 40 Tryd.underlying25 hi hz0 hz1 hz2 rfl (by decide) (.slice (some ⟨w.heap.size, 0, none⟩) 0 0) 0 [] rfl OE.out ⟨g, 0, none⟩ n cap (rows oc L) rfl RL.out NW.out ?qa ?qb ?qc ?qd ?_)
    case qa => exact OC.out
    case qb => simp only [maxLen]; omega
    case qc => omega
    case qd => simp
    intro v' w' hown hgr hnil
    have F := Lib.hid (show Os w' w.heap.size v' L ∧ Below w.heap.size w w' from ⟨by
      show w'.ownsRow _ _ _ _ L.length (rows oc L)
      rw [← HN.out]; simpa using hown, ((Below.refl _ w).alloc (Nat.le_refl _) _).grown hgr (by simp) (fun k e => by cases e; exact Nat.le_refl _)⟩)
    clear hown hgr hnil
    go_wp2
    go_ret
    exact ⟨_, rfl, F.out⟩
set_option maxHeartbeats 4000000 in
theorem of_any (w : World) (c : Int) (base : Nat) (v : Value) (L : List Ob) (h : Os w base v L) (hl : L.length ≤ 1000000) :
    Calls Tryd.prog 10 #[.int .i64 c, v] w fun e w' => e = .returned (.func (.func 18) #[] #[.pointer (some ⟨w.heap.size + 1, 0, none⟩), .pointer (some ⟨w.heap.size, 0, none⟩)]) ∧
      ∃ v', Boxed w' (w.heap.size + 1) 25 v' ∧ Boxed w' w.heap.size 3 (.int .i64 c) ∧ Os w' (w.heap.size + 2) v' L ∧ Below w.heap.size w w' := by
  obtain ⟨A, cap, rfl⟩ := h.slice
  have H2 := Lib.hid ((h.alloc (.cells #[.int .i64 c] 3)).alloc (.cells #[.slice A L.length cap] 25))
  have B2 := Lib.hid (((Below.refl w.heap.size w).alloc (Nat.le_refl _) (.cells #[.int .i64 c] 3)).alloc (by simp) (.cells #[.slice A L.length cap] 25))
  have hs2 : ((w.alloc (.cells #[.int .i64 c] 3)).alloc (.cells #[.slice A L.length cap] 25)).heap.size = w.heap.size + 2 := by simp
  have X1 := Lib.hid (show Boxed ((w.alloc (.cells #[.int .i64 c] 3)).alloc (.cells #[.slice A L.length cap] 25)) (w.heap.size + 1) 25 (.slice A L.length cap) from by
    have := heap_alloc_last (w.alloc (.cells #[.int .i64 c] 3)) (.cells #[.slice A L.length cap] 25)
    rwa [World.size_alloc] at this)
  have X0 := Lib.hid (show Boxed ((w.alloc (.cells #[.int .i64 c] 3)).alloc (.cells #[.slice A L.length cap] 25)) w.heap.size 3 (.int .i64 c) from (Below.heap_alloc _ _ _ (by simp)).trans (heap_alloc_last w _))
  obtain ⟨n, hn1⟩ : ∃ n, n = L.length := ⟨_, rfl⟩
  have HN := Lib.hid hn1
  rw [← hn1] at H2 B2 hs2 X1 X0 ⊢
  clear h hn1
  go_enter Tryd.func10, Tryd.ntmps10
  go_wp2_with fail
  generalize (w.alloc (.cells #[.int .i64 c] 3)).alloc (.cells #[.slice A n cap] 25) = w2 at *
  refine (clone_any w2 base (.slice A n cap) L (by show w2.ownsRow _ _ _ _ L.length _; rw [← HN.out]; exact H2.out) hl).mono ?_
  rintro e w3 ⟨v', rfl, ho, hb⟩
  obtain ⟨A', cap', rfl⟩ := ho.slice
  have X1' := (hb.block _ (by omega)).trans X1.out
  have X0' := Lib.hid ((hb.block _ (by omega)).trans X0.out)
  have c1 : w3.cell? ⟨w.heap.size + 1, 0, none⟩ = some (.slice A n cap) := by rw [cell_of_row _ _ _ _ _ _ X1']; rfl
  have f1 := frozen_of_row w3 (w.heap.size + 1) 0 _ _ X1'
  have F := Lib.hid (show Boxed (w3.setCell ⟨w.heap.size + 1, 0, none⟩ (.slice A' L.length cap')) (w.heap.size + 1) 25 (.slice A' L.length cap') ∧ Boxed (w3.setCell ⟨w.heap.size + 1, 0, none⟩ (.slice A' L.length cap')) w.heap.size 3 (.int .i64 c) ∧ Os (w3.setCell ⟨w.heap.size + 1, 0, none⟩ (.slice A' L.length cap')) (w.heap.size + 2) (.slice A' L.length cap') L ∧ Below w.heap.size w (w3.setCell ⟨w.heap.size + 1, 0, none⟩ (.slice A' L.length cap')) from
    ⟨Boxed.set _ X1', (Below.heap_setCell _ _ _ _ (by show w.heap.size ≠ w.heap.size + 1; omega)).trans X0'.out, ownsRow_setCell_below (hs2 ▸ ho) (by show w.heap.size + 1 < _; omega) _, (B2.out.trans (hb.mono (by omega))).setCell (p := ⟨w.heap.size + 1, 0, none⟩) (by show w.heap.size ≤ w.heap.size + 1; omega) _⟩)
  rw [← HN.out] at F ⊢
  clear hb ho X1'
  go_wp2
  go_ret
  exact ⟨rfl, _, F.out⟩
end Go.Proofs.YtpeonoimdmdmlaaDoor.Tr
