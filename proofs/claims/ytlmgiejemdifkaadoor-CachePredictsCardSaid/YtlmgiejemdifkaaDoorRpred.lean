/- The document's New, Predict: contracts. No statement of the seat is proved here. -/
import Derived.Test.YtlmgiejemdifkaaDoorRlast
import Derived.Deep.RegionHeldLaw
import Derived.Deep.AppendLies
import Derived.Deep.RegionLaw
namespace Go.Proofs.YtlmgiejemdifkaaDoor.Ca
open Go.RowKit Go.Proofs.YtlmgiejemdifkaaDoor.Kit
set_option linter.unusedSimpArgs false
set_option linter.unusedVariables false

/-- A call of a function within a region that draws its order, by its contract. -/
theorem step_call {P : Program} {ops : Array Oper} {o : Oper} {a : Act} {w : World} {K : Act → World → Prop} {Q : Exit → Act → World → Prop} {E : Prop}
    (hgd : o.guard = none) (f : FuncId) (args : Array Value) (he : (execOp a.eval o).run P w = .ok (.enter f args) w) {R : Ending → World → Prop} (hc : Calls P f args w R)
    (h : ∀ e w', R e w' → ∃ v, e = .returned v ∧ K (a.put o.dst v) w') :
    if Region.wanted o (yielded ops a.tmps) = true then Oper.wp P o a w K Q else E := by
  have hw : Region.wanted o (yielded ops a.tmps) = true := by simp [Region.wanted, hgd]
  rw [if_pos hw]
  unfold Oper.wp
  rw [he, Oper.upon_enter]
  refine hc.mono ?_
  intro e w' hR
  obtain ⟨v, rfl, hK⟩ := h e w' hR
  exact hK
theorem rnew_any (w : World) (S W L : Int) (hS : i64ok S) (hL : i64ok L) : Calls Tryd.prog 36 #[.agg #[.int .i64 S, .int .i64 W, .int .i64 L]] w fun e w' =>
    Chg w w' none ∧ (mayB S W L = false → e = .returned (.pointer none)) ∧ (mayB S W L = true → ∃ b, w.heap.size ≤ b ∧ e = .returned (.pointer (some ⟨b, 0, none⟩)) ∧ w'.heap[b]? = some (.cells #[.int .i64 S, .int .i64 W, .int .i64 L, .slice none 0 0, .int .i64 0] 99 (0, 0))) := by
  have MY := Lib.hid (fun X => rmay_any X S W L hS hL)
  have C1 := Lib.hid ((Chg.refl w none).alloc (.cells #[.int .i64 S, .int .i64 W, .int .i64 L] 23))
  have R1 := Lib.hid (heap_alloc_last w (.cells #[.int .i64 S, .int .i64 W, .int .i64 L] 23))
  generalize mayB S W L = mb at *
  go_enter Tryd.func36, Tryd.ntmps36
  go_wp2_with fail
  refine (MY.out _).mono ?_
  rintro e w2 ⟨rfl, hC⟩
  have hr2 := (hC.block w.heap.size (by simp) (by simp)).trans R1.out
  have c0 : w2.cell? ⟨w.heap.size, 0, none⟩ = some (.int .i64 S) := by rw [cell_of_row _ _ _ _ _ _ hr2]; rfl
  have c1 : w2.cell? ⟨w.heap.size, 1, none⟩ = some (.int .i64 W) := by rw [cell_of_row _ _ _ _ _ _ hr2]; rfl
  have c2 : w2.cell? ⟨w.heap.size, 2, none⟩ = some (.int .i64 L) := by rw [cell_of_row _ _ _ _ _ _ hr2]; rfl
  have C2 := Lib.hid (C1.out.trans hC)
  clear hC hr2 MY C1 R1
  cases mb with
  | true =>
    have RB := Lib.hid (heap_alloc_last w2 (.cells #[.int .i64 S, .int .i64 W, .int .i64 L, .slice none 0 0, .int .i64 0] 99))
    go_wp2
    go_ret
    exact ⟨C2.out.alloc _, _, C2.out.size, rfl, RB.out⟩
  | false =>
    go_wp2
    go_ret
    exact ⟨C2.out, rfl⟩
/-- The costs of n uses, by the document. -/
theorem costs_last (s : Shp) (us : List Us) (n : Nat) : costs s (fun _ => []) us (n + 1) = costs s (fun _ => []) us n ++ tcells (lastT s us n) := by
  show _ ++ tcells (cost s (fun _ => []) us n) = _
  rw [cost_last]
set_option maxRecDepth 100000 in
set_option maxHeartbeats 8000000 in
theorem rpredict_no (w : World) (S W L : Int) (hS : i64ok S) (hL : i64ok L) (h : mayB S W L = false) (v1 : Value) :
    Calls Tryd.prog 29 #[.agg #[.int .i64 S, .int .i64 W, .int .i64 L], v1] w fun e w' => e = .returned (.tuple #[.slice none 0 0, .bool false]) ∧ Chg w w' none := by
  have NW := Lib.hid (fun X => rnew_any X S W L hS hL)
  have C1 := Lib.hid ((Chg.refl w none).alloc (.cells #[.int .i64 S, .int .i64 W, .int .i64 L] 23))
  have HM := Lib.hid h
  clear h
  go_enter Tryd.func29, Tryd.ntmps29
  go_wp2_with fail
  refine (NW.out _).mono ?_
  rintro e w2 ⟨hC, hno, _⟩
  obtain rfl := hno HM.out
  have C2 := Lib.hid (C1.out.trans hC)
  clear hC hno
  go_wp2
  go_ret2
  exact ⟨rfl, C2.out⟩
set_option maxRecDepth 100000 in
set_option maxHeartbeats 8000000 in
theorem rpredict_any (w : World) (s : Shp) (hm : mayB s.S s.W s.L = true) (A1 : Option Addr) (cap : Nat) (us : List Us) (h1 : Ru w (.slice A1 us.length cap) us) (hbig : us.length * 16 ≤ 140737488355328) (hcap : us.length ≤ cap) :
    Calls Tryd.prog 29 #[.agg #[.int .i64 s.S, .int .i64 s.W, .int .i64 s.L], .slice A1 us.length cap] w fun e w' => ∃ v', e = .returned (.tuple #[v', .bool true]) ∧ w'.ownsRow w.heap.size 38 3 v' us.length (costs s (fun _ => []) us us.length) ∧ Chg w w' none := by
  have H1 := Lib.hid h1
  have hSs := s.Sle
  have hLs := s.Lle
  have NW := Lib.hid (fun X => rnew_any X s.S s.W s.L (by unfold i64ok; omega) (by unfold i64ok; omega))
  have C1 := Lib.hid ((Chg.refl w none).alloc (.cells #[.int .i64 s.S, .int .i64 s.W, .int .i64 s.L] 23))
  have HM := Lib.hid hm
  have LA := Lib.hid (fun X (hC : Chg w X none) i (hi : i < us.length) => show Calls Tryd.prog 48 #[.agg #[.int .i64 s.S, .int .i64 s.W, .int .i64 s.L], .slice A1 (i + 1) cap] X fun e w' => e = .returned (.agg #[.bool (lastT s us i).hit, .bool (lastT s us i).back, .int .i64 (lastT s us i).cyc]) ∧ Chg X w' none by
    have := rlast_any X s A1 cap (us.take (i + 1)) i ((H1.out.kept hC).take i hi) (by rw [List.length_take]; omega) (by rw [List.length_take]; omega)
    rw [last_eq s i (fun k hk => unth_take us i k hk)] at this
    exact this)
  obtain ⟨i0, hi0, hz0, hz1, hz2⟩ := info_parts info38'
  have hfew : us.length ≤ 8796093022208 := by omega
  clear hm h1
  go_enter Tryd.func29, Tryd.ntmps29
  go_wp2_with fail
  refine (NW.out _).mono ?_
  rintro e w2 ⟨hC, _, hyes⟩
  obtain ⟨b, hb, rfl, hr⟩ := hyes HM.out
  have C2 := Lib.hid (C1.out.trans hC)
  have hwb : w.heap.size < b := by simp at hb; omega
  have HR := Lib.hid hr
  clear hC hr hyes
  go_wp2_with fail
  go_loopw [7, 8] (fun v7 k wr => ∃ n : Nat, n ≤ us.length ∧ k = .int .i64 n ∧ Hid (Chg w wr none ∧ wr.heap[b]? = some (.cells #[.int .i64 s.S, .int .i64 s.W, .int .i64 s.L, .slice none 0 0, .int .i64 0] 99 (0, 0)) ∧ wr.ownsRow (b + 1) 38 3 v7 n (costs s (fun _ => []) us n))) (fun _ k _ => us.length - (intOf k).toNat)
  case atStart => exact ⟨0, by omega, rfl, Lib.hid ⟨C2.out, HR.out, World.ownsRow_nil _ _ _ _⟩⟩
  case round =>
    obtain ⟨n, hn, rfl, I⟩ := hrel
    by_cases hlt : n < us.length
    · have hnn : IntKind.i64.wrap ((n : Int) + 1) = (n : Int) + 1 := by rw [IntKind.wrap_i64]; omega
      have hnc : (n : Int) + 1 ≤ (cap : Int) := by omega
      have hn0 : (0 : Int) ≤ (n : Int) + 1 := by omega
      have A0 := Lib.hid (show Chg wr wr.drew none from (Chg.refl wr none).drewN 1)
      have b0 : wr.cell? ⟨b, 0, none⟩ = some (.int .i64 s.S) := by rw [cell_of_row _ _ _ _ _ _ I.out.2.1]; rfl
      have b1 : wr.cell? ⟨b, 1, none⟩ = some (.int .i64 s.W) := by rw [cell_of_row _ _ _ _ _ _ I.out.2.1]; rfl
      have b2 : wr.cell? ⟨b, 2, none⟩ = some (.int .i64 s.L) := by rw [cell_of_row _ _ _ _ _ _ I.out.2.1]; rfl
      have LA2 := Lib.hid (LA.out wr.drew (I.out.1.trans A0.out) n hlt)
      obtain ⟨T1, hT1⟩ : ∃ T, T = lastT s us n := ⟨_, rfl⟩
      rw [← hT1] at LA2
      have DC := Lib.hid (show costs s (fun _ => []) us (n + 1) = costs s (fun _ => []) us n ++ tcells T1 by rw [costs_last, hT1])
      clear hT1
      have hbr : b < wr.heap.size := (Array.getElem?_eq_some_iff.1 I.out.2.1).1
      go_wp2_with fail
      have PP := Lib.hid (fun (X Y : World) (hC : Chg wr.drew X none) (hX : Y = X.alloc (.cells #[.bool T1.hit, .bool T1.back, .int .i64 T1.cyc] 38)) => show Y.ownsRow (b + 1) 38 3 u7 n (costs s (fun _ => []) us n) ∧ (∀ (j : Nat) (u : Value), (tcells T1)[j]? = some u → Y.cell? ((⟨X.heap.size, 0, none⟩ : Addr).add j) = some u) ∧ b + 1 ≤ Y.heap.size from by
        subst hX
        refine ⟨(I.out.2.2.kept (A0.out.trans hC) (Classical.em _)).alloc _, fun j u hu => ?_, ?_⟩
        · rw [Addr.add_mid, Nat.zero_add, cell_of_row _ _ _ _ _ _ (heap_alloc_last X (.cells #[.bool T1.hit, .bool T1.back, .int .i64 T1.cyc] 38))]
          show (tcells T1).toArray[j]? = some u
          rw [List.getElem?_toArray]; exact hu
        · have := (A0.out.trans hC).size
          simp
          omega)
      have ON := Lib.hid (show ∀ u ∈ tcells T1, u.oneCell' = true from fun u hu => by
        simp only [tcells, List.mem_cons, List.not_mem_nil, or_false] at hu
        rcases hu with rfl | rfl | rfl <;> rfl)
      have e1 : n + 1 ≤ maxLen := by simp only [maxLen]; omega
      have e2 : (n + 1) * 16 ≤ 140737488355328 := by omega
      have d0 : wr.drew.cell? ⟨b, 0, none⟩ = some (.int .i64 s.S) := by go_simp
      have d1 : wr.drew.cell? ⟨b, 1, none⟩ = some (.int .i64 s.W) := by go_simp
      have d2 : wr.drew.cell? ⟨b, 2, none⟩ = some (.int .i64 s.L) := by go_simp
      go_region_law (first
        | (refine step_append_lies _ rfl (.tmp 19) (.tmp 29) 32 rfl (b + 1) 38 i0 (.agg #[.bool false, .bool false, .int .i64 0]) 3 16 Tryd.underlying32 hi0 hz0 hz1 hz2 rfl (by decide) _ n (costs s (fun _ => []) us n) rfl (PP.out _ _ (by assumption) rfl).1 ⟨_, 0, none⟩ 1 1 (tcells T1) rfl rfl (PP.out _ _ (by assumption) rfl).2.1 ON.out (by decide) e1 e2 (PP.out _ _ (by assumption) rfl).2.2 _ rfl ?_; intro g c7 w7 hown7 hg hat hlt7)
        | (refine step_call rfl 48 #[.agg #[.int .i64 s.S, .int .i64 s.W, .int .i64 s.L], .slice A1 (n + 1) cap] (by simp [execOp, resolve, invoke, go_sem]) LA2.out ?_; rintro e w9 ⟨rfl, hC9⟩; refine ⟨_, rfl, ?_⟩))
      have CZ := (I.out.1.trans (A0.out.trans hC9)).alloc (.cells #[.bool T1.hit, .bool T1.back, .int .i64 T1.cyc] 38)
      have BZ : (w9.alloc (.cells #[.bool T1.hit, .bool T1.back, .int .i64 T1.cyc] 38)).heap[b]? = some (.cells #[.int .i64 s.S, .int .i64 s.W, .int .i64 s.L, .slice none 0 0, .int .i64 0] 99 (0, 0)) := by
        have hCA := (A0.out.trans hC9).alloc (.cells #[.bool T1.hit, .bool T1.back, .int .i64 T1.cyc] 38)
        exact (hCA.block b hbr (by simp)).trans I.out.2.1
      have F := Lib.hid (show Chg w w7 none ∧ w7.heap[b]? = some (.cells #[.int .i64 s.S, .int .i64 s.W, .int .i64 s.L, .slice none 0 0, .int .i64 0] 99 (0, 0)) ∧ w7.ownsRow (b + 1) 38 3 (.slice (some ⟨g, 0, none⟩) (n + 1) c7) (n + 1) (costs s (fun _ => []) us (n + 1)) from
        ⟨own_trans CZ hg (fun g e => by have := (I.out.2.2.lt g e).1; omega), (hg.block b ((Array.getElem?_eq_some_iff.1 BZ).1) (fun e => by have := (I.out.2.2.lt b e.symm).1; omega)).trans BZ, by rw [DC.out]; exact hown7⟩)
      clear hown7 hg hat hlt7 hC9 CZ BZ e1 e2 d0 d1 d2 b0 b1 b2 PP I LA2
      go_wp2
      go_roundw
      case rel => exact ⟨n + 1, by omega, by first | rfl | go_num, F⟩
      case measure => simp [intOf]; omega
    · go_wp2
      go_ret2
      obtain rfl : n = us.length := by omega
      refine ⟨_, rfl, ⟨I.out.2.2.1, ?_⟩, I.out.1⟩
      rcases I.out.2.2.2 with h | ⟨g, cap, cur, h1, h2, h3⟩
      · exact .inl h
      · exact .inr ⟨g, cap, cur, h1, by omega, h3⟩
end Go.Proofs.YtlmgiejemdifkaaDoor.Ca
