/- The document's port: Turn: contract. No statement of the seat is proved here. -/
import Derived.Test.YtfoofipkbijajaaRefB
namespace Go.Proofs.Ytfoofipkbijajaa.Sa
open Go.RowKit Go.Proofs.Ytfoofipkbijajaa.Kit
set_option linter.unusedSimpArgs false
set_option linter.unusedVariables false
theorem ref_turned {w w2 : World} {b : Nat} {F : Nat → Prop} {P : PA} {rv da : Value} (hoff : ¬ F b) (hlt : ∀ x, F x → x < w.heap.size) (hr : Ri w rv P.rs) (hb : Rb w da P.B.data)
    (k1 : ∀ g, rv.ownBlock = some g → F g) (k3 : ∀ g, da.ownBlock = some g → F g) (hC : Chg w w2 (some b))
    (hrow : w2.heap[b]? = some (.cells (rcells { P with A := ⟨true, P.B.data, P.B.tick⟩, B := Msg.none } rv da (.slice none 0 0)) 69 (0, 0))) : Chg w w2 (some b) ∧ RefIs w2 b F { P with A := ⟨true, P.B.data, P.B.tick⟩, B := Msg.none } :=
  ⟨hC, ⟨⟨rv, da, .slice none 0 0, hrow, hr.kept fun g e hl => hC.block g hl (fun e2 => by cases e2; exact hoff (k1 _ e)), hb.kept fun g e hl => hC.block g hl (fun e2 => by cases e2; exact hoff (k3 _ e)), Sl.nil _, k1, k3, fun g e => by cases e⟩,
    hoff, fun x hx => Nat.lt_of_lt_of_le (hlt x hx) hC.size⟩⟩
set_option maxRecDepth 4000 in
set_option maxHeartbeats 2000000 in
theorem rturn_any (w : World) (b : Nat) (F : Nat → Prop) (P : PA) (h : RefIs w b F P) (c : Int) :
    Calls Try.prog 33 #[.pointer (some ⟨b, 0, none⟩), .int .i64 c] w fun e w' => e = .returned (.int .i64 (tres P.W c P.B)) ∧ Chg w w' (some b) ∧ RefIs w' b F (tput P c) := by
  obtain ⟨c0, c1⟩ := h.cells
  have HS := Lib.hid h
  obtain ⟨⟨rv, da, db, hrow, hr, ha, hbb, k1, k2, k3⟩, hoff, hlt⟩ := h
  have c4 : w.cell? ⟨b, 4, none⟩ = some (.bool P.B.there) := by rw [cell_of_row _ _ _ _ _ _ hrow]; rfl
  have HROW := Lib.hid hrow
  by_cases hc : c = P.W
  · have hb : (c != P.W) = false := by simpa using hc
    cases hn : P.B.there with
    | true =>
      have HR := Lib.hid (show tres P.W c P.B = P.B.data.length ∧ tput P c = { P with A := ⟨true, P.B.data, P.B.tick⟩, B := Msg.none } from ⟨by simp [tres, hc, hn], by
        simp only [tput, hc, hn, and_self, if_true]
        have : P.B = ⟨true, P.B.data, P.B.tick⟩ := by rw [← hn]
        rw [← this]⟩)
      have FI := Lib.hid (fun (w2 : World) hC hrow => ref_turned (w := w) (w2 := w2) (P := P) (da := db) hoff hlt hr hbb k1 k3 hC hrow)
      rw [hn] at c4
      obtain ⟨⟨D, cap, rfl, hcap, hcc⟩, hf⟩ := hbb
      have c3 : w.cell? ⟨b, 3, none⟩ = some (.bool P.A.there) := by rw [cell_of_row _ _ _ _ _ _ hrow]; rfl
      have c5 : w.cell? ⟨b, 5, none⟩ = some da := by rw [cell_of_row _ _ _ _ _ _ hrow]; rfl
      have c6 : w.cell? ⟨b, 6, none⟩ = some (.int .u64 P.A.tick) := by rw [cell_of_row _ _ _ _ _ _ hrow]; rfl
      have c7 : w.cell? ⟨b, 7, none⟩ = some (.slice D P.B.data.length cap) := by rw [cell_of_row _ _ _ _ _ _ hrow]; rfl
      have c8 : w.cell? ⟨b, 8, none⟩ = some (.int .u64 P.B.tick) := by rw [cell_of_row _ _ _ _ _ _ hrow]; rfl
      have f3 := frozen_of_row w b 3 _ _ hrow
      have f4 := frozen_of_row w b 4 _ _ hrow
      have f5 := frozen_of_row w b 5 _ _ hrow
      have f6 := frozen_of_row w b 6 _ _ hrow
      have f7 := frozen_of_row w b 7 _ _ hrow
      have f8 := frozen_of_row w b 8 _ _ hrow
      clear hc hn hr ha hcc hcap hf k1 k2 k3 hlt hrow hoff
      go_enter Try.func33, Try.ntmps33
      go_wp2
      go_ret
      refine ⟨by rw [HR.out.1]; rfl, ?_⟩
      rw [HR.out.2]
      refine FI.out _ ?_ ?_
      · exact (((((((Chg.refl w (some b)).set _ _).set _ _).set _ _).set _ _).set _ _).set _ _)
      · have e := heap_setCell_same _ b 8 _ _ (Value.int .u64 0) (heap_setCell_same _ b 7 _ _ (Value.slice none 0 0) (heap_setCell_same _ b 4 _ _ (Value.bool false) (heap_setCell_same _ b 3 _ _ (Value.bool true) (heap_setCell_same _ b 6 _ _ (Value.int .u64 P.B.tick) (heap_setCell_same _ b 5 _ _ (Value.slice D P.B.data.length cap) HROW.out)))))
        exact e
    | false =>
      have HR := Lib.hid (show tres P.W c P.B = 0 ∧ tput P c = P from by simp [tres, tput, hc, hn])
      rw [hn] at c4
      clear hc hn hr ha hbb k1 k2 k3 hlt hrow hoff
      go_enter Try.func33, Try.ntmps33
      go_wp2
      go_ret
      exact ⟨by rw [HR.out.1]; rfl, Chg.refl _ _, by rw [HR.out.2]; exact HS.out⟩
  · have hb : (c != P.W) = true := by simpa using hc
    have HR := Lib.hid (show tres P.W c P.B = 0 ∧ tput P c = P from by simp [tres, tput, hc])
    clear hc hr ha hbb k1 k2 k3 hlt hrow hoff
    go_enter Try.func33, Try.ntmps33
    go_wp2
    go_ret
    exact ⟨by rw [HR.out.1]; rfl, Chg.refl _ _, by rw [HR.out.2]; exact HS.out⟩
end Go.Proofs.Ytfoofipkbijajaa.Sa
