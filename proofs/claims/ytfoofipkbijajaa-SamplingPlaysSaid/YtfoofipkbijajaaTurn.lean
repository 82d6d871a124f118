/- Turn of a port: its contract. No statement of the seat is proved here. -/
import Derived.Test.YtfoofipkbijajaaRead
namespace Go.Proofs.Ytfoofipkbijajaa.Sa
open Go.RowKit Go.Proofs.Ytfoofipkbijajaa.Kit
set_option linter.unusedSimpArgs false
set_option linter.unusedVariables false

set_option maxHeartbeats 1000000 in
theorem turn_who (w : World) (b : Nat) (F : Nat → Prop) (P : PA) (h : PortIs w b F P) (c : Int) (hc : c ≠ P.W) :
    Calls Try.prog 15 #[.pointer (some ⟨b, 0, none⟩), .int .i64 c] w fun e w' => e = .returned (.int .i64 0) ∧ Drw w w' := by
  obtain ⟨c0, c1⟩ := h.cells
  have hb : (c != P.W) = true := by simpa using hc
  clear h hc
  go_enter Try.func15, Try.ntmps15
  go_wp2
  go_quiet (fail)
  go_wp2
  go_ret
  exact ⟨rfl, _, rfl⟩
set_option maxHeartbeats 1000000 in
theorem turn_none (w : World) (b : Nat) (F : Nat → Prop) (P : PA) (h : PortIs w b F P) (c : Int) (hc : c = P.W) (hn : P.B.there = false) :
    Calls Try.prog 15 #[.pointer (some ⟨b, 0, none⟩), .int .i64 c] w fun e w' => e = .returned (.int .i64 0) ∧ Drw w w' := by
  obtain ⟨c0, c1⟩ := h.cells
  have hb : (c != P.W) = false := by simpa using hc
  obtain ⟨⟨rv, da, db, la, hrow, hr, ha, hbb, k1, k2, k3⟩, hoff, hlt⟩ := h
  clear hc hr ha hbb k1 k2 k3 hlt
  cases la with
  | false =>
    have c9 : w.cell? ⟨b, 9, none⟩ = some (.int .i64 0) := by rw [cell_of_row _ _ _ _ _ _ hrow]; rfl
    have c6 : w.cell? ⟨b, 6, none⟩ = some (.bool P.B.there) := by rw [cell_of_row _ _ _ _ _ _ hrow]; rfl
    rw [hn] at c6
    have hsum : IntKind.i64.wrap ((1 : Int) - 0) = 1 := by decide
    clear hrow hn
    go_enter Try.func15, Try.ntmps15
    go_wp2
    go_quiet (fail)
    go_wp2
    go_ret
    exact ⟨rfl, _, rfl⟩
  | true =>
    have c9 : w.cell? ⟨b, 9, none⟩ = some (.int .i64 1) := by rw [cell_of_row _ _ _ _ _ _ hrow]; rfl
    have c6 : w.cell? ⟨b, 3, none⟩ = some (.bool P.B.there) := by rw [cell_of_row _ _ _ _ _ _ hrow]; rfl
    rw [hn] at c6
    have hsum : IntKind.i64.wrap ((1 : Int) - 1) = 0 := by decide
    clear hrow hn
    go_enter Try.func15, Try.ntmps15
    go_wp2
    go_quiet (fail)
    go_wp2
    go_ret
    exact ⟨rfl, _, rfl⟩
theorem port_turned {w w2 : World} {b : Nat} {F : Nat → Prop} {P : PA} {rv da : Value} {la : Bool} (hoff : ¬ F b) (hlt : ∀ x, F x → x < w.heap.size) (hr : Ri w rv P.rs) (hb : Rb w da P.B.data)
    (k1 : ∀ g, rv.ownBlock = some g → F g) (k3 : ∀ g, da.ownBlock = some g → F g) (hC : Chg w w2 (some b))
    (hrow : w2.heap[b]? = some (.cells (pcells { P with A := P.B, B := Msg.none } rv da (.slice none 0 0) la) 67 (0, 0))) : Chg w w2 (some b) ∧ PortIs w2 b F { P with A := P.B, B := Msg.none } :=
  ⟨hC, ⟨⟨rv, da, .slice none 0 0, la, hrow, hr.kept fun g e hl => hC.block g hl (fun e2 => by cases e2; exact hoff (k1 _ e)), hb.kept fun g e hl => hC.block g hl (fun e2 => by cases e2; exact hoff (k3 _ e)), Sl.nil _, k1, k3, fun g e => by cases e⟩,
    hoff, fun x hx => Nat.lt_of_lt_of_le (hlt x hx) hC.size⟩⟩
set_option maxHeartbeats 2000000 in
theorem turn_yes (w : World) (b : Nat) (F : Nat → Prop) (P : PA) (h : PortIs w b F P) (c : Int) (hc : c = P.W) (hn : P.B.there = true) :
    Calls Try.prog 15 #[.pointer (some ⟨b, 0, none⟩), .int .i64 c] w fun e w' => e = .returned (.int .i64 P.B.data.length) ∧ Chg w w' (some b) ∧ PortIs w' b F { P with A := P.B, B := Msg.none } := by
  obtain ⟨c0, c1⟩ := h.cells
  have hb : (c != P.W) = false := by simpa using hc
  obtain ⟨⟨rv, da, db, la, hrow, hr, ha, hbb, k1, k2, k3⟩, hoff, hlt⟩ := h
  have HRR := Lib.hid hr
  have HBB := Lib.hid hbb
  have K1 := Lib.hid k1
  have K3 := Lib.hid k3
  have HLT := Lib.hid hlt
  have HN := Lib.hid hn
  obtain ⟨⟨D, cap, rfl, hcap, hcc⟩, hf⟩ := hbb
  clear hc hr ha k1 k2 k3 hlt hcc hcap
  cases la with
  | false =>
    have c9 : w.cell? ⟨b, 9, none⟩ = some (.int .i64 0) := by rw [cell_of_row _ _ _ _ _ _ hrow]; rfl
    have c3 : w.cell? ⟨b, 3, none⟩ = some (.bool P.A.there) := by rw [cell_of_row _ _ _ _ _ _ hrow]; rfl
    have c4 : w.cell? ⟨b, 4, none⟩ = some da := by rw [cell_of_row _ _ _ _ _ _ hrow]; rfl
    have c5 : w.cell? ⟨b, 5, none⟩ = some (.int .u64 P.A.tick) := by rw [cell_of_row _ _ _ _ _ _ hrow]; rfl
    have c6 : w.cell? ⟨b, 6, none⟩ = some (.bool P.B.there) := by rw [cell_of_row _ _ _ _ _ _ hrow]; rfl
    have c7 : w.cell? ⟨b, 7, none⟩ = some (.slice D P.B.data.length cap) := by rw [cell_of_row _ _ _ _ _ _ hrow]; rfl
    have f3 := frozen_of_row w b 3 _ _ hrow
    have f4 := frozen_of_row w b 4 _ _ hrow
    have f5 := frozen_of_row w b 5 _ _ hrow
    have f9 := frozen_of_row w b 9 _ _ hrow
    rw [hn] at c6
    have hsum : IntKind.i64.wrap ((1 : Int) - 0) = 1 := by decide
    have HROW := Lib.hid hrow
    clear hrow hn
    go_enter Try.func15, Try.ntmps15
    go_wp2
    go_quiet (fail)
    go_wp2
    go_region
    go_wp2
    go_quiet (fail)
    go_wp2
    go_ret
    exact ⟨rfl, port_turned (la := true) hoff HLT.out HRR.out HBB.out K1.out K3.out ((((((Chg.refl w (some b)).drewN _).set _ _).set _ _).set _ _).set _ _ |>.drewN _) (by have e := heap_setCell_same _ b 9 _ _ (Value.int .i64 1) (heap_setCell_same _ b 5 _ _ (Value.int .u64 0) (heap_setCell_same _ b 4 _ _ (Value.slice none 0 0) (heap_setCell_same _ b 3 _ _ (Value.bool false) HROW.out))); exact e)⟩
  | true =>
    have c9 : w.cell? ⟨b, 9, none⟩ = some (.int .i64 1) := by rw [cell_of_row _ _ _ _ _ _ hrow]; rfl
    have c3 : w.cell? ⟨b, 6, none⟩ = some (.bool P.A.there) := by rw [cell_of_row _ _ _ _ _ _ hrow]; rfl
    have c4 : w.cell? ⟨b, 7, none⟩ = some da := by rw [cell_of_row _ _ _ _ _ _ hrow]; rfl
    have c5 : w.cell? ⟨b, 8, none⟩ = some (.int .u64 P.A.tick) := by rw [cell_of_row _ _ _ _ _ _ hrow]; rfl
    have c6 : w.cell? ⟨b, 3, none⟩ = some (.bool P.B.there) := by rw [cell_of_row _ _ _ _ _ _ hrow]; rfl
    have c7 : w.cell? ⟨b, 4, none⟩ = some (.slice D P.B.data.length cap) := by rw [cell_of_row _ _ _ _ _ _ hrow]; rfl
    have f3 := frozen_of_row w b 6 _ _ hrow
    have f4 := frozen_of_row w b 7 _ _ hrow
    have f5 := frozen_of_row w b 8 _ _ hrow
    have f9 := frozen_of_row w b 9 _ _ hrow
    rw [hn] at c6
    have hsum : IntKind.i64.wrap ((1 : Int) - 1) = 0 := by decide
    have HROW := Lib.hid hrow
    clear hrow hn
    go_enter Try.func15, Try.ntmps15
    go_wp2
    go_quiet (fail)
    go_wp2
    go_region
    go_wp2
    go_quiet (fail)
    go_wp2
    go_ret
    exact ⟨rfl, port_turned (la := false) hoff HLT.out HRR.out HBB.out K1.out K3.out ((((((Chg.refl w (some b)).drewN _).set _ _).set _ _).set _ _).set _ _ |>.drewN _) (by have e := heap_setCell_same _ b 9 _ _ (Value.int .i64 0) (heap_setCell_same _ b 8 _ _ (Value.int .u64 0) (heap_setCell_same _ b 7 _ _ (Value.slice none 0 0) (heap_setCell_same _ b 6 _ _ (Value.bool false) HROW.out))); exact e)⟩
end Go.Proofs.Ytfoofipkbijajaa.Sa
