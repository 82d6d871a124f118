/- wire: rows and what is done; trace.row: contracts. No statement of the seat is proved here. -/
import Derived.Test.YtpeonoimdmdmlaaDoorWrB
namespace Go.Proofs.YtpeonoimdmdmlaaDoor.Tr
open Go.RowKit Go.Proofs.YtpeonoimdmdmlaaDoor.Kit
set_option linter.unusedSimpArgs false
set_option linter.unusedVariables false
theorem long_any (w : World) (n₀ b lim : Nat) (L : List Int) (h : Wr w n₀ b lim L) (x : Int) (hx0 : 0 ≤ x) (hx : x < 18446744073709551616) (hn : L.length + 8 ≤ lim) (hl : lim ≤ 1000000) (hn0 : n₀ ≤ w.heap.size) :
    Calls Tryd.prog 19 #[.pointer (some ⟨b, 0, none⟩), .int .u64 x] w fun e w' => (∃ v, e = .returned v) ∧ Wr w' n₀ b lim (L ++ le 8 x) ∧ Below n₀ w w' ∧ Onl b w w' := by
  have C := Lib.hid (put64_any w n₀ b lim L h x hx0 hx hn hl hn0)
  clear h
  go_enter Tryd.func19, Tryd.ntmps19
  go_wp2_with (go_at_call 23; refine C.out.mono ?_; rintro e w' ⟨⟨v, rfl⟩, hw⟩)
  go_end0
  exact ⟨⟨_, rfl⟩, hw⟩
theorem byte_any (w : World) (n₀ b lim : Nat) (L : List Int) (h : Wr w n₀ b lim L) (x : Int) (hx0 : 0 ≤ x) (hx : x < 256) (hn : L.length + 1 ≤ lim) (hl : lim ≤ 1000000) (hn0 : n₀ ≤ w.heap.size) :
    Calls Tryd.prog 20 #[.pointer (some ⟨b, 0, none⟩), .int .u8 x] w fun e w' => (∃ v, e = .returned v) ∧ Wr w' n₀ b lim (L ++ le 1 x) ∧ Below n₀ w w' ∧ Onl b w w' := by
  have C := Lib.hid (put8_any w n₀ b lim L h x hx0 hx hn hl hn0)
  clear h
  go_enter Tryd.func20, Tryd.ntmps20
  go_wp2_with (go_at_call 24; refine C.out.mono ?_; rintro e w' ⟨⟨v, rfl⟩, hw⟩)
  go_end0
  exact ⟨⟨_, rfl⟩, hw⟩
theorem word_any (w : World) (n₀ b lim : Nat) (L : List Int) (h : Wr w n₀ b lim L) (x : Int) (hx0 : 0 ≤ x) (hx : x < 4294967296) (hn : L.length + 4 ≤ lim) (hl : lim ≤ 1000000) (hn0 : n₀ ≤ w.heap.size) :
    Calls Tryd.prog 21 #[.pointer (some ⟨b, 0, none⟩), .int .u32 x] w fun e w' => (∃ v, e = .returned v) ∧ Wr w' n₀ b lim (L ++ le 4 x) ∧ Below n₀ w w' ∧ Onl b w w' := by
  have C := Lib.hid (put32_any w n₀ b lim L h x hx0 hx hn hl hn0)
  clear h
  go_enter Tryd.func21, Tryd.ntmps21
  go_wp2_with (go_at_call 25; refine C.out.mono ?_; rintro e w' ⟨⟨v, rfl⟩, hw⟩)
  go_end0
  exact ⟨⟨_, rfl⟩, hw⟩
/-- A row's bytes. -/
def rowB (o : Ob) : List Int := le 8 o.tick ++ le 1 o.cell ++ le 1 o.kind ++ le 4 o.pc ++ le 4 o.a ++ le 4 o.b
theorem rowB_len (o : Ob) : (rowB o).length = 22 := by simp [rowB, le_len]
theorem Wr.alloc {w : World} {n₀ b lim : Nat} {L : List Int} (h : Wr w n₀ b lim L) (o : Obj) : Wr (w.alloc o) n₀ b lim L := by
  obtain ⟨lo, v, m, h1, h2, h3⟩ := h
  exact ⟨lo, v, m, (Below.heap_alloc _ _ _ (Array.getElem?_eq_some_iff.1 h1).1).trans h1, World.ownsRow.alloc h2 o, (Below.heap_alloc _ _ _ (Array.getElem?_eq_some_iff.1 h3).1).trans h3⟩
theorem Onl.cells {b s : Nat} {w w' : World} {cs : Array Value} (h : Onl b w w') (hs : w.heap[s]? = some (.cells cs 31 (0, 0))) (hb : s ≠ b) : w'.heap[s]? = some (.cells cs 31 (0, 0)) :=
  (h s (Array.getElem?_eq_some_iff.1 hs).1 hb (fun cs' f e => by rw [hs] at e; injection e with e; injection e with _ e; cases e)).trans hs
set_option maxHeartbeats 4000000 in
theorem row_any (w : World) (n₀ b : Nat) (h : Wr w n₀ b 22 []) (o : Ob) (ho : Ok o) (hn0 : n₀ ≤ w.heap.size) :
    Calls Tryd.prog 13 #[.pointer (some ⟨b, 0, none⟩), .agg (oc o).toArray] w fun e w' => (∃ v, e = .returned v) ∧ Wr w' n₀ b 22 (rowB o) ∧ Below n₀ w w' := by
  obtain ⟨tick, cell, kind, pc, a, bb⟩ := o
  obtain ⟨⟨ht1, ht2⟩, ⟨hc1, hc2⟩, ⟨hp1, hp2⟩, ⟨ha1, ha2⟩, ⟨hb1, hb2⟩, hk⟩ := ho
  dsimp only at ht1 ht2 hc1 hc2 hp1 hp2 ha1 ha2 hb1 hb2 hk
  have hk1 : 1 ≤ kind ∧ kind ≤ 7 := by omega
  obtain ⟨hk1, hk2⟩ := hk1
  clear hk
  have hbl := h.lt
  have W1 := Lib.hid (show Wr (w.alloc (.cells #[.int .u64 tick, .int .i64 cell, .int .i64 kind, .int .u32 pc, .int .u32 a, .int .u32 bb] 31)) n₀ b 22 [] from h.alloc _)
  have B1 := Lib.hid ((Below.refl n₀ w).alloc hn0 (.cells #[.int .u64 tick, .int .i64 cell, .int .i64 kind, .int .u32 pc, .int .u32 a, .int .u32 bb] 31))
  have R1 := Lib.hid (heap_alloc_last w (.cells #[.int .u64 tick, .int .i64 cell, .int .i64 kind, .int .u32 pc, .int .u32 a, .int .u32 bb] 31))
  simp only [oc]
  clear h
  go_enter Tryd.func13, Tryd.ntmps13
  go_wp2_with fail
  generalize w.alloc (.cells #[.int .u64 tick, .int .i64 cell, .int .i64 kind, .int .u32 pc, .int .u32 a, .int .u32 bb] 31) = w1 at *
  have hu1 : IntKind.u8.wrap cell = cell := by simp [IntKind.wrap, IntKind.signed, IntKind.bits]; omega
  have hu2 : IntKind.u8.wrap kind = kind := by simp [IntKind.wrap, IntKind.signed, IntKind.bits]; omega
  have c1 : w1.cell? ⟨w.heap.size, 0, none⟩ = some (.int .u64 tick) := by rw [cell_of_row _ _ _ _ _ _ R1.out]; rfl
  go_wp2_with fail
  refine (long_any w1 n₀ b 22 (([] : List Int)) W1.out tick (by omega) (by omega) (by simp [le_len]) (by omega) (by have := B1.out.size; omega)).mono ?_
  rintro e w2 ⟨⟨v1, rfl⟩, hW, hB, hO⟩
  have W2 := Lib.hid hW
  have B2 := Lib.hid (B1.out.trans hB)
  have R2 := Lib.hid (hO.cells R1.out (by omega))
  clear hW hB hO c1 W1 R1
  have c2 : w2.cell? ⟨w.heap.size, 1, none⟩ = some (.int .i64 cell) := by rw [cell_of_row _ _ _ _ _ _ R2.out]; rfl
  go_wp2_with fail
  refine (byte_any w2 n₀ b 22 (([] : List Int) ++ le 8 tick) W2.out cell (by omega) (by omega) (by simp [le_len]) (by omega) (by have := B2.out.size; omega)).mono ?_
  rintro e w3 ⟨⟨v2, rfl⟩, hW, hB, hO⟩
  have W3 := Lib.hid hW
  have B3 := Lib.hid (B2.out.trans hB)
  have R3 := Lib.hid (hO.cells R2.out (by omega))
  clear hW hB hO c2 W2 R2
  have c3 : w3.cell? ⟨w.heap.size, 2, none⟩ = some (.int .i64 kind) := by rw [cell_of_row _ _ _ _ _ _ R3.out]; rfl
  go_wp2_with fail
  refine (byte_any w3 n₀ b 22 (([] : List Int) ++ le 8 tick ++ le 1 cell) W3.out kind (by omega) (by omega) (by simp [le_len]) (by omega) (by have := B3.out.size; omega)).mono ?_
  rintro e w4 ⟨⟨v3, rfl⟩, hW, hB, hO⟩
  have W4 := Lib.hid hW
  have B4 := Lib.hid (B3.out.trans hB)
  have R4 := Lib.hid (hO.cells R3.out (by omega))
  clear hW hB hO c3 W3 R3
  have c4 : w4.cell? ⟨w.heap.size, 3, none⟩ = some (.int .u32 pc) := by rw [cell_of_row _ _ _ _ _ _ R4.out]; rfl
  go_wp2_with fail
  refine (word_any w4 n₀ b 22 (([] : List Int) ++ le 8 tick ++ le 1 cell ++ le 1 kind) W4.out pc (by omega) (by omega) (by simp [le_len]) (by omega) (by have := B4.out.size; omega)).mono ?_
  rintro e w5 ⟨⟨v4, rfl⟩, hW, hB, hO⟩
  have W5 := Lib.hid hW
  have B5 := Lib.hid (B4.out.trans hB)
  have R5 := Lib.hid (hO.cells R4.out (by omega))
  clear hW hB hO c4 W4 R4
  have c5 : w5.cell? ⟨w.heap.size, 4, none⟩ = some (.int .u32 a) := by rw [cell_of_row _ _ _ _ _ _ R5.out]; rfl
  go_wp2_with fail
  refine (word_any w5 n₀ b 22 (([] : List Int) ++ le 8 tick ++ le 1 cell ++ le 1 kind ++ le 4 pc) W5.out a (by omega) (by omega) (by simp [le_len]) (by omega) (by have := B5.out.size; omega)).mono ?_
  rintro e w6 ⟨⟨v5, rfl⟩, hW, hB, hO⟩
  have W6 := Lib.hid hW
  have B6 := Lib.hid (B5.out.trans hB)
  have R6 := Lib.hid (hO.cells R5.out (by omega))
  clear hW hB hO c5 W5 R5
  have c6 : w6.cell? ⟨w.heap.size, 5, none⟩ = some (.int .u32 bb) := by rw [cell_of_row _ _ _ _ _ _ R6.out]; rfl
  go_wp2_with fail
  refine (word_any w6 n₀ b 22 (([] : List Int) ++ le 8 tick ++ le 1 cell ++ le 1 kind ++ le 4 pc ++ le 4 a) W6.out bb (by omega) (by omega) (by simp [le_len]) (by omega) (by have := B6.out.size; omega)).mono ?_
  rintro e w7 ⟨⟨v6, rfl⟩, hW, hB, hO⟩
  have W7 := Lib.hid hW
  have B7 := Lib.hid (B6.out.trans hB)
  have R7 := Lib.hid (hO.cells R6.out (by omega))
  clear hW hB hO c6 W6 R6
  go_wp2
  go_end0
  exact ⟨⟨_, rfl⟩, by have := W7.out; simpa [rowB] using this, B7.out⟩
end Go.Proofs.YtpeonoimdmdmlaaDoor.Tr
