/- wire: a writer's small functions: contracts. No statement of the seat is proved here. -/
import Derived.Test.YtpeonoimdmdmlaaDoorObs
import Derived.Deep.RegionLaw
import Derived.Maps.Own
namespace Go.Proofs.YtpeonoimdmdmlaaDoor.Tr
open Go.RowKit Go.Proofs.YtpeonoimdmdmlaaDoor.Kit
set_option linter.unusedSimpArgs false
set_option linter.unusedVariables false

/-! ### bytes of one's own; a writer -/
def eb (x : Int) : List Value := [.int .u8 x]
theorem eb_len (x : Int) : (eb x).length = 1 := rfl
/-- Bytes of one's own. -/
abbrev By (w : World) (base : Nat) (v : Value) (L : List Int) : Prop := Ol w base 5 1 eb v L
/-- A writer in block b: so many bytes it may hold, these it holds. -/
structure Wr (w : World) (n₀ b : Nat) (lim : Nat) (L : List Int) : Prop where
  lo : n₀ ≤ b
  at_ : ∃ v m, w.heap[b]? = some (.cells #[.int .i64 lim, v, .map (some m), .int .i64 0] 55 (0, 0)) ∧ By w n₀ v L ∧ w.heap[m]? = some (.map #[] 0)
theorem Wr.lt {w : World} {n₀ b lim : Nat} {L : List Int} (h : Wr w n₀ b lim L) : b < w.heap.size := by
  obtain ⟨v, m, h, _⟩ := h.at_; exact (Array.getElem?_eq_some_iff.1 h).1
theorem Wr.drew {w : World} {n₀ b lim : Nat} {L : List Int} (h : Wr w n₀ b lim L) : Wr w.drew n₀ b lim L := ⟨h.lo, h.at_⟩
/-- The writer's slice is not the writer. -/
theorem By.ne {w : World} {n₀ b : Nat} {v : Value} {L : List Int} {cs : Array Value} {t : TypeId} (ho : By w n₀ v L) (hb : w.heap[b]? = some (.cells cs t (0, 0))) (ht : t ≠ 5) : v.ownBlock ≠ some b := fun e => by
  rcases ho.2 with ⟨rfl, _⟩ | ⟨g, cap, cur, rfl, _, hgb, _⟩
  · cases e
  · obtain rfl : g = b := by simpa [Value.ownBlock] using e
    rw [hb] at hgb; injection hgb with hgb; injection hgb with _ h; exact ht h
theorem By.nmap {w : World} {n₀ m : Nat} {v : Value} {L : List Int} {es : Array MapEntry} {c : Nat} (ho : By w n₀ v L) (hb : w.heap[m]? = some (.map es c)) : v.ownBlock ≠ some m := fun e => by
  rcases ho.2 with ⟨rfl, _⟩ | ⟨g, cap, cur, rfl, _, hgb, _⟩
  · cases e
  · obtain rfl : g = m := by simpa [Value.ownBlock] using e
    rw [hb] at hgb; cases hgb

/-! ### size -/
theorem xm64 : bits .xor .u64 IntKind.u64.max 0 = 18446744073709551615 := by decide
theorem xm8 : bits .xor .u8 IntKind.u8.max 0 = 255 := by decide
theorem xm32 : bits .xor .u32 IntKind.u32.max 0 = 4294967295 := by decide
set_option maxHeartbeats 2000000 in
theorem size64_any (w : World) : Calls Tryd.prog 26 #[] w fun e w' => e = .returned (.int .i64 8) ∧ w = w' := by
  have hsg : IntKind.u64.signed = false := rfl
  have hxm := xm64
  go_enter Tryd.func26, Tryd.ntmps26
  go_wp2_with fail
  go_loopw [1, 2] (fun n u wr => (wr = w) ∧ ((n = .int .i64 0 ∧ u = .int .u64 18446744073709551615) ∨ (n = .int .i64 1 ∧ u = .int .u64 72057594037927935) ∨ (n = .int .i64 2 ∧ u = .int .u64 281474976710655) ∨ (n = .int .i64 3 ∧ u = .int .u64 1099511627775) ∨ (n = .int .i64 4 ∧ u = .int .u64 4294967295) ∨ (n = .int .i64 5 ∧ u = .int .u64 16777215) ∨ (n = .int .i64 6 ∧ u = .int .u64 65535) ∨ (n = .int .i64 7 ∧ u = .int .u64 255) ∨ (n = .int .i64 8 ∧ u = .int .u64 0))) (fun n _ _ => 8 - (intOf n).toNat)
  case atStart => exact ⟨rfl, .inl ⟨rfl, by rfl⟩⟩
  case round =>
    obtain ⟨rfl, hrel⟩ := hrel
    rcases hrel with ⟨rfl, rfl⟩ | ⟨rfl, rfl⟩ | ⟨rfl, rfl⟩ | ⟨rfl, rfl⟩ | ⟨rfl, rfl⟩ | ⟨rfl, rfl⟩ | ⟨rfl, rfl⟩ | ⟨rfl, rfl⟩ | ⟨rfl, rfl⟩
    all_goals
      go_wp2
      first
        | (go_ret; exact ⟨rfl, rfl⟩)
        | (go_roundw
           case rel => simp
           case measure => decide)
set_option maxHeartbeats 2000000 in
theorem size8_any (w : World) : Calls Tryd.prog 28 #[] w fun e w' => e = .returned (.int .i64 1) ∧ w = w' := by
  have hsg : IntKind.u8.signed = false := rfl
  have hxm := xm8
  go_enter Tryd.func28, Tryd.ntmps28
  go_wp2_with fail
  go_loopw [1, 2] (fun n u wr => (wr = w) ∧ ((n = .int .i64 0 ∧ u = .int .u8 255) ∨ (n = .int .i64 1 ∧ u = .int .u8 0))) (fun n _ _ => 1 - (intOf n).toNat)
  case atStart => exact ⟨rfl, .inl ⟨rfl, by rfl⟩⟩
  case round =>
    obtain ⟨rfl, hrel⟩ := hrel
    rcases hrel with ⟨rfl, rfl⟩ | ⟨rfl, rfl⟩
    all_goals
      go_wp2
      first
        | (go_ret; exact ⟨rfl, rfl⟩)
        | (go_roundw
           case rel => simp
           case measure => decide)
set_option maxHeartbeats 2000000 in
theorem size32_any (w : World) : Calls Tryd.prog 29 #[] w fun e w' => e = .returned (.int .i64 4) ∧ w = w' := by
  have hsg : IntKind.u32.signed = false := rfl
  have hxm := xm32
  go_enter Tryd.func29, Tryd.ntmps29
  go_wp2_with fail
  go_loopw [1, 2] (fun n u wr => (wr = w) ∧ ((n = .int .i64 0 ∧ u = .int .u32 4294967295) ∨ (n = .int .i64 1 ∧ u = .int .u32 16777215) ∨ (n = .int .i64 2 ∧ u = .int .u32 65535) ∨ (n = .int .i64 3 ∧ u = .int .u32 255) ∨ (n = .int .i64 4 ∧ u = .int .u32 0))) (fun n _ _ => 4 - (intOf n).toNat)
  case atStart => exact ⟨rfl, .inl ⟨rfl, by rfl⟩⟩
  case round =>
    obtain ⟨rfl, hrel⟩ := hrel
    rcases hrel with ⟨rfl, rfl⟩ | ⟨rfl, rfl⟩ | ⟨rfl, rfl⟩ | ⟨rfl, rfl⟩ | ⟨rfl, rfl⟩
    all_goals
      go_wp2
      first
        | (go_ret; exact ⟨rfl, rfl⟩)
        | (go_roundw
           case rel => simp
           case measure => decide)

/-! ### room -/
set_option maxHeartbeats 2000000 in
theorem room_any (w : World) (n₀ b lim : Nat) (L : List Int) (h : Wr w n₀ b lim L) (n : Nat) (hn : L.length + n ≤ lim) (hl : lim ≤ 1000000) :
    Calls Tryd.prog 27 #[.pointer (some ⟨b, 0, none⟩), .int .i64 n] w fun e w' => e = .returned (.bool true) ∧ ∃ q, w.drewN q = w' := by
  obtain ⟨v, m, hb, ho, hm⟩ := h.at_
  obtain ⟨A, c, rfl⟩ := ho.slice
  have c0 : w.cell? ⟨b, 0, none⟩ = some (.int .i64 lim) := by rw [cell_of_row _ _ _ _ _ _ hb]; rfl
  have c1 : w.cell? ⟨b, 1, none⟩ = some (.slice A L.length c) := by rw [cell_of_row _ _ _ _ _ _ hb]; rfl
  have c3 : w.cell? ⟨b, 3, none⟩ = some (.int .i64 0) := by rw [cell_of_row _ _ _ _ _ _ hb]; rfl
  have hd : decide ((lim : Int) - (L.length : Int) < (n : Int)) = false := by simp; omega
  clear hb ho hm h
  go_enter Tryd.func27, Tryd.ntmps27
  go_wp2_with fail
  go_quiet (fail)
  go_wp2
  go_ret
  exact ⟨rfl, _, rfl⟩

/-! ### NewWriter -/
set_option maxHeartbeats 2000000 in
theorem new_any (w : World) (n₀ : Nat) (hn : n₀ ≤ w.heap.size) : Calls Tryd.prog 12 #[.int .i64 22] w fun e w' => ∃ b, e = .returned (.tuple #[.pointer (some ⟨b, 0, none⟩), .int .i64 0]) ∧ Wr w' n₀ b 22 [] ∧ Below w.heap.size w w' := by
  have hmm := @run_makeMap Tryd.prog
  go_enter Tryd.func12, Tryd.ntmps12
  go_wp2
  refine bodyPost_ret (results_tmp2 rfl _ _ _) rfl ?_
  have h1 := heap_alloc_last (w.alloc (.map #[] 0)) (.cells #[Value.int IntKind.i64 22, Value.slice none 0 0, Value.map (some w.heap.size), Value.int IntKind.i64 0] 55)
  rw [World.size_alloc] at h1
  refine ⟨_, rfl, ⟨by omega, .slice none 0 0, w.heap.size, h1, World.ownsRow_nil _ _ _ _, ?_⟩, ((Below.refl _ _).alloc (Nat.le_refl _) _).alloc (by simp) _⟩
  exact (Below.heap_alloc _ _ _ (by simp)).trans (heap_alloc_last w _)
end Go.Proofs.YtpeonoimdmdmlaaDoor.Tr
