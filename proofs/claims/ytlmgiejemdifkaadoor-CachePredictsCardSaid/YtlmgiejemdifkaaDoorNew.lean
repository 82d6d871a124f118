/- New, may, power of shapes that may be; pick: contracts. No statement of the seat is proved here. -/
import Derived.Test.YtlmgiejemdifkaaDoorAccess
namespace Go.Proofs.YtlmgiejemdifkaaDoor.Ca
open Go.RowKit Go.Proofs.YtlmgiejemdifkaaDoor.Kit
set_option linter.unusedSimpArgs false
set_option linter.unusedVariables false

theorem power_yes (w : World) (n i : Nat) (lo hi : Int) (hn : n = 2 ^ i) (h8 : i ≤ 8) (h1 : lo ≤ n) (h2 : (n : Int) ≤ hi) : Calls Tryd.prog 50 #[.int .i64 n, .int .i64 lo, .int .i64 hi] w fun e w' => e = .returned (.bool true) ∧ w = w' := by
  have hb : n ≤ 256 := by rw [hn]; exact (Nat.pow_le_pow_right (by decide) h8 : 2 ^ i ≤ 2 ^ 8)
  have h0 : 1 ≤ n := by rw [hn]; exact Nat.two_pow_pos _
  have ha := and_pow (n := n) hn (by omega) h8
  rw [Nat.mod_self] at ha
  have hw := wrap_small (x := (n : Int) - 1) (by omega) (by omega)
  clear hn
  go_enter Tryd.func50, Tryd.ntmps50
  go_wp2
  go_ret
  exact ⟨rfl, rfl⟩
theorem may_yes (w : World) (s : Shp) : Calls Tryd.prog 32 #[.agg #[.int .i64 s.S, .int .i64 s.W, .int .i64 s.L]] w fun e w' => e = .returned (.bool true) ∧ Chg w w' none := by
  have hS := s.Sle
  have hL := s.Lle
  have hW := s.hW
  have P1 := Lib.hid (fun W => power_yes W s.S s.i 1 256 s.hS s.hi (by omega) (by omega))
  have P2 := Lib.hid (fun W => power_yes W s.L s.j 16 256 s.hL s.hj (by omega) (by omega))
  go_enter Tryd.func32, Tryd.ntmps32
  go_wp2_with fail
  refine (P1.out _).mono ?_
  rintro e w' ⟨rfl, rfl⟩
  go_wp2_with fail
  refine (P2.out _).mono ?_
  rintro e w' ⟨rfl, rfl⟩
  go_wp2
  go_ret
  exact ⟨rfl, (Chg.refl w none).alloc _⟩

/-! ### an empty cache's cells -/
def zset : List Value := [.int .u32 0, .bool false, .int .u32 0, .bool false, .int .u32 0, .bool false, .int .u32 0, .bool false, .int .u32 0, .bool false, .int .u32 0, .bool false, .int .u32 0, .bool false, .int .u32 0, .bool false, .int .i64 0]
def newCells (S W L : Int) : Array Value := (([.int .i64 S, .int .i64 W, .int .i64 L] : List Value) ++ (List.replicate 256 zset).flatten).toArray
theorem zero86 : Tryd.zeroCells86 = newCells 0 0 0 := by kernel_rfl
theorem new_cells (S W L : Int) : ((Tryd.zeroCells86.setIfInBounds 0 (.int .i64 S)).setIfInBounds 1 (.int .i64 W)).setIfInBounds 2 (.int .i64 L) = newCells S W L := by
  rw [zero86]
  unfold newCells
  rw [List.setIfInBounds_toArray, List.setIfInBounds_toArray, List.setIfInBounds_toArray]
  rfl
theorem flatten_len : ∀ n, (List.replicate n zset).flatten.length = n * 17
  | 0 => rfl
  | n + 1 => by rw [List.replicate_succ, List.flatten_cons, List.length_append, flatten_len n]; show 17 + n * 17 = _; omega
theorem flatten_get : ∀ (n k j : Nat), k < n → j < 17 → (List.replicate n zset).flatten[k * 17 + j]? = zset[j]?
  | n + 1, 0, j, _, hj => by
    rw [List.replicate_succ, List.flatten_cons, Nat.zero_mul, Nat.zero_add, List.getElem?_append_left (by show j < 17; exact hj)]
  | n + 1, k + 1, j, hk, hj => by
    rw [List.replicate_succ, List.flatten_cons, List.getElem?_append_right (by show 17 ≤ _; omega), ← flatten_get n k j (by omega) hj]
    congr 1
    show (k + 1) * 17 + j - 17 = _
    omega
theorem newCells_at (S W L : Int) (k j : Nat) (hk : k < 256) (hj : j < 17) : (newCells S W L)[3 + k * 17 + j]? = zset[j]? := by
  unfold newCells
  rw [List.getElem?_toArray, List.getElem?_append_right (by show 3 ≤ _; omega), ← flatten_get 256 k j hk hj]
  congr 1
  show 3 + k * 17 + j - 3 = _
  omega
theorem head_at (S W L : Int) (j : Nat) (hj : j < 3) : (newCells S W L)[j]? = ([.int .i64 S, .int .i64 W, .int .i64 L] : List Value)[j]? := by
  unfold newCells
  rw [List.getElem?_toArray, List.getElem?_append_left hj]
theorem newCells_size (S W L : Int) : (newCells S W L).size = 4355 := by
  unfold newCells
  rw [List.size_toArray, List.length_append, flatten_len]; rfl
def zln : List Ln := List.replicate 8 (0, false)
theorem zset_flat : zset = flat zln ++ [.int .i64 0] := rfl
theorem new_is {w : World} {b : Nat} (s : Shp) (h : w.heap[b]? = some (.cells (newCells s.S s.W s.L) 86 (0, 0))) : CacheIs w b s (fun _ => []) := by
  have hc := fun j => cell_of_row w b j _ _ _ h
  refine ⟨⟨_, h, newCells_size _ _ _⟩, by rw [hc]; exact head_at _ _ _ 0 (by decide), by rw [hc]; exact head_at _ _ _ 1 (by decide), by rw [hc]; exact head_at _ _ _ 2 (by decide), fun k hk => ⟨zln, rfl, fun j v hv => ?_, ?_, rfl⟩, fun k => Nat.zero_le _⟩
  · have hj : j < 16 := (List.getElem?_eq_some_iff.1 hv).1
    rw [hc, newCells_at _ _ _ k j hk (by omega), zset_flat, List.getElem?_append_left hj]
    exact hv
  · rw [hc, newCells_at _ _ _ k 16 hk (by omega)]
    rfl
set_option maxRecDepth 4000 in
theorem new_ok (w : World) (s : Shp) : Calls Tryd.prog 12 #[.agg #[.int .i64 s.S, .int .i64 s.W, .int .i64 s.L]] w fun e w' => ∃ b, e = .returned (.tuple #[.pointer (some ⟨b, 0, none⟩), .int .i64 0]) ∧ CacheIs w' b s (fun _ => []) ∧ w.heap.size ≤ b ∧ Chg w w' none := by
  have C1 := Lib.hid ((Chg.refl w none).alloc (.cells #[.int .i64 s.S, .int .i64 s.W, .int .i64 s.L] 23))
  have hr := heap_alloc_last w (.cells #[.int .i64 s.S, .int .i64 s.W, .int .i64 s.L] 23)
  go_enter Tryd.func12, Tryd.ntmps12
  go_wp2_with fail
  refine (may_yes _ s).mono ?_
  rintro e w2 ⟨rfl, hC⟩
  have hr2 := (hC.block w.heap.size (by simp) (by simp)).trans hr
  have c0 : w2.cell? ⟨w.heap.size, 0, none⟩ = some (.int .i64 s.S) := by rw [cell_of_row _ _ _ _ _ _ hr2]; rfl
  have c1 : w2.cell? ⟨w.heap.size, 1, none⟩ = some (.int .i64 s.W) := by rw [cell_of_row _ _ _ _ _ _ hr2]; rfl
  have c2 : w2.cell? ⟨w.heap.size, 2, none⟩ = some (.int .i64 s.L) := by rw [cell_of_row _ _ _ _ _ _ hr2]; rfl
  have C2 := Lib.hid (C1.out.trans hC)
  clear hC hr hr2
  go_wp2
  go_ret2
  have h := heap_alloc_last w2 (.cells (((Tryd.zeroCells86.setIfInBounds 0 (.int .i64 s.S)).setIfInBounds 1 (.int .i64 s.W)).setIfInBounds 2 (.int .i64 s.L)) 86)
  rw [new_cells] at h ⊢
  exact ⟨_, rfl, new_is s h, C2.out.size, C2.out.alloc _⟩
end Go.Proofs.YtlmgiejemdifkaaDoor.Ca
