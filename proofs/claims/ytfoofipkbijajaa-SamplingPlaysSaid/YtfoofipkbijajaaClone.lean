/- slices.Clone, same: contracts. No statement of the seat is proved here. -/
import Derived.Test.YtfoofipkbijajaaBase
import Derived.Lib.Walk
namespace Go.Proofs.Ytfoofipkbijajaa.Sa
open Go.RowKit Go.Proofs.Ytfoofipkbijajaa.Kit
set_option linter.unusedSimpArgs false
set_option linter.unusedVariables false

theorem info3 : (Try.prog.info? 3).map (fun i => (i.zero, i.size, i.bytes)) = some (some (.int .i64 0), 1, 8) := by kernel_rfl
theorem q22 (w : World) (a : Option Addr) (n c n' c' : Nat) : (binOp .eql 22 (.slice a n c) (.slice none n' c')).run Try.prog w = .ok (.bool a.isNone) w := Lib.run_eql_slice_nil w _ _ a n c n' c' Try.underlying22
set_option maxHeartbeats 1000000 in
theorem clone25 (w : World) (v : Value) (xs : List Int) (h : Sl .i64 8 w v xs) :
    Calls Try.prog 25 #[v] w fun e w' => ∃ v', e = .returned v' ∧ w'.ownsRow w.heap.size 3 1 v' xs.length (xs.map (Value.int .i64)) ∧ w.grownBy w' none := by
  obtain ⟨⟨A, cap, rfl, hcap, hcc⟩, hf⟩ := h
  have hq := q22
  cases A with
  | none =>
    have h0 : xs = [] := by
      cases xs with
      | nil => rfl
      | cons a l => obtain ⟨b, off, hA, _⟩ := hcc (by simp); cases hA
    subst h0
    go_enter Try.func25, Try.ntmps25
    go_wp2
    go_ret
    exact ⟨_, rfl, World.ownsRow_nil w _ _ _, ⟨rfl, rfl, rfl, Nat.le_refl _, fun _ _ _ => rfl⟩⟩
  | some ad =>
    obtain ⟨i0, hi, hz0, hz1, hz2⟩ := info_parts info3
    have hc : ∀ j u, (xs.map (Value.int .i64))[j]? = some u → w.cell? (ad.add j) = some u := by
      intro j u hu
      have hj : j < xs.length := by have := (List.getElem?_eq_some_iff.1 hu).1; simpa using this
      obtain ⟨b, off, hA, hx⟩ := hcc (by omega)
      cases hA
      rw [Addr.add_mid, hx j hj]
      simp [List.getElem?_map, List.getElem?_eq_getElem hj] at hu
      rw [← hu]; simp [nth, List.getD_eq_getElem?_getD, List.getElem?_eq_getElem hj]
    have HC := Lib.hid hc
    clear hc hcc
    go_enter Try.func25, Try.ntmps25
    go_wp2_with (at_builtin; refine wpList_append_own _ rfl _ _ 22 rfl w.heap.size 3 i0 (.int .i64 0) 1 8 Try.underlying22 hi hz0 hz1 hz2 rfl (by decide) _ _ _ rfl (World.ownsRow_made w #[] 0 (Nat.le_refl _) (Nat.zero_le _) (by simp)) ad xs.length cap (xs.map (Value.int .i64)) rfl ?qc1 ?qc2 ?qc3 ?qc4 ?qc5 ?qc6 ?_)
    case qc1 => simp
    case qc2 =>
      intro j u hj
      exact Lib.cell?_alloc_some _ (HC.out j u hj)
    case qc3 =>
      intro u hu
      simp only [List.mem_map] at hu
      obtain ⟨x, _, rfl⟩ := hu
      rfl
    case qc4 => simp only [maxLen]; omega
    case qc5 => omega
    case qc6 => simp
    intro v' w1 hown hgrow hnil
    go_wp2
    go_ret
    refine ⟨v', rfl, by simpa using hown, ?_⟩
    exact ⟨hgrow.os.trans rfl, hgrow.tape.trans rfl, hgrow.output.trans rfl, by have := hgrow.size; simp at this; omega, fun i hi hn => by
      rw [hgrow.block i (by simp; omega) (fun e => by simp [Value.ownBlock] at e; omega)]; exact heap_alloc_old w _ hi⟩

theorem info5 : (Try.prog.info? 5).map (fun i => (i.zero, i.size, i.bytes)) = some (some (.int .u8 0), 1, 1) := by kernel_rfl
theorem q33 (w : World) (a : Option Addr) (n c n' c' : Nat) : (binOp .eql 33 (.slice a n c) (.slice none n' c')).run Try.prog w = .ok (.bool a.isNone) w := Lib.run_eql_slice_nil w _ _ a n c n' c' Try.underlying33
set_option maxHeartbeats 1000000 in
theorem clone27 (w : World) (v : Value) (xs : List Int) (h : Sl .u8 1 w v xs) :
    Calls Try.prog 27 #[v] w fun e w' => ∃ v', e = .returned v' ∧ w'.ownsRow w.heap.size 5 1 v' xs.length (xs.map (Value.int .u8)) ∧ w.grownBy w' none := by
  obtain ⟨⟨A, cap, rfl, hcap, hcc⟩, hf⟩ := h
  have hq := q33
  cases A with
  | none =>
    have h0 : xs = [] := by
      cases xs with
      | nil => rfl
      | cons a l => obtain ⟨b, off, hA, _⟩ := hcc (by simp); cases hA
    subst h0
    go_enter Try.func27, Try.ntmps27
    go_wp2
    go_ret
    exact ⟨_, rfl, World.ownsRow_nil w _ _ _, ⟨rfl, rfl, rfl, Nat.le_refl _, fun _ _ _ => rfl⟩⟩
  | some ad =>
    obtain ⟨i0, hi, hz0, hz1, hz2⟩ := info_parts info5
    have hc : ∀ j u, (xs.map (Value.int .u8))[j]? = some u → w.cell? (ad.add j) = some u := by
      intro j u hu
      have hj : j < xs.length := by have := (List.getElem?_eq_some_iff.1 hu).1; simpa using this
      obtain ⟨b, off, hA, hx⟩ := hcc (by omega)
      cases hA
      rw [Addr.add_mid, hx j hj]
      simp [List.getElem?_map, List.getElem?_eq_getElem hj] at hu
      rw [← hu]; simp [nth, List.getD_eq_getElem?_getD, List.getElem?_eq_getElem hj]
    have HC := Lib.hid hc
    clear hc hcc
    go_enter Try.func27, Try.ntmps27
    go_wp2_with (at_builtin; refine wpList_append_own _ rfl _ _ 33 rfl w.heap.size 5 i0 (.int .u8 0) 1 1 Try.underlying33 hi hz0 hz1 hz2 rfl (by decide) _ _ _ rfl (World.ownsRow_made w #[] 0 (Nat.le_refl _) (Nat.zero_le _) (by simp)) ad xs.length cap (xs.map (Value.int .u8)) rfl ?qc1 ?qc2 ?qc3 ?qc4 ?qc5 ?qc6 ?_)
    case qc1 => simp
    case qc2 =>
      intro j u hj
      exact Lib.cell?_alloc_some _ (HC.out j u hj)
    case qc3 =>
      intro u hu
      simp only [List.mem_map] at hu
      obtain ⟨x, _, rfl⟩ := hu
      rfl
    case qc4 => simp only [maxLen]; omega
    case qc5 => omega
    case qc6 => simp
    intro v' w1 hown hgrow hnil
    go_wp2
    go_ret
    refine ⟨v', rfl, by simpa using hown, ?_⟩
    exact ⟨hgrow.os.trans rfl, hgrow.tape.trans rfl, hgrow.output.trans rfl, by have := hgrow.size; simp at this; omega, fun i hi hn => by
      rw [hgrow.block i (by simp; omega) (fun e => by simp [Value.ownBlock] at e; omega)]; exact heap_alloc_old w _ hi⟩

theorem own_sl {k : IntKind} {m : Nat} {w : World} {base : Nat} {e : TypeId} {v : Value} {n : Nat} {xs : List Int} (h : w.ownsRow base e 1 v n (xs.map (Value.int k))) (hf : xs.length * m ≤ 140737488351232) : Sl k m w v xs := by
  obtain ⟨hl, hr⟩ := h
  have hn : n = xs.length := by simpa using hl.symm
  subst hn
  rcases hr with ⟨rfl, h0⟩ | ⟨g, cap, cur, rfl, hb, hg, hcap, hm, hs, ht⟩
  · have : xs = [] := List.length_eq_zero_iff.1 h0
    subst this
    exact Sl.nil w
  · refine ⟨⟨_, _, rfl, hcap, fun h0 => ⟨g, 0, rfl, fun j hj => ?_⟩⟩, hf⟩
    rw [Nat.zero_add, cell_of_row w g j _ _ _ hg]
    have := congrArg (fun l => l[j]?) ht
    simp only [Nat.mul_one, List.getElem?_take, hj, if_true, List.getElem?_map, List.getElem?_eq_getElem hj, Option.map_some] at this
    rw [← Array.getElem?_toList, this]
    simp [nth, List.getD_eq_getElem?_getD, List.getElem?_eq_getElem hj]
theorem own_block {w : World} {base : Nat} {e : TypeId} {v : Value} {n : Nat} {xs : List Value} (h : w.ownsRow base e 1 v n xs) : ∀ g, v.ownBlock = some g → base ≤ g ∧ g < w.heap.size := h.lt

/-- Some draws, nothing else. -/
def Drw (w w' : World) : Prop := ∃ n, w' = w.drewN n
set_option maxHeartbeats 1000000 in
theorem same_any (w : World) (v u : Value) (xs ys : List Int) (hv : Rb w v xs) (hu : Rb w u ys) :
    Calls Try.prog 16 #[v, u] w fun e w' => e = .returned (.bool (decide (xs = ys))) ∧ Drw w w' := by
  obtain ⟨⟨A, cap, rfl, hcap, hcc⟩, hf⟩ := hv
  obtain ⟨⟨B, cap2, rfl, hcap2, hcc2⟩, hf2⟩ := hu
  have HA := Lib.hid hcc
  have HB := Lib.hid hcc2
  clear hcc hcc2 hcap hcap2
  by_cases hl : xs.length = ys.length
  · have hlb : ((xs.length : Int) != (ys.length : Int)) = false := by simp [hl]
    have HL := Lib.hid hl
    clear hl
    go_enter Try.func16, Try.ntmps16
    go_wp2
    go_loopw [5] (fun i wr => ∃ k n : Nat, k ≤ xs.length ∧ i = .int .i64 k ∧ wr = w.drewN n ∧ Hid (∀ j, j < k → nth xs j = nth ys j)) (fun i _ => xs.length - (intOf i).toNat)
    case atStart => exact ⟨0, 0, by omega, rfl, rfl, Lib.hid fun j hj => by omega⟩
    case round =>
      obtain ⟨k, n, hk, rfl, rfl, hno⟩ := hrel
      by_cases hlt : k < xs.length
      · have hlt2 : k < ys.length := by have := HL.out; omega
        obtain ⟨b, off, rfl, hc⟩ := HA.out (by omega)
        obtain ⟨b2, off2, rfl, hc2⟩ := HB.out (by omega)
        have hcell : w.cell? ⟨b, off + k, none⟩ = some (.int .u8 (nth xs k)) := hc k hlt
        have hcell2 : w.cell? ⟨b2, off2 + k, none⟩ = some (.int .u8 (nth ys k)) := hc2 k hlt2
        clear hc hc2
        have hi1 : (k : Int) < (xs.length : Int) := by omega
        have hi2 : (k : Int) < (ys.length : Int) := by omega
        by_cases he : nth xs k = nth ys k
        · have heb : (nth xs k != nth ys k) = false := by simpa using he
          have HE := Lib.hid he
          clear he
          go_wp2
          go_quiet (fail)
          go_wp2
          go_roundw
          case rel => exact ⟨k + 1, _, by omega, by go_num, rfl, Lib.hid fun j hj => by
            by_cases e : j = k
            · subst e; exact HE.out
            · exact hno.out j (by omega)⟩
          case measure => simp [intOf]; omega
        · have heb : (nth xs k != nth ys k) = true := by simpa using he
          have HE := Lib.hid he
          clear he
          go_wp2
          go_quiet (fail)
          go_wp2
          go_ret
          have hne : ¬ xs = ys := fun e => HE.out (by rw [e])
          exact ⟨by simp [hne], _, World.drewN_drewN w _ _⟩
      · go_wp2
        go_ret
        have he : xs = ys := nth_ext HL.out (fun i hi => hno.out i (by omega))
        exact ⟨by simp [he], _, rfl⟩
  · have hlb : ((xs.length : Int) != (ys.length : Int)) = true := by simp; omega
    have HL := Lib.hid hl
    clear hl
    go_enter Try.func16, Try.ntmps16
    go_wp2
    go_ret
    have hne : ¬ xs = ys := fun e => HL.out (by rw [e])
    exact ⟨by simp [hne], 0, rfl⟩
end Go.Proofs.Ytfoofipkbijajaa.Sa
