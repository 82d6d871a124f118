/- own of the statements' text: a cell's lines as a list. No statement of the seat is proved here. -/
import Derived.Test.YtpedciapkalhgaaDoorIter
import Derived.Test.YtpedciapkalhgaaDoorOnce
import Derived.Laws.AppendOwn
import Derived.Deep.Onto
namespace Go.Proofs.YtpedciapkalhgaaDoor.Gk
open Go.RowKit Go.Proofs.YtpedciapkalhgaaDoor.Kit
set_option linter.unusedSimpArgs false
set_option linter.unusedVariables false

/-- Those of the first k lines that are routed to a cell. -/
def Lc (r : List Int) (c : Int) (k : Nat) : List Nat := (List.range k).filter fun i => decide (nth r i = c)
theorem Lc_yes {r : List Int} {c : Int} {k : Nat} (h : nth r k = c) : Lc r c (k + 1) = Lc r c k ++ [k] := by
  unfold Lc; rw [List.range_succ, List.filter_append]; simp [List.filter_cons, h]
theorem Lc_no {r : List Int} {c : Int} {k : Nat} (h : ¬ nth r k = c) : Lc r c (k + 1) = Lc r c k := by
  unfold Lc; rw [List.range_succ, List.filter_append]; simp [List.filter_cons, h]
theorem Lc_le (r : List Int) (c : Int) (k : Nat) : (Lc r c k).length ≤ k := Nat.le_trans (List.length_filter_le _ _) (by simp)
theorem bl_Lc (r : List Int) (c : Int) : bl (own r c) = Lc r c 32 := bl_own r c
def ints (l : List Nat) : List Value := l.map fun i => Value.int .i64 (i : Nat)
/-- A list of lines of one's own. -/
abbrev Ow (w : World) (base : Nat) (v : Value) (l : List Nat) : Prop := w.ownsRow base 3 1 v l.length (ints l)
theorem info3 : (Tryd.prog.info? 3).map (fun i => (i.zero, i.size, i.bytes)) = some (some (.int .i64 0), 1, 8) := by kernel_rfl
theorem Ow.lt {w : World} {base : Nat} {v : Value} {l : List Nat} (h : Ow w base v l) (g : Nat) (e : v.ownBlock = some g) : base ≤ g ∧ g < w.heap.size := by
  rcases h.2 with ⟨h1, _⟩ | ⟨g2, cap, cur, hv, hb, hrow, _⟩
  · rw [h1] at e; cases e
  · rw [hv] at e; cases e; exact ⟨hb, (Array.getElem?_eq_some_iff.1 hrow).1⟩
/-- Where the list lies. -/
theorem Ow.at_ {w : World} {base : Nat} {v : Value} {l : List Nat} (h : Ow w base v l) : ∃ A cap, v = .slice A l.length cap ∧ (0 < l.length → ∃ g, A = some ⟨g, 0, none⟩ ∧ base ≤ g ∧ g < w.heap.size ∧ ∀ j, j < l.length → w.cell? ⟨g, j, none⟩ = some (.int .i64 (l.getD j 0 : Nat))) := by
  rcases h.2 with ⟨h1, h0⟩ | ⟨g, cap, cur, hv, hb, hrow, hn, hm, hs, htk⟩
  · exact ⟨none, 0, by rw [h1, h0], fun h => by omega⟩
  · refine ⟨_, cap, hv, fun _ => ⟨g, rfl, hb, (Array.getElem?_eq_some_iff.1 hrow).1, fun j hj => ?_⟩⟩
    rw [cell_of_row _ _ _ _ _ _ hrow, ← Array.getElem?_toList]
    have hl : (ints l)[j]? = some (.int .i64 (l.getD j 0 : Nat)) := by simp [ints, List.getD_eq_getElem?_getD, List.getElem?_eq_getElem hj]
    rw [← htk, List.getElem?_take] at hl
    split at hl
    · exact hl
    · cases hl
theorem own_chg {w w1 w2 : World} {b : Nat} (h : Chg w w1 b) {row : Option Nat} (k : w1.grownBy w2 row) (hr : ∀ g, row = some g → w.heap.size ≤ g) : Chg w w2 b :=
  ⟨k.os.trans h.os, k.tape.trans h.tape, k.output.trans h.output, Nat.le_trans h.size k.size, fun i hi hn => (k.block i (Nat.lt_of_lt_of_le hi h.size) (fun e => by have := hr i e.symm; omega)).trans (h.block i hi hn)⟩

theorem cell_of_kept {w w' : World} {b g k : Nat} {v : Value} (h : Chg w w' b) (hc : w.cell? ⟨g, k, none⟩ = some v) (hn : g ≠ b) : w'.cell? ⟨g, k, none⟩ = some v := by
  have hlt : g < w.heap.size := World.block_lt_of_cell? w _ hc
  rw [World.cell?_of_block (h.block g hlt (fun e => hn (Option.some.inj e)))]; exact hc
set_option maxHeartbeats 2000000 in
theorem ownl_any (w : World) (b : Nat) (r : List Int) (p m : Nat) (c : Int) (G : GicAt w b r p m) :
    Calls Tryd.prog 21 #[.pointer (some ⟨b, 0, none⟩), .int .i64 c] w fun e w' => ∃ v, e = .returned v ∧ Ow w' w.heap.size v (Lc r c 32) ∧ Below w.heap.size w w' := by
  have H := Lib.hid G
  have hblt := G.lt
  clear G
  have hz := zero39
  obtain ⟨i0, hi, hz0, hz1, hz2⟩ := info_parts info3
  go_enter Tryd.func21, Tryd.ntmps21
  go_wp2_with fail
  refine (state_any _ b r p m H.out).mono ?_
  rintro e w5 ⟨rfl, g5, c5⟩
  have hlen := Lib.hid g5.len
  have C5 := Lib.hid (show Below w.heap.size w w5 from ⟨c5.os, c5.tape, c5.output, c5.size, fun i hi => by
    by_cases e : i = b
    · subst e; rw [g5.heap, H.out.heap]
    · exact c5.block i hi (fun e2 => e (Option.some.inj e2))⟩)
  clear g5 c5 H
  go_wp2_with (refine wpList_store_new (o := ⟨none, .store 39 (.tmp 6) (.tmp 9), _, _, _, _⟩) rfl 39 (.tmp 6) (.tmp 9) rfl gz (gcells r p m) 39 rfl rfl (by rw [gcells_size r hlen.out]; exact info39) (by rw [gcells_size r hlen.out]; rfl) (gcells_one r p m) ?_)
  have hso := C5.out.size
  have S9 := Lib.hid (show ∀ i, i < 32 → (w5.alloc (.cells (gcells r p m) 39)).cell? ⟨w5.heap.size, i, none⟩ = some (.int .i64 (nth r i)) from fun i hi => by rw [cell_of_row _ _ _ _ _ _ (heap_alloc_last w5 _)]; exact gcells_route hlen.out hi)
  have C9 := Lib.hid (C5.out.alloc C5.out.size (.cells (gcells r p m) 39))
  have hs9 : (w5.alloc (.cells (gcells r p m) 39)).heap.size = w5.heap.size + 1 := by simp
  clear hz
  generalize w5.alloc (.cells (gcells r p m) 39) = w9 at *
  have I0 := Lib.hid (show Below w9.heap.size w9 w9 ∧ Ow w9 (w5.heap.size + 1) (.slice none 0 0) (Lc r c 0) from ⟨Below.refl _ _, World.ownsRow_nil _ _ _ _⟩)
  go_loopw [5, 7] (fun v i wr => ∃ k : Nat, k ≤ 32 ∧ i = .int .i64 k ∧ Hid (Below w9.heap.size w9 wr ∧ Ow wr (w5.heap.size + 1) v (Lc r c k))) (fun _ i _ => 32 - (intOf i).toNat)
  case atStart => exact ⟨0, by omega, rfl, I0⟩
  case round =>
    obtain ⟨k, hk, rfl, I⟩ := hrel
    clear I0
    by_cases hlt : k < 32
    · have hcell : wr.cell? ⟨w5.heap.size, k, none⟩ = some (.int .i64 (nth r k)) := (I.out.1.cell (p := ⟨w5.heap.size, k, none⟩) (by show w5.heap.size < _; omega)).trans (S9.out k hlt)
      have hws := I.out.1.size
      by_cases hc : nth r k = c
      · have hd : (nth r k == c) = true := by simp [hc]
        have NX := Lib.hid (Lc_yes hc)
        have HL := Lib.hid (Lc_le r c k)
        have O2 := Lib.hid (I.out.2.alloc (.cells #[.int .i64 k] 3))
        have K2 := Lib.hid (I.out.1.alloc I.out.1.size (.cells #[.int .i64 k] 3))
        have TN := Lib.hid (fun (q : Nat) (u : Value) (hu : ([.int .i64 k] : List Value)[q]? = some u) => show (wr.alloc (.cells #[.int .i64 k] 3)).cell? ((⟨wr.heap.size, 0, none⟩ : Addr).add q) = some u by
          rw [Addr.add_mid, Nat.zero_add, cell_of_row _ _ _ _ _ _ (heap_alloc_last wr (.cells #[.int .i64 k] 3))]
          show ([.int .i64 k] : List Value).toArray[q]? = some u
          rw [List.getElem?_toArray]; exact hu)
        have hl2 := Lc_le r c k
        clear hc
        go_wp2_with (at_builtin; refine wpList_append_own _ rfl (.tmp 20) (.tmp 22) 22 rfl (w5.heap.size + 1) 3 i0 (.int .i64 0) 1 8 Tryd.underlying22 hi hz0 hz1 hz2 rfl (by decide) _ (Lc r c k).length (ints (Lc r c k)) rfl O2.out ⟨wr.heap.size, 0, none⟩ 1 1 [.int .i64 k] rfl rfl TN.out ?qa ?qb ?qc ?qd ?_)
        case qa =>
          intro u hu
          simp only [List.mem_cons, List.not_mem_nil, or_false] at hu
          subst hu; rfl
        case qb => simp only [maxLen]; omega
        case qc => omega
        case qd => simp; omega
        intro v7 w8 hown hg hnil
        have F9 := Lib.hid (show Below w9.heap.size w9 w8 ∧ Ow w8 (w5.heap.size + 1) v7 (Lc r c (k + 1)) from
          ⟨K2.out.grown hg K2.out.size (fun g e => by have := (I.out.2.lt g e).1; omega), by
            rw [NX.out]
            show w8.ownsRow _ _ _ _ (Lc r c k ++ [k]).length (ints (Lc r c k ++ [k]))
            rw [List.length_append, ints, List.map_append]; exact hown⟩)
        clear hown hg hnil
        go_wp2
        go_roundw
        case rel => exact ⟨k + 1, by omega, by go_num, F9⟩
        case measure => simp [intOf]; omega
      · have hd : (nth r k == c) = false := by simp [hc]
        have J9 := Lib.hid (show Below w9.heap.size w9 wr ∧ Ow wr (w5.heap.size + 1) u5 (Lc r c (k + 1)) from by rw [Lc_no hc]; exact I.out)
        clear hc
        go_wp2
        go_roundw
        case rel => exact ⟨k + 1, by omega, by go_num, J9⟩
        case measure => simp [intOf]; omega
    · obtain rfl : k = 32 := by omega
      go_wp2
      go_ret
      exact ⟨_, rfl, I.out.2.mono (by omega), C9.out.trans (I.out.1.mono (by omega))⟩
end Go.Proofs.YtpedciapkalhgaaDoor.Gk
