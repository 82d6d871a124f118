/- Slices as lists; the small functions of the statements' own text and of package slices: contracts. No statement of the seat is proved here. -/
import Derived.Test.YtfoofipkbijajaaProg
import Derived.Test.YtfoofipkbijajaaKit
import Derived.Shelf.RegionOpenPlain
import Derived.Lib.SliceRun
import Derived.OwnWalk
import Derived.Laws.AppendOwn
namespace Go.Proofs.Ytfoofipkbijajaa.Sa
open Go.RowKit Go.Proofs.Ytfoofipkbijajaa.Kit
set_option linter.unusedSimpArgs false
set_option linter.unusedVariables false

def nth (r : List Int) (i : Nat) : Int := r.getD i 0
theorem nth_mem {r : List Int} {i : Nat} (h : i < r.length) : nth r i ∈ r := by
  unfold nth; simp [List.getD_eq_getElem?_getD, List.getElem?_eq_getElem h]
theorem mem_nth {r : List Int} {x : Int} (h : x ∈ r) : ∃ i, i < r.length ∧ nth r i = x := by
  obtain ⟨i, hi, e⟩ := List.mem_iff_getElem.1 h
  exact ⟨i, hi, by unfold nth; simp [List.getD_eq_getElem?_getD, List.getElem?_eq_getElem hi, e]⟩
theorem nth_ext {r s : List Int} (hl : r.length = s.length) (h : ∀ i, i < r.length → nth r i = nth s i) : r = s := by
  apply List.ext_getElem hl
  intro i h1 h2
  have := h i h1
  simpa [nth, List.getD_eq_getElem?_getD, List.getElem?_eq_getElem h1, List.getElem?_eq_getElem h2] using this
theorem nth_append_left {r s : List Int} {i : Nat} (h : i < r.length) : nth (r ++ s) i = nth r i := by
  simp [nth, List.getD_eq_getElem?_getD, List.getElem?_append_left h]
theorem nth_append_end {r : List Int} {x : Int} : nth (r ++ [x]) r.length = x := by
  simp [nth, List.getD_eq_getElem?_getD]
theorem nth_take {r : List Int} {n i : Nat} (h : i < n) : nth (r.take n) i = nth r i := by
  simp [nth, List.getD_eq_getElem?_getD, List.getElem?_take, h]

/-- A slice of numbers in memory. -/
structure Sl (k : IntKind) (m : Nat) (w : World) (v : Value) (xs : List Int) : Prop where
  shape : ∃ A cap, v = .slice A xs.length cap ∧ xs.length ≤ cap ∧ (0 < xs.length → ∃ b off, A = some ⟨b, off, none⟩ ∧ ∀ j, j < xs.length → w.cell? ⟨b, off + j, none⟩ = some (.int k (nth xs j)))
  few : xs.length * m ≤ 140737488351232
abbrev Ri := Sl .i64 8
abbrev Rb := Sl .u8 1
theorem Sl.kept {k : IntKind} {m : Nat} {w w' : World} {v : Value} {xs : List Int} (h : Sl k m w v xs) (hg : ∀ g, v.ownBlock = some g → g < w.heap.size → w'.heap[g]? = w.heap[g]?) : Sl k m w' v xs := by
  obtain ⟨⟨A, cap, rfl, hcap, hc⟩, hf⟩ := h
  refine ⟨⟨A, cap, rfl, hcap, fun h0 => ?_⟩, hf⟩
  obtain ⟨b, off, rfl, hj⟩ := hc h0
  refine ⟨b, off, rfl, fun j hlt => ?_⟩
  have hb := World.block_lt_of_cell? w _ (hj j hlt)
  rw [World.cell?_of_block (hg b rfl hb)]
  exact hj j hlt
theorem Sl.below {k : IntKind} {m : Nat} {w w' : World} {v : Value} {xs : List Int} (h : Sl k m w v xs) (hb : Below w.heap.size w w') : Sl k m w' v xs := h.kept fun g _ hg => hb.block g hg
theorem Sl.at_ {k : IntKind} {m : Nat} {w : World} {A : Option Addr} {n cap : Nat} {xs : List Int} (h : Sl k m w (.slice A n cap) xs) (j : Nat) (hj : j < xs.length) :
    ∃ b off, A = some ⟨b, off, none⟩ ∧ w.cell? ⟨b, off + j, none⟩ = some (.int k (nth xs j)) := by
  obtain ⟨⟨A', cap', he, _, hcc⟩, _⟩ := h
  obtain ⟨b, off, hA, hc⟩ := hcc (by omega)
  injection he with eA _ _
  exact ⟨b, off, eA.trans hA, hc j hj⟩
theorem Sl.nil {k : IntKind} {m : Nat} (w : World) : Sl k m w (.slice none 0 0) [] := ⟨⟨none, 0, rfl, Nat.le_refl _, fun h => absurd h (by simp)⟩, by simp⟩
theorem Sl.take {k : IntKind} {m : Nat} {w : World} {A : Option Addr} {n cap : Nat} {xs : List Int} (h : Sl k m w (.slice A n cap) xs) (i : Nat) (hi : i ≤ xs.length) : Sl k m w (.slice A i cap) (xs.take i) := by
  obtain ⟨⟨A', cap', he, hcap, hcc⟩, hf⟩ := h
  injection he with eA eN eC
  subst eA eC
  have hl : (xs.take i).length = i := by simp; omega
  refine ⟨⟨A, cap, by rw [hl], by omega, fun h0 => ?_⟩, ?_⟩
  · rw [hl] at h0
    obtain ⟨b, off, hA, hc⟩ := hcc (by omega)
    refine ⟨b, off, hA, fun j hj => ?_⟩
    rw [hl] at hj
    rw [nth_take hj]
    exact hc j (by omega)
  · rw [hl]; exact Nat.le_trans (Nat.mul_le_mul_right _ hi) hf

/-! ### isCell -/
def isC (c : Int) : Bool := decide (1 ≤ c) && decide (c ≤ 8)
theorem isC_any (w : World) (c : Int) : Calls Try.prog 23 #[.int .i64 c] w fun e w' => e = .returned (.bool (isC c)) ∧ w = w' := by
  by_cases h1 : 1 ≤ c
  · by_cases h2 : c ≤ 8
    · go_enter Try.func23, Try.ntmps23
      go_wp2
      go_ret
      exact ⟨by simp [isC, h1, h2], rfl⟩
    · go_enter Try.func23, Try.ntmps23
      go_wp2
      go_ret
      exact ⟨by simp [isC, h1, h2], rfl⟩
  · have hd : decide (1 ≤ c) = false := by simp [h1]
    go_enter Try.func23, Try.ntmps23
    go_wp2
    go_ret
    exact ⟨by simp [isC]; omega, rfl⟩

/-! ### slices.Index, slices.Contains -/
theorem index_any (w : World) (v : Value) (xs : List Int) (h : Ri w v xs) (x : Int) :
    Calls Try.prog 41 #[v, .int .i64 x] w fun e w' => ∃ r, e = .returned (.int .i64 r) ∧ decide (0 ≤ r) = decide (x ∈ xs) ∧ w = w' := by
  have H := Lib.hid h
  obtain ⟨⟨A, cap, rfl, hcap, hcc⟩, hf⟩ := h
  have HC := Lib.hid hcc
  clear hcc hcap
  go_enter Try.func41, Try.ntmps41
  go_wp2
  go_loop [5, 8] (fun _ i => ∃ k : Nat, k ≤ xs.length ∧ i = .int .i64 k ∧ Hid (∀ j, j < k → nth xs j ≠ x)) (fun _ i => xs.length - (intOf i).toNat)
  case atStart => exact ⟨0, by omega, rfl, Lib.hid fun j hj => by omega⟩
  case round =>
    obtain ⟨k, hk, rfl, hno⟩ := hrel
    by_cases hlt : k < xs.length
    · obtain ⟨b, off, rfl, hc⟩ := HC.out (by omega)
      have hcell := hc k hlt
      clear hc
      by_cases he : x = nth xs k
      · have hb : (x == nth xs k) = true := by simpa using he
        have HE := Lib.hid he
        clear he
        go_wp2
        go_ret
        exact ⟨_, rfl, by rw [HE.out]; simp [nth_mem hlt], rfl⟩
      · have hb : (x == nth xs k) = false := by simpa using he
        have HE := Lib.hid he
        clear he
        go_wp2
        go_round
        case rel => exact ⟨k + 1, by omega, by go_num, Lib.hid fun j hj => by
          by_cases e : j = k
          · subst e; exact fun e => HE.out e.symm
          · exact hno.out j (by omega)⟩
        case measure => simp [intOf]; omega
    · go_wp2
      go_ret
      refine ⟨_, rfl, ?_, rfl⟩
      have : ¬ x ∈ xs := fun hx => by
        obtain ⟨i, hi, e⟩ := mem_nth hx
        exact hno.out i (by omega) e
      simp [this]
theorem contains_any (w : World) (v : Value) (xs : List Int) (h : Ri w v xs) (x : Int) :
    Calls Try.prog 24 #[v, .int .i64 x] w fun e w' => e = .returned (.bool (decide (x ∈ xs))) ∧ w = w' := by
  have H := Lib.hid h
  clear h
  go_enter Try.func24, Try.ntmps24
  go_wp2_with fail
  refine (index_any _ _ xs H.out x).mono ?_
  rintro e w' ⟨r, rfl, hr, rfl⟩
  go_wp2
  go_ret
  exact ⟨by rw [← hr]; rfl, rfl⟩
end Go.Proofs.Ytfoofipkbijajaa.Sa
