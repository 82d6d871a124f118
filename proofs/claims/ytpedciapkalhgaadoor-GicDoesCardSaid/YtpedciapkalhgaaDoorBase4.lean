/- pick, routed, awake of the statements' own text: contracts. No statement of the seat is proved here. -/
import Derived.Test.YtpedciapkalhgaaDoorBase3
namespace Go.Proofs.YtpedciapkalhgaaDoor.Gk
open Go.RowKit Go.Proofs.YtpedciapkalhgaaDoor.Kit
set_option linter.unusedSimpArgs false
set_option linter.unusedVariables false

/-! ### pick -/
def pk (c n : Int) : Int := (if c < 0 then -(c + 1) else c) % n
theorem pk_range (c n : Int) (hn : 0 < n) : 0 ≤ pk c n ∧ pk c n < n := ⟨Int.emod_nonneg _ (by omega), Int.emod_lt_of_pos _ hn⟩
def i64ok (c : Int) : Prop := -9223372036854775808 ≤ c ∧ c ≤ 9223372036854775807
theorem pick_any (w : World) (c n : Int) (hc : i64ok c) (hn : 0 < n) (hn2 : n ≤ 4096) :
    Calls Tryd.prog 11 #[.int .i64 c, .int .i64 n] w fun e w' => e = .returned (.int .i64 (pk c n)) ∧ w = w' := by
  obtain ⟨h1, h2⟩ := hc
  by_cases h : c < 0
  · have e : pk c n = (-(c + 1)) % n := by unfold pk; rw [if_pos h]
    rw [e]; clear e
    go_enter Tryd.func11, Tryd.ntmps11
    go_wp2
    go_ret
    refine ⟨?_, rfl⟩
    show Ending.returned (Value.int .i64 (-((c + 1).tmod n))) = _
    rw [← Int.neg_tmod, Int.tmod_eq_emod_of_nonneg (by omega)]
  · have e : pk c n = c % n := by unfold pk; rw [if_neg h]
    rw [e]; clear e
    go_enter Tryd.func11, Tryd.ntmps11
    go_wp2
    go_ret
    exact ⟨rfl, rfl⟩

/-! ### a slice of ints that came in -/
structure Rd (w : World) (v : Value) (xs : List Int) : Prop where
  shape : ∃ A cap, v = .slice A xs.length cap ∧ (0 < xs.length → ∃ ad, A = some ad ∧ ∀ j, j < xs.length → w.cell? (ad.add j) = some (.int .i64 (nth xs j)))
  few : xs.length * 8 ≤ 140737488351232
  okay : ∀ j, i64ok (nth xs j)
theorem Rd.below {w w' : World} {v : Value} {xs : List Int} (h : Rd w v xs) (hb : Below w.heap.size w w') : Rd w' v xs := by
  obtain ⟨⟨A, cap, rfl, hc⟩, h2, h3⟩ := h
  refine ⟨⟨A, cap, rfl, fun h0 => ?_⟩, h2, h3⟩
  obtain ⟨ad, rfl, hj⟩ := hc h0
  exact ⟨ad, rfl, fun j hlt => (hb.cell (World.block_lt_of_cell? w _ (hj j hlt))).trans (hj j hlt)⟩

/-! ### routed -/
def rt (f : Nat → Int) (k : Nat) : List Int := (List.range 32).map fun i => if i < k then f i else 0
theorem rt_len (f : Nat → Int) (k : Nat) : (rt f k).length = 32 := by simp [rt]
theorem rt_nth (f : Nat → Int) (k i : Nat) (hi : i < 32) : nth (rt f k) i = if i < k then f i else 0 := by
  simp [nth, rt, List.getElem?_map, List.getElem?_range, hi]
theorem rt_zero (f : Nat → Int) : rt f 0 = z0 := by unfold rt; simp only [Nat.not_lt_zero, if_false]; rfl
theorem rt_set (f : Nat → Int) (k : Nat) (hk : k < 32) : (rt f k).set k (f k) = rt f (k + 1) := by
  apply List.ext_getElem
  · simp [rt]
  · intro i h1 h2
    have hi : i < 32 := by simpa [rt] using h2
    simp only [List.getElem_set, rt, List.getElem_map, List.getElem_range]
    by_cases e : k = i
    · subst e; simp
    · rw [if_neg e]
      by_cases e2 : i < k
      · rw [if_pos e2, if_pos (by omega)]
      · rw [if_neg e2, if_neg (by omega)]
theorem rt_same (f : Nat → Int) (k : Nat) (h : f k = 0) : rt f (k + 1) = rt f k := by
  unfold rt
  apply List.map_congr_left
  intro i _
  by_cases e : i = k
  · subst e; simp [h]
  · by_cases e2 : i < k
    · rw [if_pos e2, if_pos (by omega)]
    · rw [if_neg e2, if_neg (by omega)]
def fr (xs : List Int) (i : Nat) : Int := if i < xs.length then pk (nth xs i) 9 else 0
theorem fr_ok (xs : List Int) (i : Nat) : fr xs i = 0 ∨ isC (fr xs i) = true := by
  unfold fr
  split
  · have := pk_range (nth xs i) 9 (by omega)
    by_cases h : pk (nth xs i) 9 = 0
    · exact .inl h
    · right; simp [isC]; omega
  · exact .inl rfl
theorem drop_zero (k : Nat) : drop 0 k = 0 := by simp [drop]

theorem set_same {c : Int} (r : List Int) (k : Nat) (hk : k < r.length) (h : nth r k = c) : r.set k c = r := by
  apply List.ext_getElem
  · simp
  · intro i h1 h2
    rw [List.getElem_set]
    split
    · rename_i e; subst e; rw [← h]; simp [nth, hk]
    · rfl
theorem route_clean (w : World) (b : Nat) (r : List Int) (k : Nat) (c : Int) (h : GicAt w b r 0 0) (hk : k < 32) (hc : c = 0 ∨ isC c = true) :
    Calls Tryd.prog 20 #[.pointer (some ⟨b, 0, none⟩), .int .i64 k, .int .i64 c] w fun e w' => e = .returned (.int .i64 0) ∧ GicAt w' b (r.set k c) 0 0 ∧ Chg w w' b := by
  by_cases e : nth r k = c
  · refine (route_same w b r 0 0 k c h hk hc e).mono ?_
    rintro e' w' ⟨rfl, rfl⟩
    exact ⟨rfl, by rw [set_same r k (by rw [h.len]; exact hk) e]; exact h, Chg.refl _ _⟩
  · refine (route_new w b r 0 0 k c h hk hc e).mono ?_
    rintro e' w' ⟨rfl, h1, h2⟩
    rw [drop_zero] at h1
    exact ⟨rfl, h1, h2⟩
theorem below_chg {w w1 w2 : World} {B b : Nat} (h : Below B w w1) (hB : B ≤ b) (hc : Chg w1 w2 b) (hw : B ≤ w1.heap.size) : Below B w w2 := h.grown hc hw (fun k e => by cases e; exact hB)

set_option maxHeartbeats 1000000 in
theorem routed_any (w : World) (v : Value) (xs : List Int) (h : Rd w v xs) :
    Calls Tryd.prog 10 #[v] w fun e w' => e = .returned (.pointer (some ⟨w.heap.size, 0, none⟩)) ∧ GicAt w' w.heap.size (rt (fr xs) 32) 0 0 ∧ Below w.heap.size w w' := by
  obtain ⟨⟨A, cap, rfl, hc⟩, hfew, hok⟩ := h
  have HC := Lib.hid hc
  have HO := Lib.hid hok
  have HZ := Lib.hid (new_at w)
  have HB := Lib.hid ((Below.refl w.heap.size w).alloc (Nat.le_refl _) (.cells gz 67))
  clear hc hok
  go_enter Tryd.func10, Tryd.ntmps10
  go_wp2_with (go_at_call 23; refine (new_any _).mono ?_; rintro e w' ⟨rfl, rfl⟩)
  generalize w.alloc (.cells gz 67) = w1 at *
  go_loopw [4, 5, 6] (fun i _ _ wr => ∃ k : Nat, k ≤ 32 ∧ i = .int .i64 k ∧ GicAt wr w.heap.size (rt (fr xs) k) 0 0 ∧ Below w.heap.size w wr) (fun i _ _ _ => 32 - (intOf i).toNat)
  case atStart => exact ⟨0, by omega, rfl, by rw [rt_zero]; exact HZ.out, HB.out⟩
  case round =>
    obtain ⟨k, hk, rfl, hg, hb⟩ := hrel
    have G := Lib.hid hg
    have B := Lib.hid hb
    clear hg hb
    by_cases hlt : k < 32
    · have Hn := Lib.hid (rt_nth (fr xs) k k hlt)
      rcases Nat.lt_or_ge k xs.length with hx | hx
      · obtain ⟨ad, hA, hcc⟩ := HC.out (by omega)
        subst hA
        have hcell : wr.cell? (ad.add k) = some (.int .i64 (nth xs k)) := (B.out.cell (World.block_lt_of_cell? w _ (hcc k hx))).trans (hcc k hx)
        have ef : fr xs k = pk (nth xs k) 9 := by unfold fr; rw [if_pos hx]
        clear hcc
        go_wp2_with (go_at_call 11; refine (pick_any _ _ _ (HO.out k) (by omega) (by omega)).mono ?_; rintro e w' ⟨rfl, rfl⟩)
        rw [← ef]
        refine (route_clean _ _ _ k _ G.out hlt (fr_ok xs k)).mono ?_
        rintro e w' ⟨rfl, hg', hch⟩
        rw [rt_set (fr xs) k hlt] at hg'
        have hb' := below_chg B.out (Nat.le_refl _) hch B.out.size
        have G' := Lib.hid hg'
        have B' := Lib.hid hb'
        clear hg' hch hb'
        go_wp2
        go_roundw
        case rel => exact ⟨k + 1, by omega, by go_num, G'.out, B'.out⟩
        case measure => simp [intOf]; omega
      · have ef : fr xs k = 0 := by unfold fr; rw [if_neg (by omega)]
        go_wp2_with fail
        rw [← ef]
        refine (route_clean _ _ _ k _ G.out hlt (fr_ok xs k)).mono ?_
        rintro e w' ⟨rfl, hg', hch⟩
        rw [rt_set (fr xs) k hlt] at hg'
        have hb' := below_chg B.out (Nat.le_refl _) hch B.out.size
        have G' := Lib.hid hg'
        have B' := Lib.hid hb'
        clear hg' hch hb' ef
        go_wp2
        go_roundw
        case rel => exact ⟨k + 1, by omega, by go_num, G'.out, B'.out⟩
        case measure => simp [intOf]; omega
    · go_wp2
      have : k = 32 := by omega
      subst this
      go_ret
      exact ⟨rfl, G.out, B.out⟩
end Go.Proofs.YtpedciapkalhgaaDoor.Gk
