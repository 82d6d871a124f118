/- GicApart: the plain law and the walk. -/
import Derived.Test.YtpedciapkalhgaaDoorBase6
namespace Go.Proofs.YtpedciapkalhgaaDoor.Gk
open Go.RowKit Go.Proofs.YtpedciapkalhgaaDoor.Kit
set_option linter.unusedSimpArgs false
set_option linter.unusedVariables false

/-! ### whose -/
def whoseC (r : List Int) (d : OpD) : Int := if pk d.kind 4 = 0 then nth r (pk d.line 32).toNat else 1 + pk d.cell 8
set_option maxHeartbeats 1000000 in
theorem whose_line (w : World) (b : Nat) (r : List Int) (p m : Nat) (d : OpD) (h : GicAt w b r p m) (hd : d.okay) (hk : pk d.kind 4 = 0) :
    Calls Tryd.prog 15 #[.pointer (some ⟨b, 0, none⟩), .agg (opArr d)] w fun e w' => e = .returned (.int .i64 (nth r (pk d.line 32).toNat)) ∧ GicAt w' b r p m ∧ Chg w w' b := by
  obtain ⟨b0, b1, b2, b3⟩ := op_box w d 41
  have HK := Lib.hid hk
  have HD := Lib.hid hd
  have hz := zero39
  have hl := pk_range d.line 32 (by omega)
  obtain ⟨l, hl3⟩ := Int.eq_ofNat_of_zero_le hl.1
  have HL := Lib.hid hl3
  have hl32 : l < 32 := by omega
  have G := Lib.hid (h.kept (Chg.alloc (Chg.refl w (w.heap.size)) (.cells (opArr d) 41)) (fun e => by have := h.lt; cases e; omega))
  have C := Lib.hid ((Chg.refl w b).alloc (.cells (opArr d) 41))
  have hlen := Lib.hid h.len
  have hlt := h.lt
  clear h hd hk hl hl3
  go_enter Tryd.func15, Tryd.ntmps15
  go_wp2_with fail
  refine (pick_any _ _ _ HD.out.kind (by omega) (by omega)).mono ?_
  rintro e w' ⟨rfl, rfl⟩
  rw [HK.out]
  go_wp2_with fail
  refine (state_any _ _ r p m G.out).mono ?_
  rintro e w1 ⟨rfl, hg, hc⟩
  have b1' : w1.cell? ⟨w.heap.size, 1, none⟩ = some (.int .i64 d.line) := by
    rw [World.cell?_of_block (hc.block w.heap.size (by simp) (fun e => by cases e; omega))]; exact b1
  have G' := Lib.hid hg
  have C' := Lib.hid (Chg.trans C.out hc)
  have hw1 : w.heap.size < w1.heap.size := by have := hc.size; simp at this; omega
  clear hg hc b0 b1 b2 b3
  go_wp2_with (refine wpList_store_new (o := ⟨none, .store 39 (.tmp 5) (.tmp 11), _, _, _, _⟩) rfl 39 (.tmp 5) (.tmp 11) rfl gz (gcells r p m) 39 rfl rfl (by rw [gcells_size r hlen.out]; exact info39) (by rw [gcells_size r hlen.out]; rfl) (gcells_one r p m) ?_)
  refine (pick_any _ _ _ HD.out.line (by omega) (by omega)).mono ?_
  rintro e w' ⟨rfl, rfl⟩
  rw [HL.out]
  have hcell : (w1.alloc (.cells (gcells r p m) 39)).cell? ⟨w1.heap.size, l, none⟩ = some (.int .i64 (nth r l)) := by
    rw [cell_of_row _ _ _ _ _ _ (heap_alloc_last w1 _)]; exact gcells_route hlen.out hl32
  have G2 := Lib.hid (G'.out.kept (Chg.alloc (Chg.refl w1 (w1.heap.size)) (.cells (gcells r p m) 39)) (fun e => by have := G'.out.lt; cases e; omega))
  have C2 := Lib.hid (Chg.alloc C'.out (.cells (gcells r p m) 39))
  clear hz
  go_wp2
  go_ret
  exact ⟨by rw [HL.out]; rfl, G2.out, C2.out⟩
set_option maxHeartbeats 1000000 in
theorem whose_cell (w : World) (b : Nat) (r : List Int) (p m : Nat) (d : OpD) (h : GicAt w b r p m) (hd : d.okay) (hk : pk d.kind 4 ≠ 0) :
    Calls Tryd.prog 15 #[.pointer (some ⟨b, 0, none⟩), .agg (opArr d)] w fun e w' => e = .returned (.int .i64 (1 + pk d.cell 8)) ∧ GicAt w' b r p m ∧ Chg w w' b := by
  obtain ⟨b0, b1, b2, b3⟩ := op_box w d 41
  have HD := Lib.hid hd
  have hkr := pk_range d.kind 4 (by omega)
  have hq := pk_range d.cell 8 (by omega)
  have G := Lib.hid (h.kept (Chg.alloc (Chg.refl w (w.heap.size)) (.cells (opArr d) 41)) (fun e => by have := h.lt; cases e; omega))
  have C := Lib.hid ((Chg.refl w b).alloc (.cells (opArr d) 41))
  have hkb : (pk d.kind 4 == 0) = false := by simpa using hk
  clear h hd hk
  go_enter Tryd.func15, Tryd.ntmps15
  go_wp2_with fail
  refine (pick_any _ _ _ HD.out.kind (by omega) (by omega)).mono ?_
  rintro e w' ⟨rfl, rfl⟩
  go_wp2_with fail
  refine (pick_any _ _ _ HD.out.cell (by omega) (by omega)).mono ?_
  rintro e w' ⟨rfl, rfl⟩
  go_wp2
  go_ret
  exact ⟨rfl, G.out, C.out⟩
theorem whose_any (w : World) (b : Nat) (r : List Int) (p m : Nat) (d : OpD) (h : GicAt w b r p m) (hd : d.okay) :
    Calls Tryd.prog 15 #[.pointer (some ⟨b, 0, none⟩), .agg (opArr d)] w fun e w' => e = .returned (.int .i64 (whoseC r d)) ∧ GicAt w' b r p m ∧ Chg w w' b := by
  unfold whoseC
  by_cases hk : pk d.kind 4 = 0
  · rw [if_pos hk]; exact whose_line w b r p m d h hd hk
  · rw [if_neg hk]; exact whose_cell w b r p m d h hd hk

/-! ### the plain law: what is not a cell's own changes nothing of its own -/
/-- Two pairs of sets agree on a cell's own lines. -/
def Agree (r : List Int) (c : Int) (p m p2 m2 : Nat) : Prop := ∀ i, i < 32 → nth r i = c → p.testBit i = p2.testBit i ∧ m.testBit i = m2.testBit i
structure Fit (p m : Nat) : Prop where
  hp : p < 4294967296
  hm : m < 4294967296
theorem some_agree {r : List Int} {c : Int} {p m p2 m2 : Nat} (h : Agree r c p m p2 m2) (f : Fit p m) (f2 : Fit p2 m2) (hi : isC c = true) : someOf r c (wait p m) = someOf r c (wait p2 m2) := by
  apply Nat.eq_of_testBit_eq
  intro i
  rw [some_bit _ _ _ _ hi, some_bit _ _ _ _ hi, wait_bit _ _ _ f.hm, wait_bit _ _ _ f2.hm]
  by_cases h1 : i < 32
  · by_cases h2 : nth r i = c
    · obtain ⟨e1, e2⟩ := h i h1 h2
      rw [e1, e2]
    · simp [h2]
  · simp [h1]
theorem raised_bit (r : List Int) (p k i : Nat) : (raised r p k).testBit i = (p.testBit i || (!decide (nth r k = 0) && decide (k = i))) := by
  unfold raised
  split
  · rename_i h; simp [h]
  · rename_i h; rw [Nat.testBit_or, Nat.testBit_two_pow]; simp [h]
theorem maskTo_bit (r : List Int) (c : Int) (m x i : Nat) : (maskTo r c m x).testBit i = ((m.testBit i && (decide (i < 32) && !(decide (i < 32) && decide (nth r i = c)))) || (x.testBit i && (decide (i < 32) && decide (nth r i = c)))) := by
  unfold maskTo
  rw [Nat.testBit_or, Nat.testBit_and, Nat.testBit_and, compl_bit _ _ (own_lt r c), own_bit]
theorem lt_bit (p i : Nat) (hp : p < 4294967296) (hi : ¬ i < 32) : p.testBit i = false := Nat.testBit_lt_two_pow (Nat.lt_of_lt_of_le hp (show 2 ^ 32 ≤ 2 ^ i from Nat.pow_le_pow_right (by decide) (by omega)))
end Go.Proofs.YtpedciapkalhgaaDoor.Gk
