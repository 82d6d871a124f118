/- The steps of a script on the controller (does, whose): contracts. No statement of the seat is proved here. -/
import Derived.Test.YtpedciapkalhgaaDoorLow
namespace Go.Proofs.YtpedciapkalhgaaDoor.Gk
open Go.RowKit Go.Proofs.YtpedciapkalhgaaDoor.Kit
set_option linter.unusedSimpArgs false
set_option linter.unusedVariables false

/-! ### a step as data -/
structure OpD where
  kind : Int
  line : Int
  cell : Int
  set : Nat
  r : List Int
  p : Nat
  m : Nat
structure OpD.okay (d : OpD) : Prop where
  kind : i64ok d.kind
  line : i64ok d.line
  cell : i64ok d.cell
  set : d.set < 4294967296
  len : d.r.length = 32
  hp : d.p < 4294967296
  hm : d.m < 4294967296
def opCells (d : OpD) : List Value := [Value.int .i64 d.kind, Value.int .i64 d.line, Value.int .i64 d.cell, Value.int .u32 d.set] ++ (gcells d.r d.p d.m).toList
theorem opCells_len (d : OpD) (h : d.r.length = 32) : (opCells d).length = 38 := by simp [opCells, gcells, h]
def opArr (d : OpD) : Array Value := (opCells d).toArray
theorem op_box (w : World) (d : OpD) (t : TypeId) : (w.alloc (.cells (opArr d) t)).cell? ⟨w.heap.size, 0, none⟩ = some (.int .i64 d.kind) ∧ (w.alloc (.cells (opArr d) t)).cell? ⟨w.heap.size, 1, none⟩ = some (.int .i64 d.line) ∧
    (w.alloc (.cells (opArr d) t)).cell? ⟨w.heap.size, 2, none⟩ = some (.int .i64 d.cell) ∧ (w.alloc (.cells (opArr d) t)).cell? ⟨w.heap.size, 3, none⟩ = some (.int .u32 d.set) := by
  have h := heap_alloc_last w (.cells (opArr d) t)
  refine ⟨?_, ?_, ?_, ?_⟩ <;> (rw [cell_of_row _ _ _ _ _ _ h]; simp [opArr, opCells])

/-! ### does -/
/-- What a step answers, and what the two sets are behind it. -/
def doesN (r : List Int) (p m : Nat) (d : OpD) : Int :=
  if pk d.kind 4 = 2 ∧ someOf r (1 + pk d.cell 8) (wait p m) ≠ 0 then (Lib.ctz 32 (someOf r (1 + pk d.cell 8) (wait p m)) : Nat) else 0
def doesB (r : List Int) (p m : Nat) (d : OpD) : Bool :=
  if pk d.kind 4 = 0 then isNew r p (pk d.line 32).toNat else if pk d.kind 4 = 2 then decide (someOf r (1 + pk d.cell 8) (wait p m) ≠ 0) else true
def doesP (r : List Int) (p m : Nat) (d : OpD) : Nat :=
  if pk d.kind 4 = 0 then raised r p (pk d.line 32).toNat
  else if pk d.kind 4 = 1 then p
  else if pk d.kind 4 = 2 then (if someOf r (1 + pk d.cell 8) (wait p m) = 0 then p else drop p (Lib.ctz 32 (someOf r (1 + pk d.cell 8) (wait p m))))
  else wait p (someOf r (1 + pk d.cell 8) 4294967295)
def doesM (r : List Int) (p m : Nat) (d : OpD) : Nat := if pk d.kind 4 = 1 then maskTo r (1 + pk d.cell 8) m d.set else m

set_option maxHeartbeats 1000000 in
theorem does_raise (w : World) (b : Nat) (r : List Int) (p m : Nat) (d : OpD) (h : GicAt w b r p m) (hd : d.okay) (hk : pk d.kind 4 = 0) :
    Calls Tryd.prog 16 #[.pointer (some ⟨b, 0, none⟩), .agg (opArr d)] w fun e w' => e = .returned (.tuple #[.int .i64 0, .bool (isNew r p (pk d.line 32).toNat)]) ∧ GicAt w' b r (raised r p (pk d.line 32).toNat) m ∧ Chg w w' b := by
  obtain ⟨b0, b1, b2, b3⟩ := op_box w d 41
  have HK := Lib.hid hk
  have HD := Lib.hid hd
  have hl := pk_range d.line 32 (by omega)
  have hq := pk_range d.cell 8 (by omega)
  have G := Lib.hid (h.kept (Chg.alloc (Chg.refl w (w.heap.size)) (.cells (opArr d) 41)) (fun e => by have := h.lt; cases e; omega))
  have C := Lib.hid ((Chg.refl w b).alloc (.cells (opArr d) 41))
  clear h hd hk
  go_enter Tryd.func16, Tryd.ntmps16
  go_wp2_with fail
  refine (pick_any _ _ _ HD.out.cell (by omega) (by omega)).mono ?_
  rintro e w' ⟨rfl, rfl⟩
  go_wp2_with fail
  refine (pick_any _ _ _ HD.out.kind (by omega) (by omega)).mono ?_
  rintro e w' ⟨rfl, rfl⟩
  rw [HK.out]
  go_wp2_with fail
  refine (pick_any _ _ _ HD.out.line (by omega) (by omega)).mono ?_
  rintro e w' ⟨rfl, rfl⟩
  go_wp2_with fail
  refine (raise_any _ _ r p m _ G.out hl.1 hl.2).mono ?_
  rintro e w' ⟨rfl, hg, hc⟩
  have G' := Lib.hid hg
  have C' := Lib.hid (Chg.trans C.out hc)
  clear hg hc
  go_wp2
  go_ret2
  exact ⟨rfl, G'.out, C'.out⟩
set_option maxHeartbeats 1000000 in
theorem does_mask (w : World) (b : Nat) (r : List Int) (p m : Nat) (d : OpD) (h : GicAt w b r p m) (hd : d.okay) (hk : pk d.kind 4 = 1) :
    Calls Tryd.prog 16 #[.pointer (some ⟨b, 0, none⟩), .agg (opArr d)] w fun e w' => e = .returned (.tuple #[.int .i64 0, .bool true]) ∧ GicAt w' b r p (maskTo r (1 + pk d.cell 8) m d.set) ∧ Chg w w' b := by
  obtain ⟨b0, b1, b2, b3⟩ := op_box w d 41
  have HK := Lib.hid hk
  have HD := Lib.hid hd
  have hq := pk_range d.cell 8 (by omega)
  have hi : isC (1 + pk d.cell 8) = true := by simp [isC]; omega
  have HI := Lib.hid hi
  have G := Lib.hid (h.kept (Chg.alloc (Chg.refl w (w.heap.size)) (.cells (opArr d) 41)) (fun e => by have := h.lt; cases e; omega))
  have C := Lib.hid ((Chg.refl w b).alloc (.cells (opArr d) 41))
  clear h hd hk hi
  go_enter Tryd.func16, Tryd.ntmps16
  go_wp2_with fail
  refine (pick_any _ _ _ HD.out.cell (by omega) (by omega)).mono ?_
  rintro e w' ⟨rfl, rfl⟩
  go_wp2_with fail
  refine (pick_any _ _ _ HD.out.kind (by omega) (by omega)).mono ?_
  rintro e w' ⟨rfl, rfl⟩
  rw [HK.out]
  go_wp2_with fail
  refine (mask_yes _ _ r p m _ _ HD.out.set G.out HI.out).mono ?_
  rintro e w' ⟨rfl, hg, hc⟩
  have G' := Lib.hid hg
  have C' := Lib.hid (Chg.trans C.out hc)
  clear hg hc
  go_wp2
  go_ret2
  exact ⟨rfl, G'.out, C'.out⟩
set_option maxHeartbeats 1000000 in
theorem does_take (w : World) (b : Nat) (r : List Int) (p m : Nat) (d : OpD) (h : GicAt w b r p m) (hT : TabAt w) (hd : d.okay) (hk : pk d.kind 4 = 2) :
    Calls Tryd.prog 16 #[.pointer (some ⟨b, 0, none⟩), .agg (opArr d)] w fun e w' =>
      e = .returned (.tuple #[.int .i64 (doesN r p m d), .bool (doesB r p m d)]) ∧ GicAt w' b r (doesP r p m d) m ∧ Chg w w' b := by
  obtain ⟨b0, b1, b2, b3⟩ := op_box w d 41
  have HK := Lib.hid hk
  have HD := Lib.hid hd
  have hq := pk_range d.cell 8 (by omega)
  have hs : 0 < w.heap.size := World.block_lt_of_cell? w _ (hT 0 (by omega))
  have HT := Lib.hid (hT.below ((Below.refl w.heap.size w).alloc (Nat.le_refl _) (.cells (opArr d) 41)) hs)
  have G := Lib.hid (h.kept (Chg.alloc (Chg.refl w (w.heap.size)) (.cells (opArr d) 41)) (fun e => by have := h.lt; cases e; omega))
  have C := Lib.hid ((Chg.refl w b).alloc (.cells (opArr d) 41))
  clear h hd hk hT
  by_cases hz : someOf r (1 + pk d.cell 8) (wait p m) = 0
  · have e1 : doesN r p m d = 0 := by unfold doesN; rw [if_neg (fun h => h.2 hz)]
    have e2 : doesB r p m d = false := by unfold doesB; rw [if_neg (by rw [HK.out]; decide), if_pos HK.out]; simp [hz]
    have e3 : doesP r p m d = p := by unfold doesP; rw [if_neg (by rw [HK.out]; decide), if_neg (by rw [HK.out]; decide), if_pos HK.out, if_pos hz]
    rw [e1, e2, e3]
    have HZ := Lib.hid hz
    clear e1 e2 e3 hz
    go_enter Tryd.func16, Tryd.ntmps16
    go_wp2_with fail
    refine (pick_any _ _ _ HD.out.cell (by omega) (by omega)).mono ?_
    rintro e w' ⟨rfl, rfl⟩
    go_wp2_with fail
    refine (pick_any _ _ _ HD.out.kind (by omega) (by omega)).mono ?_
    rintro e w' ⟨rfl, rfl⟩
    rw [HK.out]
    go_wp2_with fail
    refine (take_none _ _ r p m _ G.out HZ.out).mono ?_
    rintro e w' ⟨rfl, hg, hc⟩
    have G' := Lib.hid hg
    have C' := Lib.hid (Chg.trans C.out hc)
    clear hg hc
    go_wp2
    go_ret2
    exact ⟨rfl, G'.out, C'.out⟩
  · have e1 : doesN r p m d = (Lib.ctz 32 (someOf r (1 + pk d.cell 8) (wait p m)) : Nat) := by unfold doesN; rw [if_pos ⟨HK.out, hz⟩]
    have e2 : doesB r p m d = true := by unfold doesB; rw [if_neg (by rw [HK.out]; decide), if_pos HK.out]; simp [hz]
    have e3 : doesP r p m d = drop p (Lib.ctz 32 (someOf r (1 + pk d.cell 8) (wait p m))) := by unfold doesP; rw [if_neg (by rw [HK.out]; decide), if_neg (by rw [HK.out]; decide), if_pos HK.out, if_neg hz]
    rw [e1, e2, e3]
    have HZ := Lib.hid hz
    clear e1 e2 e3 hz
    go_enter Tryd.func16, Tryd.ntmps16
    go_wp2_with fail
    refine (pick_any _ _ _ HD.out.cell (by omega) (by omega)).mono ?_
    rintro e w' ⟨rfl, rfl⟩
    go_wp2_with fail
    refine (pick_any _ _ _ HD.out.kind (by omega) (by omega)).mono ?_
    rintro e w' ⟨rfl, rfl⟩
    rw [HK.out]
    go_wp2_with fail
    refine (take_some _ _ r p m _ _ G.out HT.out HZ.out rfl).mono ?_
    rintro e w' ⟨rfl, hg, hc⟩
    have G' := Lib.hid hg
    have C' := Lib.hid (Chg.trans C.out hc)
    clear hg hc
    go_wp2
    go_ret2
    exact ⟨rfl, G'.out, C'.out⟩
set_option maxHeartbeats 1000000 in
theorem does_clear (w : World) (b : Nat) (r : List Int) (p m : Nat) (d : OpD) (h : GicAt w b r p m) (hd : d.okay) (h0 : pk d.kind 4 ≠ 0) (h1 : pk d.kind 4 ≠ 1) (h2 : pk d.kind 4 ≠ 2) :
    Calls Tryd.prog 16 #[.pointer (some ⟨b, 0, none⟩), .agg (opArr d)] w fun e w' => e = .returned (.tuple #[.int .i64 0, .bool true]) ∧ GicAt w' b r (wait p (someOf r (1 + pk d.cell 8) 4294967295)) m ∧ Chg w w' b := by
  obtain ⟨b0, b1, b2, b3⟩ := op_box w d 41
  have HD := Lib.hid hd
  have hq := pk_range d.cell 8 (by omega)
  have hk3 : pk d.kind 4 = 3 := by have := pk_range d.kind 4 (by omega); omega
  have HK := Lib.hid hk3
  have G := Lib.hid (h.kept (Chg.alloc (Chg.refl w (w.heap.size)) (.cells (opArr d) 41)) (fun e => by have := h.lt; cases e; omega))
  have C := Lib.hid ((Chg.refl w b).alloc (.cells (opArr d) 41))
  clear h hd h0 h1 h2 hk3
  go_enter Tryd.func16, Tryd.ntmps16
  go_wp2_with fail
  refine (pick_any _ _ _ HD.out.cell (by omega) (by omega)).mono ?_
  rintro e w' ⟨rfl, rfl⟩
  go_wp2_with fail
  refine (pick_any _ _ _ HD.out.kind (by omega) (by omega)).mono ?_
  rintro e w' ⟨rfl, rfl⟩
  rw [HK.out]
  go_wp2_with fail
  refine (clear_any _ _ r p m _ G.out).mono ?_
  rintro e w' ⟨rfl, hg, hc⟩
  have G' := Lib.hid hg
  have C' := Lib.hid (Chg.trans C.out hc)
  clear hg hc
  go_wp2
  go_ret2
  exact ⟨rfl, G'.out, C'.out⟩
/-- A step of a script: what it answers, and what it leaves. -/
theorem does_any (w : World) (b : Nat) (r : List Int) (p m : Nat) (d : OpD) (h : GicAt w b r p m) (hT : TabAt w) (hd : d.okay) :
    Calls Tryd.prog 16 #[.pointer (some ⟨b, 0, none⟩), .agg (opArr d)] w fun e w' =>
      e = .returned (.tuple #[.int .i64 (doesN r p m d), .bool (doesB r p m d)]) ∧ GicAt w' b r (doesP r p m d) (doesM r p m d) ∧ Chg w w' b := by
  by_cases h0 : pk d.kind 4 = 0
  · have h1 : pk d.kind 4 ≠ 1 := by omega
    have h2 : pk d.kind 4 ≠ 2 := by omega
    simp only [doesN, doesB, doesP, doesM, if_pos h0, if_neg h1, h2, false_and, if_false]
    exact does_raise w b r p m d h hd h0
  · by_cases h1 : pk d.kind 4 = 1
    · have h2 : pk d.kind 4 ≠ 2 := by omega
      simp only [doesN, doesB, doesP, doesM, if_neg h0, if_pos h1, h2, false_and, if_false]
      exact does_mask w b r p m d h hd h1
    · by_cases h2 : pk d.kind 4 = 2
      · have e : doesM r p m d = m := by unfold doesM; rw [if_neg h1]
        rw [e]
        exact does_take w b r p m d h hT hd h2
      · simp only [doesN, doesB, doesP, doesM, if_neg h0, if_neg h1, h2, false_and, if_false]
        exact does_clear w b r p m d h hd h0 h1 h2
end Go.Proofs.YtpedciapkalhgaaDoor.Gk
