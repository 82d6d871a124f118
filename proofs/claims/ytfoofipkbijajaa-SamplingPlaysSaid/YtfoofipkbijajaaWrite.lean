/- Write, Read, Turn of a port: contracts. No statement of the seat is proved here. -/
import Derived.Test.YtfoofipkbijajaaRefNew
import Derived.Deep.RegionHeld
namespace Go.Proofs.Ytfoofipkbijajaa.Sa
open Go.RowKit Go.Proofs.Ytfoofipkbijajaa.Kit
set_option linter.unusedSimpArgs false
set_option linter.unusedVariables false

/-- The first three cells, the last one. -/
theorem PortIs.cells {w : World} {b : Nat} {F : Nat → Prop} {P : PA} (h : PortIs w b F P) : w.cell? ⟨b, 0, none⟩ = some (.int .i64 P.W) ∧ w.cell? ⟨b, 1, none⟩ = some (.int .i64 P.S) := by
  obtain ⟨⟨rv, da, db, la, hb, _⟩, _, _⟩ := h
  cases la <;> exact ⟨by rw [cell_of_row _ _ _ _ _ _ hb]; rfl, by rw [cell_of_row _ _ _ _ _ _ hb]; rfl⟩
theorem Sl.drewN {k : IntKind} {m : Nat} {w : World} {v : Value} {xs : List Int} (h : Sl k m w v xs) (n : Nat) : Sl k m (w.drewN n) v xs := ⟨h.shape, h.few⟩
theorem PortIs.drewN {w : World} {b : Nat} {F : Nat → Prop} {P : PA} (h : PortIs w b F P) (n : Nat) : PortIs (w.drewN n) b F P := h.kept ((Chg.refl w none).drewN n) (by simp) (fun _ _ => by simp)

/-! ### check -/
def chk (S : Int) (n : Nat) : Int := if S < n then 162 else if n % 4 = 0 then 0 else 160
theorem check_any (w : World) (b : Nat) (F : Nat → Prop) (P : PA) (h : PortIs w b F P) (v : Value) (xs : List Int) (hv : Rb w v xs) :
    Calls Try.prog 28 #[.pointer (some ⟨b, 0, none⟩), v] w fun e w' => e = .returned (.int .i64 (chk P.S xs.length)) ∧ w = w' := by
  obtain ⟨c0, c1⟩ := h.cells
  obtain ⟨⟨A, cap, rfl, hcap, hcc⟩, hf⟩ := hv
  clear hcc h hcap
  by_cases h1 : P.S < xs.length
  · have e : chk P.S xs.length = 162 := by simp [chk, h1]
    rw [e]
    clear e
    go_enter Try.func28, Try.ntmps28
    go_wp2
    go_ret
    exact ⟨rfl, rfl⟩
  · have hd : decide (P.S < (xs.length : Int)) = false := by simp only [decide_eq_false_iff_not]; omega
    by_cases h2 : xs.length % 4 = 0
    · have e : chk P.S xs.length = 0 := by simp [chk, h1, h2]
      have h2b : (((xs.length : Int)) % 4 != 0) = false := by
        have : ((xs.length : Int)) % 4 = 0 := by omega
        simp [this]
      rw [e]
      clear e h1 h2
      go_enter Try.func28, Try.ntmps28
      go_wp2
      go_ret
      exact ⟨rfl, rfl⟩
    · have e : chk P.S xs.length = 160 := by simp [chk, h1, h2]
      have h2b : (((xs.length : Int)) % 4 != 0) = true := by
        have : ((xs.length : Int)) % 4 ≠ 0 := by omega
        simpa using this
      rw [e]
      clear e h1 h2
      go_enter Try.func28, Try.ntmps28
      go_wp2
      go_ret
      exact ⟨rfl, rfl⟩

theorem setCell_nine (w : World) (b i : Nat) (v : Value) (hi : i < 9) : (w.setCell ⟨b, i, none⟩ v).cell? ⟨b, 9, none⟩ = w.cell? ⟨b, 9, none⟩ := World.cell?_setCell_other _ _ _ _ (by intro e; injection e; omega)
/-! ### Write -/
theorem write_who (w : World) (b : Nat) (F : Nat → Prop) (P : PA) (h : PortIs w b F P) (c : Int) (t : Nat) (v : Value) (hc : c ≠ P.W) :
    Calls Try.prog 14 #[.pointer (some ⟨b, 0, none⟩), .int .i64 c, .int .u64 t, v] w fun e w' => e = .returned (.int .i64 161) ∧ w = w' := by
  obtain ⟨c0, c1⟩ := h.cells
  have hb : (c != P.W) = true := by simpa using hc
  clear h hc
  go_enter Try.func14, Try.ntmps14
  go_wp2
  go_ret
  exact ⟨rfl, rfl⟩
theorem write_bad (w : World) (b : Nat) (F : Nat → Prop) (P : PA) (h : PortIs w b F P) (c : Int) (t : Nat) (v : Value) (xs : List Int) (hv : Rb w v xs) (hc : c = P.W) (hk : chk P.S xs.length ≠ 0) :
    Calls Try.prog 14 #[.pointer (some ⟨b, 0, none⟩), .int .i64 c, .int .u64 t, v] w fun e w' => e = .returned (.int .i64 (chk P.S xs.length)) ∧ w = w' := by
  obtain ⟨c0, c1⟩ := h.cells
  have hb : (c != P.W) = false := by simpa using hc
  have hkb : (chk P.S xs.length != 0) = true := by simpa using hk
  have H := Lib.hid h
  have HV := Lib.hid hv
  clear h hc hk hv
  go_enter Try.func14, Try.ntmps14
  go_wp2_with fail
  refine (check_any _ b F P H.out _ xs HV.out).mono ?_
  rintro e w' ⟨rfl, rfl⟩
  go_wp2
  go_ret
  exact ⟨rfl, rfl⟩
/-- A port whose waiting slot was written. -/
theorem port_put {w w2 : World} {b : Nat} {F : Nat → Prop} {P : PA} {rv da dn : Value} {la : Bool} {xs : List Int} {t : Nat} (hb : b < w.heap.size) (hoff : ¬ F b) (hlt : ∀ x, F x → x < w.heap.size)
    (hr : Ri w rv P.rs) (ha : Rb w da P.A.data) (k1 : ∀ g, rv.ownBlock = some g → F g) (k2 : ∀ g, da.ownBlock = some g → F g)
    (hc : Chg w w2 (some b)) (hrow : w2.heap[b]? = some (.cells (pcells { P with B := ⟨true, xs, t⟩ } rv da dn la) 67 (0, 0))) (hn : Rb w2 dn xs) (kn : ∀ g, dn.ownBlock = some g → w.heap.size ≤ g ∧ g < w2.heap.size) :
    ∃ F', PortIs w2 b F' { P with B := ⟨true, xs, t⟩ } ∧ ∀ x, F' x → F x ∨ w.heap.size ≤ x := by
  have hk : ∀ g, F g → g < w.heap.size → w2.heap[g]? = w.heap[g]? := fun g hf hl => hc.block g hl (fun e => by cases e; exact hoff hf)
  refine ⟨fun x => F x ∨ dn.ownBlock = some x, ⟨⟨rv, da, dn, la, hrow, hr.kept fun g e hl => hk g (k1 g e) hl, ha.kept fun g e hl => hk g (k2 g e) hl, hn, fun g e => .inl (k1 g e), fun g e => .inl (k2 g e), fun g e => .inr e⟩, ?_, ?_⟩, ?_⟩
  · rintro (h | h)
    · exact hoff h
    · have := (kn _ h).1; omega
  · rintro x (h | h)
    · exact Nat.lt_of_lt_of_le (hlt x h) hc.size
    · exact (kn _ h).2
  · rintro x (h | h)
    · exact .inl h
    · exact .inr (kn _ h).1
set_option maxHeartbeats 2000000 in
theorem write_ok (w : World) (b : Nat) (F : Nat → Prop) (P : PA) (h : PortIs w b F P) (c : Int) (t : Nat) (v : Value) (xs : List Int) (hv : Rb w v xs) (hc : c = P.W) (hk : chk P.S xs.length = 0) :
    Calls Try.prog 14 #[.pointer (some ⟨b, 0, none⟩), .int .i64 c, .int .u64 t, v] w fun e w' =>
      e = .returned (.int .i64 0) ∧ Chg w w' (some b) ∧ ∃ F', PortIs w' b F' { P with B := ⟨true, xs, t⟩ } ∧ ∀ x, F' x → F x ∨ w.heap.size ≤ x := by
  obtain ⟨c0, c1⟩ := h.cells
  have hb : (c != P.W) = false := by simpa using hc
  have H := Lib.hid h
  have HV := Lib.hid hv
  have HK := Lib.hid hk
  have hblt := h.blt
  obtain ⟨⟨rv, da, db, la, hrow, hr, ha, hbb, k1, k2, k3⟩, hoff, hlt⟩ := h
  have HROW := Lib.hid hrow
  have HRR := Lib.hid hr
  have HAA := Lib.hid ha
  have K1 := Lib.hid k1
  have K2 := Lib.hid k2
  have HLT := Lib.hid hlt
  clear hc hk hv hr ha hbb k1 k2 k3 hlt
  cases la with
  | false =>
    have c9 : w.cell? ⟨b, 9, none⟩ = some (.int .i64 0) := by rw [cell_of_row _ _ _ _ _ _ hrow]; rfl
    clear hrow
    go_enter Try.func14, Try.ntmps14
    go_wp2_with fail
    refine (check_any _ b F P H.out _ xs HV.out).mono ?_
    rw [HK.out]
    rintro e w' ⟨rfl, rfl⟩
    go_wp2
    have hsum : IntKind.i64.wrap ((1 : Int) - 0) = 1 := by decide
    go_region_held (fun w' => w'.cell? ⟨b, 9, none⟩ = some (.int .i64 0)) (first | go_keep | (rw [setCell_nine _ _ _ _ (by omega), setCell_nine _ _ _ _ (by omega), setCell_nine _ _ _ _ (by omega)]; assumption)) (first | (go_at_call 27; refine (clone27 w.drew _ xs ⟨HV.out.shape, HV.out.few⟩).mono ?_; rintro e w' ⟨v', rfl, hown, hgr⟩; obtain ⟨A', c', rfl⟩ := own_slice hown; have hr1 := Lib.hid ((hgr.block b hblt (by simp)).trans HROW.out); have c9' : w'.cell? ⟨b, 9, none⟩ = some (.int .i64 0) := (by rw [cell_of_row _ _ _ _ _ _ hr1.out]; rfl); have f6 := frozen_of_row w' b 6 _ _ hr1.out; have f7 := frozen_of_row w' b 7 _ _ hr1.out; have f8 := frozen_of_row w' b 8 _ _ hr1.out; have c6 : w'.cell? ⟨b, 6, none⟩ = some (.bool P.B.there) := (by rw [cell_of_row _ _ _ _ _ _ hr1.out]; rfl); have c7 : w'.cell? ⟨b, 7, none⟩ = some db := (by rw [cell_of_row _ _ _ _ _ _ hr1.out]; rfl); have c8 : w'.cell? ⟨b, 8, none⟩ = some (.int .u64 P.B.tick) := (by rw [cell_of_row _ _ _ _ _ _ hr1.out]; rfl); have hown' := Lib.hid hown; have hgr' := Lib.hid hgr; clear hown hgr))
    go_wp2
    go_ret
    have C0 : Chg w w' (some b) := ⟨hgr'.out.os, hgr'.out.tape, hgr'.out.output, hgr'.out.size, fun i hi _ => hgr'.out.block i hi (by simp)⟩
    have C : Chg w (((w'.setCell ⟨b, 6, none⟩ (.bool true)).setCell ⟨b, 7, none⟩ (.slice A' xs.length c')).setCell ⟨b, 8, none⟩ (.int .u64 t)) (some b) := ((C0.set _ _).set _ _).set _ _
    have K : Chg w' (((w'.setCell ⟨b, 6, none⟩ (.bool true)).setCell ⟨b, 7, none⟩ (.slice A' xs.length c')).setCell ⟨b, 8, none⟩ (.int .u64 t)) (some b) := (((Chg.refl w' (some b)).set _ _).set _ _).set _ _
    refine ⟨rfl, C, port_put (dn := .slice A' xs.length c') (la := false) hblt hoff HLT.out HRR.out HAA.out K1.out K2.out C (by have e := heap_setCell_same _ b 8 _ _ (Value.int .u64 t) (heap_setCell_same _ b 7 _ _ (Value.slice A' xs.length c') (heap_setCell_same _ b 6 _ _ (Value.bool true) hr1.out)); exact e) ?_ ?_⟩
    · refine (own_sl hown'.out HV.out.few).kept fun g e hl => K.block g hl (fun e2 => ?_)
      cases e2
      have h1 := (own_block hown'.out _ e).1
      have h2 : w.drew.heap.size = w.heap.size := rfl
      omega
    · intro g e
      have h1 := own_block hown'.out g e
      have h2 : w.drew.heap.size = w.heap.size := rfl
      have h3 := K.size
      omega
  | true =>
    have c9 : w.cell? ⟨b, 9, none⟩ = some (.int .i64 1) := by rw [cell_of_row _ _ _ _ _ _ hrow]; rfl
    clear hrow
    go_enter Try.func14, Try.ntmps14
    go_wp2_with fail
    refine (check_any _ b F P H.out _ xs HV.out).mono ?_
    rw [HK.out]
    rintro e w' ⟨rfl, rfl⟩
    go_wp2
    have hsum : IntKind.i64.wrap ((1 : Int) - 1) = 0 := by decide
    go_region_held (fun w' => w'.cell? ⟨b, 9, none⟩ = some (.int .i64 1)) (first | go_keep | (rw [setCell_nine _ _ _ _ (by omega), setCell_nine _ _ _ _ (by omega), setCell_nine _ _ _ _ (by omega)]; assumption)) (first | (go_at_call 27; refine (clone27 w.drew _ xs ⟨HV.out.shape, HV.out.few⟩).mono ?_; rintro e w' ⟨v', rfl, hown, hgr⟩; obtain ⟨A', c', rfl⟩ := own_slice hown; have hr1 := Lib.hid ((hgr.block b hblt (by simp)).trans HROW.out); have c9' : w'.cell? ⟨b, 9, none⟩ = some (.int .i64 1) := (by rw [cell_of_row _ _ _ _ _ _ hr1.out]; rfl); have f6 := frozen_of_row w' b 3 _ _ hr1.out; have f7 := frozen_of_row w' b 4 _ _ hr1.out; have f8 := frozen_of_row w' b 5 _ _ hr1.out; have c6 : w'.cell? ⟨b, 3, none⟩ = some (.bool P.B.there) := (by rw [cell_of_row _ _ _ _ _ _ hr1.out]; rfl); have c7 : w'.cell? ⟨b, 4, none⟩ = some db := (by rw [cell_of_row _ _ _ _ _ _ hr1.out]; rfl); have c8 : w'.cell? ⟨b, 5, none⟩ = some (.int .u64 P.B.tick) := (by rw [cell_of_row _ _ _ _ _ _ hr1.out]; rfl); have hown' := Lib.hid hown; have hgr' := Lib.hid hgr; clear hown hgr))
    go_wp2
    go_ret
    have C0 : Chg w w' (some b) := ⟨hgr'.out.os, hgr'.out.tape, hgr'.out.output, hgr'.out.size, fun i hi _ => hgr'.out.block i hi (by simp)⟩
    have C : Chg w (((w'.setCell ⟨b, 3, none⟩ (.bool true)).setCell ⟨b, 4, none⟩ (.slice A' xs.length c')).setCell ⟨b, 5, none⟩ (.int .u64 t)) (some b) := ((C0.set _ _).set _ _).set _ _
    have K : Chg w' (((w'.setCell ⟨b, 3, none⟩ (.bool true)).setCell ⟨b, 4, none⟩ (.slice A' xs.length c')).setCell ⟨b, 5, none⟩ (.int .u64 t)) (some b) := (((Chg.refl w' (some b)).set _ _).set _ _).set _ _
    refine ⟨rfl, C, port_put (dn := .slice A' xs.length c') (la := true) hblt hoff HLT.out HRR.out HAA.out K1.out K2.out C (by have e := heap_setCell_same _ b 5 _ _ (Value.int .u64 t) (heap_setCell_same _ b 4 _ _ (Value.slice A' xs.length c') (heap_setCell_same _ b 3 _ _ (Value.bool true) hr1.out)); exact e) ?_ ?_⟩
    · refine (own_sl hown'.out HV.out.few).kept fun g e hl => K.block g hl (fun e2 => ?_)
      cases e2
      have h1 := (own_block hown'.out _ e).1
      have h2 : w.drew.heap.size = w.heap.size := rfl
      omega
    · intro g e
      have h1 := own_block hown'.out g e
      have h2 : w.drew.heap.size = w.heap.size := rfl
      have h3 := K.size
      omega
end Go.Proofs.Ytfoofipkbijajaa.Sa
