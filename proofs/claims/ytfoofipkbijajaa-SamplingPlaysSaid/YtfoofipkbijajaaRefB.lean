/- The document's port: copied, Write, Turn: contracts. No statement of the seat is proved here. -/
import Derived.Test.YtfoofipkbijajaaState
import Derived.Test.YtfoofipkbijajaaRefNew
import Derived.Test.YtfoofipkbijajaaAny
import Derived.Test.YtfoofipkbijajaaApp
namespace Go.Proofs.Ytfoofipkbijajaa.Sa
open Go.RowKit Go.Proofs.Ytfoofipkbijajaa.Kit
set_option linter.unusedSimpArgs false
set_option linter.unusedVariables false
theorem Sl.keptp {k : IntKind} {m : Nat} {w w' : World} {v : Value} {xs : List Int} (h : Sl k m w v xs) (hg : 0 < xs.length → ∀ g, v.ownBlock = some g → g < w.heap.size → w'.heap[g]? = w.heap[g]?) : Sl k m w' v xs := by
  obtain ⟨⟨A, cap, rfl, hcap, hc⟩, hf⟩ := h
  refine ⟨⟨A, cap, rfl, hcap, fun h0 => ?_⟩, hf⟩
  obtain ⟨b, off, rfl, hj⟩ := hc h0
  refine ⟨b, off, rfl, fun j hlt => ?_⟩
  have hb := World.block_lt_of_cell? w _ (hj j hlt)
  rw [World.cell?_of_block (hg h0 b rfl hb)]
  exact hj j hlt
theorem Sl.blt {k : IntKind} {m : Nat} {w : World} {v : Value} {xs : List Int} (h : Sl k m w v xs) (h0 : 0 < xs.length) : ∀ g, v.ownBlock = some g → g < w.heap.size := by
  obtain ⟨⟨A, cap, rfl, hcap, hc⟩, hf⟩ := h
  obtain ⟨b, off, rfl, hj⟩ := hc h0
  intro g e
  cases e
  exact World.block_lt_of_cell? w _ (hj 0 h0)
theorem own_nil (w : World) (base : Nat) : w.ownsRow base 5 1 (.slice none 0 0) ([] : List Int).length (([] : List Int).map (Value.int .u8)) := World.ownsRow_nil _ _ _ _
set_option maxHeartbeats 1000000 in
theorem copied39 (w : World) (v : Value) (xs : List Int) (h : Rb w v xs) : Calls Try.prog 39 #[v] w fun e w' => ∃ v', e = .returned v' ∧ Own w' w.heap.size v' xs ∧ Chg w w' none := by
  have H := Lib.hid h
  obtain ⟨⟨A, cap, rfl, hcap, hcc⟩, hf⟩ := h
  clear hcc
  have HF := Lib.hid hf
  have hl : xs.length ≤ 140737488351232 := by omega
  generalize hv : Value.slice A xs.length cap = v at *
  clear hf hcap
  go_enter Try.func39, Try.ntmps39
  go_wp2_with (at_builtin; refine wpList_append_sl rfl (.tmp 4) (.tmp 5) 33 rfl .u8 1 w.heap.size 5 Try.underlying33 info5 (.slice none 0 0) [] rfl (own_nil _ _) v xs rfl H.out ?qa ?qb ?qc ?_)
  case qa => simp only [maxLen, List.length_nil]; omega
  case qb => simp only [List.length_nil]; omega
  case qc => exact Nat.le_refl _
  intro v' w' ho hc
  have F := Lib.hid (show Own w' w.heap.size v' xs ∧ Chg w w' none from ⟨by simpa using ho, hc⟩)
  clear ho hc hv
  go_wp2
  go_ret
  exact ⟨_, rfl, F.out⟩
theorem RefIs.cells {w : World} {b : Nat} {F : Nat → Prop} {P : PA} (h : RefIs w b F P) : w.cell? ⟨b, 0, none⟩ = some (.int .i64 P.W) ∧ w.cell? ⟨b, 1, none⟩ = some (.int .i64 P.S) := by
  obtain ⟨⟨rv, da, db, hb, _⟩, _, _⟩ := h
  constructor <;> (rw [cell_of_row _ _ _ _ _ _ hb]; rfl)
/-- The document's port whose waiting message was written. -/
theorem ref_put {w w2 : World} {b : Nat} {F : Nat → Prop} {P : PA} {rv da dn : Value} {xs : List Int} {t : Nat} (hb : b < w.heap.size) (hoff : ¬ F b) (hlt : ∀ x, F x → x < w.heap.size)
    (hr : Ri w rv P.rs) (ha : Rb w da P.A.data) (k1 : ∀ g, rv.ownBlock = some g → F g) (k2 : ∀ g, da.ownBlock = some g → F g)
    (hc : Chg w w2 (some b)) (hrow : w2.heap[b]? = some (.cells (rcells { P with B := ⟨true, xs, t⟩ } rv da dn) 69 (0, 0))) (hn : Rb w2 dn xs) (kn : ∀ g, dn.ownBlock = some g → w.heap.size ≤ g ∧ g < w2.heap.size) :
    ∃ F', RefIs w2 b F' { P with B := ⟨true, xs, t⟩ } ∧ ∀ x, F' x → F x ∨ w.heap.size ≤ x := by
  have hk : ∀ g, F g → g < w.heap.size → w2.heap[g]? = w.heap[g]? := fun g hf hl => hc.block g hl (fun e => by cases e; exact hoff hf)
  refine ⟨fun x => F x ∨ dn.ownBlock = some x, ⟨⟨rv, da, dn, hrow, hr.kept fun g e hl => hk g (k1 g e) hl, ha.kept fun g e hl => hk g (k2 g e) hl, hn, fun g e => .inl (k1 g e), fun g e => .inl (k2 g e), fun g e => .inr e⟩, ?_, ?_⟩, ?_⟩
  · rintro (h | h)
    · exact hoff h
    · have := (kn _ h).1; omega
  · rintro x (h | h)
    · exact Nat.lt_of_lt_of_le (hlt x h) hc.size
    · exact (kn _ h).2
  · rintro x (h | h)
    · exact .inl h
    · exact .inr (kn _ h).1
set_option maxRecDepth 4000 in
set_option maxHeartbeats 2000000 in
theorem rwrite_any (w : World) (b : Nat) (F : Nat → Prop) (P : PA) (h : RefIs w b F P) (c : Int) (t : Nat) (v : Value) (xs : List Int) (hv : Rb w v xs) (nv : 0 < xs.length → ∀ g, v.ownBlock = some g → g ≠ b) :
    Calls Try.prog 32 #[.pointer (some ⟨b, 0, none⟩), .int .i64 c, .int .u64 t, v] w fun e w' =>
      e = .returned (.int .i64 (wres P.W P.S c xs.length)) ∧ Chg w w' (some b) ∧ ∃ F', RefIs w' b F' (wput P c t xs) ∧ ∀ x, F' x → F x ∨ w.heap.size ≤ x := by
  obtain ⟨c0, c1⟩ := h.cells
  have HSAME := Lib.hid (show ∃ F', RefIs w b F' P ∧ ∀ x, F' x → F x ∨ w.heap.size ≤ x from ⟨F, h, fun x hx => .inl hx⟩)
  have HV := Lib.hid hv
  have hv0 := hv
  have hblt := h.blt
  obtain ⟨⟨A, cap, rfl, hcap, hcc⟩, hf⟩ := hv
  have hl : xs.length ≤ 140737488351232 := by omega
  clear hcc
  by_cases hc : c = P.W
  · have hb : (c != P.W) = false := by simpa using hc
    by_cases hk : P.S < xs.length
    · have HR := Lib.hid (show wres P.W P.S c xs.length = 162 ∧ wput P c t xs = P from by simp [wres, wput, wmsg, hc, chk, hk])
      clear h hc hv0
      go_enter Try.func32, Try.ntmps32
      go_wp2
      go_ret
      exact ⟨by rw [HR.out.1]; rfl, Chg.refl _ _, by rw [HR.out.2]; exact HSAME.out⟩
    · by_cases h4 : xs.length % 4 = 0
      · have HR := Lib.hid (show wres P.W P.S c xs.length = 0 ∧ wput P c t xs = { P with B := ⟨true, xs, t⟩ } from by simp [wres, wput, wmsg, hc, chk, hk, h4])
        have h4b : (((xs.length : Int) % 4) != 0) = false := by simp; omega
        obtain ⟨⟨rv, da, db, hrow, hr, ha, hbb, k1, k2, k3⟩, hoff, hlt⟩ := h
        have HROW := Lib.hid hrow
        have HNV := Lib.hid (hv0.keptp (w' := w.setCell ⟨b, 4, none⟩ (.bool true)) fun h0 g e hl => ((Chg.refl w (some b)).set 4 (.bool true)).block g hl (fun e2 => by cases e2; exact nv h0 _ e rfl))
        have c4 : w.cell? ⟨b, 4, none⟩ = some (.bool P.B.there) := by rw [cell_of_row _ _ _ _ _ _ hrow]; rfl
        have f4 := frozen_of_row w b 4 _ _ hrow
        have FI := Lib.hid (fun (w2 : World) (dn : Value) hc hrow hn kn => ref_put (w := w) (w2 := w2) (P := P) (dn := dn) (xs := xs) (t := t) hblt hoff hlt hr ha k1 k2 hc hrow hn kn)
        clear hv0 hc hr ha hbb k1 k2 k3 hlt hrow
        go_enter Try.func32, Try.ntmps32
        go_wp2_with fail
        have C1 := Lib.hid (((Chg.refl w (some b)).set 4 (.bool true)))
        have HX := Lib.hid (show Rb (w.setCell ⟨b, 4, none⟩ (.bool true)) (.slice A xs.length cap) xs from HNV.out)
        have R1 := Lib.hid (heap_setCell_same _ b 4 _ _ (Value.bool true) HROW.out)
        refine (copied39 _ _ xs HX.out).mono ?_
        rintro e w1 ⟨v', rfl, ho, hch⟩
        obtain ⟨A1, cap1, rfl⟩ := own_slice ho
        have R2 := Lib.hid ((hch.block b (by simpa using hblt) (by simp)).trans R1.out)
        have c7 : w1.cell? ⟨b, 7, none⟩ = some db := by rw [cell_of_row _ _ _ _ _ _ R2.out]; rfl
        have f7 := frozen_of_row w1 b 7 _ _ R2.out
        have c8 : w1.cell? ⟨b, 8, none⟩ = some (.int .u64 P.B.tick) := by rw [cell_of_row _ _ _ _ _ _ R2.out]; rfl
        have f8 := frozen_of_row w1 b 8 _ _ R2.out
        have C2 := Lib.hid (C1.out.trans (hch.any (some b)))
        have K2 := Lib.hid (((Chg.refl w1 (some b)).set 7 (.slice A1 xs.length cap1)).set 8 (.int .u64 t))
        have OO := Lib.hid ho
        have sz1 : w.heap.size ≤ w1.heap.size := C2.out.size
        have E := Lib.hid (FI.out ((w1.setCell ⟨b, 7, none⟩ (.slice A1 xs.length cap1)).setCell ⟨b, 8, none⟩ (.int .u64 t)) (.slice A1 xs.length cap1) ((C2.out.set _ _).set _ _)
          (heap_setCell_same _ b 8 _ _ (Value.int .u64 t) (heap_setCell_same _ b 7 _ _ (Value.slice A1 xs.length cap1) R2.out))
          ((own_sl ho HV.out.few).kept fun g e hl => K2.out.block g hl (fun e2 => by cases e2; have h1 := (own_block ho _ e).1; simp at h1; omega))
          (fun g e => by have h1 := own_block ho g e; simp at h1; have h3 := K2.out.size; omega))
        have CF := Lib.hid (show Chg w ((w1.setCell ⟨b, 7, none⟩ (.slice A1 xs.length cap1)).setCell ⟨b, 8, none⟩ (.int .u64 t)) (some b) from (C2.out.set _ _).set _ _)
        clear ho hch c0 c1 c4 f4
        go_wp2
        go_ret
        exact ⟨by rw [HR.out.1]; rfl, CF.out, by rw [HR.out.2]; exact E.out⟩
      · have HR := Lib.hid (show wres P.W P.S c xs.length = 160 ∧ wput P c t xs = P from by simp [wres, wput, wmsg, hc, chk, hk, h4])
        have h4b : (((xs.length : Int) % 4) != 0) = true := by simp; omega
        clear h hc h4 hv0
        go_enter Try.func32, Try.ntmps32
        go_wp2
        go_ret
        exact ⟨by rw [HR.out.1]; rfl, Chg.refl _ _, by rw [HR.out.2]; exact HSAME.out⟩
  · have hb : (c != P.W) = true := by simpa using hc
    have HR := Lib.hid (show wres P.W P.S c xs.length = 161 ∧ wput P c t xs = P from by simp [wres, wput, wmsg, hc])
    clear h hc hv0
    go_enter Try.func32, Try.ntmps32
    go_wp2
    go_ret
    exact ⟨by rw [HR.out.1]; rfl, Chg.refl _ _, by rw [HR.out.2]; exact HSAME.out⟩
end Go.Proofs.Ytfoofipkbijajaa.Sa
