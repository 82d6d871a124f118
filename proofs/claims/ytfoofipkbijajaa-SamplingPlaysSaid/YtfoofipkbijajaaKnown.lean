/- known of the statements' own text: its contract. No statement of the seat is proved here. -/
import Derived.Test.YtfoofipkbijajaaTurn
namespace Go.Proofs.Ytfoofipkbijajaa.Sa
open Go.RowKit Go.Proofs.Ytfoofipkbijajaa.Kit
set_option linter.unusedSimpArgs false
set_option linter.unusedVariables false

theorem Chg.drw {w w1 w2 : World} {r : Option Nat} (h : Chg w w1 r) (k : Drw w1 w2) : Chg w w2 r := by
  obtain ⟨n, rfl⟩ := k; exact h.drewN n
theorem PortIs.drw {w w' : World} {b : Nat} {F : Nat → Prop} {P : PA} (h : PortIs w b F P) (k : Drw w w') : PortIs w' b F P := by
  obtain ⟨n, rfl⟩ := k; exact h.drewN n
theorem Sl.drw {k : IntKind} {m : Nat} {w w' : World} {v : Value} {xs : List Int} (h : Sl k m w v xs) (d : Drw w w') : Sl k m w' v xs := by
  obtain ⟨n, rfl⟩ := d; exact h.drewN n
/-- A row that a call's own text lays, as a slice. -/
theorem sl_lit {k : IntKind} {m : Nat} (w : World) (xs : List Int) (t : TypeId) (hf : xs.length * m ≤ 140737488351232) : Sl k m (w.alloc (.cells (xs.map (Value.int k)).toArray t)) (.slice (some ⟨w.heap.size, 0, none⟩) xs.length xs.length) xs := by
  refine ⟨⟨_, _, rfl, Nat.le_refl _, fun h0 => ⟨_, _, rfl, fun j hj => ?_⟩⟩, hf⟩
  rw [Nat.zero_add, cell_of_row _ _ _ _ _ _ (heap_alloc_last w _)]
  simp [List.getElem?_eq_getElem hj, nth, List.getD_eq_getElem?_getD]
theorem known_may : may 1 8 [2] = true := by decide +kernel
set_option maxHeartbeats 2000000 in
theorem known_any (w : World) : Calls Try.prog 8 #[] w fun e w' => e = .returned (.bool true) ∧ Chg w w' none := by
  have hmay := Lib.hid known_may
  have S1 := Lib.hid (sl_lit (k := .i64) (m := 8) w [2] 3 (by decide))
  have C1 := Lib.hid ((Chg.refl w none).alloc (.cells ([2].map (Value.int .i64)).toArray 3))
  go_enter Try.func8, Try.ntmps8
  go_wp2_with fail
  refine (new_any _ 1 8 _ [2] S1.out).mono ?_
  intro e w2 hN
  rcases hN with ⟨hm, _⟩ | ⟨_, b, F, rfl, hP, hb, hF, hC⟩
  · rw [hmay.out] at hm; cases hm
  have C2 := Lib.hid (C1.out.trans hC)
  have P2 := Lib.hid hP
  have hbw : w.heap.size ≤ b := by have := C1.out.size; omega
  have F2 := Lib.hid (fun x hx => (show w.heap.size ≤ x from by have := C1.out.size; have := hF x hx; omega))
  clear hP hb hF hC S1 C1 hmay
  go_wp2_with fail
  have S3 := Lib.hid (sl_lit (k := .u8) (m := 1) w2 [1, 2, 3, 4] 5 (by decide))
  have C3 := Lib.hid (C2.out.alloc (.cells ([1, 2, 3, 4].map (Value.int .u8)).toArray 5))
  have P3 := Lib.hid (P2.out.kept ((Chg.refl w2 none).alloc (.cells ([1, 2, 3, 4].map (Value.int .u8)).toArray 5)) (by simp) (fun _ _ => by simp))
  refine (write_ok _ b F _ P3.out 1 10 _ [1, 2, 3, 4] S3.out rfl (by decide)).mono ?_
  rintro e w4 ⟨rfl, hC, F', hP, hF⟩
  have C4 := Lib.hid (C3.out.trans_new hC hbw)
  have P4 := Lib.hid hP
  clear hP hC hF P2 P3 C2 C3 S3
  go_wp2_with fail
  refine (read_ok _ b F' _ P4.out 2 (by decide)).mono ?_
  rintro e w5 ⟨v5, rfl, hown5, hf5, hC⟩
  have C5 := Lib.hid (C4.out.trans hC)
  have P5 := Lib.hid (P4.out.kept hC (by simp) (fun _ _ => by simp))
  clear hown5 hf5 hC C4 P4
  go_wp2_with fail
  refine (turn_yes _ b F' _ P5.out 1 rfl rfl).mono ?_
  rintro e w6 ⟨rfl, hC, hP⟩
  have C6 := Lib.hid (C5.out.trans_new hC hbw)
  have P6 := Lib.hid hP
  clear hC hP C5 P5
  go_wp2_with fail
  refine (read_ok _ b F' _ P6.out 2 (by decide)).mono ?_
  rintro e w7 ⟨v7, rfl, hown7, hf7, hC⟩
  have C7 := Lib.hid (C6.out.trans hC)
  have S7 := Lib.hid (own_sl hown7 hf7)
  clear hown7 hf7 hC C6 P6
  go_wp2_with fail
  have S8 := Lib.hid (S7.out.kept (w' := w7.alloc (.cells ([1, 2, 3, 4].map (Value.int .u8)).toArray 5)) (fun g _ hg => heap_alloc_old w7 _ hg))
  have S9 := Lib.hid (sl_lit (k := .u8) (m := 1) w7 [1, 2, 3, 4] 5 (by decide))
  have C8 := Lib.hid (C7.out.alloc (.cells ([1, 2, 3, 4].map (Value.int .u8)).toArray 5))
  refine (same_any _ _ _ _ [1, 2, 3, 4] S8.out S9.out).mono ?_
  rintro e w9 ⟨rfl, hd⟩
  have C9 := Lib.hid (C8.out.drw hd)
  clear hd
  go_wp2
  go_ret
  exact ⟨rfl, C9.out⟩
end Go.Proofs.Ytfoofipkbijajaa.Sa
