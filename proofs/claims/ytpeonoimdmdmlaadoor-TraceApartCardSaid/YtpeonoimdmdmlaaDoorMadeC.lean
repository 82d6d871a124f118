/- made, some kinds: contracts. No statement of the seat is proved here. -/
import Derived.Test.YtpeonoimdmdmlaaDoorObs
import Derived.Deep.RegionHeld
namespace Go.Proofs.YtpeonoimdmdmlaaDoor.Tr
open Go.RowKit Go.Proofs.YtpeonoimdmdmlaaDoor.Kit
set_option linter.unusedSimpArgs false
set_option linter.unusedVariables false
set_option maxHeartbeats 4000000 in
theorem made_4 (w : World) (tick cell kind pc a b : Int) (hk : i64ok kind) (e : pk kind 7 = 4) (t1 t2 t3 t4 t5 : Int) (PT : Pkd tick 9223372036854775807 t1) (PC : Pkd cell 8 t2) (PA6 : Pkd a 6 t3) (PA32 : Pkd a 32 t4) (PB : Pkd b 2147483648 t5) :
    Calls Tryd.prog 9 #[.agg #[.int .i64 tick, .int .i64 cell, .int .i64 kind, .int .i64 pc, .int .i64 a, .int .i64 b]] w fun e w' => ∃ o, e = .returned (.agg (oc o).toArray) ∧ Ok o ∧ Below w.heap.size w w' := by
  have PK := Lib.hid (fun W => e ▸ pick_still W kind 7 hk (by omega) (by omega))
  obtain ⟨PT, ht1, ht2⟩ := PT
  obtain ⟨PC, hc1, hc2⟩ := PC
  obtain ⟨PA6, h31, h32⟩ := PA6
  obtain ⟨PA32, h41, h42⟩ := PA32
  obtain ⟨PB, h51, h52⟩ := PB
  clear e hk
  have hz := zero31
  go_enter Tryd.func9, Tryd.ntmps9
  go_wp2_with fail
  go_region_held (fun w' => w'.cell? ⟨w.heap.size, 0, none⟩ = some (.int .i64 tick) ∧ w'.cell? ⟨w.heap.size, 1, none⟩ = some (.int .i64 cell) ∧ w'.cell? ⟨w.heap.size, 2, none⟩ = some (.int .i64 kind) ∧ w'.cell? ⟨w.heap.size, 3, none⟩ = some (.int .i64 pc)) (go_keep) (first
    | (go_at_call 4; (with_reducible show Calls _ 4 #[_, .int .i64 9223372036854775807] _ _); refine (PT.out _).mono ?_; rintro e w' ⟨rfl, rfl⟩)
    | (go_at_call 4; (with_reducible show Calls _ 4 #[_, .int .i64 8] _ _); refine (PC.out _).mono ?_; rintro e w' ⟨rfl, rfl⟩)
    | (go_at_call 4; (with_reducible show Calls _ 4 #[_, .int .i64 7] _ _); refine (PK.out _).mono ?_; rintro e w' ⟨rfl, rfl⟩))
  all_goals
    go_wp2_with (go_at_call 4; refine (PB.out _).mono ?_; rintro e w' ⟨rfl, rfl⟩)
    refine end_row2 w _ _ _ _ rfl rfl ?_
    refine ⟨⟨_, _, _, _, _, _⟩, rfl, ?_, ?_⟩
    · refine ⟨?_, ?_, ?_, ?_, ?_, ?_⟩ <;> dsimp only [u32in] <;> omega
    · repeat first
        | exact Below.refl _ _
        | refine Below.setCell ?_ (by simp) _
        | refine Below.drew ?_
        | refine Below.alloc ?_ (by simp <;> omega) _
set_option maxHeartbeats 4000000 in
theorem made_5 (w : World) (tick cell kind pc a b : Int) (hk : i64ok kind) (e : pk kind 7 = 5) (t1 t2 t3 t4 t5 : Int) (PT : Pkd tick 9223372036854775807 t1) (PC : Pkd cell 8 t2) (PA6 : Pkd a 6 t3) (PA32 : Pkd a 32 t4) (PB : Pkd b 2147483648 t5) :
    Calls Tryd.prog 9 #[.agg #[.int .i64 tick, .int .i64 cell, .int .i64 kind, .int .i64 pc, .int .i64 a, .int .i64 b]] w fun e w' => ∃ o, e = .returned (.agg (oc o).toArray) ∧ Ok o ∧ Below w.heap.size w w' := by
  have PK := Lib.hid (fun W => e ▸ pick_still W kind 7 hk (by omega) (by omega))
  obtain ⟨PT, ht1, ht2⟩ := PT
  obtain ⟨PC, hc1, hc2⟩ := PC
  obtain ⟨PA6, h31, h32⟩ := PA6
  obtain ⟨PA32, h41, h42⟩ := PA32
  obtain ⟨PB, h51, h52⟩ := PB
  clear e hk
  have hz := zero31
  go_enter Tryd.func9, Tryd.ntmps9
  go_wp2_with fail
  go_region_held (fun w' => w'.cell? ⟨w.heap.size, 0, none⟩ = some (.int .i64 tick) ∧ w'.cell? ⟨w.heap.size, 1, none⟩ = some (.int .i64 cell) ∧ w'.cell? ⟨w.heap.size, 2, none⟩ = some (.int .i64 kind) ∧ w'.cell? ⟨w.heap.size, 3, none⟩ = some (.int .i64 pc)) (go_keep) (first
    | (go_at_call 4; (with_reducible show Calls _ 4 #[_, .int .i64 9223372036854775807] _ _); refine (PT.out _).mono ?_; rintro e w' ⟨rfl, rfl⟩)
    | (go_at_call 4; (with_reducible show Calls _ 4 #[_, .int .i64 8] _ _); refine (PC.out _).mono ?_; rintro e w' ⟨rfl, rfl⟩)
    | (go_at_call 4; (with_reducible show Calls _ 4 #[_, .int .i64 7] _ _); refine (PK.out _).mono ?_; rintro e w' ⟨rfl, rfl⟩))
  all_goals
    go_wp2_with fail
    refine end_row2 w _ _ _ _ rfl rfl ?_
    refine ⟨⟨_, _, _, _, _, _⟩, rfl, ?_, ?_⟩
    · refine ⟨?_, ?_, ?_, ?_, ?_, ?_⟩ <;> dsimp only [u32in] <;> omega
    · repeat first
        | exact Below.refl _ _
        | refine Below.setCell ?_ (by simp) _
        | refine Below.drew ?_
        | refine Below.alloc ?_ (by simp <;> omega) _
set_option maxHeartbeats 4000000 in
theorem made_6 (w : World) (tick cell kind pc a b : Int) (hk : i64ok kind) (e : pk kind 7 = 6) (t1 t2 t3 t4 t5 : Int) (PT : Pkd tick 9223372036854775807 t1) (PC : Pkd cell 8 t2) (PA6 : Pkd a 6 t3) (PA32 : Pkd a 32 t4) (PB : Pkd b 2147483648 t5) :
    Calls Tryd.prog 9 #[.agg #[.int .i64 tick, .int .i64 cell, .int .i64 kind, .int .i64 pc, .int .i64 a, .int .i64 b]] w fun e w' => ∃ o, e = .returned (.agg (oc o).toArray) ∧ Ok o ∧ Below w.heap.size w w' := by
  have PK := Lib.hid (fun W => e ▸ pick_still W kind 7 hk (by omega) (by omega))
  obtain ⟨PT, ht1, ht2⟩ := PT
  obtain ⟨PC, hc1, hc2⟩ := PC
  obtain ⟨PA6, h31, h32⟩ := PA6
  obtain ⟨PA32, h41, h42⟩ := PA32
  obtain ⟨PB, h51, h52⟩ := PB
  clear e hk
  have hz := zero31
  go_enter Tryd.func9, Tryd.ntmps9
  go_wp2_with fail
  go_region_held (fun w' => w'.cell? ⟨w.heap.size, 0, none⟩ = some (.int .i64 tick) ∧ w'.cell? ⟨w.heap.size, 1, none⟩ = some (.int .i64 cell) ∧ w'.cell? ⟨w.heap.size, 2, none⟩ = some (.int .i64 kind) ∧ w'.cell? ⟨w.heap.size, 3, none⟩ = some (.int .i64 pc)) (go_keep) (first
    | (go_at_call 4; (with_reducible show Calls _ 4 #[_, .int .i64 9223372036854775807] _ _); refine (PT.out _).mono ?_; rintro e w' ⟨rfl, rfl⟩)
    | (go_at_call 4; (with_reducible show Calls _ 4 #[_, .int .i64 8] _ _); refine (PC.out _).mono ?_; rintro e w' ⟨rfl, rfl⟩)
    | (go_at_call 4; (with_reducible show Calls _ 4 #[_, .int .i64 7] _ _); refine (PK.out _).mono ?_; rintro e w' ⟨rfl, rfl⟩))
  all_goals
    go_wp2_with fail
    refine end_row2 w _ _ _ _ rfl rfl ?_
    refine ⟨⟨_, _, _, _, _, _⟩, rfl, ?_, ?_⟩
    · refine ⟨?_, ?_, ?_, ?_, ?_, ?_⟩ <;> dsimp only [u32in] <;> omega
    · repeat first
        | exact Below.refl _ _
        | refine Below.setCell ?_ (by simp) _
        | refine Below.drew ?_
        | refine Below.alloc ?_ (by simp <;> omega) _
end Go.Proofs.YtpeonoimdmdmlaaDoor.Tr
