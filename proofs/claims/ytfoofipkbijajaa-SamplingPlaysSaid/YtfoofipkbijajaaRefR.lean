/- The document's port: Read: contract. No statement of the seat is proved here. -/
import Derived.Test.YtfoofipkbijajaaRefB
namespace Go.Proofs.Ytfoofipkbijajaa.Sa
open Go.RowKit Go.Proofs.Ytfoofipkbijajaa.Kit
set_option linter.unusedSimpArgs false
set_option linter.unusedVariables false
/-- What Read tells. -/
def rdata (P : PA) (c : Int) : List Int := if c ∈ P.rs then P.A.data else []
def rtick (P : PA) (c : Int) : Nat := if c ∈ P.rs then P.A.tick else 0
def rthere (P : PA) (c : Int) : Bool := if c ∈ P.rs then P.A.there else false
def rerr (P : PA) (c : Int) : Int := if c ∈ P.rs then 0 else 161
theorem read_all (w : World) (b : Nat) (F : Nat → Prop) (P : PA) (h : PortIs w b F P) (c : Int) :
    Calls Try.prog 11 #[.pointer (some ⟨b, 0, none⟩), .int .i64 c] w fun e w' => ∃ v, e = .returned (.tuple #[v, .int .u64 (rtick P c), .bool (rthere P c), .int .i64 (rerr P c)]) ∧ Own w' w.heap.size v (rdata P c) ∧ (rdata P c).length * 1 ≤ 140737488351232 ∧ Chg w w' none := by
  by_cases hc : c ∈ P.rs
  · refine (read_ok w b F P h c hc).mono ?_
    rintro e w' ⟨v, rfl, ho, hl, hC⟩
    refine ⟨v, by simp [rtick, rthere, rerr, hc], ?_, ?_, hC⟩
    · rw [show rdata P c = P.A.data from if_pos hc]; exact ho
    · rw [show rdata P c = P.A.data from if_pos hc]; exact hl
  · refine (read_who w b F P h c hc).mono ?_
    rintro e w' ⟨rfl, rfl⟩
    refine ⟨_, by simp [rtick, rthere, rerr, hc]; rfl, ?_, ?_, Chg.refl _ _⟩
    · rw [show rdata P c = [] from if_neg hc]; exact own_nil _ _
    · rw [show rdata P c = [] from if_neg hc]; simp
set_option maxRecDepth 4000 in
set_option maxHeartbeats 2000000 in
theorem rread_all (w : World) (b : Nat) (F : Nat → Prop) (P : PA) (h : RefIs w b F P) (c : Int) :
    Calls Try.prog 34 #[.pointer (some ⟨b, 0, none⟩), .int .i64 c] w fun e w' => ∃ v, e = .returned (.tuple #[v, .int .u64 (rtick P c), .bool (rthere P c), .int .i64 (rerr P c)]) ∧ Own w' w.heap.size v (rdata P c) ∧ Chg w w' none := by
  obtain ⟨⟨rv, da, db, hrow, hr, ha, hbb, k1, k2, k3⟩, hoff, hlt⟩ := h
  have HR := Lib.hid hr
  obtain ⟨⟨A, cap, rfl, hcap, hcc⟩, hf⟩ := hr
  have c2 : w.cell? ⟨b, 2, none⟩ = some (.slice A P.rs.length cap) := by rw [cell_of_row _ _ _ _ _ _ hrow]; rfl
  have c3 : w.cell? ⟨b, 3, none⟩ = some (.bool P.A.there) := by rw [cell_of_row _ _ _ _ _ _ hrow]; rfl
  have c5 : w.cell? ⟨b, 5, none⟩ = some da := by rw [cell_of_row _ _ _ _ _ _ hrow]; rfl
  have c6 : w.cell? ⟨b, 6, none⟩ = some (.int .u64 P.A.tick) := by rw [cell_of_row _ _ _ _ _ _ hrow]; rfl
  have HROW := Lib.hid hrow
  have HA := Lib.hid ha
  have hblt : b < w.heap.size := (Array.getElem?_eq_some_iff.1 hrow).1
  clear ha hbb k1 k2 k3 hlt hoff hrow hcc
  go_enter Try.func34, Try.ntmps34
  go_wp2_with fail
  go_loopw [8] (fun i wr => wr = w ∧ ∃ k : Nat, k ≤ P.rs.length ∧ i = .int .i64 k ∧ Hid (∀ j, j < k → nth P.rs j ≠ c)) (fun i _ => P.rs.length - (intOf i).toNat)
  case atStart => exact ⟨rfl, 0, by omega, rfl, Lib.hid fun j hj => by omega⟩
  case round =>
    obtain ⟨rfl, k, hk, rfl, hno⟩ := hrel
    by_cases hlt : k < P.rs.length
    · obtain ⟨g, o, rfl, hcell⟩ := HR.out.at_ k hlt
      by_cases he : nth P.rs k = c
      · have hb : (nth P.rs k == c) = true := by simpa using he
        have hin : c ∈ P.rs := by rw [← he]; exact nth_mem hlt
        have HE := Lib.hid (show rdata P c = P.A.data ∧ rtick P c = P.A.tick ∧ rthere P c = P.A.there ∧ rerr P c = 0 from by simp [rdata, rtick, rthere, rerr, hin])
        clear he hin
        go_wp2
        clear c2 hcell
        go_region_held (fun w' => w'.cell? ⟨b, 3, none⟩ = some (.bool P.A.there) ∧ w'.cell? ⟨b, 5, none⟩ = some da ∧ w'.cell? ⟨b, 6, none⟩ = some (.int .u64 P.A.tick)) (go_keep) (first | (go_at_call 39; refine (copied39 wr.drew _ P.A.data ⟨HA.out.shape, HA.out.few⟩).mono ?_; rintro e w' ⟨v', rfl, hown, hgr⟩; obtain ⟨A', c', rfl⟩ := own_slice hown; have hr1 := Lib.hid ((hgr.block _ hblt (by simp)).trans HROW.out); have e0 : w'.cell? ⟨b, 3, none⟩ = some (.bool P.A.there) := (by rw [cell_of_row _ _ _ _ _ _ hr1.out]; rfl); have e1 : w'.cell? ⟨b, 5, none⟩ = some da := (by rw [cell_of_row _ _ _ _ _ _ hr1.out]; rfl); have e2 : w'.cell? ⟨b, 6, none⟩ = some (.int .u64 P.A.tick) := (by rw [cell_of_row _ _ _ _ _ _ hr1.out]; rfl); have hown' := Lib.hid hown; have hgr' := Lib.hid hgr; clear hown hgr))
        go_wp2
        refine bodyPost_ret (results_tmp4 rfl _ _ _) rfl ?_
        rw [HE.out.1, HE.out.2.1, HE.out.2.2.1, HE.out.2.2.2]
        exact ⟨_, rfl, hown'.out, ⟨hgr'.out.os, hgr'.out.tape, hgr'.out.output, hgr'.out.size, hgr'.out.block⟩⟩
      · have hb : (nth P.rs k == c) = false := by simpa using he
        have HE := Lib.hid he
        clear he
        go_wp2
        go_roundw
        case rel => exact ⟨trivial, k + 1, by omega, by go_num, Lib.hid fun j hj => by
          by_cases e : j = k
          · subst e; exact HE.out
          · exact hno.out j (by omega)⟩
        case measure => simp [intOf]; omega
    · obtain rfl : k = P.rs.length := by omega
      have hnot : ¬ c ∈ P.rs := fun hx => by
        obtain ⟨i, hi, e⟩ := mem_nth hx
        exact hno.out i hi e
      have HE := Lib.hid (show rdata P c = [] ∧ rtick P c = 0 ∧ rthere P c = false ∧ rerr P c = 161 from by simp [rdata, rtick, rthere, rerr, hnot])
      clear hnot
      go_wp2
      refine bodyPost_ret (results_tmp4 rfl _ _ _) rfl ?_
      rw [HE.out.1, HE.out.2.1, HE.out.2.2.1, HE.out.2.2.2]
      exact ⟨_, rfl, own_nil _ _, Chg.refl _ _⟩
end Go.Proofs.Ytfoofipkbijajaa.Sa
