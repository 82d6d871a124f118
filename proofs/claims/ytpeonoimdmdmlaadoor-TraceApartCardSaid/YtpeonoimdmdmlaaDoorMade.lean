/- made: contract. No statement of the seat is proved here. -/
import Derived.Test.YtpeonoimdmdmlaaDoorMadeA
import Derived.Test.YtpeonoimdmdmlaaDoorMadeB
import Derived.Test.YtpeonoimdmdmlaaDoorMadeC
namespace Go.Proofs.YtpeonoimdmdmlaaDoor.Tr
open Go.RowKit Go.Proofs.YtpeonoimdmdmlaaDoor.Kit
theorem made_any (w : World) (r : Rw) (h : r.okay) : Calls Tryd.prog 9 #[.agg (rc r).toArray] w fun e w' => ∃ o, e = .returned (.agg (oc o).toArray) ∧ Ok o ∧ Below w.heap.size w w' := by
  obtain ⟨tick, cell, kind, pc, a, b⟩ := r
  obtain ⟨ht, hc, hk, hp, ha, hb⟩ := h
  simp only at ht hc hk hp ha hb
  have kr := pk_range kind 7 (by omega)
  have hkk : pk kind 7 = 0 ∨ pk kind 7 = 1 ∨ pk kind 7 = 2 ∨ pk kind 7 = 3 ∨ pk kind 7 = 4 ∨ pk kind 7 = 5 ∨ pk kind 7 = 6 := by omega
  obtain ⟨t1, PT⟩ := pkd tick 9223372036854775807 ht (by omega) (by omega)
  obtain ⟨t2, PC⟩ := pkd cell 8 hc (by omega) (by omega)
  obtain ⟨t3, PA6⟩ := pkd a 6 ha (by omega) (by omega)
  obtain ⟨t4, PA32⟩ := pkd a 32 ha (by omega) (by omega)
  obtain ⟨t5, PB⟩ := pkd b 2147483648 hb (by omega) (by omega)
  rcases hkk with e | e | e | e | e | e | e
  · exact made_0 w tick cell kind pc a b hk e t1 t2 t3 t4 t5 PT PC PA6 PA32 PB
  · exact made_1 w tick cell kind pc a b hk e t1 t2 t3 t4 t5 PT PC PA6 PA32 PB
  · exact made_2 w tick cell kind pc a b hk e t1 t2 t3 t4 t5 PT PC PA6 PA32 PB
  · exact made_3 w tick cell kind pc a b hk e t1 t2 t3 t4 t5 PT PC PA6 PA32 PB
  · exact made_4 w tick cell kind pc a b hk e t1 t2 t3 t4 t5 PT PC PA6 PA32 PB
  · exact made_5 w tick cell kind pc a b hk e t1 t2 t3 t4 t5 PT PC PA6 PA32 PB
  · exact made_6 w tick cell kind pc a b hk e t1 t2 t3 t4 t5 PT PC PA6 PA32 PB
end Go.Proofs.YtpeonoimdmdmlaaDoor.Tr
