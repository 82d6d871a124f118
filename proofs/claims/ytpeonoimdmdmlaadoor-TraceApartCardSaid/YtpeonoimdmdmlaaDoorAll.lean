/- all (some observations that may be, of raw ones): contract. No statement of the seat is proved here. -/
import Derived.Test.YtpeonoimdmdmlaaDoorTwin
import Derived.Test.YtpeonoimdmdmlaaDoorDig
namespace Go.Proofs.YtpeonoimdmdmlaaDoor.Tr
open Go.RowKit Go.Proofs.YtpeonoimdmdmlaaDoor.Kit
set_option linter.unusedSimpArgs false
set_option linter.unusedVariables false
/-- Raw observations. -/
structure Rs (w : World) (v : Value) (rs : List Rw) : Prop where
  at_ : ∃ A cap, v = .slice A rs.length cap ∧ (0 < rs.length → ∃ g o, A = some ⟨g, o, none⟩ ∧ ∀ k (h : k < rs.length) i u, (rc rs[k])[i]? = some u → w.cell? ⟨g, o + k * 6 + i, none⟩ = some u)
  okay : ∀ r ∈ rs, r.okay
theorem oneb : ∀ o : Ob, ∀ u ∈ rows oc [o], u.oneCell' = true := fun o => oc_one [o]
theorem rows_one (o : Ob) : rows oc [o] = oc o := by simp [rows]
theorem new_one (W : World) (o : Ob) : ∀ j u, (rows oc [o])[j]? = some u → (W.alloc (.cells (oc o).toArray 31)).cell? ((⟨W.heap.size, 0, none⟩ : Addr).add j) = some u := fun j u hu => by
  rw [Addr.add_mid, Nat.zero_add, cell_of_row _ _ _ _ _ _ (heap_alloc_last W _), ← Array.getElem?_toList]; rw [rows_one] at hu; exact hu
set_option maxRecDepth 4000 in
set_option maxHeartbeats 4000000 in
theorem all_any (w : World) (v : Value) (rs : List Rw) (h : Rs w v rs) : Calls Tryd.prog 5 #[v] w fun e w' => ∃ v' L, e = .returned v' ∧ Os w' w.heap.size v' L ∧ (∀ o ∈ L, Ok o) ∧ L.length ≤ 200 ∧ Below w.heap.size w w' := by
  obtain ⟨i0, hi, hz0, hz1, hz2⟩ := info_parts info31'
  obtain ⟨⟨A, cap, rfl, hel⟩, hok⟩ := h
  have HE := Lib.hid hel
  have HO := Lib.hid hok
  have hz31 := zero31
  obtain ⟨n, hn⟩ : ∃ n, n = rs.length := ⟨_, rfl⟩
  have HN := Lib.hid hn
  rw [← hn]
  clear hel hok hn
  go_enter Tryd.func5, Tryd.ntmps5
  go_wp2_with fail
  go_loopw [3, 4] (fun u i wr => ∃ L : List Ob, L.length ≤ 200 ∧ L.length ≤ n ∧ i = .int .i64 L.length ∧ Hid (Os wr w.heap.size u L ∧ (∀ o ∈ L, Ok o) ∧ Below w.heap.size w wr)) (fun _ i _ => 200 - (intOf i).toNat)
  case atStart => exact ⟨[], by simp, by simp, rfl, Lib.hid ⟨World.ownsRow_nil _ _ _ _, by simp, Below.refl _ _⟩⟩
  case round =>
    obtain ⟨L, hl2, hln, rfl, I⟩ := hrel
    obtain ⟨A3, cap3, rfl⟩ := I.out.1.slice
    obtain ⟨k, hk⟩ : ∃ k, k = L.length := ⟨_, rfl⟩
    have HK := Lib.hid hk
    have OW := Lib.hid (show wr.ownsRow w.heap.size 31 6 (.slice A3 L.length cap3) L.length (rows oc L) from I.out.1)
    rw [← hk] at hl2 hln OW ⊢
    clear hk
    have FE := Lib.hid (show Os wr w.heap.size (.slice A3 k cap3) L ∧ (∀ o ∈ L, Ok o) ∧ L.length ≤ 200 ∧ Below w.heap.size w wr from ⟨by show World.ownsRow _ _ _ _ _ L.length _; rw [← HK.out]; exact OW.out, I.out.2.1, by rw [← HK.out]; omega, I.out.2.2⟩)
    by_cases hlt : k < n
    · by_cases h200 : k < 200
      · have hk2 : k < rs.length := by rw [← HN.out]; exact hlt
        obtain ⟨g, o, hA, hc⟩ := HE.out (by omega)
        subst hA
        have hcr := hc k hk2
        have hgl : g < w.heap.size := World.block_lt_of_cell? w _ (hcr 0 _ rfl)
        have MA := Lib.hid (fun W => made_any W rs[k] (HO.out _ (List.getElem_mem hk2)))
        clear hc
        generalize rs[k] = x at *
        obtain ⟨tick, cell, kind, pc, a, b⟩ := x
        have e0 := (I.out.2.2.cell (p := ⟨g, o + k * 6 + 0, none⟩) hgl).trans (hcr 0 _ rfl)
        have e1 := (I.out.2.2.cell (p := ⟨g, o + k * 6 + 1, none⟩) hgl).trans (hcr 1 _ rfl)
        have e2 := (I.out.2.2.cell (p := ⟨g, o + k * 6 + 2, none⟩) hgl).trans (hcr 2 _ rfl)
        have e3 := (I.out.2.2.cell (p := ⟨g, o + k * 6 + 3, none⟩) hgl).trans (hcr 3 _ rfl)
        have e4 := (I.out.2.2.cell (p := ⟨g, o + k * 6 + 4, none⟩) hgl).trans (hcr 4 _ rfl)
        have e5 := (I.out.2.2.cell (p := ⟨g, o + k * 6 + 5, none⟩) hgl).trans (hcr 5 _ rfl)
        rw [Nat.add_zero] at e0
        simp only [rc] at MA
        clear hcr
        go_wp2_with fail
        refine (MA.out _).mono ?_
        rintro e w1 ⟨ob, rfl, hob, hb⟩
        have B1 := Lib.hid (I.out.2.2.trans (hb.mono I.out.2.2.size))
        have OW1 := Lib.hid (own_below OW.out hb)
        have HOB := Lib.hid hob
        have hw1 := B1.out.size
        clear hb hob e0 e1 e2 e3 e4 e5 MA
        have NEW := Lib.hid (new_one (w1.alloc (.cells (oc ob).toArray 31)) ob)
        have OW2 := Lib.hid ((OW1.out.alloc (.cells (oc ob).toArray 31)).alloc (.cells (oc ob).toArray 31))
        have ONE := Lib.hid (oneb ob)
        have R1 := Lib.hid (show (rows oc [ob]).length = 1 * 6 from rfl)
        have F := Lib.hid (show ∀ v5 W5, W5.ownsRow w.heap.size 31 6 v5 (k + 1) (rows oc L ++ rows oc [ob]) → ((w1.alloc (.cells (oc ob).toArray 31)).alloc (.cells (oc ob).toArray 31)).grownBy W5 (Value.slice A3 k cap3).ownBlock →
            Os W5 w.heap.size v5 (L ++ [ob]) ∧ (∀ o ∈ L ++ [ob], Ok o) ∧ Below w.heap.size w W5 from fun v5 W5 hown hgr => by
          refine ⟨?_, ?_, ?_⟩
          · show W5.ownsRow _ _ _ _ (L ++ [ob]).length (rows oc (L ++ [ob]))
            rw [List.length_append, rows_append, ← HK.out]; exact hown
          · intro o ho
            rcases List.mem_append.1 ho with h | h
            · exact I.out.2.1 o h
            · rw [List.mem_singleton.1 h]; exact HOB.out
          · have hb2 := (B1.out.alloc hw1 (.cells (oc ob).toArray 31)).alloc (by simp; omega) (.cells (oc ob).toArray 31)
            refine hb2.grown hgr hb2.size (fun j e => ?_)
            rcases OW2.out.2 with ⟨h, _⟩ | ⟨g, cap, cur, h, h1, _⟩
            · rw [h] at e; cases e
            · rw [h] at e; cases e; exact h1)
        have HL1 := Lib.hid (show (L ++ [ob]).length = k + 1 from by rw [List.length_append, ← HK.out]; rfl)
        clear OW OW1 HOB
        obtain ⟨tick, cell, kind, pc, a, b⟩ := ob
        simp only [oc] at NEW OW2 F ⊢
        go_wp2_with (at_builtin; refine wpList_append_own _ rfl (.tmp 21) (.tmp 23) 25 rfl w.heap.size 31 i0 (.agg #[.int .u64 0, .int .i64 0, .int .i64 0, .int .u32 0, .int .u32 0, .int .u32 0]) 6 40 Tryd.underlying25 hi hz0 hz1 hz2 rfl (by decide) (.slice A3 k cap3) k (rows oc L) rfl OW2.out ⟨w1.heap.size + 1, 0, none⟩ 1 1 (rows oc [⟨tick, cell, kind, pc, a, b⟩]) rfl R1.out (by simpa using NEW.out) ?qa ?qb ?qc ?qd ?_)
        case qa => exact ONE.out
        case qb => simp only [maxLen]; omega
        case qc => omega
        case qd => simp; omega
        intro v5 W5 hown hgr hnil
        have G := Lib.hid (F.out v5 W5 hown hgr)
        clear hown hgr hnil F
        go_wp2
        go_roundw
        case rel => exact ⟨L ++ [⟨tick, cell, kind, pc, a, b⟩], by rw [HL1.out]; omega, by rw [HL1.out]; omega, by rw [HL1.out]; go_num, G⟩
        case measure => simp [intOf]; omega
      · obtain rfl : k = 200 := by omega
        have d1 : decide ((200 : Int) < n) = true := by simp; omega
        go_wp2
        go_ret
        exact ⟨_, L, rfl, FE.out⟩
    · obtain rfl : k = n := by omega
      go_wp2
      go_ret
      exact ⟨_, L, rfl, FE.out⟩
end Go.Proofs.YtpeonoimdmdmlaaDoor.Tr
