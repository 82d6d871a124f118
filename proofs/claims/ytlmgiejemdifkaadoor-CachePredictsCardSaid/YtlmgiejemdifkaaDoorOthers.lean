/- The document's others: its contract. No statement of the seat is proved here. -/
import Derived.Test.YtlmgiejemdifkaaDoorRfa
import Derived.Test.YtlmgiejemdifkaaDoorOth
namespace Go.Proofs.YtlmgiejemdifkaaDoor.Ca
open Go.RowKit Go.Proofs.YtlmgiejemdifkaaDoor.Kit
set_option linter.unusedSimpArgs false
set_option linter.unusedVariables false

def ucells (o : List Nat) : List Value := o.map (fun (n : Nat) => .int .u32 (n : Int))
theorem ucells_length (o : List Nat) : (ucells o).length = o.length * 1 := by simp [ucells]
theorem info34 : (Tryd.prog.info? 34).map (fun i => (i.zero, i.size, i.bytes)) = some (some (.int .u32 0), 1, 4) := by kernel_rfl
theorem line_lt (s : Shp) (us : List Us) (h : ∀ k, (unth us k).1 < 4294967296) (k : Nat) : lineOf s us k < 4294967296 := Nat.lt_of_le_of_lt (Nat.div_le_self _ _) (h k)
set_option maxRecDepth 100000 in
set_option maxHeartbeats 8000000 in
theorem others_any (w : World) (b : Nat) (s : Shp) (hf : RcF w b s) (v1 : Value) (us : List Us) (h1 : Ru w v1 us) (hbig : us.length * 16 ≤ 140737488355328) (i : Nat) (hi : i < us.length) :
    Calls Tryd.prog 67 #[.pointer (some ⟨b, 0, none⟩), v1, .int .i64 i] w fun e w' => ∃ v', e = .returned (.tuple #[v', .bool (oth s us (lineOf s us i) i []).2]) ∧
      w'.ownsRow w.heap.size 34 1 v' (oth s us (lineOf s us i) i []).1.length (ucells (oth s us (lineOf s us i) i []).1) ∧ Chg w w' none := by
  have OK := Lib.hid h1.okay
  have H1 := Lib.hid h1
  have HF := Lib.hid hf
  obtain ⟨A, cap, rfl⟩ : ∃ A cap, v1 = .slice A us.length cap := by obtain ⟨⟨A, cap, h, _⟩, _, _⟩ := h1; exact ⟨A, cap, h⟩
  obtain ⟨ab, ao, hA, hc0, hc1⟩ := h1.at_ i hi
  subst hA
  have hbl := World.block_lt_of_cell? w _ hf.1
  have RD := Lib.hid (fun X (hC : Chg w X none) k (hk : k < us.length) => show X.cell? ⟨ab, ao + k * 2, none⟩ = some (.int .u32 (unth us k).1) by
    obtain ⟨a2, o2, e, q0, q1⟩ := H1.out.at_ k hk
    injection e with e
    injection e with e1 e2 _
    subst e1 e2
    exact cell_kept q0 hC (by simp))
  have LN := Lib.hid (fun X (hC : Chg w X none) k => show Calls Tryd.prog 55 #[.pointer (some ⟨b, 0, none⟩), .int .u32 (unth us k).1] X fun e w' => e = .returned (.int .u32 (lineOf s us k : Nat)) ∧ X = w' from rline_any X b s (HF.out.kept hC (by simp)) _ (OK.out k))
  have ST := Lib.hid (fun X (hC : Chg w X none) n (hn : n < 4294967296) => rset_any X b s (HF.out.kept hC (by simp)) n hn)
  obtain ⟨i0, hi0, hz0, hz1, hz2⟩ := info_parts info34
  have hfew : us.length ≤ 8796093022208 := by omega
  obtain ⟨own, hown⟩ : ∃ own, own = lineOf s us i := ⟨_, rfl⟩
  have HOW := Lib.hid (show own < 4294967296 by rw [hown]; exact line_lt s us OK.out i)
  rw [← hown]
  have HO := Lib.hid hown
  clear h1 hf hown hc1
  go_enter Tryd.func67, Tryd.ntmps67
  go_wp2_with fail
  refine (LN.out w (Chg.refl _ _) i).mono ?_
  rw [← HO.out]
  rintro e w1 ⟨rfl, rfl⟩
  clear hc0
  go_wp2_with fail
  go_loopw [9, 10] (fun v9 k wr => ∃ (m : Nat) (o : List Nat), m ≤ i ∧ o.length + m ≤ i ∧ k = .int .i64 ((m : Int) - 1) ∧ Hid (Chg w wr none ∧ wr.ownsRow w.heap.size 34 1 v9 o.length (ucells o) ∧ oth s us own i [] = oth s us own m o ∧ (∀ x ∈ o, x < 4294967296))) (fun _ k _ => (intOf k + 1).toNat)
  case atStart => exact ⟨i, [], by omega, by simp, rfl, Lib.hid ⟨Chg.refl _ _, World.ownsRow_nil _ _ _ _, rfl, by simp⟩⟩
  case round =>
    obtain ⟨m, o, hm, hom, rfl, I⟩ := hrel
    cases m with
    | zero =>
      have F := Lib.hid (show oth s us own i [] = (o, false) from I.out.2.2.1)
      go_wp2
      go_ret2
      rw [F.out]
      exact ⟨_, rfl, I.out.2.1, I.out.1⟩
    | succ m =>
      have em : ((m + 1 : Nat) : Int) - 1 = (m : Int) := by omega
      rw [em]
      clear em
      have hc := RD.out wr I.out.1 m (by omega)
      have hml : m < us.length := by omega
      go_wp2_with fail
      refine (LN.out wr I.out.1 m).mono ?_
      rintro e w2 ⟨rfl, rfl⟩
      have NL := Lib.hid (line_lt s us OK.out m)
      have OE := Lib.hid (show oth s us own (m + 1) o = if lineOf s us m = own then (o, true) else if lineOf s us m % s.S ≠ own % s.S ∨ lineOf s us m ∈ o then oth s us own m o else oth s us own m (o ++ [lineOf s us m]) from rfl)
      generalize lineOf s us m = n at *
      by_cases he : n = own
      · subst he
        have F := Lib.hid (show oth s us n i [] = (o, true) by rw [I.out.2.2.1, OE.out, if_pos rfl])
        go_wp2
        go_ret2
        rw [F.out]
        exact ⟨_, rfl, I.out.2.1, I.out.1⟩
      · have hen : ((n : Int) == (own : Int)) = false := by simp; omega
        go_wp2_with fail
        refine (ST.out wr I.out.1 n NL.out).mono ?_
        rintro e w3 ⟨rfl, rfl⟩
        go_wp2_with fail
        refine (ST.out wr I.out.1 own HOW.out).mono ?_
        rintro e w4 ⟨rfl, rfl⟩
        clear hc
        obtain ⟨k0, hk0⟩ : ∃ k0 : Bool, k0 = decide (n % s.S ≠ own % s.S) := ⟨_, rfl⟩
        have hne : (((n : Int) % (s.S : Int)) != ((own : Int) % (s.S : Int))) = k0 := by
          rw [hk0]
          have e1 : (n : Int) % (s.S : Int) = ((n % s.S : Nat) : Int) := (Int.natCast_emod n s.S).symm
          have e2 : (own : Int) % (s.S : Int) = ((own % s.S : Nat) : Int) := (Int.natCast_emod own s.S).symm
          rw [e1, e2]
          by_cases h : n % s.S = own % s.S
          · rw [h]; simp
          · have : ¬ ((n % s.S : Nat) : Int) = ((own % s.S : Nat) : Int) := by omega
            simp only [ne_eq, h, not_false_eq_true, decide_true, bne_iff_ne]
            exact this
        have HK0 := Lib.hid hk0
        clear hk0
        have hmi : m < i := by omega
        have OW := Lib.hid I.out.2.1
        obtain ⟨A9, c9, hv9⟩ : ∃ A c, u9 = .slice A o.length c := by
          rcases OW.out.2 with ⟨h, h0⟩ | ⟨g, c, cur, h, _⟩
          · exact ⟨none, 0, by rw [h, h0]⟩
          · exact ⟨_, c, h⟩
        subst hv9
        have CE := Lib.hid (fun j (hj : j < o.length) => show ∃ g, A9 = some ⟨g, 0, none⟩ ∧ wr.cell? ⟨g, j, none⟩ = some (.int .u32 ((o.getD j 0 : Nat) : Int)) by
          rcases OW.out.2 with ⟨h, h0⟩ | ⟨g, c, cur, h, _⟩
          · omega
          · injection h with h _ _
            refine ⟨g, h, ?_⟩
            have := OW.out.cells (g := g) (by rw [h]; rfl) j (.int .u32 ((o.getD j 0 : Nat) : Int)) (by simp [ucells, hj])
            rw [Addr.add_mid, Nat.zero_add] at this
            exact this)
        have ho43 : o.length ≤ 8796093022208 := by omega
        go_wp2_with fail
        obtain ⟨w8, e8⟩ : ∃ X, X = wr := ⟨_, rfl⟩
        subst e8
        have I1 := Lib.hid (show (Value.bool k0) = .bool (k0 || decide (n ∈ o.take 0)) by simp)
        go_loopw [12, 13] (fun v12 j wx => ∃ jj : Nat, jj ≤ o.length ∧ j = .int .i64 jj ∧ Hid (wx = w8) ∧ Hid (v12 = .bool (k0 || decide (n ∈ o.take jj)))) (fun _ j _ => o.length - (intOf j).toNat)
        case atStart => exact ⟨0, by omega, rfl, Lib.hid rfl, I1⟩
        case round =>
          obtain ⟨jj, hjj, rfl, EW, EV⟩ := hrel
          obtain rfl := EW.out
          obtain ⟨b1, hb1⟩ : ∃ b1, b1 = (k0 || decide (n ∈ o.take jj)) := ⟨_, rfl⟩
          have EV2 := EV.out
          rw [← hb1] at EV2
          subst EV2
          have HB1 := Lib.hid hb1
          clear hb1 EV EW I1
          by_cases hlt : jj < o.length
          · obtain ⟨g, rfl, hcg⟩ := CE.out jj hlt
            have hnx : (n ∈ o.take (jj + 1)) ↔ (n ∈ o.take jj ∨ o.getD jj 0 = n) := by
              rw [List.take_succ_eq_append_getElem hlt, List.mem_append, List.mem_singleton]
              simp [hlt, eq_comm]
            have HNX := Lib.hid hnx
            clear hnx
            generalize o.getD jj 0 = z at *
            cases b1 with
            | true =>
              have F := Lib.hid (show Value.bool true = .bool (k0 || decide (n ∈ o.take (jj + 1))) by
                congr 1
                have := HB1.out
                cases k0 with
                | true => rfl
                | false =>
                  have h : n ∈ o.take jj := by simpa using this.symm
                  simp [HNX.out, h])
              go_wp2
              go_roundw
              case rel => exact ⟨jj + 1, by omega, by first | rfl | go_num, by first | exact Lib.hid rfl | exact Lib.hid trivial, F⟩
              case measure => simp [intOf]; omega
            | false =>
              have hk : k0 = false ∧ n ∉ o.take jj := by
                have := HB1.out
                cases k0 with
                | true => simp at this
                | false => exact ⟨rfl, by simpa using this.symm⟩
              have F := Lib.hid (fun bb (h : bb = decide (z = n)) => show Value.bool bb = .bool (k0 || decide (n ∈ o.take (jj + 1))) by
                rw [hk.1, h]; simp [HNX.out, hk.2])
              by_cases hz : z = n
              · have hx : ((z : Int) == (n : Int)) = true := by simp; omega
                have F2 := Lib.hid (F.out true (by simp [hz]))
                clear hk hz F
                go_wp2
                go_roundw
                case rel => exact ⟨jj + 1, by omega, by first | rfl | go_num, by first | exact Lib.hid rfl | exact Lib.hid trivial, F2⟩
                case measure => simp [intOf]; omega
              · have hx : ((z : Int) == (n : Int)) = false := by simp; omega
                have F2 := Lib.hid (F.out false (by simp [hz]))
                clear hk hz F
                go_wp2
                go_roundw
                case rel => exact ⟨jj + 1, by omega, by first | rfl | go_num, by first | exact Lib.hid rfl | exact Lib.hid trivial, F2⟩
                case measure => simp [intOf]; omega
          · have hall : b1 = (k0 || decide (n ∈ o)) := by
              rw [HB1.out]
              rw [List.take_of_length_le (by omega)]
            have HAL := Lib.hid hall
            clear hall HB1
            cases b1 with
            | true =>
              have F := Lib.hid (show Chg w wr none ∧ wr.ownsRow w.heap.size 34 1 (.slice A9 o.length c9) o.length (ucells o) ∧ oth s us own i [] = oth s us own m o ∧ (∀ x ∈ o, x < 4294967296) from
                ⟨I.out.1, I.out.2.1, by
                  rw [I.out.2.2.1, OE.out, if_neg he, if_pos]
                  have := HAL.out
                  rw [HK0.out] at this
                  simpa using this.symm, I.out.2.2.2⟩)
              go_wp2
              go_roundw
              case rel => exact ⟨m, o, by omega, by omega, by first | rfl | go_num, F⟩
              case measure => simp [intOf] <;> omega
            | false =>
              have hno : ¬ (n % s.S ≠ own % s.S ∨ n ∈ o) := by
                have := HAL.out
                rw [HK0.out] at this
                simpa using this.symm
              have HN := Lib.hid hno
              clear hno
              have hbs := I.out.1.size
              go_wp2_with (at_builtin; refine wpList_append_own _ rfl (.tmp 62) (.tmp 64) 57 rfl w.heap.size 34 i0 (.int .u32 0) 1 4 Tryd.underlying57 hi0 hz0 hz1 hz2 rfl (by decide) _ o.length (ucells o) rfl (OW.out.alloc _) ⟨wr.heap.size, 0, none⟩ 1 1 (ucells [n]) rfl rfl ?qn ?qa ?qb ?qc ?qd ?_)
              case qn =>
                intro j u hu
                rw [Addr.add_mid, Nat.zero_add, cell_of_row _ _ _ _ _ _ (heap_alloc_last wr _)]
                rw [← hu]; simp [ucells]
              case qa =>
                intro u hu
                simp only [ucells, List.map_cons, List.map_nil, List.mem_cons, List.not_mem_nil, or_false] at hu
                subst hu; rfl
              case qb => simp only [maxLen]; omega
              case qc => omega
              case qd => first | omega | (simp; omega)
              intro v7 w7 hown7 hg hnil
              have F := Lib.hid (show Chg w w7 none ∧ w7.ownsRow w.heap.size 34 1 v7 (o ++ [n]).length (ucells (o ++ [n])) ∧ oth s us own i [] = oth s us own m (o ++ [n]) ∧ (∀ x ∈ o ++ [n], x < 4294967296) from
                ⟨own_trans (I.out.1.alloc _) hg (fun g e => (OW.out.lt g e).1), by
                  rw [List.length_append, show ucells (o ++ [n]) = ucells o ++ ucells [n] by simp [ucells]]; exact hown7, by
                  rw [I.out.2.2.1, OE.out, if_neg he, if_neg HN.out], by
                  intro x hx
                  rcases List.mem_append.1 hx with h | h
                  · exact I.out.2.2.2 x h
                  · obtain rfl : x = n := by simpa using h
                    exact NL.out⟩)
              have hl2 : (o ++ [n]).length + m ≤ i := by simp; omega
              clear hown7 hg hnil
              go_wp2
              go_roundw
              case rel => exact ⟨m, o ++ [n], by omega, hl2, by first | rfl | go_num, F⟩
              case measure => simp [intOf] <;> omega
end Go.Proofs.YtlmgiejemdifkaaDoor.Ca
