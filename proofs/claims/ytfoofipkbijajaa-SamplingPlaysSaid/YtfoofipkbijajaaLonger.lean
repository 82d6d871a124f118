/- longer: contract. No statement of the seat is proved here. -/
import Derived.Test.YtfoofipkbijajaaBook
namespace Go.Proofs.Ytfoofipkbijajaa.Sa
open Go.RowKit Go.Proofs.Ytfoofipkbijajaa.Kit
set_option linter.unusedSimpArgs false
set_option linter.unusedVariables false
theorem byte_news (W : World) (x : Int) : ∀ j u, [Value.int .u8 x][j]? = some u → (W.alloc (.cells #[.int .u8 x] 5)).cell? ((⟨W.heap.size, 0, none⟩ : Addr).add j) = some u := fun j u hu => by
  rw [Addr.add_mid, Nat.zero_add, cell_of_row _ _ _ _ _ _ (heap_alloc_last W _), ← Array.getElem?_toList]; exact hu
/-- A list that grows out of v. -/
structure Lg (w wr : World) (base : Nat) (v : Value) (xs : List Int) (m : Int) (i : Nat) (u : Value) : Prop where
  new : wr.ownsRow base 5 1 u (xs.length + i) ((xs ++ List.replicate i m).map (Value.int .u8))
  old : Own wr base v xs
  chg : Chg w wr v.ownBlock
  where_ : u.ownBlock = v.ownBlock ∨ ∃ g, u.ownBlock = some g ∧ w.heap.size ≤ g
theorem Lg.step {w wr W5 : World} {base : Nat} {v u u' : Value} {xs : List Int} {m : Int} {i : Nat} (h : Lg w wr base v xs m i u) (hv : ∀ g, v.ownBlock = some g → g < w.heap.size)
    (hown : W5.ownsRow base 5 1 u' (xs.length + i + 1) ((xs ++ List.replicate i m).map (Value.int .u8) ++ [.int .u8 m])) (h2 : Kit.Two (wr.alloc (.cells #[.int .u8 m] 5)) W5 u u' (xs.length + i) 1) : Lg w W5 base v xs m (i + 1) u' := by
  have ha : Chg wr (wr.alloc (.cells #[.int .u8 m] 5)) none := (Chg.refl wr none).alloc _
  have ho : (wr.alloc (.cells #[.int .u8 m] 5)).ownsRow base 5 1 u (xs.length + i) _ := h.new.alloc _
  have hv2 : (wr.alloc (.cells #[.int .u8 m] 5)).ownsRow base 5 1 v xs.length _ := h.old.alloc _
  have hg := h2.grown
  have hsz := h.chg.size
  refine ⟨?_, ?_, ?_, ?_⟩
  · have e : (xs ++ List.replicate (i + 1) m).map (Value.int .u8) = (xs ++ List.replicate i m).map (Value.int .u8) ++ [.int .u8 m] := by
      rw [List.replicate_succ', ← List.append_assoc, List.map_append]; rfl
    rw [e]; exact hown
  · refine h2.pre (by decide) hv2 ho hown (fun _ => ⟨(List.replicate i m).map (Value.int .u8), by rw [List.map_append], by omega⟩)
  · rcases h.where_ with e | ⟨g, e, hlt⟩
    · rw [e] at hg
      exact h.chg.trans ((ha.any _).trans hg)
    · rw [e] at hg
      exact h.chg.trans_new ((ha.any _).trans hg) hlt
  · rcases h2.where_ with e | e
    · rw [e]; exact h.where_
    · exact .inr ⟨_, e, by simp; omega⟩
set_option maxHeartbeats 2000000 in
theorem longer_any (w : World) (base : Nat) (hbase : base ≤ w.heap.size) (v : Value) (xs : List Int) (h : Own w base v xs) (hl : xs.length ≤ 1000) (m : Int) :
    Calls Try.prog 40 #[v, .int .u8 m] w fun e w' => ∃ v', e = .returned v' ∧ Lg w w' base v xs m 64 v' := by
  obtain ⟨i0, hi, hz0, hz1, hz2⟩ := info_parts info5
  have hv := own_size h
  have L0 := Lib.hid (show Lg w w base v xs m 0 v from ⟨by simpa using h, h, Chg.refl _ _, .inl rfl⟩)
  have HV := Lib.hid hv
  obtain ⟨n, hn⟩ : ∃ n, n = xs.length := ⟨_, rfl⟩
  have HN := Lib.hid hn
  rw [← hn] at hl
  clear h hv hn
  go_enter Try.func40, Try.ntmps40
  go_wp2_with fail
  go_loopw [0, 5] (fun u i wr => ∃ k : Nat, k ≤ 64 ∧ i = .int .i64 k ∧ Hid (Lg w wr base v xs m k u)) (fun _ i _ => 64 - (intOf i).toNat)
  case atStart => exact ⟨0, by omega, rfl, L0⟩
  case round =>
    obtain ⟨k, hk, rfl, I⟩ := hrel
    obtain ⟨A, cap, rfl⟩ := own_slice I.out.new
    have hsz := I.out.chg.size
    have OW := Lib.hid (I.out.new.alloc (.cells #[.int .u8 m] 5))
    have NE := Lib.hid (byte_news wr m)
    have ST := Lib.hid (fun W5 u' hown h2 => I.out.step (W5 := W5) (u' := u') HV.out hown h2)
    rw [← HN.out] at OW ST ⊢
    by_cases hlt : k < 64
    · generalize hzs : (xs ++ List.replicate k m).map (Value.int .u8) = zs at *
      go_wp2_with (at_builtin; refine wpList_append_two _ rfl (.tmp 10) (.tmp 12) 33 rfl base 5 i0 (.int .u8 0) 1 1 Try.underlying33 hi hz0 hz1 hz2 rfl (by decide) (.slice A (n + k) cap) (n + k) zs rfl OW.out ⟨wr.heap.size, 0, none⟩ 1 1 [.int .u8 m] rfl rfl NE.out ?qa (by decide) ?qb ?qc ?qd ?_)
      case qa => intro u hu; simp at hu; subst hu; rfl
      case qb => simp only [maxLen]; omega
      case qc => omega
      case qd => simp; omega
      intro u' W5 hown h2
      have J := Lib.hid (ST.out W5 u' hown h2)
      clear hown h2 OW NE ST I
      go_wp2
      go_roundw
      case rel => exact ⟨k + 1, by omega, by go_num, J⟩
      case measure => simp [intOf]; omega
    · obtain rfl : k = 64 := by omega
      have F := I
      rw [← HN.out] at F
      go_wp2
      go_ret
      exact ⟨_, rfl, by have := I.out; rw [← HN.out] at this; exact this⟩
end Go.Proofs.Ytfoofipkbijajaa.Sa
