/- looks: the walk (put together by gen_looks.py). No statement of the seat is proved here. -/
import Derived.Test.YtfoofipkbijajaaLastly
namespace Go.Proofs.Ytfoofipkbijajaa.Sa
open Go.RowKit Go.Proofs.Ytfoofipkbijajaa.Kit
set_option linter.unusedSimpArgs false
set_option linter.unusedVariables false
/-- Between two rounds of the marking. -/
def PB (w wr : World) (b : Nat) (T : Nat → Nat) (c : Nat) (ls : List En) (hs fs : List Fr) (Ah : Option Addr) (nh ch k : Nat) (ct : Nat → List Int) : Prop :=
  ∃ T2 R, Mid wr b T2 c ls hs fs (ls ++ marked ls.length hs k) ct R ∧ (∀ j, j < k → ∀ h : j < hs.length, ct j = List.replicate hs[j].xs.length (mkm ls.length j)) ∧ R.vh = .slice Ah nh ch ∧ (∀ x, x < w.heap.size → ¬ Bt (T x) → T2 x = T x) ∧ Fz w wr T Bt
/-- Behind 'b.l = append(b.l, longer(..))'. -/
def CutL (wr wx : World) (b : Nat) (v : Value) (n1 : Nat) (xs : List Int) (m : Int) (R : BR) (N : Nat) (ys : List Value) : Prop :=
  ∃ w4 A4 c4 vl2, Lg wr w4 0 v xs m 64 (.slice A4 (n1 + 64) c4) ∧ Ps w4 wx b (R.cs.setIfInBounds 0 vl2) 33 R.vl vl2 (N + 1) (ys ++ [.slice A4 (n1 + 64) c4])
theorem cur_at (ls : List En) (hs : List Fr) (lg : List En) {k q : Nat} (hq : q < k) : (ls ++ marked ls.length hs k ++ lg)[ls.length + q]? = some (pe ls.length hs q) := by
  rw [List.append_assoc, List.getElem?_append_right (by omega), Nat.add_sub_cancel_left, List.getElem?_append_left (by rw [marked_len]; exact hq)]
  simp [marked, hq]
theorem mid_at {wr : World} {b : Nat} {T : Nat → Nat} {c : Nat} {ls : List En} {hs fs : List Fr} {k q : Nat} {lg : List En} {ct : Nat → List Int} {R : BR} (M : Mid wr b T c ls hs fs (ls ++ marked ls.length hs k ++ lg) ct R) (hq : q < k) (hh : q < hs.length) :
    ∃ gl cl gm cm, R.vl = .slice (some ⟨gl, 0, none⟩) (ls.length + k + lg.length) cl ∧ wr.cell? ⟨gl, ls.length + q, none⟩ = some hs[q].v ∧ R.vm = .slice (some ⟨gm, 0, none⟩) (ls.length + k + lg.length) cm ∧ wr.cell? ⟨gm, ls.length + q, none⟩ = some (.int .u8 (mkm ls.length q)) := by
  have hl : (ls ++ marked ls.length hs k ++ lg).length = ls.length + k + lg.length := by rw [List.length_append, List.length_append, marked_len]
  obtain ⟨e1, e2, e3⟩ := pe_v ls.length hs hh
  have hlt : ls.length + q < (ls ++ marked ls.length hs k ++ lg).length := by omega
  have hg := cur_at ls hs lg hq
  rw [List.getElem?_eq_getElem hlt] at hg
  injection hg with hg
  obtain ⟨gl, cl, a1, a2⟩ := row_at M.rl.1 (j := ls.length + q) (by rw [List.length_map]; exact hlt)
  obtain ⟨gm, cm, b1, b2⟩ := row_at M.rm.1 (j := ls.length + q) (by rw [List.length_map]; exact hlt)
  rw [List.length_map, hl] at a1 b1
  rw [List.getElem_map, hg, e1] at a2
  rw [List.getElem_map, hg, e3] at b2
  exact ⟨gl, cl, gm, cm, a1, a2, b1, b2⟩
theorem PB.step {w wr w3 w5 : World} {b : Nat} {T T2 : Nat → Nat} {c : Nat} {ls : List En} {hs fs : List Fr} {Ah : Option Addr} {nh ch j : Nat} {ct : Nat → List Int} {R : BR} (M : Mid wr b T2 c ls hs fs (ls ++ marked ls.length hs j) ct R) (hj : j < hs.length)
    (HC : ∀ l, l < j → ∀ h : l < hs.length, ct l = List.replicate hs[l].xs.length (mkm ls.length l)) (hcj : ct j = List.replicate hs[j].xs.length (mkm ls.length j)) (hvh : R.vh = .slice Ah nh ch) (hT : ∀ x, x < w.heap.size → ¬ Bt (T x) → T2 x = T x) (F : Fz w wr T Bt) {vl' vm' : Value}
    (h1 : Ps wr w3 b (R.cs.setIfInBounds 0 vl') 33 R.vl vl' (ls.length + j + 1) ((ls ++ marked ls.length hs j).map (·.v) ++ [hs[j].v])) (h2 : Ps w3 w5 b ((R.cs.setIfInBounds 0 vl').setIfInBounds 1 vm') 5 R.vm vm' (ls.length + j + 1) (((ls ++ marked ls.length hs j).map fun e => .int .u8 e.m) ++ [.int .u8 (mkm ls.length j)])) : PB w w5 b T c ls hs fs Ah nh ch (j + 1) ct := by
  have hl : (ls ++ marked ls.length hs j).length = ls.length + j := by rw [List.length_append, marked_len]
  obtain ⟨e1, e2, e3⟩ := pe_v ls.length hs hj
  obtain ⟨a1, a2, a3, a4⟩ := M.push (pe ls.length hs j) (vl' := vl') (vm' := vm') (by rw [hl, e1]; exact h1) (by rw [hl, e3]; exact h2)
  refine ⟨tagN (tagN T2 wr.heap.size 2) w3.heap.size 3, { R with vl := vl', vm := vm' }, by rw [marked_succ, ← List.append_assoc]; exact a1, fun l hl2 h => ?_, hvh, fun x hx hn => ?_, fz_step F hT a3 a4 (fun i hi hn => a2 i hi (fun e => hn (.inl (by omega))) (fun e => hn (.inl (by omega))) (fun e => hn (.inl (by omega))))⟩
  · by_cases e : l = j
    · subst e; exact hcj
    · exact HC l (by omega) h
  · have s1 := F.size; have s2 := h1.size
    rw [tagN_old (by omega), tagN_old (by omega)]; exact hT x hx hn
theorem rep_of {xs : List Int} {n : Nat} {m : Int} (hl : xs.length = n) (h : ∀ l, l < n → nth xs l = m) : xs = List.replicate n m := by
  refine List.eq_replicate_iff.2 ⟨hl, fun x hx => ?_⟩
  obtain ⟨i, hi, e⟩ := mem_nth hx
  rw [← e]; exact h i (by omega)
theorem fr_at (hs : List Fr) (f : Fr → Value) {k : Nat} (hk : k < hs.length) : (hs.map f)[k]'(by simpa using hk) = f hs[k] := by simp
set_option maxRecDepth 8000 in
set_option maxHeartbeats 0 in
theorem looks_any (w : World) (b : Nat) (T : Nat → Nat) (c : Nat) (ls : List En) (hs fs : List Fr) (h : BkIs w b T c ls hs fs) (hbl : ls.length ≤ 100000) (hbh : hs.length ≤ 1000) :
    Calls Try.prog 21 #[.pointer (some ⟨b, 0, none⟩)] w fun e w' => e = .returned (.bool true) ∧ ∃ T' ls', BkIs w' b T' (c + hs.length) ls' fs [] ∧ ls'.length = ls.length + 2 * hs.length ∧ (∀ x, x < w.heap.size → ¬ Bt (T x) → T' x = T x) ∧ Fz w w' T Bt := by
  obtain ⟨R, hm, h7⟩ := h.mid
  have MA := Lib.hid hm
  have H7 := Lib.hid h7
  have WAS := Lib.hid (fun j (hj : j < hs.length) => (h.hd j hj).2.2)
  have hblt := h.blt
  obtain ⟨vl, vm, vf, vw, vh, vt, vb, va, vn⟩ := R
  obtain ⟨Ah, ch, hvh⟩ := own_slice hm.rh.1
  obtain ⟨At, c7, hvt⟩ := own_slice h7.1
  simp only at hvh hvt
  subst hvh hvt
  obtain ⟨nh, hnh⟩ : ∃ n, n = hs.length := ⟨_, rfl⟩
  have NH := Lib.hid hnh
  have hbh2 : nh ≤ 1000 := by omega
  rw [show (hs.map (·.v)).length = nh from by simp [hnh], show (hs.map (·.w)).length = nh from by simp [hnh]] at MA H7
  clear hm h7 h hnh
  go_enter Try.func21, Try.ntmps21
  go_wp2_with fail
  go_loopw [3, 4] (fun ok i wr => ok = .bool true ∧ ∃ k : Nat, k ≤ nh ∧ i = .int .i64 k ∧ Hid (Chg w wr none)) (fun _ i _ => nh - (intOf i).toNat)
  case atStart => exact ⟨rfl, 0, by omega, rfl, Lib.hid (Chg.refl w none)⟩
  case round =>
    obtain ⟨rfl, k, hk, rfl, I⟩ := hrel
    have M := MA.out.chg I.out
    have hrow := M.row
    simp only [BR.cs] at hrow
    have c4 : wr.cell? ⟨b, 4, none⟩ = some (.slice Ah nh ch) := by rw [cell_of_row _ _ _ _ _ _ hrow]; rfl
    by_cases hlt : k < nh
    ·
      have hlh : k < hs.length := by rw [← NH.out]; exact hlt
      have c5 : wr.cell? ⟨b, 5, none⟩ = some (.slice At nh c7) := by rw [cell_of_row _ _ _ _ _ _ hrow]; rfl
      obtain ⟨gh, ch1, e1, x1⟩ := row_at M.rh.1 (j := k) (by simpa using hlh)
      obtain ⟨gt, ct1, e2, x2⟩ := row_at (H7.out.1.kept I.out (Classical.em _)) (j := k) (by simpa using hlh)
      rw [fr_at _ _ hlh] at x1 x2
      obtain ⟨p1, p2, p3, p4⟩ := M.pool k hlh
      have pw := World.ownsRow.kept (WAS.out k hlh).1 I.out (Classical.em _)
      have hxe : (hs.map (·.xs)).getD k [] = hs[k].xs := by simp [List.getD_eq_getElem?_getD, List.getElem?_map, List.getElem?_eq_getElem hlh]
      rw [hxe] at p1
      have S1 := Lib.hid (own_sl p1 (show hs[k].xs.length * 1 ≤ 140737488351232 by omega))
      have S2 := Lib.hid (own_sl pw (show hs[k].xs.length * 1 ≤ 140737488351232 by omega))
      obtain ⟨A1, a1, q1⟩ := own_slice p1
      obtain ⟨A2, a2, q2⟩ := own_slice pw
      rw [q1] at x1 S1
      rw [q2] at x2 S2
      injection e1 with eh1 eh2 eh3
      injection e2 with et1 et2 et3
      subst eh1 et1
      clear eh2 eh3 et2 et3 p1 p2 p3 p4 pw hxe q1 q2 M hrow
      generalize hs[k].xs = xs at *
      go_wp2
      go_region_held (fun w' => w'.cell? ⟨b, 4, none⟩ = some (.slice (some ⟨gh, 0, none⟩) nh ch) ∧ w'.cell? ⟨b, 5, none⟩ = some (.slice (some ⟨gt, 0, none⟩) nh c7) ∧ w'.cell? ⟨gh, k, none⟩ = some (.slice A1 xs.length a1) ∧ w'.cell? ⟨gt, k, none⟩ = some (.slice A2 xs.length a2)) (go_keep) (first | (go_at_call 16; refine (same_any wr.drew _ _ xs xs ⟨S1.out.shape, S1.out.few⟩ ⟨S2.out.shape, S2.out.few⟩).mono ?_; rw [decide_eq_true rfl]; rintro e w' ⟨rfl, q, rfl⟩; have g4 : (wr.drew.drewN q).cell? ⟨b, 4, none⟩ = some (.slice (some ⟨gh, 0, none⟩) nh ch) := c4; have g5 : (wr.drew.drewN q).cell? ⟨b, 5, none⟩ = some (.slice (some ⟨gt, 0, none⟩) nh c7) := c5; have g6 : (wr.drew.drewN q).cell? ⟨gh, k, none⟩ = some (.slice A1 xs.length a1) := x1; have g7 : (wr.drew.drewN q).cell? ⟨gt, k, none⟩ = some (.slice A2 xs.length a2) := x2))
      go_wp2
      go_roundw
      case rel => exact ⟨rfl, k + 1, by omega, by go_num, Lib.hid ⟨I.out.os, I.out.tape, I.out.output, I.out.size, I.out.block⟩⟩
      case measure => simp [intOf]; omega
    · obtain rfl : k = nh := by omega
      have B0 := Lib.hid (show PB w wr b T c ls hs fs Ah k ch 0 (fun j => (hs.map (·.xs)).getD j []) from ⟨T, _, by rw [show ls ++ marked ls.length hs 0 = ls from by simp [marked]]; exact MA.out.chg I.out, fun j hj => by omega, rfl, fun _ _ _ => rfl, Fz.of_chg I.out (fun _ e => by cases e)⟩)
      have hr0 := hrow
      obtain ⟨Al0, cl0, hvl0⟩ := own_slice M.rl.1
      simp only at hvl0
      rw [show (ls.map (·.v)).length = ls.length from by simp] at hvl0
      subst hvl0
      have c0 : wr.cell? ⟨b, 0, none⟩ = some (.slice Al0 ls.length cl0) := by rw [cell_of_row _ _ _ _ _ _ hrow]; rfl
      obtain ⟨n0, hn0⟩ : ∃ n, n = ls.length := ⟨_, rfl⟩
      have N0 := Lib.hid hn0
      have B1 := Lib.hid (⟨_, B0.out⟩ : ∃ ct, PB w wr b T c ls hs fs Ah k ch 0 ct)
      rw [← hn0] at c0
      clear hrow hr0 M hn0 B0 hk hlt
      obtain ⟨wA, e⟩ : ∃ x, x = wr := ⟨wr, rfl⟩
      subst e
      go_wp2_with fail
      clear c0 c4
      go_loopw [7] (fun i wr => ∃ j : Nat, j ≤ k ∧ i = .int .i64 j ∧ Hid (∃ ct, PB w wr b T c ls hs fs Ah k ch j ct)) (fun i _ => k - (intOf i).toNat)
      case atStart => exact ⟨0, by omega, rfl, B1⟩
      case round =>
        obtain ⟨j, hj, rfl, I2⟩ := hrel
        clear I B1
        obtain ⟨ct, T2, R, M, HCT, hvh, HTT, HFZ⟩ := I2.out
        have MH := Lib.hid M
        have HC2 := Lib.hid HCT
        have HT2 := Lib.hid HTT
        have HF2 := Lib.hid HFZ
        have hrow := M.row
        simp only [BR.cs, hvh] at hrow
        have c4 : wr.cell? ⟨b, 4, none⟩ = some (.slice Ah k ch) := by rw [cell_of_row _ _ _ _ _ _ hrow]; rfl
        clear HCT HTT HFZ I2
        by_cases hlt : j < k
        ·
          have hjh : j < hs.length := by rw [← NH.out]; exact hlt
          obtain ⟨vl, vm, vf, vw, vh, vt, vb, va, vn⟩ := R
          simp only at hvh
          subst hvh
          have hcl : (ls ++ marked ls.length hs j).length = n0 + j := by rw [List.length_append, marked_len, N0.out]
          have HCL := Lib.hid hcl
          obtain ⟨Al, cl, hvl⟩ := own_slice M.rl.1
          simp only [List.length_map] at hvl
          rw [hcl] at hvl
          subst hvl
          have c0 : wr.cell? ⟨b, 0, none⟩ = some (.slice Al (n0 + j) cl) := by rw [cell_of_row _ _ _ _ _ _ hrow]; rfl
          obtain ⟨p1, p2, p3, p4⟩ := M.pool j hjh
          obtain ⟨A1, a1, q1⟩ := own_slice p1
          rw [p2] at q1
          obtain ⟨gh, ch1, e1, x1⟩ := row_at M.rh.1 (j := j) (by simpa using hjh)
          rw [fr_at _ _ hjh, q1] at x1
          injection e1 with eh1 eh2 eh3
          subst eh1
          have hn01 : n0 ≤ 100000 := by rw [N0.out]; exact hbl
          have X1 := Lib.hid x1
          have Q1 := Lib.hid q1
          obtain ⟨n1, hn1⟩ : ∃ n, n = hs[j].xs.length := ⟨_, rfl⟩
          have N1 := Lib.hid hn1
          rw [← hn1] at p3 x1 X1 Q1
          clear eh2 eh3 p1 p2 p4 M hcl q1 hn1
          go_wp2_with fail
          obtain ⟨m, hm⟩ : ∃ m : Int, m = ((n0 : Int) + j) % 254 + 1 := ⟨_, rfl⟩
          have HM := Lib.hid (show mkm ls.length j = m from by rw [hm, mkm, ← N0.out]; omega)
          have hm8 : 0 ≤ m ∧ m < 256 := by omega
          rw [← hm]
          have I30 := Lib.hid (⟨ct, MH.out, fun _ _ => rfl, fun l hl => absurd hl (by omega), HF2.out⟩ : ∃ ct', Mid wr b T2 c ls hs fs (ls ++ marked ls.length hs j) ct' ⟨.slice Al (n0 + j) cl, vm, vf, vw, .slice (some ⟨gh, 0, none⟩) k ch, vt, vb, va, vn⟩ ∧ (∀ l, l ≠ j → ct' l = ct l) ∧ (∀ l, l < 0 → nth (ct' j) l = m) ∧ Fz w wr T Bt)
          clear hm c0 c4 x1 X1 HF2 MH hrow
          go_loopw [9] (fun i wr => ∃ kk : Nat, kk ≤ n1 ∧ i = .int .i64 kk ∧ Hid (∃ ct', Mid wr b T2 c ls hs fs (ls ++ marked ls.length hs j) ct' ⟨.slice Al (n0 + j) cl, vm, vf, vw, .slice (some ⟨gh, 0, none⟩) k ch, vt, vb, va, vn⟩ ∧ (∀ l, l ≠ j → ct' l = ct l) ∧ (∀ l, l < kk → nth (ct' j) l = m) ∧ Fz w wr T Bt)) (fun i _ => n1 - (intOf i).toNat)
          case atStart => exact ⟨0, by omega, rfl, I30⟩
          case round =>
            obtain ⟨kk, hkk, rfl, I3⟩ := hrel
            clear I30
            obtain ⟨ct', M', HCJ, HCM, F'⟩ := I3.out
            have hrow := M'.row
            simp only [BR.cs] at hrow
            have c4 : wr.cell? ⟨b, 4, none⟩ = some (.slice (some ⟨gh, 0, none⟩) k ch) := by rw [cell_of_row _ _ _ _ _ _ hrow]; rfl
            obtain ⟨gh', ch', e1, x1⟩ := row_at M'.rh.1 (j := j) (by simpa using hjh)
            rw [fr_at _ _ hjh, Q1.out] at x1
            injection e1 with eh1 eh2 eh3
            injection eh1 with eh1
            injection eh1 with eh1 eh4 eh5
            subst eh1
            clear eh2 eh3 eh4 eh5
            by_cases hlt2 : kk < n1
            · obtain ⟨g, cap, hv, htg, ⟨u, hu⟩, hfz, hgl, hgb, M2⟩ := M'.mark hjh (show kk < hs[j].xs.length by rw [← N1.out]; exact hlt2) m (fun _ _ => trivial)
              rw [Q1.out] at hv
              injection hv with hA hA2 hA3
              subst hA
              clear hA2 hA3
              have hlk : kk < (ct' j).length := by rw [(M'.pool j hjh).2.1, ← N1.out]; exact hlt2
              have J := Lib.hid (⟨_, M2, fun l hl => (show upd ct' j ((ct' j).set kk m) l = _ from if_neg hl).trans (HCJ l hl), fun l hl => by
                rw [show upd ct' j ((ct' j).set kk m) j = (ct' j).set kk m from if_pos rfl]
                by_cases e : l = kk
                · subst e; simp [nth, List.getD_eq_getElem?_getD, hlk]
                · have h1 := HCM l (by omega)
                  simp only [nth, List.getD_eq_getElem?_getD] at h1 ⊢
                  rw [List.getElem?_set_ne (fun h => e h.symm)]; exact h1,
                fz_step F' HT2.out (Chg.set (Chg.refl wr (some g)) kk (.int .u8 m)).size ⟨rfl, rfl, rfl⟩ (fun i hi hn => (Chg.set (Chg.refl wr (some g)) kk (.int .u8 m)).block i hi (fun e => hn (by injection e with e; rw [e, htg]; exact .inr (by omega))))⟩ :
                ∃ ct', Mid (wr.setCell ⟨g, kk, none⟩ (.int .u8 m)) b T2 c ls hs fs (ls ++ marked ls.length hs j) ct' ⟨.slice Al (n0 + j) cl, vm, vf, vw, .slice (some ⟨gh, 0, none⟩) k ch, vt, vb, va, vn⟩ ∧ (∀ l, l ≠ j → ct' l = ct l) ∧ (∀ l, l < kk + 1 → nth (ct' j) l = m) ∧ Fz w (wr.setCell ⟨g, kk, none⟩ (.int .u8 m)) T Bt)
              clear M' M2 I3 HCJ HCM F' hrow hlk
              go_wp2
              go_roundw
              case rel => exact ⟨kk + 1, by omega, by go_num, J⟩
              case measure => simp [intOf]; omega
            · obtain rfl : kk = n1 := by omega
              obtain ⟨Am, cm, hvm⟩ := own_slice M'.rm.1
              simp only [List.length_map] at hvm
              rw [HCL.out] at hvm
              subst hvm
              have c0 : wr.cell? ⟨b, 0, none⟩ = some (.slice Al (n0 + j) cl) := by rw [cell_of_row _ _ _ _ _ _ hrow]; rfl
              have f0 := frozen_of_row wr b 0 _ _ hrow
              have hblr : b < wr.heap.size := (Array.getElem?_eq_some_iff.1 hrow).1
              have hcj := rep_of (M'.pool j hjh).2.1 (fun l hl => HCM l (by rw [N1.out]; exact hl))
              have N2' : (Value.slice Al (n0 + j) cl).ownBlock ≠ some b := fun e => by have h1 := M'.rl.2 _ e; rw [M'.tb] at h1; omega
              have N3' : (Value.slice Am (n0 + j) cm).ownBlock ≠ some b := fun e => by have h1 := M'.rm.2 _ e; rw [M'.tb] at h1; omega
              have OL : wr.ownsRow 0 33 1 (.slice Al (n0 + j) cl) (n0 + j) ((ls ++ marked ls.length hs j).map (·.v)) := by have := M'.rl.1; rw [List.length_map, HCL.out] at this; exact this
              have OM := Lib.hid (show wr.ownsRow 0 5 1 (.slice Am (n0 + j) cm) (n0 + j) ((ls ++ marked ls.length hs j).map fun e => .int .u8 e.m) from by have := M'.rm.1; rw [List.length_map, HCL.out] at this; exact this)
              have ST := Lib.hid (show ∀ v' w', w'.ownsRow 0 33 1 v' (n0 + j + 1) ((ls ++ marked ls.length hs j).map (·.v) ++ [.slice A1 kk a1]) → Kit.Two ((wr.alloc (.cells #[.slice A1 kk a1] 33)).drew) w' (.slice Al (n0 + j) cl) v' (n0 + j) 1 →
                  w'.heap[b]? = some (.cells (BR.cs ⟨.slice Al (n0 + j) cl, .slice Am (n0 + j) cm, vf, vw, .slice (some ⟨gh, 0, none⟩) k ch, vt, vb, va, vn⟩) 55 (0, 0)) ∧ Ps wr (w'.setCell ⟨b, 0, none⟩ v') b ((BR.cs ⟨.slice Al (n0 + j) cl, .slice Am (n0 + j) cm, vf, vw, .slice (some ⟨gh, 0, none⟩) k ch, vt, vb, va, vn⟩).setIfInBounds 0 v') 33 (.slice Al (n0 + j) cl) v' (n0 + j + 1) ((ls ++ marked ls.length hs j).map (·.v) ++ [.slice A1 kk a1]) from fun v' w' h1 h2 =>
                ⟨push_row M'.row N2' (two_undrew h2), push_stage (k := 0) M'.row OL N2' h1 (two_undrew h2)⟩)
              have END := Lib.hid (show ∀ w3 w5 (vl' vm' : Value), Ps wr w3 b ((BR.cs ⟨.slice Al (n0 + j) cl, .slice Am (n0 + j) cm, vf, vw, .slice (some ⟨gh, 0, none⟩) k ch, vt, vb, va, vn⟩).setIfInBounds 0 vl') 33 (.slice Al (n0 + j) cl) vl' (n0 + j + 1) ((ls ++ marked ls.length hs j).map (·.v) ++ [.slice A1 kk a1]) →
                  Ps w3 w5 b (((BR.cs ⟨.slice Al (n0 + j) cl, .slice Am (n0 + j) cm, vf, vw, .slice (some ⟨gh, 0, none⟩) k ch, vt, vb, va, vn⟩).setIfInBounds 0 vl').setIfInBounds 1 vm') 5 (.slice Am (n0 + j) cm) vm' (n0 + j + 1) (((ls ++ marked ls.length hs j).map fun e => .int .u8 e.m) ++ [.int .u8 m]) → PB w w5 b T c ls hs fs (some ⟨gh, 0, none⟩) k ch (j + 1) ct' from fun w3 w5 vl' vm' h1 h2 => by
                rw [← Q1.out, N0.out] at h1
                rw [← HM.out, N0.out] at h2
                exact PB.step M' hjh (fun l hl h => by rw [HCJ l (by omega)]; exact HC2.out l hl h) (by rw [HM.out]; exact hcj) rfl HT2.out F' (by simp only [← N0.out]; simp only [← N0.out] at h1; exact h1) (by simp only [← N0.out]; simp only [← N0.out] at h2; exact h2))
              have TM := Lib.hid (And.intro M'.rl.2 M'.rm.2)
              have OW := Lib.hid (show (wr.alloc (.cells #[.slice A1 kk a1] 33)).drew.ownsRow 0 33 1 (.slice Al (n0 + j) cl) (n0 + j) ((ls ++ marked ls.length hs j).map (·.v)) from World.ownsRow.alloc (w := wr) OL _)
              have TN := Lib.hid (fun (q : Nat) (u : Value) (hu : ([Value.slice A1 kk a1] : List Value)[q]? = some u) => show (wr.alloc (.cells #[.slice A1 kk a1] 33)).drew.cell? ((⟨wr.heap.size, 0, none⟩ : Addr).add q) = some u from val_news wr 33 _ q u hu)
              have QA := Lib.hid (one_slice A1 kk a1)
              have QB := Lib.hid (show n0 + j + 1 ≤ maxLen by simp only [maxLen]; omega)
              have QC := Lib.hid (show (n0 + j + 1) * 24 ≤ 140737488355328 by omega)
              have QD := Lib.hid (show 0 ≤ (wr.alloc (.cells #[.slice A1 kk a1] 33)).drew.heap.size by omega)
              obtain ⟨i33, hi, hz0, hz1, hz2⟩ := info_parts info33
              clear M' HCJ HCM F' OL hcj I3 hrow N2'
              generalize (ls ++ marked ls.length hs j).map (·.v) = ys at *
              go_wp2_with fail
              go_region_law (refine step_append_two _ rfl (.tmp 90) (.tmp 98) 53 rfl 0 33 i33 (.slice none 0 0) 1 24 Try.underlying53 hi hz0 hz1 hz2 rfl (by decide) (.slice Al (n0 + j) cl) (n0 + j) ys (by simp [Act.eval, Act.put]) OW.out ⟨wr.heap.size, 0, none⟩ 1 1 [.slice A1 kk a1] (by simp [Act.eval, Act.put]) rfl TN.out QA.out (by decide) QB.out QC.out QD.out ?_; intro v' w' hown htwo; obtain ⟨HB2, HW2⟩ := ST.out v' w' hown htwo; obtain ⟨A9, cap2, rfl⟩ := own_slice hown; have c02 : w'.cell? ⟨b, 0, none⟩ = some (.slice Al (n0 + j) cl) := (by rw [cell_of_row _ _ _ _ _ _ HB2]; rfl); have f02 := frozen_of_row w' b 0 _ _ HB2)
              all_goals
                have PS1 := Lib.hid HW2
                clear HW2 HB2 hown htwo c02 f02 c0 f0 c4 x1 OW TN QA QB QC QD ST hi hz0 hz1 hz2 i33
                generalize w'.setCell ⟨b, 0, none⟩ (.slice A9 (n0 + j + 1) cap2) = w3 at *
                have sz3 := PS1.out.size
                have ROW3 := Lib.hid (show w3.heap[b]? = some (.cells #[.slice A9 (n0 + j + 1) cap2, .slice Am (n0 + j) cm, vf, vw, .slice (some ⟨gh, 0, none⟩) k ch, vt, vb, va, vn] 55 (0, 0)) from PS1.out.row)
                have OM3 := Lib.hid (own_same OM.out fun g e => PS1.out.fz.block g (own_size OM.out g e) (fun h => by
                  rcases h with h | h
                  · rw [h] at e; exact N3' e
                  · have h1 := TM.out.1 g h; have h2 := TM.out.2 g e; omega))
                have c1 : w3.cell? ⟨b, 1, none⟩ = some (.slice Am (n0 + j) cm) := by rw [cell_of_row _ _ _ _ _ _ ROW3.out]; rfl
                have f1 := frozen_of_row w3 b 1 _ _ ROW3.out
                obtain ⟨i5, hi, hz0, hz1, hz2⟩ := info_parts info5
                have OM4 := Lib.hid (OM3.out.alloc (.cells #[.int .u8 m] 5))
                have NM := Lib.hid (val_news w3 5 (.int .u8 m))
                have ONM := Lib.hid (show ∀ u ∈ [Value.int .u8 m], u.oneCell' = true from fun u hu => by simp at hu; subst hu; rfl)
                generalize (List.map (fun e : En => Value.int .u8 e.m) (ls ++ marked ls.length hs j)) = ms at *
                go_wp2_with (at_builtin; refine wpList_append_two _ rfl (.tmp 106) (.tmp 108) 33 rfl 0 5 i5 (.int .u8 0) 1 1 Try.underlying33 hi hz0 hz1 hz2 rfl (by decide) (.slice Am (n0 + j) cm) (n0 + j) ms rfl OM4.out ⟨w3.heap.size, 0, none⟩ 1 1 [.int .u8 m] rfl rfl NM.out ONM.out (by decide) ?qa ?qb ?qc ?_)
                case qa => simp only [maxLen]; omega
                case qb => omega
                case qc => omega
                intro vm2 w4 hown h2
                have PR := push_row ROW3.out N3' h2
                have E5 := Lib.hid (END.out w3 _ _ _ PS1.out (push_stage (k := 1) ROW3.out OM3.out N3' hown h2))
                obtain ⟨A8, cap8, rfl⟩ := own_slice hown
                have d1 : w4.cell? ⟨b, 1, none⟩ = some (.slice Am (n0 + j) cm) := by rw [cell_of_row _ _ _ _ _ _ PR]; rfl
                have g1 := frozen_of_row w4 b 1 _ _ PR
                clear PR hown h2 OM4 NM ONM c1 f1 ROW3 OM3 PS1 END
                go_wp2
                go_roundw
                case rel => exact ⟨j + 1, by omega, by go_num, Lib.hid ⟨_, E5.out⟩⟩
                case measure => simp [intOf]; omega
        · obtain rfl : j = k := by omega
          obtain ⟨vl, vm, vf, vw, vh, vt, vb, va, vn⟩ := R
          simp only at hvh
          subst hvh
          have hcl : (ls ++ marked ls.length hs j).length = n0 + j := by rw [List.length_append, marked_len, N0.out]
          obtain ⟨Al, cl, hvl⟩ := own_slice M.rl.1
          simp only [List.length_map] at hvl
          rw [hcl] at hvl
          subst hvl
          have c0 : wr.cell? ⟨b, 0, none⟩ = some (.slice Al (n0 + j) cl) := by rw [cell_of_row _ _ _ _ _ _ hrow]; rfl
          have C0 := Lib.hid (show PC w wr b T c ls hs fs j 0 from ⟨T2, _, ct, [], by rw [List.append_nil]; exact MH.out, fun l h => HC2.out l (by rw [NH.out]; exact h) h, rfl, fun l h => absurd h (by simp), HT2.out, HF2.out⟩)
          have hn01 : n0 ≤ 100000 := by rw [N0.out]; exact hbl
          clear M MH HC2 HT2 HF2 hrow hcl hlt hj
          obtain ⟨wB, e⟩ : ∃ x, x = wr := ⟨wr, rfl⟩
          subst e
          go_wp2_with fail
          clear c0 c4
          go_loopw [11] (fun i wr => ∃ q : Nat, q ≤ j ∧ i = .int .i64 ((n0 + q : Nat) : Int) ∧ Hid (PC w wr b T c ls hs fs j q)) (fun i _ => n0 + j - (intOf i).toNat)
          case atStart => exact ⟨0, by omega, by go_num, C0⟩
          case round =>
            obtain ⟨q, hq, rfl, I4⟩ := hrel
            clear C0
            obtain ⟨T2, R, ct, lg, M, HC, hlg, HL, HTT, HFZ⟩ := I4.out
            obtain ⟨p, hp⟩ : ∃ p, p = n0 + q := ⟨_, rfl⟩
            have HP := Lib.hid hp
            rw [← hp]
            by_cases hlt : q < j
            ·
              have hqh : q < hs.length := by rw [← NH.out]; exact hlt
              obtain ⟨gl, cl, gm, cm, hvl, x1, hvm, x2⟩ := mid_at M hlt hqh
              obtain ⟨vl, vm, vf, vw, vh, vt, vb, va, vn⟩ := R
              simp only at hvl hvm
              subst hvl hvm
              obtain ⟨p1, p2, p3, p4⟩ := M.pool q hqh
              obtain ⟨A1, a1, q1⟩ := own_slice p1
              rw [p2] at q1
              obtain ⟨n1, hn1⟩ : ∃ n, n = hs[q].xs.length := ⟨_, rfl⟩
              have N1 := Lib.hid hn1
              rw [← hn1] at p3 q1 p2
              rw [q1] at x1
              have Q1 := Lib.hid q1
              obtain ⟨m, hm⟩ : ∃ m, m = mkm ls.length q := ⟨_, rfl⟩
              have HM := Lib.hid hm
              rw [← hm] at x2
              obtain ⟨N, hN⟩ : ∃ N, N = ls.length + j + lg.length := ⟨_, rfl⟩
              have HN := Lib.hid hN
              have hNb : N ≤ 102000 := by rw [hN, hlg, ← N0.out]; omega
              have hrow := M.row
              simp only [BR.cs] at hrow
              rw [← hN] at hrow
              rw [← N0.out, ← hp] at x1 x2
              have c0 : wr.cell? ⟨b, 0, none⟩ = some (.slice (some ⟨gl, 0, none⟩) N cl) := by rw [cell_of_row _ _ _ _ _ _ hrow]; rfl
              have c1 : wr.cell? ⟨b, 1, none⟩ = some (.slice (some ⟨gm, 0, none⟩) N cm) := by rw [cell_of_row _ _ _ _ _ _ hrow]; rfl
              have hqN : p < N := by rw [hN, hlg, ← N0.out, hp]; omega
              have hp2 : p ≤ 102000 := by omega
              have hpj : p < n0 + j := by omega
              clear hp
              have LA := Lib.hid (show Calls Try.prog 40 #[.slice A1 n1 a1, .int .u8 m] wr.drew fun e w' => ∃ A4 c4, e = .returned (.slice A4 (n1 + 64) c4) ∧ Lg wr w' 0 (.slice A1 n1 a1) (ct q) m 64 (.slice A4 (n1 + 64) c4) from
                (longer_any wr.drew 0 (Nat.zero_le _) (.slice A1 n1 a1) (ct q) (show wr.ownsRow 0 5 1 _ _ _ from by rw [← q1]; exact p1) (by rw [p2]; omega) m).mono fun e w' h => by
                  obtain ⟨v4, h1, h2⟩ := h
                  obtain ⟨A4, c4, h3⟩ := own_slice h2.new
                  rw [p2] at h3
                  subst h3
                  exact ⟨A4, c4, h1, ⟨h2.new, h2.old, ⟨h2.chg.os, h2.chg.tape, h2.chg.output, h2.chg.size, h2.chg.block⟩, h2.where_⟩⟩)
              have PP := Lib.hid (show ∀ w4 A4 c4, Lg wr w4 0 (.slice A1 n1 a1) (ct q) m 64 (.slice A4 (n1 + 64) c4) →
                  (w4.heap[b]? = some (.cells (BR.cs ⟨.slice (some ⟨gl, 0, none⟩) N cl, .slice (some ⟨gm, 0, none⟩) N cm, vf, vw, vh, vt, vb, va, vn⟩) 55 (0, 0)) ∧ w4.cell? ⟨gl, p, none⟩ = some (.slice A1 n1 a1) ∧ w4.cell? ⟨gm, p, none⟩ = some (.int .u8 m)) ∧
                  (w4.alloc (.cells #[.slice A4 (n1 + 64) c4] 33)).ownsRow 0 33 1 (.slice (some ⟨gl, 0, none⟩) N cl) N ((ls ++ marked ls.length hs j ++ lg).map (·.v)) ∧
                  (∀ v' w', w'.ownsRow 0 33 1 v' (N + 1) ((ls ++ marked ls.length hs j ++ lg).map (·.v) ++ [.slice A4 (n1 + 64) c4]) → Kit.Two (w4.alloc (.cells #[.slice A4 (n1 + 64) c4] 33)) w' (.slice (some ⟨gl, 0, none⟩) N cl) v' N 1 →
                    w'.heap[b]? = some (.cells (BR.cs ⟨.slice (some ⟨gl, 0, none⟩) N cl, .slice (some ⟨gm, 0, none⟩) N cm, vf, vw, vh, vt, vb, va, vn⟩) 55 (0, 0)) ∧ Ps w4 (w'.setCell ⟨b, 0, none⟩ v') b ((BR.cs ⟨.slice (some ⟨gl, 0, none⟩) N cl, .slice (some ⟨gm, 0, none⟩) N cm, vf, vw, vh, vt, vb, va, vn⟩).setIfInBounds 0 v') 33 (.slice (some ⟨gl, 0, none⟩) N cl) v' (N + 1) ((ls ++ marked ls.length hs j ++ lg).map (·.v) ++ [.slice A4 (n1 + 64) c4]) ∧ w'.cell? ⟨gl, p, none⟩ = some (.slice A1 n1 a1) ∧ w'.cell? ⟨gm, p, none⟩ = some (.int .u8 m)) from fun w4 A4 c4 hL => by
                have hl : (ls ++ marked ls.length hs j ++ lg).length = N := by rw [List.length_append, List.length_append, marked_len, hN]
                rw [← hN] at M
                obtain ⟨M4, k4, s4, o4, t4⟩ := M.long hqh (m := m) (v4 := .slice A4 (n1 + 64) c4) (by rw [q1]; exact hL)
                have hrl := M4.rl.1
                rw [List.length_map, hl] at hrl
                have hne : (Value.slice (some ⟨gl, 0, none⟩) N cl).ownBlock ≠ some b := fun e => by have h1 := M4.rl.2 _ e; rw [M4.tb] at h1; omega
                have hgl : gl < wr.heap.size := own_size M.rl.1 gl rfl
                have hgm : gm < wr.heap.size := own_size M.rm.1 gm rfl
                have hgT : T2 gl = 2 := M.rl.2 gl rfl
                have hgT2 : T2 gm = 3 := M.rm.2 gm rfl
                have y1 : w4.cell? ⟨gl, p, none⟩ = some (.slice A1 n1 a1) := (World.cell?_of_block (show w4.heap[(⟨gl, p, none⟩ : Addr).block]? = wr.heap[gl]? from k4 gl hgl (by omega))).trans x1
                have y2 : w4.cell? ⟨gm, p, none⟩ = some (.int .u8 m) := (World.cell?_of_block (show w4.heap[(⟨gm, p, none⟩ : Addr).block]? = wr.heap[gm]? from k4 gm hgm (by omega))).trans x2
                have g1 : gl < w4.heap.size := World.block_lt_of_cell? w4 _ y1
                have g2 : gm < w4.heap.size := World.block_lt_of_cell? w4 _ y2
                have hrl4 := World.ownsRow.alloc hrl (.cells #[.slice A4 (n1 + 64) c4] 33)
                exact ⟨⟨M4.row, y1, y2⟩, hrl4, fun v' w' h1 h2 => ⟨push_row M4.row hne h2, push_stage (k := 0) M4.row hrl hne h1 h2,
                  cell_keeps hrl4 (h2.old hrl4 h1) (by rw [List.length_map, hl]; exact hqN) ((World.cell?_of_block (show (w4.alloc (.cells #[.slice A4 (n1 + 64) c4] 33)).heap[(⟨gl, p, none⟩ : Addr).block]? = w4.heap[gl]? from heap_alloc_old _ _ g1)).trans y1),
                  (World.cell?_of_block (show w'.heap[(⟨gm, p, none⟩ : Addr).block]? = (w4.alloc (.cells #[.slice A4 (n1 + 64) c4] 33)).heap[gm]? from h2.grown.block gm (Nat.lt_of_lt_of_le g2 (by simp)) (fun e => by
                    injection e with e
                    have h9 : T2 gl = T2 gm := by rw [e]
                    omega))).trans ((World.cell?_of_block (show (w4.alloc (.cells #[.slice A4 (n1 + 64) c4] 33)).heap[(⟨gm, p, none⟩ : Addr).block]? = w4.heap[gm]? from heap_alloc_old _ _ g2)).trans y2)⟩⟩)
              obtain ⟨i33, hi, hz0, hz1, hz2⟩ := info_parts info33
              have QB : N + 1 ≤ maxLen := by simp only [maxLen]; omega
              have QC : (N + 1) * 24 ≤ 140737488355328 := by omega
              have d0 : wr.drew.cell? ⟨b, 0, none⟩ = some (.slice (some ⟨gl, 0, none⟩) N cl) := c0
              have d1 : wr.drew.cell? ⟨b, 1, none⟩ = some (.slice (some ⟨gm, 0, none⟩) N cm) := c1
              have d2 : wr.drew.cell? ⟨gl, p, none⟩ = some (.slice A1 n1 a1) := x1
              have d3 : wr.drew.cell? ⟨gm, p, none⟩ = some (.int .u8 m) := x2
              have MM := Lib.hid M
              have HCC := Lib.hid HC
              have HLL := Lib.hid HL
              have HTC := Lib.hid HTT
              have HFC := Lib.hid HFZ
              have LGL := Lib.hid hlg
              clear hm hN M HC HL HTT HFZ p1 p2 p4 q1 hn1 hrow I4 hlg
              generalize hys : (ls ++ marked ls.length hs j ++ lg).map (·.v) = ys at PP
              have YS := Lib.hid hys
              clear hys
              obtain ⟨CL, hCL⟩ : ∃ CL : World → Prop, CL = fun wx => CutL wr wx b (.slice A1 n1 a1) n1 (ct q) m ⟨.slice (some ⟨gl, 0, none⟩) N cl, .slice (some ⟨gm, 0, none⟩) N cm, vf, vw, vh, vt, vb, va, vn⟩ N ys := ⟨_, rfl⟩
              have HCLd := Lib.hid hCL
              clear hCL
              go_wp2_with fail
              go_upto_region 22 with (fail)
              go_cut [] from 118 to 162 (fun wx => Hid (CL wx))
              case first =>
                refine wp_region_z (fun w' => w'.cell? ⟨b, 0, none⟩ = some (.slice (some ⟨gl, 0, none⟩) N cl) ∧ w'.cell? ⟨b, 1, none⟩ = some (.slice (some ⟨gm, 0, none⟩) N cm) ∧ w'.cell? ⟨gl, p, none⟩ = some (.slice A1 n1 a1) ∧ w'.cell? ⟨gm, p, none⟩ = some (.int .u8 m)) 24 (by kernel_rfl) ?_
                have HS : wr.drew.cell? ⟨b, 0, none⟩ = some (.slice (some ⟨gl, 0, none⟩) N cl) ∧ wr.drew.cell? ⟨b, 1, none⟩ = some (.slice (some ⟨gm, 0, none⟩) N cm) ∧ wr.drew.cell? ⟨gl, p, none⟩ = some (.slice A1 n1 a1) ∧ wr.drew.cell? ⟨gm, p, none⟩ = some (.int .u8 m) := ⟨d0, d1, d2, d3⟩
                refine' AnyZ.take 0 (v := _) rfl rfl (by kernel_rfl) (by kernel_rfl) (by kernel_rfl) (by kernel_rfl) (fun _ _ _ h => h) (Or.inl ⟨by rfl, ?y0⟩) HS ?r0
                case y0 => intro w hS; obtain ⟨h1, h2, h3, h4⟩ := hS; (first | (go_simp; done) | (go_simp; exact rfl))
                simp only [Act.put, List.getElem_toArray, List.getElem_cons_succ, List.getElem_cons_zero, List.setIfInBounds_toArray, List.set_cons_zero, List.set_cons_succ]
                refine' AnyZ.take 1 (v := _) rfl rfl (by kernel_rfl) (by kernel_rfl) (by kernel_rfl) (by kernel_rfl) (fun _ _ _ h => h) (Or.inl ⟨by rfl, ?y1⟩) HS ?r1
                case y1 => intro w hS; obtain ⟨h1, h2, h3, h4⟩ := hS; (first | (go_simp; done) | (go_simp; exact rfl))
                simp only [Act.put, List.getElem_toArray, List.getElem_cons_succ, List.getElem_cons_zero, List.setIfInBounds_toArray, List.set_cons_zero, List.set_cons_succ]
                refine' AnyZ.take 2 (v := _) rfl rfl (by kernel_rfl) (by kernel_rfl) (by kernel_rfl) (by kernel_rfl) (fun _ _ _ h => h) (Or.inl ⟨by rfl, ?y2⟩) HS ?r2
                case y2 => intro w hS; obtain ⟨h1, h2, h3, h4⟩ := hS; (first | (go_simp; done) | (go_simp; exact rfl))
                simp only [Act.put, List.getElem_toArray, List.getElem_cons_succ, List.getElem_cons_zero, List.setIfInBounds_toArray, List.set_cons_zero, List.set_cons_succ]
                refine' AnyZ.take 3 (v := _) rfl rfl (by kernel_rfl) (by kernel_rfl) (by kernel_rfl) (by kernel_rfl) (fun _ _ _ h => h) (Or.inl ⟨by rfl, ?y3⟩) HS ?r3
                case y3 => intro w hS; obtain ⟨h1, h2, h3, h4⟩ := hS; (first | (go_simp; done) | (go_simp; exact rfl))
                simp only [Act.put, List.getElem_toArray, List.getElem_cons_succ, List.getElem_cons_zero, List.setIfInBounds_toArray, List.set_cons_zero, List.set_cons_succ]
                refine' AnyZ.take 4 (v := _) rfl rfl (by kernel_rfl) (by kernel_rfl) (by kernel_rfl) (by kernel_rfl) (fun _ _ _ h => h) (Or.inl ⟨by rfl, ?y4⟩) HS ?r4
                case y4 => intro w hS; obtain ⟨h1, h2, h3, h4⟩ := hS; (first | (go_simp; done) | (go_simp; exact rfl))
                simp only [Act.put, List.getElem_toArray, List.getElem_cons_succ, List.getElem_cons_zero, List.setIfInBounds_toArray, List.set_cons_zero, List.set_cons_succ]
                refine' AnyZ.take 5 (v := _) rfl rfl (by kernel_rfl) (by kernel_rfl) (by kernel_rfl) (by kernel_rfl) (fun _ _ _ h => h) (Or.inl ⟨by rfl, ?y5⟩) HS ?r5
                case y5 => intro w hS; obtain ⟨h1, h2, h3, h4⟩ := hS; (first | (go_simp; done) | (go_simp; exact rfl))
                simp only [Act.put, List.getElem_toArray, List.getElem_cons_succ, List.getElem_cons_zero, List.setIfInBounds_toArray, List.set_cons_zero, List.set_cons_succ]
                refine' AnyZ.take 6 (v := _) rfl rfl (by kernel_rfl) (by kernel_rfl) (by kernel_rfl) (by kernel_rfl) (fun _ _ _ h => h) (Or.inl ⟨by rfl, ?y6⟩) HS ?r6
                case y6 => intro w hS; obtain ⟨h1, h2, h3, h4⟩ := hS; (first | (go_simp; done) | (go_simp; exact rfl))
                simp only [Act.put, List.getElem_toArray, List.getElem_cons_succ, List.getElem_cons_zero, List.setIfInBounds_toArray, List.set_cons_zero, List.set_cons_succ]
                refine' AnyZ.take 7 (v := _) rfl rfl (by kernel_rfl) (by kernel_rfl) (by kernel_rfl) (by kernel_rfl) (fun _ _ _ h => h) (Or.inl ⟨by rfl, ?y7⟩) HS ?r7
                case y7 => intro w hS; obtain ⟨h1, h2, h3, h4⟩ := hS; (first | (go_simp; done) | (go_simp; exact rfl))
                simp only [Act.put, List.getElem_toArray, List.getElem_cons_succ, List.getElem_cons_zero, List.setIfInBounds_toArray, List.set_cons_zero, List.set_cons_succ]
                refine' AnyZ.take 8 (v := _) rfl rfl (by kernel_rfl) (by kernel_rfl) (by kernel_rfl) (by kernel_rfl) (fun _ _ _ h => h) (Or.inl ⟨by rfl, ?y8⟩) HS ?r8
                case y8 => intro w hS; obtain ⟨h1, h2, h3, h4⟩ := hS; (first | (go_simp; done) | (go_simp; exact rfl))
                simp only [Act.put, List.getElem_toArray, List.getElem_cons_succ, List.getElem_cons_zero, List.setIfInBounds_toArray, List.set_cons_zero, List.set_cons_succ]
                refine' AnyZ.take 9 (v := _) rfl rfl (by kernel_rfl) (by kernel_rfl) (by kernel_rfl) (by kernel_rfl) (fun _ _ _ h => h) (Or.inl ⟨by rfl, ?y9⟩) HS ?r9
                case y9 => intro w hS; obtain ⟨h1, h2, h3, h4⟩ := hS; (first | (go_simp; done) | (go_simp; exact rfl))
                simp only [Act.put, List.getElem_toArray, List.getElem_cons_succ, List.getElem_cons_zero, List.setIfInBounds_toArray, List.set_cons_zero, List.set_cons_succ]
                refine' AnyZ.take 10 (v := _) rfl rfl (by kernel_rfl) (by kernel_rfl) (by kernel_rfl) (by kernel_rfl) (fun _ _ _ h => h) (Or.inl ⟨by rfl, ?y10⟩) HS ?r10
                case y10 => intro w hS; obtain ⟨h1, h2, h3, h4⟩ := hS; (first | (go_simp; done) | (go_simp; exact rfl))
                simp only [Act.put, List.getElem_toArray, List.getElem_cons_succ, List.getElem_cons_zero, List.setIfInBounds_toArray, List.set_cons_zero, List.set_cons_succ]
                refine' AnyZ.take 11 (v := _) rfl rfl (by kernel_rfl) (by kernel_rfl) (by kernel_rfl) (by kernel_rfl) (fun _ _ _ h => h) (Or.inl ⟨by rfl, ?y11⟩) HS ?r11
                case y11 => intro w hS; obtain ⟨h1, h2, h3, h4⟩ := hS; (first | (go_simp; done) | (go_simp; exact rfl))
                simp only [Act.put, List.getElem_toArray, List.getElem_cons_succ, List.getElem_cons_zero, List.setIfInBounds_toArray, List.set_cons_zero, List.set_cons_succ]
                refine' AnyZ.take 12 (v := _) rfl rfl (by kernel_rfl) (by kernel_rfl) (by kernel_rfl) (by kernel_rfl) (fun _ _ _ h => h) (Or.inl ⟨by rfl, ?y12⟩) HS ?r12
                case y12 => intro w hS; obtain ⟨h1, h2, h3, h4⟩ := hS; (first | (go_simp; done) | (go_simp; exact rfl))
                simp only [Act.put, List.getElem_toArray, List.getElem_cons_succ, List.getElem_cons_zero, List.setIfInBounds_toArray, List.set_cons_zero, List.set_cons_succ]
                refine' AnyZ.take 13 (v := _) rfl rfl (by kernel_rfl) (by kernel_rfl) (by kernel_rfl) (by kernel_rfl) (fun _ _ _ h => h) (Or.inl ⟨by rfl, ?y13⟩) HS ?r13
                case y13 => intro w hS; obtain ⟨h1, h2, h3, h4⟩ := hS; (first | (go_simp; done) | (go_simp; exact rfl))
                simp only [Act.put, List.getElem_toArray, List.getElem_cons_succ, List.getElem_cons_zero, List.setIfInBounds_toArray, List.set_cons_zero, List.set_cons_succ]
                refine' AnyZ.take 14 (v := _) rfl rfl (by kernel_rfl) (by kernel_rfl) (by kernel_rfl) (by kernel_rfl) (fun _ _ _ h => h) (Or.inl ⟨by rfl, ?y14⟩) HS ?r14
                case y14 => intro w hS; obtain ⟨h1, h2, h3, h4⟩ := hS; (first | (go_simp; done) | (go_simp; exact rfl))
                simp only [Act.put, List.getElem_toArray, List.getElem_cons_succ, List.getElem_cons_zero, List.setIfInBounds_toArray, List.set_cons_zero, List.set_cons_succ]
                refine' AnyZ.take 15 (v := _) rfl rfl (by kernel_rfl) (by kernel_rfl) (by kernel_rfl) (by kernel_rfl) (fun _ _ _ h => h) (Or.inl ⟨by rfl, ?y15⟩) HS ?r15
                case y15 => intro w hS; obtain ⟨h1, h2, h3, h4⟩ := hS; (first | (go_simp; done) | (go_simp; exact rfl))
                simp only [Act.put, List.getElem_toArray, List.getElem_cons_succ, List.getElem_cons_zero, List.setIfInBounds_toArray, List.set_cons_zero, List.set_cons_succ]
                refine' AnyZ.take 16 (v := _) rfl rfl (by kernel_rfl) (by kernel_rfl) (by kernel_rfl) (by kernel_rfl) (fun _ _ _ h => h) (Or.inl ⟨by rfl, ?y16⟩) HS ?r16
                case y16 => intro w hS; obtain ⟨h1, h2, h3, h4⟩ := hS; (first | (go_simp; done) | (go_simp; exact rfl))
                simp only [Act.put, List.getElem_toArray, List.getElem_cons_succ, List.getElem_cons_zero, List.setIfInBounds_toArray, List.set_cons_zero, List.set_cons_succ]
                refine' AnyZ.take 17 (v := _) rfl rfl (by kernel_rfl) (by kernel_rfl) (by kernel_rfl) (by kernel_rfl) (fun _ _ _ h => h) (Or.inl ⟨by rfl, ?y17⟩) HS ?r17
                case y17 => intro w hS; obtain ⟨h1, h2, h3, h4⟩ := hS; (first | (go_simp; done) | (go_simp; exact rfl))
                simp only [Act.put, List.getElem_toArray, List.getElem_cons_succ, List.getElem_cons_zero, List.setIfInBounds_toArray, List.set_cons_zero, List.set_cons_succ]
                refine' AnyZ.take 18 (v := _) rfl rfl (by kernel_rfl) (by kernel_rfl) (by kernel_rfl) (by kernel_rfl) (fun _ _ _ h => h) (Or.inl ⟨by rfl, ?y18⟩) HS ?r18
                case y18 => intro w hS; obtain ⟨h1, h2, h3, h4⟩ := hS; (first | (go_simp; done) | (go_simp; exact rfl))
                simp only [Act.put, List.getElem_toArray, List.getElem_cons_succ, List.getElem_cons_zero, List.setIfInBounds_toArray, List.set_cons_zero, List.set_cons_succ]
                refine AnyZ.step 19 (by kernel_rfl) rfl (fun K HK => ?_)
                simp only [List.getElem_toArray, List.getElem_cons_succ, List.getElem_cons_zero]
                refine StepG.of (step_call rfl 40 #[.slice A1 n1 a1, .int .u8 m] (by simp [execOp, resolve, invoke, go_sem, Act.eval, Act.put]) LA.out ?_)
                rintro e w4 ⟨A4, c4, rfl, hLg⟩
                have PX := Lib.hid (PP.out w4 A4 c4 hLg)
                have HS4 : w4.cell? ⟨b, 0, none⟩ = some (.slice (some ⟨gl, 0, none⟩) N cl) ∧ w4.cell? ⟨b, 1, none⟩ = some (.slice (some ⟨gm, 0, none⟩) N cm) ∧ w4.cell? ⟨gl, p, none⟩ = some (.slice A1 n1 a1) ∧ w4.cell? ⟨gm, p, none⟩ = some (.int .u8 m) := ⟨by rw [cell_of_row _ _ _ _ _ _ PX.out.1.1]; rfl, by rw [cell_of_row _ _ _ _ _ _ PX.out.1.1]; rfl, PX.out.1.2.1, PX.out.1.2.2⟩
                refine ⟨_, rfl, HK.out _ _ (fun _ => HS4) ?_⟩
                clear HK K HS d0 d1 d2 d3
                simp only [Act.put, List.setIfInBounds_toArray, List.set_cons_zero, List.set_cons_succ]
                refine AnyZ.step 20 (by kernel_rfl) rfl (fun K HK => ?_)
                simp only [List.getElem_toArray, List.getElem_cons_succ, List.getElem_cons_zero]
                refine StepG.of ?_
                go_simp
                have HS5 : (w4.alloc (.cells #[.slice A4 (n1 + 64) c4] 33)).cell? ⟨b, 0, none⟩ = some (.slice (some ⟨gl, 0, none⟩) N cl) ∧ (w4.alloc (.cells #[.slice A4 (n1 + 64) c4] 33)).cell? ⟨b, 1, none⟩ = some (.slice (some ⟨gm, 0, none⟩) N cm) ∧ (w4.alloc (.cells #[.slice A4 (n1 + 64) c4] 33)).cell? ⟨gl, p, none⟩ = some (.slice A1 n1 a1) ∧ (w4.alloc (.cells #[.slice A4 (n1 + 64) c4] 33)).cell? ⟨gm, p, none⟩ = some (.int .u8 m) := by
                  obtain ⟨q1, q2, q3, q4⟩ := HS4
                  exact ⟨(World.cell?_alloc_some _ _ _ (by rw [q1]; rfl)).trans q1, (World.cell?_alloc_some _ _ _ (by rw [q2]; rfl)).trans q2, (World.cell?_alloc_some _ _ _ (by rw [q3]; rfl)).trans q3, (World.cell?_alloc_some _ _ _ (by rw [q4]; rfl)).trans q4⟩
                refine HK.out _ _ (fun _ => HS5) ?_
                clear HK K HS4
                try simp only [Act.put, List.setIfInBounds_toArray, List.set_cons_zero, List.set_cons_succ]
                refine AnyZ.step 21 (by kernel_rfl) rfl (fun K HK => ?_)
                simp only [List.getElem_toArray, List.getElem_cons_succ, List.getElem_cons_zero]
                refine StepG.of (step_append_two _ rfl (.tmp 127) (.tmp 143) 53 rfl 0 33 i33 (.slice none 0 0) 1 24 Try.underlying53 hi hz0 hz1 hz2 rfl (by decide) (.slice (some ⟨gl, 0, none⟩) N cl) N ys (by simp [Act.eval, Act.put]) PX.out.2.1 ⟨_, 0, none⟩ 1 1 _ (by simp [Act.eval, Act.put]) rfl (val_news _ 33 _) (one_slice _ _ _) (by decide) QB QC (Nat.zero_le _) ?_)
                intro v' w' hown htwo
                obtain ⟨HB2, HW2, hx1, hx2⟩ := PX.out.2.2 v' w' hown htwo
                obtain ⟨A9, cap2, rfl⟩ := own_slice hown
                have c02 : w'.cell? ⟨b, 0, none⟩ = some (.slice (some ⟨gl, 0, none⟩) N cl) := (by rw [cell_of_row _ _ _ _ _ _ HB2]; rfl)
                have c12 : w'.cell? ⟨b, 1, none⟩ = some (.slice (some ⟨gm, 0, none⟩) N cm) := (by rw [cell_of_row _ _ _ _ _ _ HB2]; rfl)
                have f02 := frozen_of_row w' b 0 _ _ HB2
                refine HK.out _ _ (fun _ => ⟨c02, c12, hx1, hx2⟩) ?_
                clear HK K HS5 PX
                simp only [Act.put, List.setIfInBounds_toArray, List.set_cons_zero, List.set_cons_succ]
                refine AnyZ.step 22 (by kernel_rfl) rfl (fun K HK => ?_)
                simp only [List.getElem_toArray, List.getElem_cons_succ, List.getElem_cons_zero]
                refine StepG.of ?_
                go_simp
                refine HK.out _ _ (fun _ => ⟨c02, c12, hx1, hx2⟩) ?_
                clear HK K
                try simp only [Act.put, List.setIfInBounds_toArray, List.set_cons_zero, List.set_cons_succ]
                refine AnyZ.step 23 (by kernel_rfl) rfl (fun K HK => ?_)
                simp only [List.getElem_toArray, List.getElem_cons_succ, List.getElem_cons_zero]
                refine StepG.of ?_
                go_simp
                refine HK.out _ _ (fun _ => ⟨c02, c12, hx1, hx2⟩) ?_
                clear HK K
                try simp only [Act.put, List.setIfInBounds_toArray, List.set_cons_zero, List.set_cons_succ]
                refine AnyZ.step 24 (by kernel_rfl) rfl (fun K HK => ?_)
                simp only [List.getElem_toArray, List.getElem_cons_succ, List.getElem_cons_zero]
                refine StepG.of ?_
                go_simp
                refine HK.out _ _ (fun h => absurd rfl h) ?_
                clear HK K
                try simp only [Act.put, List.setIfInBounds_toArray, List.set_cons_zero, List.set_cons_succ]
                refine AnyZ.done (by kernel_rfl) ?_
                go_wp2_with fail
                go_meet
                exact Lib.hid (by rw [HCLd.out]; exact ⟨_, _, _, _, hLg, HW2⟩)
              case rest =>
                rw [HCLd.out] at hcut
                obtain ⟨w4, A4, c4, vl2, hLg, PS1⟩ := hcut.out
                have PS1H := Lib.hid PS1
                have hLH := Lib.hid hLg
                have hnl : (ls ++ marked ls.length hs j ++ lg).length = N := by rw [List.length_append, List.length_append, marked_len]; exact HN.out.symm
                have M4 := (MM.out.long hqh (m := m) (v4 := .slice A4 (n1 + 64) c4) (by rw [Q1.out]; exact hLg)).1
                have hM3 := M4.rm.1
                rw [List.length_map, hnl] at hM3
                have N3' : (Value.slice (some ⟨gm, 0, none⟩) N cm).ownBlock ≠ some b := fun e => by have h1 := M4.rm.2 _ (show (Value.slice (some ⟨gm, 0, none⟩) (ls.length + j + lg.length) cm).ownBlock = some b from e); rw [M4.tb] at h1; omega
                have hgT : ∀ g, (Value.slice (some ⟨gl, 0, none⟩) N cl).ownBlock = some g → (Value.slice (some ⟨gm, 0, none⟩) N cm).ownBlock ≠ some g := fun g e1 e2 => by
                  have h1 := M4.rl.2 g (show (Value.slice (some ⟨gl, 0, none⟩) (ls.length + j + lg.length) cl).ownBlock = some g from e1)
                  have h2 := M4.rm.2 g (show (Value.slice (some ⟨gm, 0, none⟩) (ls.length + j + lg.length) cm).ownBlock = some g from e2)
                  omega
                have OM3 : wc.ownsRow 0 5 1 (.slice (some ⟨gm, 0, none⟩) N cm) N ((ls ++ marked ls.length hs j ++ lg).map fun e => .int .u8 e.m) := own_same (show w4.ownsRow 0 5 1 (.slice (some ⟨gm, 0, none⟩) N cm) N _ from by have := M4.rm.1; rw [List.length_map, hnl] at this; simp only at this; rw [← HN.out] at this; exact this) fun g e => PS1.fz.block g (own_size M4.rm.1 g e) (fun h => by
                  rcases h with h | h
                  · rw [h] at e; exact N3' e
                  · exact hgT g h e)
                obtain ⟨gm2, cm2, em, x3⟩ := row_at OM3 (j := p) (by rw [List.length_map, hnl]; exact hqN)
                injection em with em1 em2 em3
                injection em1 with em1
                injection em1 with em1 em4 em5
                subst em1
                have hx3 : (((ls ++ marked ls.length hs j ++ lg).map fun e => Value.int .u8 e.m)[p]'(by rw [List.length_map, hnl]; exact hqN)) = .int .u8 m := by
                  have h1 : ((ls ++ marked ls.length hs j ++ lg).map fun e => Value.int .u8 e.m)[p]? = some (.int .u8 m) := by
                    rw [List.getElem?_map, show p = ls.length + q from by rw [HP.out, N0.out], cur_at ls hs lg hlt, HM.out]
                    simp [(pe_v ls.length hs hqh).2.2]
                  rw [List.getElem?_eq_getElem (by rw [List.length_map, hnl]; exact hqN)] at h1
                  injection h1
                rw [hx3] at x3
                have hrow := PS1.row
                have c1 : wc.cell? ⟨b, 1, none⟩ = some (.slice (some ⟨gm, 0, none⟩) N cm) := by rw [cell_of_row _ _ _ _ _ _ hrow]; rfl
                have f1 := frozen_of_row wc b 1 _ _ hrow
                have hbwc : b < wc.heap.size := (Array.getElem?_eq_some_iff.1 hrow).1
                have HROW := Lib.hid hrow
                have OMH := Lib.hid OM3
                have END := Lib.hid (show ∀ w5 vm', Ps wc w5 b (((BR.cs ⟨.slice (some ⟨gl, 0, none⟩) N cl, .slice (some ⟨gm, 0, none⟩) N cm, vf, vw, vh, vt, vb, va, vn⟩).setIfInBounds 0 vl2).setIfInBounds 1 vm') 5 (.slice (some ⟨gm, 0, none⟩) N cm) vm' (N + 1) (((ls ++ marked ls.length hs j ++ lg).map fun e => .int .u8 e.m) ++ [.int .u8 m]) → PC w w5 b T c ls hs fs j (q + 1) from fun w5 vm' h2 => by
                  have e := LGL.out
                  subst e
                  have e2 := HN.out
                  subst e2
                  have e3 := HM.out
                  subst e3
                  exact PC.step MM.out hqh HCC.out HLL.out HTC.out HFC.out (by rw [Q1.out]; exact hLH.out) (by rw [YS.out]; exact PS1H.out) h2)
                have OW := Lib.hid (show (wc.alloc (.cells #[.int .u8 m] 5)).drew.ownsRow 0 5 1 (.slice (some ⟨gm, 0, none⟩) N cm) N ((ls ++ marked ls.length hs j ++ lg).map fun e => .int .u8 e.m) from World.ownsRow.alloc (w := wc) OM3 _)
                have TN := Lib.hid (fun (q : Nat) (u : Value) (hu : ([Value.int .u8 m] : List Value)[q]? = some u) => show (wc.alloc (.cells #[.int .u8 m] 5)).drew.cell? ((⟨wc.heap.size, 0, none⟩ : Addr).add q) = some u from val_news wc 5 _ q u hu)
                have QA := Lib.hid (show ∀ u ∈ [Value.int .u8 m], u.oneCell' = true from fun u hu => by simp at hu; subst hu; rfl)
                have QB := Lib.hid (show N + 1 ≤ maxLen by simp only [maxLen]; omega)
                have QC := Lib.hid (show (N + 1) * 1 ≤ 140737488355328 by omega)
                have QD := Lib.hid (show 0 ≤ (wc.alloc (.cells #[.int .u8 m] 5)).drew.heap.size by omega)
                obtain ⟨i5, hi, hz0, hz1, hz2⟩ := info_parts info5
                have ST := Lib.hid (show ∀ v' w', w'.ownsRow 0 5 1 v' (N + 1) (((ls ++ marked ls.length hs j ++ lg).map fun e => .int .u8 e.m) ++ [.int .u8 m]) → Kit.Two ((wc.alloc (.cells #[.int .u8 m] 5)).drew) w' (.slice (some ⟨gm, 0, none⟩) N cm) v' N 1 →
                    w'.heap[b]? = some (.cells ((BR.cs ⟨.slice (some ⟨gl, 0, none⟩) N cl, .slice (some ⟨gm, 0, none⟩) N cm, vf, vw, vh, vt, vb, va, vn⟩).setIfInBounds 0 vl2) 55 (0, 0)) ∧ PC w (w'.setCell ⟨b, 1, none⟩ v') b T c ls hs fs j (q + 1) from fun v' w' h1 h2 =>
                  ⟨push_row hrow N3' (two_undrew h2), END.out _ _ (push_stage (k := 1) hrow OM3 N3' h1 (two_undrew h2))⟩)
                clear hrow OM3 M4 hM3 PS1 hLg hcut hx3 hnl em2 em3 em4 em5 c0 d0 d1 d2 d3 x1 x2
                generalize (List.map (fun e : En => Value.int .u8 e.m) (ls ++ marked ls.length hs j ++ lg)) = ms at OW ST
                go_wp2_with fail
                go_region_law (refine step_append_two _ rfl (.tmp 151) (.tmp 159) 33 rfl 0 5 i5 (.int .u8 0) 1 1 Try.underlying33 hi hz0 hz1 hz2 rfl (by decide) (.slice (some ⟨gm, 0, none⟩) N cm) N ms (by simp [Act.eval, Act.put]) OW.out ⟨wc.heap.size, 0, none⟩ 1 1 [.int .u8 m] (by simp [Act.eval, Act.put]) rfl TN.out QA.out (by decide) QB.out QC.out QD.out ?_; intro v' w' hown htwo; obtain ⟨HB2, HW2⟩ := ST.out v' w' hown htwo; obtain ⟨A9, cap2, rfl⟩ := own_slice hown; have c02 : w'.cell? ⟨b, 1, none⟩ = some (.slice (some ⟨gm, 0, none⟩) N cm) := (by rw [cell_of_row _ _ _ _ _ _ HB2]; rfl); have f02 := frozen_of_row w' b 1 _ _ HB2)
                all_goals
                  have E5 := Lib.hid HW2
                  clear HW2 HB2 hown htwo
                  go_wp2
                  go_roundw
                  case rel => exact ⟨q + 1, by omega, by have := HP.out; show Value.int .i64 _ = Value.int .i64 _; congr 1; omega, E5⟩
                  case measure => simp [intOf]; omega
            · obtain rfl : q = j := by omega
              have M' : Mid wr b T2 c ls hs fs (ls ++ marked ls.length hs hs.length ++ lg) ct R := by rw [← NH.out]; exact M
              have hlgh : lg.length = hs.length := by rw [hlg]; exact NH.out
              have DN := Lib.hid (PC.done M' HC HL hlgh HTT HFZ)
              have hrow := M.row
              obtain ⟨vl, vm, vf, vw, vh, vt, vb, va, vn⟩ := R
              simp only [BR.cs] at hrow
              obtain ⟨Af, cf, hvf⟩ := own_slice M.rf.1
              obtain ⟨Aw, cw, hvw⟩ := own_slice M.rw_.1
              obtain ⟨Al, cl, hvl⟩ := own_slice M.rl.1
              simp only at hvf hvw hvl
              subst hvf hvw hvl
              obtain ⟨nf, hnf⟩ : ∃ n, n = (fs.map (·.v)).length := ⟨_, rfl⟩
              obtain ⟨nw, hnw⟩ : ∃ n, n = (fs.map (·.w)).length := ⟨_, rfl⟩
              rw [← hnf, ← hnw] at hrow DN
              have hEl : (ls ++ marked ls.length hs hs.length ++ lg).length = n0 + q + q := by rw [List.length_append, List.length_append, marked_len, ← N0.out, hlg, ← NH.out]
              have LEN := Lib.hid hEl
              have hcur : (List.map (fun e : En => e.v) (ls ++ marked ls.length hs q ++ lg)).length = n0 + q + q := by rw [List.length_map, List.length_append, List.length_append, marked_len, ← N0.out, hlg]
              rw [hcur] at hrow DN
              have c0 : wr.cell? ⟨b, 0, none⟩ = some (.slice Al (n0 + q + q) cl) := by rw [cell_of_row _ _ _ _ _ _ hrow]; rfl
              have c2 : wr.cell? ⟨b, 2, none⟩ = some (.slice Af nf cf) := by rw [cell_of_row _ _ _ _ _ _ hrow]; rfl
              have c3 : wr.cell? ⟨b, 3, none⟩ = some (.slice Aw nw cw) := by rw [cell_of_row _ _ _ _ _ _ hrow]; rfl
              have c4 : wr.cell? ⟨b, 4, none⟩ = some vh := by rw [cell_of_row _ _ _ _ _ _ hrow]; rfl
              have c5 : wr.cell? ⟨b, 5, none⟩ = some vt := by rw [cell_of_row _ _ _ _ _ _ hrow]; rfl
              have f2 := frozen_of_row wr b 2 _ _ hrow
              have f3 := frozen_of_row wr b 3 _ _ hrow
              have f4 := frozen_of_row wr b 4 _ _ hrow
              have f5 := frozen_of_row wr b 5 _ _ hrow
              have hpj : n0 + q ≤ p := by omega
              clear M M' HC HL HTT HFZ hlg hlgh hnf hnw hcur hEl hrow I4 hp HP hlt hq
              go_wp2_with fail
              clear c0 c2 c3 c4 c5 f2 f3 f4 f5
              generalize (((wr.setCell ⟨b, 4, none⟩ (.slice Af nf cf)).setCell ⟨b, 5, none⟩ (.slice Aw nw cw)).setCell ⟨b, 2, none⟩ (.slice none 0 0)).setCell ⟨b, 3, none⟩ (.slice none 0 0) = wD at *
              obtain ⟨E, hE⟩ : ∃ E, E = ls ++ marked ls.length hs hs.length ++ lg := ⟨_, rfl⟩
              have HE := Lib.hid hE
              rw [← hE] at DN LEN
              clear hE
              obtain ⟨NE, hNE⟩ : ∃ n, n = n0 + q + q := ⟨_, rfl⟩
              have HNE := Lib.hid hNE
              rw [← hNE] at LEN
              have hNEb : NE ≤ 200000 := by omega
              clear hNE
              go_loopw [12] (fun i wr => ∃ x : Nat, x ≤ NE ∧ i = .int .i64 x ∧ Hid (Chg wD wr none)) (fun i _ => NE - (intOf i).toNat)
              case atStart => exact ⟨0, by omega, rfl, Lib.hid (Chg.refl wD none)⟩
              case round =>
                obtain ⟨x, hx, rfl, I5⟩ := hrel
                have BD := DN.out.1.kept (fun _ _ => rfl) I5.out.size (fun g hg _ => I5.out.block g hg (by simp))
                obtain ⟨⟨vl', vm', vf', vw', vh', vt', vb', va', vn', hrow, r1, r2, _⟩, _, hen, _, _⟩ := BD
                obtain ⟨Al2, cl2, hvl⟩ := own_slice r1.1
                rw [List.length_map, LEN.out] at hvl
                subst hvl
                have c0 : wr.cell? ⟨b, 0, none⟩ = some (.slice Al2 NE cl2) := by rw [cell_of_row _ _ _ _ _ _ hrow]; rfl
                by_cases hlt : x < NE
                · have hxE : x < E.length := by rw [LEN.out]; exact hlt
                  have c1 : wr.cell? ⟨b, 1, none⟩ = some vm' := by rw [cell_of_row _ _ _ _ _ _ hrow]; rfl
                  obtain ⟨gl, cl3, e1, x1⟩ := row_at r1.1 (j := x) (by rw [List.length_map]; exact hxE)
                  obtain ⟨gm, cm3, e2, x2⟩ := row_at r2.1 (j := x) (by rw [List.length_map]; exact hxE)
                  rw [List.getElem_map] at x1 x2
                  rw [List.length_map, LEN.out] at e1 e2
                  injection e1 with e1 e3 e4
                  subst e1 e4 e2
                  obtain ⟨a1, a2, a3⟩ := hen E[x] (List.getElem_mem hxE)
                  have S1 := Lib.hid a1
                  obtain ⟨⟨Ae, ce, hve, _, hce⟩, _⟩ := a1
                  rw [List.length_replicate] at hve
                  rw [hve] at x1 S1
                  obtain ⟨ne, hne⟩ : ∃ n, n = E[x].n := ⟨_, rfl⟩
                  obtain ⟨me, hme⟩ : ∃ m, m = E[x].m := ⟨_, rfl⟩
                  rw [← hne] at x1 S1 a2
                  rw [← hme] at x2 S1 a2
                  obtain ⟨a21, a22, a23⟩ := a2
                  clear hve hce a3 hen r1 r2 hrow hne hme e3
                  obtain ⟨w8, e⟩ : ∃ z, z = wr := ⟨wr, rfl⟩
                  subst e
                  go_wp2_with fail
                  go_loopw [13] (fun i wr => ∃ y : Nat, y ≤ ne ∧ i = .int .i64 y ∧ Hid (Chg w8 wr none)) (fun i _ => ne - (intOf i).toNat)
                  case atStart => exact ⟨0, by omega, rfl, Lib.hid (Chg.refl w8 none)⟩
                  case round =>
                    obtain ⟨y, hy, rfl, I6⟩ := hrel
                    have d0 := (World.cell?_of_block (show wr.heap[(⟨b, 0, none⟩ : Addr).block]? = w8.heap[b]? from I6.out.block b (World.block_lt_of_cell? w8 _ c0) (by simp))).trans c0
                    have d2 := (World.cell?_of_block (show wr.heap[(⟨gl, x, none⟩ : Addr).block]? = w8.heap[gl]? from I6.out.block gl (World.block_lt_of_cell? w8 _ x1) (by simp))).trans x1
                    by_cases hlt2 : y < ne
                    · have d1 := (World.cell?_of_block (show wr.heap[(⟨b, 1, none⟩ : Addr).block]? = w8.heap[b]? from I6.out.block b (World.block_lt_of_cell? w8 _ c1) (by simp))).trans c1
                      have d3 := (World.cell?_of_block (show wr.heap[(⟨gm, x, none⟩ : Addr).block]? = w8.heap[gm]? from I6.out.block gm (World.block_lt_of_cell? w8 _ x2) (by simp))).trans x2
                      obtain ⟨ge, oe, hA, hcell⟩ := (Chg.sl S1.out I6.out).at_ y (by rw [List.length_replicate]; exact hlt2)
                      subst hA
                      rw [show nth (List.replicate ne me) y = me from by simp [nth, List.getD_eq_getElem?_getD, hlt2]] at hcell
                      have hbne : (me != me) = false := by simp
                      go_wp2_with fail
                      go_quiet (fail)
                      have J6 := Lib.hid (I6.out.trans ((Chg.refl wr none).drewN nq))
                      go_wp2
                      go_roundw
                      case rel => exact ⟨y + 1, by omega, by go_num, J6⟩
                      case measure => simp [intOf]; omega
                    · obtain rfl : y = ne := by omega
                      have J5 := Lib.hid (I5.out.trans I6.out)
                      clear I6
                      go_wp2
                      go_roundw
                      case rel => exact ⟨x + 1, by omega, by go_num, J5⟩
                      case measure => simp [intOf]; omega
                · obtain rfl : x = NE := by omega
                  go_wp2
                  go_ret
                  refine ⟨rfl, tagD T2, E, DN.out.1.kept (fun _ _ => rfl) I5.out.size (fun g hg _ => I5.out.block g hg (by simp)), ?_, DN.out.2.1, ?_⟩
                  · rw [LEN.out, HNE.out, N0.out, NH.out]; omega
                  · exact fz_step DN.out.2.2 DN.out.2.1 I5.out.size ⟨I5.out.os, I5.out.tape, I5.out.output⟩ (fun i hi _ => I5.out.block i hi (by simp))
end Go.Proofs.Ytfoofipkbijajaa.Sa
