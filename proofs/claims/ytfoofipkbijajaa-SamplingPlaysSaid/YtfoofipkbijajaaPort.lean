/- A port in memory; New: its contract. No statement of the seat is proved here. -/
import Derived.Test.YtfoofipkbijajaaClone
namespace Go.Proofs.Ytfoofipkbijajaa.Sa
open Go.RowKit Go.Proofs.Ytfoofipkbijajaa.Kit
set_option linter.unusedSimpArgs false
set_option linter.unusedVariables false

/-! ### a port -/
structure Msg where
  there : Bool
  data : List Int
  tick : Nat
def Msg.none : Msg := ⟨false, [], 0⟩
structure PA where
  W : Int
  S : Int
  rs : List Int
  A : Msg
  B : Msg
def pcells (P : PA) (rv da db : Value) (la : Bool) : Array Value :=
  if la then #[.int .i64 P.W, .int .i64 P.S, rv, .bool P.B.there, db, .int .u64 P.B.tick, .bool P.A.there, da, .int .u64 P.A.tick, .int .i64 1]
  else #[.int .i64 P.W, .int .i64 P.S, rv, .bool P.A.there, da, .int .u64 P.A.tick, .bool P.B.there, db, .int .u64 P.B.tick, .int .i64 0]
structure PortIs (w : World) (b : Nat) (F : Nat → Prop) (P : PA) : Prop where
  has : ∃ rv da db la, w.heap[b]? = some (.cells (pcells P rv da db la) 67 (0, 0)) ∧ Ri w rv P.rs ∧ Rb w da P.A.data ∧ Rb w db P.B.data ∧
    (∀ g, rv.ownBlock = some g → F g) ∧ (∀ g, da.ownBlock = some g → F g) ∧ (∀ g, db.ownBlock = some g → F g)
  off : ¬ F b
  lt : ∀ x, F x → x < w.heap.size
theorem PortIs.kept {w w' : World} {b : Nat} {F : Nat → Prop} {P : PA} (h : PortIs w b F P) {row : Option Nat} (hg : w.grownBy w' row) (h1 : row ≠ some b) (h2 : ∀ x, F x → row ≠ some x) : PortIs w' b F P := by
  obtain ⟨⟨rv, da, db, la, hb, hr, ha, hbb, f1, f2, f3⟩, hoff, hlt⟩ := h
  have hbl : b < w.heap.size := (Array.getElem?_eq_some_iff.1 hb).1
  have hk : ∀ g, F g → g < w.heap.size → w'.heap[g]? = w.heap[g]? := fun g hf hl => hg.block g hl (fun e => h2 g hf e.symm)
  exact ⟨⟨rv, da, db, la, by rw [hg.block b hbl (fun e => h1 e.symm)]; exact hb, hr.kept fun g e hl => hk g (f1 g e) hl, ha.kept fun g e hl => hk g (f2 g e) hl, hbb.kept fun g e hl => hk g (f3 g e) hl, f1, f2, f3⟩,
    hoff, fun x hx => Nat.lt_of_lt_of_le (hlt x hx) hg.size⟩
theorem PortIs.blt {w : World} {b : Nat} {F : Nat → Prop} {P : PA} (h : PortIs w b F P) : b < w.heap.size := by
  obtain ⟨⟨rv, da, db, la, hb, _⟩, _, _⟩ := h
  exact (Array.getElem?_eq_some_iff.1 hb).1

/-! ### grownBy -/
abbrev Chg (w w' : World) (r : Option Nat) : Prop := w.grownBy w' r
theorem Chg.refl (w : World) (r : Option Nat) : Chg w w r := ⟨rfl, rfl, rfl, Nat.le_refl _, fun _ _ _ => rfl⟩
theorem Chg.trans {w w1 w2 : World} {r : Option Nat} (h : Chg w w1 r) (k : Chg w1 w2 r) : Chg w w2 r :=
  ⟨k.os.trans h.os, k.tape.trans h.tape, k.output.trans h.output, Nat.le_trans h.size k.size, fun i hi hn => (k.block i (Nat.lt_of_lt_of_le hi h.size) hn).trans (h.block i hi hn)⟩
theorem Chg.trans_new {w w1 w2 : World} {r : Option Nat} {c : Nat} (h : Chg w w1 r) (k : Chg w1 w2 (some c)) (hc : w.heap.size ≤ c) : Chg w w2 r :=
  ⟨k.os.trans h.os, k.tape.trans h.tape, k.output.trans h.output, Nat.le_trans h.size k.size, fun i hi hn => (k.block i (Nat.lt_of_lt_of_le hi h.size) (fun e => by cases e; omega)).trans (h.block i hi hn)⟩
theorem Chg.any {w w1 : World} (h : Chg w w1 none) (r : Option Nat) : Chg w w1 r := ⟨h.os, h.tape, h.output, h.size, fun i hi _ => h.block i hi (by simp)⟩
theorem Chg.set {w w1 : World} {b : Nat} (h : Chg w w1 (some b)) (j : Nat) (v : Value) : Chg w (w1.setCell ⟨b, j, none⟩ v) (some b) :=
  ⟨h.os, h.tape, h.output, by simpa using h.size, fun i hi hn => by rw [heap_setCell_other w1 ⟨b, j, none⟩ i v (fun e => hn (by rw [e]))]; exact h.block i hi hn⟩
theorem Chg.set_new {w w1 : World} {r : Option Nat} {b : Nat} (h : Chg w w1 r) (j : Nat) (v : Value) (hb : w.heap.size ≤ b) : Chg w (w1.setCell ⟨b, j, none⟩ v) r :=
  ⟨h.os, h.tape, h.output, by simpa using h.size, fun i hi hn => by rw [heap_setCell_other w1 ⟨b, j, none⟩ i v (by show i ≠ b; omega)]; exact h.block i hi hn⟩
theorem Chg.drewN {w w1 : World} {r : Option Nat} (h : Chg w w1 r) (n : Nat) : Chg w (w1.drewN n) r := ⟨h.os, h.tape, h.output, h.size, h.block⟩
theorem Chg.alloc {w w1 : World} {r : Option Nat} (h : Chg w w1 r) (o : Obj) : Chg w (w1.alloc o) r :=
  ⟨h.os, h.tape, h.output, by have := h.size; simp; omega, fun i hi hn => by rw [heap_alloc_old (h := Nat.lt_of_lt_of_le hi h.size)]; exact h.block i hi hn⟩
theorem Chg.sl {k : IntKind} {m : Nat} {w w' : World} {v : Value} {xs : List Int} (h : Sl k m w v xs) (hc : Chg w w' none) : Sl k m w' v xs := h.kept fun g _ hg => hc.block g hg (by simp)

/-! ### what may be declared -/
def sized (S : Int) : Bool := decide (4 ≤ S) && decide (S ≤ 256) && (S % 4 == 0)
def good (W : Int) (rs : List Int) (i : Nat) : Bool := isC (nth rs i) && !(nth rs i == W) && !decide (nth rs i ∈ rs.take i)
def goods (W : Int) (rs : List Int) : Nat → Bool
  | 0 => true
  | k + 1 => goods W rs k && good W rs k
theorem goods_false {W : Int} {rs : List Int} {k : Nat} (h : good W rs k = false) : ∀ n, k < n → goods W rs n = false
  | 0, h0 => by omega
  | n + 1, h0 => by
    unfold goods
    by_cases e : k = n
    · subst e; rw [h]; simp
    · rw [goods_false h n (by omega)]; rfl
def may (W S : Int) (rs : List Int) : Bool := isC W && sized S && decide (0 < rs.length) && goods W rs rs.length
def NewPost (w : World) (W S : Int) (rs : List Int) (e : Ending) (w' : World) : Prop :=
  (may W S rs = false ∧ e = .returned (.tuple #[.pointer none, .int .i64 160]) ∧ Chg w w' none) ∨
  (may W S rs = true ∧ ∃ b F, e = .returned (.tuple #[.pointer (some ⟨b, 0, none⟩), .int .i64 0]) ∧ PortIs w' b F ⟨W, S, rs, Msg.none, Msg.none⟩ ∧ w.heap.size ≤ b ∧ (∀ x, F x → w.heap.size ≤ x) ∧ Chg w w' none)

theorem b67 (W S : Int) (A : Option Addr) (n c : Nat) (w : World) : (Instr.build 67 #[(0, .agg #[.int .i64 W, .int .i64 S, .slice A n c])]).run Try.prog w =
    .ok (.agg #[.int .i64 W, .int .i64 S, .slice A n c, .bool false, .slice none 0 0, .int .u64 0, .bool false, .slice none 0 0, .int .u64 0, .int .i64 0]) w := by kernel_rfl
theorem own_slice {w : World} {base : Nat} {e : TypeId} {v : Value} {n : Nat} {xs : List Value} (h : w.ownsRow base e 1 v n xs) : ∃ A c, v = .slice A n c := by
  rcases h.2 with ⟨rfl, rfl⟩ | ⟨g, cap, cur, rfl, _⟩
  · exact ⟨_, _, rfl⟩
  · exact ⟨_, _, rfl⟩
set_option maxHeartbeats 2000000 in
theorem new_loop (w : World) (W S : Int) (rv : Value) (rs : List Int) (h : Ri w rv rs) (hc : isC W = true) (h1 : 4 ≤ S) (h2 : S ≤ 256) (h3 : S % 4 = 0) (hn : 0 < rs.length) :
    Calls Try.prog 9 #[.agg #[.int .i64 W, .int .i64 S, rv]] w (NewPost w W S rs) := by
  have hsz : sized S = true := by simp [sized, h1, h2, h3]
  have hmay : may W S rs = goods W rs rs.length := by simp [may, hc, hsz, hn]
  have HM := Lib.hid hmay
  have HN := Lib.hid hn
  have hnb : ((rs.length : Int) == 0) = false := beq_eq_false_iff_ne.2 (by omega)
  have h3b : (S % 4 == 0) = true := by simpa using h3
  have H := Lib.hid h
  obtain ⟨⟨A, cap, rfl, hcap, hcc⟩, hf⟩ := h
  clear hcc hmay hn hsz h3
  have H1 := Lib.hid (H.out.kept (w' := w.alloc (.cells #[.int .i64 W, .int .i64 S, .slice A rs.length cap] 24)) (fun g _ hg => heap_alloc_old w _ hg))
  have C1 := Lib.hid ((Chg.refl w none).alloc (.cells #[.int .i64 W, .int .i64 S, .slice A rs.length cap] 24))
  have hb := heap_alloc_last w (.cells #[.int .i64 W, .int .i64 S, .slice A rs.length cap] 24)
  have b0 : (w.alloc (.cells #[.int .i64 W, .int .i64 S, .slice A rs.length cap] 24)).cell? ⟨w.heap.size, 0, none⟩ = some (.int .i64 W) := by rw [cell_of_row _ _ _ _ _ _ hb]; rfl
  have b1 : (w.alloc (.cells #[.int .i64 W, .int .i64 S, .slice A rs.length cap] 24)).cell? ⟨w.heap.size, 1, none⟩ = some (.int .i64 S) := by rw [cell_of_row _ _ _ _ _ _ hb]; rfl
  have b2 : (w.alloc (.cells #[.int .i64 W, .int .i64 S, .slice A rs.length cap] 24)).cell? ⟨w.heap.size, 2, none⟩ = some (.slice A rs.length cap) := by rw [cell_of_row _ _ _ _ _ _ hb]; rfl
  have f2 : (w.alloc (.cells #[.int .i64 W, .int .i64 S, .slice A rs.length cap] 24)).frozen? ⟨w.heap.size, 2, none⟩ = false := frozen_of_row _ _ _ _ _ hb
  have HB0 := Lib.hid hb
  clear hb H
  have hs1 : w.heap.size < (w.alloc (.cells #[.int .i64 W, .int .i64 S, .slice A rs.length cap] 24)).heap.size := by simp
  go_enter Try.func9, Try.ntmps9
  go_wp2_with (go_at_call 23; refine (isC_any _ _).mono ?_; rw [hc]; rintro e w' ⟨rfl, rfl⟩)
  generalize w.alloc (.cells #[.int .i64 W, .int .i64 S, .slice A rs.length cap] 24) = w1 at *
  go_loop [5, 6, 38] (fun _ _ i => ∃ k : Nat, k ≤ rs.length ∧ i = .int .i64 k ∧ Hid (goods W rs k = true)) (fun _ _ i => rs.length - (intOf i).toNat)
  case atStart => exact ⟨0, by omega, rfl, Lib.hid rfl⟩
  case round =>
    obtain ⟨k, hk, rfl, hgo⟩ := hrel
    by_cases hlt : k < rs.length
    · obtain ⟨rb, ro, rfl, hcell⟩ := H1.out.at_ k hlt
      have bad : good W rs k = false → goods W rs rs.length = false := fun h => goods_false h _ hlt
      have HB := Lib.hid bad
      have HT := Lib.hid (H1.out.take k hk)
      clear bad
      by_cases g1 : isC (nth rs k) = true
      · by_cases g2 : nth rs k = W
        · have g2b : (nth rs k == W) = true := by simpa using g2
          have G := Lib.hid (HB.out (by simp [good, g2b]))
          clear g2
          go_wp2_with (go_at_call 23; refine (isC_any _ _).mono ?_; rw [g1]; rintro e w' ⟨rfl, rfl⟩)
          go_ret2
          exact .inl ⟨HM.out.trans G.out, rfl, C1.out⟩
        · have g2b : (nth rs k == W) = false := by simpa using g2
          have HG2 := Lib.hid g2
          clear g2
          by_cases g3 : nth rs k ∈ rs.take k
          · have G := Lib.hid (HB.out (by simp [good, g3]))
            have HG3 := Lib.hid g3
            clear g3
            go_wp2_with (first | (go_at_call 23; refine (isC_any _ _).mono ?_; rw [g1]; rintro e w' ⟨rfl, rfl⟩) | (go_at_call 24; refine (contains_any _ _ _ HT.out _).mono ?_; rw [decide_eq_true HG3.out]; rintro e w' ⟨rfl, rfl⟩))
            go_ret2
            exact .inl ⟨HM.out.trans G.out, rfl, C1.out⟩
          · have G := Lib.hid (show goods W rs (k + 1) = true by simp [goods, hgo.out, good, g1, g2b, g3])
            have HG3 := Lib.hid g3
            clear g3
            go_wp2_with (first | (go_at_call 23; refine (isC_any _ _).mono ?_; rw [g1]; rintro e w' ⟨rfl, rfl⟩) | (go_at_call 24; refine (contains_any _ _ _ HT.out _).mono ?_; rw [decide_eq_false HG3.out]; rintro e w' ⟨rfl, rfl⟩))
            go_round
            case rel => exact ⟨k + 1, by omega, by go_num, G⟩
            case measure => simp [intOf]; omega
      · have g1b : isC (nth rs k) = false := by simpa using g1
        have G := Lib.hid (HB.out (by simp [good, g1b]))
        clear g1
        go_wp2_with (go_at_call 23; refine (isC_any _ _).mono ?_; rw [g1b]; rintro e w' ⟨rfl, rfl⟩)
        go_ret2
        exact .inl ⟨HM.out.trans G.out, rfl, C1.out⟩
    · have hke : k = rs.length := by omega
      have hd : decide ((k : Int) < (rs.length : Int)) = false := by simp only [decide_eq_false_iff_not]; omega
      go_wp2_with fail
      refine (clone25 w1 _ rs H1.out).mono ?_
      rintro e w2 ⟨v', rfl, hown, hgr⟩
      obtain ⟨A', c', rfl⟩ := own_slice hown
      have hbl := own_block hown
      have hob : w2.heap[w.heap.size]? = some (.cells #[.int .i64 W, .int .i64 S, .slice A rs.length cap] 24 (0, 0)) := (hgr.block _ hs1 (by simp)).trans HB0.out
      have d0 : w2.cell? ⟨w.heap.size, 0, none⟩ = some (.int .i64 W) := by rw [cell_of_row _ _ _ _ _ _ hob]; rfl
      have d1 : w2.cell? ⟨w.heap.size, 1, none⟩ = some (.int .i64 S) := by rw [cell_of_row _ _ _ _ _ _ hob]; rfl
      have d2 : w2.cell? ⟨w.heap.size, 2, none⟩ = some (.slice A rs.length cap) := by rw [cell_of_row _ _ _ _ _ _ hob]; rfl
      have e2 : w2.frozen? ⟨w.heap.size, 2, none⟩ = false := frozen_of_row _ _ _ _ _ hob
      have hx := b67 W S A' rs.length c'
      have R2 := Lib.hid (own_sl hown hf)
      have HG := Lib.hid hgr
      have HBL := Lib.hid hbl
      have C2 := Lib.hid (C1.out.trans hgr)
      have hs2 := hgr.size
      clear hown hgr hbl hob b0 b1 b2 f2
      go_wp2
      go_ret2
      have K := ((Chg.refl w2 (some w.heap.size)).set 2 (.slice A' rs.length c')).alloc (.cells #[.int .i64 W, .int .i64 S, .slice A' rs.length c', .bool false, .slice none 0 0, .int .u64 0, .bool false, .slice none 0 0, .int .u64 0, .int .i64 0] 67)
      have hm : may W S rs = true := by rw [HM.out, ← hke]; exact hgo.out
      refine .inr ⟨hm, w2.heap.size, fun g => (Value.slice A' rs.length c').ownBlock = some g, ?_, ⟨⟨_, .slice none 0 0, .slice none 0 0, false, ?_, ?_, Sl.nil _, Sl.nil _, fun g e => e, fun g e => ?_, fun g e => ?_⟩, ?_, ?_⟩, ?_, ?_, ?_⟩
      · go_simp
      · have e := heap_alloc_last (w2.setCell ⟨w.heap.size, 2, none⟩ (.slice A' rs.length c')) (.cells #[.int .i64 W, .int .i64 S, .slice A' rs.length c', .bool false, .slice none 0 0, .int .u64 0, .bool false, .slice none 0 0, .int .u64 0, .int .i64 0] 67)
        rw [show (w2.setCell ⟨w.heap.size, 2, none⟩ (.slice A' rs.length c')).heap.size = w2.heap.size by simp] at e
        exact e
      · exact R2.out.kept fun g e hl => K.block g hl (fun e2 => by cases e2; have := (HBL.out _ e).1; omega)
      · cases e
      · cases e
      · intro e; have := (HBL.out _ e).2; omega
      · intro x e; have h1 := (HBL.out _ e).2; have h2 := K.size; omega
      · omega
      · intro x e; have := (HBL.out _ e).1; omega
      · exact (C2.out.set_new 2 _ (Nat.le_refl _)).alloc _

set_option maxHeartbeats 2000000 in
theorem new_bad (w : World) (W S : Int) (rv : Value) (rs : List Int) (h : Ri w rv rs) (hb : isC W = false ∨ sized S = false ∨ rs.length = 0) :
    Calls Try.prog 9 #[.agg #[.int .i64 W, .int .i64 S, rv]] w (NewPost w W S rs) := by
  have hmay : may W S rs = false := by
    rcases hb with h | h | h <;> simp [may, h]
  have HM := Lib.hid hmay
  obtain ⟨⟨A, cap, rfl, hcap, hcc⟩, hf⟩ := h
  clear hcc hmay
  have C1 := Lib.hid ((Chg.refl w none).alloc (.cells #[.int .i64 W, .int .i64 S, .slice A rs.length cap] 24))
  have hbk := heap_alloc_last w (.cells #[.int .i64 W, .int .i64 S, .slice A rs.length cap] 24)
  have b0 : (w.alloc (.cells #[.int .i64 W, .int .i64 S, .slice A rs.length cap] 24)).cell? ⟨w.heap.size, 0, none⟩ = some (.int .i64 W) := by rw [cell_of_row _ _ _ _ _ _ hbk]; rfl
  have b1 : (w.alloc (.cells #[.int .i64 W, .int .i64 S, .slice A rs.length cap] 24)).cell? ⟨w.heap.size, 1, none⟩ = some (.int .i64 S) := by rw [cell_of_row _ _ _ _ _ _ hbk]; rfl
  have b2 : (w.alloc (.cells #[.int .i64 W, .int .i64 S, .slice A rs.length cap] 24)).cell? ⟨w.heap.size, 2, none⟩ = some (.slice A rs.length cap) := by rw [cell_of_row _ _ _ _ _ _ hbk]; rfl
  clear hbk
  by_cases hc : isC W = true
  · by_cases h1 : 4 ≤ S
    · by_cases h2 : S ≤ 256
      · by_cases h3 : S % 4 = 0
        · have h0 : rs.length = 0 := by
            rcases hb with h | h | h
            · rw [hc] at h; cases h
            · simp [sized, h1, h2, h3] at h
            · exact h
          have hnb : ((rs.length : Int) == 0) = true := beq_iff_eq.2 (by omega)
          have h3b : (S % 4 == 0) = true := by simpa using h3
          clear h3 h0 hb
          go_enter Try.func9, Try.ntmps9
          go_wp2_with (go_at_call 23; refine (isC_any _ _).mono ?_; rw [hc]; rintro e w' ⟨rfl, rfl⟩)
          go_ret2
          exact .inl ⟨HM.out, rfl, C1.out⟩
        · have h3b : (S % 4 == 0) = false := by simpa using h3
          clear h3 hb
          go_enter Try.func9, Try.ntmps9
          go_wp2_with (go_at_call 23; refine (isC_any _ _).mono ?_; rw [hc]; rintro e w' ⟨rfl, rfl⟩)
          go_ret2
          exact .inl ⟨HM.out, rfl, C1.out⟩
      · have hd : decide (S ≤ 256) = false := by simp only [decide_eq_false_iff_not]; omega
        clear hb
        go_enter Try.func9, Try.ntmps9
        go_wp2_with (go_at_call 23; refine (isC_any _ _).mono ?_; rw [hc]; rintro e w' ⟨rfl, rfl⟩)
        go_ret2
        exact .inl ⟨HM.out, rfl, C1.out⟩
    · have hd : decide (4 ≤ S) = false := by simp only [decide_eq_false_iff_not]; omega
      clear hb
      go_enter Try.func9, Try.ntmps9
      go_wp2_with (go_at_call 23; refine (isC_any _ _).mono ?_; rw [hc]; rintro e w' ⟨rfl, rfl⟩)
      go_ret2
      exact .inl ⟨HM.out, rfl, C1.out⟩
  · have hcb : isC W = false := by simpa using hc
    clear hb hc
    by_cases h1 : 4 ≤ S
    · by_cases h2 : S ≤ 256
      · go_enter Try.func9, Try.ntmps9
        go_wp2_with (go_at_call 23; refine (isC_any _ _).mono ?_; rw [hcb]; rintro e w' ⟨rfl, rfl⟩)
        go_ret2
        exact .inl ⟨HM.out, rfl, C1.out⟩
      · have hd : decide (S ≤ 256) = false := by simp only [decide_eq_false_iff_not]; omega
        go_enter Try.func9, Try.ntmps9
        go_wp2_with (go_at_call 23; refine (isC_any _ _).mono ?_; rw [hcb]; rintro e w' ⟨rfl, rfl⟩)
        go_ret2
        exact .inl ⟨HM.out, rfl, C1.out⟩
    · have hd : decide (4 ≤ S) = false := by simp only [decide_eq_false_iff_not]; omega
      go_enter Try.func9, Try.ntmps9
      go_wp2_with (go_at_call 23; refine (isC_any _ _).mono ?_; rw [hcb]; rintro e w' ⟨rfl, rfl⟩)
      go_ret2
      exact .inl ⟨HM.out, rfl, C1.out⟩
theorem new_any (w : World) (W S : Int) (rv : Value) (rs : List Int) (h : Ri w rv rs) :
    Calls Try.prog 9 #[.agg #[.int .i64 W, .int .i64 S, rv]] w (NewPost w W S rs) := by
  by_cases hb : isC W = false ∨ sized S = false ∨ rs.length = 0
  · exact new_bad w W S rv rs h hb
  · have h1 : isC W = true := by cases e : isC W with | true => rfl | false => exact absurd (.inl e) hb
    have h2 : sized S = true := by cases e : sized S with | true => rfl | false => exact absurd (.inr (.inl e)) hb
    have h3 : 0 < rs.length := Nat.pos_of_ne_zero (fun e => hb (.inr (.inr e)))
    have h4 : (4 ≤ S ∧ S ≤ 256) ∧ S % 4 = 0 := by simpa [sized] using h2
    exact new_loop w W S rv rs h h1 h4.1.1 h4.1.2 h4.2 h3
end Go.Proofs.Ytfoofipkbijajaa.Sa
