/- What holds of a cache that was only accessed: each tag once in a set; each line's number below their number. No statement of the seat is proved here. -/
import Derived.Test.YtlmgiejemdifkaaDoorUsed
namespace Go.Proofs.YtlmgiejemdifkaaDoor.Ca
set_option linter.unusedSimpArgs false
set_option linter.unusedVariables false

structure Good (s : Shp) (f : Nat → List Ln) : Prop where
  len : ∀ k, (f k).length ≤ s.W
  nodup : ∀ k, (tags (f k)).Nodup
  room : ∀ k l, l ∈ f k → l.1 * s.S + k < 4294967296 / s.L
theorem good_nil (s : Shp) : Good s (fun _ => []) := ⟨fun _ => Nat.zero_le _, fun _ => List.nodup_nil, fun _ _ h => by cases h⟩
theorem mem_acc {W : Nat} {V : List Ln} {t : Nat} {wr : Bool} {l : Ln} (h : l ∈ accV W V t wr) : l.1 = t ∨ l ∈ V := by
  unfold accV at h
  split at h
  · rcases List.mem_cons.1 h with rfl | h
    · exact .inl rfl
    · exact .inr (List.mem_of_mem_eraseIdx h)
  · split at h
    · rcases List.mem_cons.1 h with rfl | h
      · exact .inl rfl
      · exact .inr (List.mem_of_mem_take h)
    · rcases List.mem_cons.1 h with rfl | h
      · exact .inl rfl
      · exact .inr h
theorem pow_room (s : Shp) : 4294967296 / s.L * s.L = 4294967296 := by
  have h : s.L ∣ 4294967296 := by
    rw [s.hL, show (4294967296 : Nat) = 2 ^ 32 by decide]
    exact Nat.pow_dvd_pow 2 (by have := s.hj; omega)
  exact Nat.div_mul_cancel h
theorem line_room (s : Shp) (a : Nat) (ha : a < 4294967296) : tagOf s.S s.L a * s.S + setOf s.S s.L a < 4294967296 / s.L := by
  have h0 := s.Lle
  have e : tagOf s.S s.L a * s.S + setOf s.S s.L a = a / s.L := by
    unfold tagOf setOf
    rw [Nat.mul_comm]; exact Nat.div_add_mod _ _
  rw [e, Nat.div_lt_iff_lt_mul (by omega), pow_room]
  exact ha
theorem Good.acc {s : Shp} {f : Nat → List Ln} (h : Good s f) (a : Nat) (ha : a < 4294967296) (x : Bool) : Good s (put f (setOf s.S s.L a) (accV s.W (f (setOf s.S s.L a)) (tagOf s.S s.L a) x)) := by
  have hW := s.hW
  refine ⟨fun k => ?_, fun k => ?_, fun k l hl => ?_⟩
  · by_cases e : k = setOf s.S s.L a
    · subst e; rw [put_same]; exact accV_len _ _ (h.len _) (by omega)
    · rw [put_other _ _ e]; exact h.len k
  · by_cases e : k = setOf s.S s.L a
    · subst e
      rw [put_same, tags_acc _ _ (h.len _) (by omega)]
      exact (List.nodup_cons.2 ⟨(h.nodup _).not_mem_erase, (h.nodup _).erase _⟩).sublist (List.take_sublist _ _)
    · rw [put_other _ _ e]; exact h.nodup k
  · by_cases e : k = setOf s.S s.L a
    · subst e
      rw [put_same] at hl
      rcases mem_acc hl with h1 | h1
      · rw [h1]; exact line_room s a ha
      · exact h.room _ l h1
    · rw [put_other _ _ e] at hl; exact h.room k l hl
theorem good_aft {s : Shp} {f : Nat → List Ln} (h : Good s f) (us : List Us) (hu : ∀ k, (unth us k).1 < 4294967296) : ∀ n, Good s (aft s f us n)
  | 0 => h
  | n + 1 => (good_aft h us hu n).acc _ (hu n) _
end Go.Proofs.YtlmgiejemdifkaaDoor.Ca
