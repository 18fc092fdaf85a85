/- The law AddbufBack over numbers. No condition. -/
import Derived.Test.YtbonmmpdpahhfaaPBkx3
namespace Go.Proofs.Ytbonmmpdpahhfaa.Pure
set_option linter.unusedVariables false
open Go.RowKit Go.Proofs.Ytbonmmpdpahhfaa.PBk Go.Proofs.YtbonmmpdpahhfaaW.PrintWords Go.Proofs.YtbonmmpdpahhfaaW.PrintLast

def Snd (a b c : Int) : Prop := (a = 0 ∨ a = 1) ∧ 0 ≤ b ∧ 0 ≤ c ∧ b ≤ 4611686018427387904 ∧ c ≤ 4611686018427387904 - b
instance (a b c : Int) : Decidable (Snd a b c) := by unfold Snd; infer_instance
theorem wrap_far {b : Int} (h0 : 0 ≤ b) (h1 : b ≤ 4611686018427387904) : wrap64 (4611686018427387904 - b) = 4611686018427387904 - b := by
  unfold wrap64
  omega
theorem wrap_id {b : Int} (h0 : 0 ≤ b) (h1 : b ≤ 4611686018427387904) : wrap64 b = b := by
  unfold wrap64
  omega
theorem sound_eq (a b c : Int) : addbuf_sound.f a b c = some (decide (Snd a b c)) := by
  unfold addbuf_sound.f Snd
  by_cases h1 : 0 ≤ b
  · by_cases h2 : b ≤ 4611686018427387904
    · rw [wrap_far h1 h2]
      by_cases h3 : 0 ≤ c
      · by_cases h0 : a = 0
        · simp [h0, h1, h2, h3]
        · by_cases h9 : a = 1 <;> simp [h0, h1, h2, h3, h9]
      · by_cases h0 : a = 0
        · simp [h0, h1, h2, h3]
        · by_cases h9 : a = 1 <;> simp [h0, h1, h2, h3, h9]
    · by_cases h3 : 0 ≤ c <;> by_cases h0 : a = 0 <;> by_cases h9 : a = 1 <;> simp [h0, h1, h2, h3, h9]
  · by_cases h0 : a = 0 <;> by_cases h9 : a = 1 <;> simp [h0, h1, h9]
theorem joins_eq (k : Nat) (a b c x y z : Int) (hk : 0 < k) : addbuf_Joins.f k a b c x y z = some (if Snd a b c ∧ Snd x y z ∧ a = x ∧ y = b + c then (a, b, c + z, true) else (0, 0, 0, false)) := by
  obtain ⟨k, rfl⟩ : ∃ m, k = m + 1 := ⟨k - 1, by omega⟩
  unfold addbuf_Joins.f
  simp only [addbuf_Joins.j0, sound_eq, Option.bind_some, decide_eq_true_eq]
  by_cases h1 : Snd a b c
  · by_cases h2 : Snd x y z
    · by_cases h3 : a = x
      · have e1 : wrap64 (b + c) = b + c := by unfold Snd at h1; exact wrap_id (by omega) (by omega)
        rw [e1]
        by_cases h4 : y = b + c
        · have e2 : wrap64 (c + z) = c + z := by unfold Snd at h1 h2; exact wrap_id (by omega) (by omega)
          have h5 : Snd a b (c + z) := by
            unfold Snd at h1 h2 ⊢
            omega
          have h4' : (y != b + c) = false := by simp [h4]
          rw [e2, if_pos h1, if_pos h2, if_pos h3, h4', if_neg (by decide), if_pos h5, if_pos ⟨h1, h2, h3, h4⟩]
        · have h4' : (y != b + c) = true := by simp [h4]
          rw [if_pos h1, if_pos h2, if_pos h3, h4', if_pos rfl, if_neg (fun h => h4 h.2.2.2)]
      · rw [if_pos h1, if_pos h2, if_neg h3, if_pos trivial, if_neg (fun h => h3 h.2.2.1)]
    · rw [if_pos h1, if_neg h2, if_pos trivial, if_neg (fun h => h2 h.2.1)]
  · rw [if_neg h1, if_pos trivial, if_neg (fun h => h1 h.1)]
theorem cut_eq (a b c t : Int) : addbuf_Cut.f a b c t = some (if Snd a b c then (if 0 ≤ t ∧ t ≤ c then (a, b, t, a, b + t, c - t, 0) else (0, 0, 0, 0, 0, 0, 2)) else (0, 0, 0, 0, 0, 0, 10)) := by
  unfold addbuf_Cut.f
  simp only [sound_eq, Option.bind_some, decide_eq_true_eq]
  by_cases h1 : Snd a b c
  · rw [if_pos h1, if_pos h1]
    by_cases h2 : t < 0
    · rw [if_pos h2, if_neg (by omega)]
    · by_cases h3 : t > c
      · rw [if_neg h2, if_pos h3, if_neg (by omega)]
      · have e1 : wrap64 (b + t) = b + t := by unfold Snd at h1; exact wrap_id (by omega) (by omega)
        have e2 : wrap64 (c - t) = c - t := by unfold Snd at h1; exact wrap_id (by omega) (by omega)
        rw [if_neg h2, if_neg h3, if_pos (by omega), e1, e2]
  · rw [if_neg h1, if_neg h1]
theorem j0_eq (k : Nat) (a b c x y z : Int) (hk : 0 < k) : quoinlaw01_AddbufBack.j0 (k + 1) a b c x y z = some true := by
  unfold quoinlaw01_AddbufBack.j0
  simp only [joins_eq _ _ _ _ _ _ _ hk, Option.bind_some]
  by_cases h : Snd a b c ∧ Snd x y z ∧ a = x ∧ y = b + c
  · simp only [if_pos h, if_true, cut_eq, Option.bind_some]
    obtain ⟨h1, h2, rfl, rfl⟩ := h
    have h3 : Snd a b (c + z) := by unfold Snd at h1 h2 ⊢; omega
    have h4 : 0 ≤ c ∧ c ≤ c + z := by unfold Snd at h1 h2; omega
    simp [h3, h4, show c + z - c = z by omega]
  · simp [if_neg h]
theorem AddbufBack (a b c x y z at_ : Int) (_ : (Lit.int .i64 a).wf = true ∧ (Lit.int .i64 b).wf = true ∧ (Lit.int .i64 c).wf = true) (_ : (Lit.int .i64 x).wf = true ∧ (Lit.int .i64 y).wf = true ∧ (Lit.int .i64 z).wf = true)
    (_ : (Lit.int .i64 at_).wf = true) : ∃ k, quoinlaw01_AddbufBack.f k a b c x y z at_ = some true := by
  refine ⟨3, ?_⟩
  unfold quoinlaw01_AddbufBack.f
  simp only [quoinlaw01_awake.f, Option.bind_some, if_true, cut_eq]
  by_cases h1 : Snd a b c
  · by_cases h2 : 0 ≤ at_ ∧ at_ ≤ c
    · have h3 : Snd a b at_ ∧ Snd a (b + at_) (c - at_) ∧ a = a ∧ b + at_ = b + at_ := by unfold Snd at h1 ⊢; omega
      simp only [if_pos h1, if_pos h2, if_true, joins_eq 3 _ _ _ _ _ _ (by omega), Option.bind_some, j0_eq 2 _ _ _ _ _ _ (by omega), show at_ + (c - at_) = c by omega]
      simp [h3.1, h3.2.1]
    · simp [h1, h2, j0_eq 2 _ _ _ _ _ _ (by omega)]
  · simp [h1, j0_eq 2 _ _ _ _ _ _ (by omega)]
end Go.Proofs.Ytbonmmpdpahhfaa.Pure
