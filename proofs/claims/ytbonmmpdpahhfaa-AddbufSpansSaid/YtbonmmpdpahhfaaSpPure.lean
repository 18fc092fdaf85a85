/- The law AddbufSpans over numbers: every Joins and Cut. No condition. -/
import Derived.Test.YtbonmmpdpahhfaaPSpx3
namespace Go.Proofs.Ytbonmmpdpahhfaa.Pure
set_option linter.unusedVariables false
open Go.RowKit Go.Proofs.Ytbonmmpdpahhfaa.PSp Go.Proofs.YtbonmmpdpahhfaaW.PrintWords Go.Proofs.YtbonmmpdpahhfaaW.PrintLast

def Snd (a b c : Int) : Prop := (a = 0 ∨ a = 1) ∧ 0 ≤ b ∧ 0 ≤ c ∧ b ≤ 4611686018427387904 ∧ c ≤ 4611686018427387904 - b
instance (a b c : Int) : Decidable (Snd a b c) := by unfold Snd; infer_instance
theorem wrap_far {b : Int} (h0 : 0 ≤ b) (h1 : b ≤ 4611686018427387904) : wrap64 (4611686018427387904 - b) = 4611686018427387904 - b := by
  unfold wrap64
  omega
theorem sound_eq (a b c : Int) : addbuf_sound.f a b c = some (decide (Snd a b c)) := by
  unfold addbuf_sound.f Snd
  by_cases h1 : 0 ≤ b
  · by_cases h2 : b ≤ 4611686018427387904
    · rw [wrap_far h1 h2]
      by_cases h3 : 0 ≤ c
      · by_cases h0 : a = 0
        · simp [h0, h1, h2, h3]
        · by_cases h9 : a = 1 <;> simp [h0, h1, h2, h3, h9]
      · by_cases h0 : a = 0
        · simp [h0, h1, h2, h3]
        · by_cases h9 : a = 1 <;> simp [h0, h1, h2, h3, h9]
    · by_cases h3 : 0 ≤ c <;> by_cases h0 : a = 0 <;> by_cases h9 : a = 1 <;> simp [h0, h1, h2, h3, h9]
  · by_cases h0 : a = 0 <;> by_cases h9 : a = 1 <;> simp [h0, h1, h9]
theorem ref_sound_eq (a b c : Int) : quoinref01_Sound.f a b c = some (decide (Snd a b c)) := by
  unfold quoinref01_Sound.f Snd
  by_cases h1 : 0 ≤ b
  · by_cases h2 : b ≤ 4611686018427387904
    · rw [wrap_far h1 h2]
      by_cases h3 : 0 ≤ c
      · by_cases h0 : a = 0
        · simp [h0, h1, h2, h3]
        · by_cases h9 : a = 1 <;> simp [h0, h1, h2, h3, h9]
      · by_cases h0 : a = 0
        · simp [h0, h1, h2, h3]
        · by_cases h9 : a = 1 <;> simp [h0, h1, h2, h3, h9]
    · by_cases h3 : 0 ≤ c <;> by_cases h0 : a = 0 <;> by_cases h9 : a = 1 <;> simp [h0, h1, h2, h3, h9]
  · by_cases h0 : a = 0 <;> by_cases h9 : a = 1 <;> simp [h0, h1, h9]

theorem joins_eq (k : Nat) (a b c x y z : Int) (hk : 0 < k) : addbuf_Joins.f k a b c x y z = quoinref01_Joins.f a b c x y z := by
  obtain ⟨k, rfl⟩ : ∃ m, k = m + 1 := ⟨k - 1, by omega⟩
  unfold addbuf_Joins.f quoinref01_Joins.f
  simp only [addbuf_Joins.j0, sound_eq, ref_sound_eq, Option.bind_some, decide_eq_true_eq]
  by_cases h1 : Snd a b c
  · by_cases h2 : Snd x y z
    · by_cases h3 : a = x
      · by_cases h4 : y = wrap64 (b + c)
        · have h5 : Snd a b (wrap64 (c + z)) := by
            unfold Snd at h1 h2 ⊢
            have e1 : wrap64 (b + c) = b + c := by unfold wrap64; omega
            have e2 : wrap64 (c + z) = c + z := by unfold wrap64; omega
            rw [e1] at h4
            rw [e2]
            omega
          have h4' : (y != wrap64 (b + c)) = false := by simp [h4]
          rw [if_pos h1, if_pos h2, if_pos h3, h4', if_neg (by decide), if_pos h5, if_pos h1, if_pos h2, if_pos h3, if_pos h4]
        · have h4' : (y != wrap64 (b + c)) = true := by simp [h4]
          rw [if_pos h1, if_pos h2, if_pos h3, h4', if_pos rfl, if_pos h1, if_pos h2, if_pos h3, if_neg h4]
      · rw [if_pos h1, if_pos h2, if_neg h3, if_pos trivial, if_pos h1, if_pos h2, if_neg h3]
    · rw [if_pos h1, if_neg h2, if_pos trivial, if_pos h1, if_neg h2]
  · rw [if_neg h1, if_pos trivial, if_neg h1]
theorem cut_eq (a b c x : Int) : addbuf_Cut.f a b c x = quoinref01_Cut.f a b c x := by
  unfold addbuf_Cut.f quoinref01_Cut.f
  rw [sound_eq, ref_sound_eq]
theorem joins_some (a b c x y z : Int) : ∃ r, quoinref01_Joins.f a b c x y z = some r := by
  unfold quoinref01_Joins.f
  simp only [ref_sound_eq, Option.bind_some]
  (repeat' split) <;> exact ⟨_, rfl⟩
theorem cut_some (a b c x : Int) : ∃ r, quoinref01_Cut.f a b c x = some r := by
  unfold quoinref01_Cut.f
  simp only [ref_sound_eq, Option.bind_some]
  (repeat' split) <;> exact ⟨_, rfl⟩

theorem AddbufSpans (a b c x y z at_ : Int) (_ : (Lit.int .i64 a).wf = true ∧ (Lit.int .i64 b).wf = true ∧ (Lit.int .i64 c).wf = true) (_ : (Lit.int .i64 x).wf = true ∧ (Lit.int .i64 y).wf = true ∧ (Lit.int .i64 z).wf = true)
    (_ : (Lit.int .i64 at_).wf = true) : ∃ k, quoinlaw01_AddbufSpans.f k a b c x y z at_ = some true := by
  refine ⟨3, ?_⟩
  have h0 : quoinref01_Joins.f 1 0 2 1 2 1 = some (1, 0, 3, true) := by decide +kernel
  obtain ⟨r, hr⟩ := joins_some a b c x y z
  obtain ⟨q, hq⟩ := cut_some a b c at_
  unfold quoinlaw01_AddbufSpans.f
  rw [joins_eq _ _ _ _ _ _ _ (by omega), h0]
  simp only [Option.bind_some, if_true]
  rw [quoinlaw01_AddbufSpans.j0, joins_eq _ _ _ _ _ _ _ (by omega), hr]
  simp only [Option.bind_some, beq_self_eq_true, Bool.not_true, Bool.or_self, Bool.false_eq_true, if_false, bne_self_eq_false]
  rw [quoinlaw01_AddbufSpans.j1, cut_eq, hq]
  simp
end Go.Proofs.Ytbonmmpdpahhfaa.Pure
