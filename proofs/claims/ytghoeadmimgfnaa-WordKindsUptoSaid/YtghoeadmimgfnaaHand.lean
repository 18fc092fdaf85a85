/- word.look and the function literal in it: what they come to. No condition but the sizes. -/
import Derived.Test.YtghoeadmimgfnaaPWax6
import Derived.Outline
namespace Go.Proofs.Ytghoeadmimgfnaa.Hand
open Go.RowKit Go.Proofs.Ytghoeadmimgfnaa.PWa Go.Proofs.YtghoeadmimgfnaaW.PrintWords Go.Proofs.YtghoeadmimgfnaaW.PrintLast Go.Proofs.YtghoeadmimgfnaaW.PrintMore
set_option linter.unusedVariables false
set_option linter.unusedSimpArgs false

/-- a byte's kind -/
def cls (a : Int) (big : Bool) : Int :=
  if a = 10 then 3 else if a = 32 ∨ a = 9 then 0
  else if big = true ∨ (97 ≤ a ∧ a ≤ 122) ∨ (65 ≤ a ∧ a ≤ 90) ∨ (48 ≤ a ∧ a ≤ 57) ∨ a = 95 ∨ 128 ≤ a then 2 else 1

theorem of_eq (k : Nat) (a : Int) (big : Bool) : class_Of.f (k + 1) a big = some (cls a big) := by
  have e1 : class_small.f a = some (decide (97 ≤ a ∧ a ≤ 122)) := by unfold class_small.f; by_cases h : 97 ≤ a <;> simp [h]
  have e2 : class_great.f a = some (decide (65 ≤ a ∧ a ≤ 90)) := by unfold class_great.f; by_cases h : 65 ≤ a <;> simp [h]
  unfold class_Of.f cls
  by_cases h1 : a = 10
  · simp [h1]
  · by_cases h2 : a = 32
    · simp [h2, class_Of.j0]
    · by_cases h3 : a = 9
      · simp [h3, class_Of.j0]
      · have h4 : (a == 9) = false := by simpa using h3
        simp only [class_Of.j0, e1, e2, Option.bind_some, h1, h2, h3, h4, if_false, or_self, decide_eq_true_eq, ge_iff_le, Bool.false_eq_true]
        by_cases s1 : 97 ≤ a ∧ a ≤ 122
        · cases big <;> simp [s1]
        · by_cases s2 : 65 ≤ a ∧ a ≤ 90
          · cases big <;> simp [s1, s2]
          · by_cases s3 : a = 95
            · cases big <;> simp [s3]
            · by_cases s4 : 128 ≤ a
              · cases big <;> simp [s1, s2, s3, s4] <;> omega
              · by_cases s5 : 48 ≤ a
                · by_cases s6 : a ≤ 57 <;> cases big <;> simp [s1, s2, s3, s4, s5, s6]
                · cases big <;> simp [s1, s2, s3, s4, s5]

/-- the kind of the byte at a place; outside of the text: a line's end -/
def kindAt (l : List Int) (big : Bool) (i : Int) : Int := if i < 0 then 3 else if (l.length : Int) ≤ i then 3 else cls (rd l i) big

set_option maxHeartbeats 1000000 in
set_option maxRecDepth 100000 in
theorem kind_calls (A : Option Addr) (c : Nat) (l : List Int) (big : Bool) (p1 p2 : Addr) (i : Int) (w : World) (hr : Kd.C (Kd.int .u8) w A l.length l) (h1 : w.cell? p1 = some (.slice A l.length c)) (h2 : w.cell? p2 = some (.bool big)) :
    Calls Try.prog 30 #[.int .i64 i, .pointer (some p1), .pointer (some p2)] w fun e w' => e = .returned (.int .i64 (kindAt l big i)) ∧ Drawn0 w w' := by
  have HR := Aside0.mk hr
  clear hr
  by_cases c1 : i < 0
  · have c1b : decide (i < 0) = true := decide_eq_true c1
    have e0 : kindAt l big i = 3 := by simp [kindAt, c1]
    rw [e0]
    clear e0 c1
    go_enter Try.func30, Try.ntmps30
    go_wp2
    go_ret
    exact ⟨rfl, Drawn0.refl _⟩
  · have c1b : decide (i < 0) = false := decide_eq_false c1
    by_cases c2 : (l.length : Int) ≤ i
    · have c2b : decide ((l.length : Int) ≤ i) = true := decide_eq_true c2
      have e0 : kindAt l big i = 3 := by simp [kindAt, c1, c2]
      rw [e0]
      clear e0 c1 c2
      go_enter Try.func30, Try.ntmps30
      go_wp2
      go_ret
      exact ⟨rfl, Drawn0.refl _⟩
    · have c2b : decide ((l.length : Int) ≤ i) = false := decide_eq_false c2
      have e0 : kindAt l big i = cls (rd l i) big := by simp [kindAt, c1, c2]
      rw [e0]
      obtain ⟨ad, eA, hx⟩ := Kd.at_int HR.out i (by omega) (by omega)
      subst eA
      have p0 : (0 ≤ i) = True := eq_true (by omega)
      have q0 : (i < (l.length : Int)) = True := eq_true (by omega)
      have hcl := Aside0.mk (of_eq 0 (rd l i) big)
      clear e0 c1 c2
      go_enter Try.func30, Try.ntmps30
      go_wp2
      repeat (go_quiet (first | (go_at_call 15; (with_reducible refine (class_Of.calls 1 (rd l i) big _ _ hcl.out).mono ?_); rintro e w' ⟨rfl, ⟨nd, rfl⟩⟩; (try first | exact ⟨rfl, _, World.drewN_drewN _ _ _⟩ | exact ⟨rfl, _, Eq.trans (World.drewN_drewN _ _ _) (congrArg (World.drewN _) (Nat.add_assoc _ _ _))⟩))); try go_wp2)
      go_ret
      exact ⟨rfl, by repeat (first | exact Drawn0.refl _ | apply Drawn0.step)⟩
end Go.Proofs.Ytghoeadmimgfnaa.Hand
