/- BlockStops: the function literals in it: what they come to. No condition but the sizes. -/
import Derived.Test.YtbklmdgmgffjeaaBsP
namespace Go.Proofs.Ytbklmdgmgffjeaa.Hand
open Go.RowKit Go.Proofs.Ytbklmdgmgffjeaa.PBl Go.Proofs.YtbklmdgmgffjeaaW.PrintWords Go.Proofs.YtbklmdgmgffjeaaW.PrintLast Go.Proofs.YtbklmdgmgffjeaaW.PrintMore
set_option linter.unusedVariables false
set_option linter.unusedSimpArgs false
set_option maxHeartbeats 1000000 in
set_option maxRecDepth 100000 in
theorem dn_calls (A : Option Addr) (c : Nat) (T : List Int) (p1 : Addr) (i : Nat) (hi : i ≤ T.length) (hl : T.length ≤ 1048576) (w : World) (hr : Kd.C (Kd.int .u8) w A T.length T) (h1 : w.cell? p1 = some (.slice A T.length c)) :
    Calls Try.prog 15 #[.int .i64 (i : Int), .pointer (some p1)] w fun e w' => e = .returned (.bool (DN T (i : Int))) ∧ Drawn0 w w' := by
  have HR := Aside0.mk hr
  clear hr
  by_cases c1 : 2 ≤ i
  · have f1 : decide ((i : Int) ≥ 2) = true := decide_eq_true (by omega)
    have f1b : ((2 : Int) ≤ (i : Int)) = True := eq_true (by omega)
    obtain ⟨j1, hj1⟩ : ∃ j : Int, j = (i : Int) - 1 := ⟨_, rfl⟩
    have hw1 : IntKind.i64.wrap ((i : Int) - 1) = j1 := by rw [i64_w, w64 _ (by omega)]; exact hj1.symm
    have hn1 : 0 ≤ j1 := by omega
    have hm1 : j1 < (T.length : Int) := by omega
    obtain ⟨j2, hj2⟩ : ∃ j : Int, j = (i : Int) - 2 := ⟨_, rfl⟩
    have hw2 : IntKind.i64.wrap ((i : Int) - 2) = j2 := by rw [i64_w, w64 _ (by omega)]; exact hj2.symm
    have hn2 : 0 ≤ j2 := by omega
    have hm2 : j2 < (T.length : Int) := by omega
    obtain ⟨ad1, eA1, hx1⟩ := Kd.at_int HR.out j1 hn1 hm1
    have p1 : (0 ≤ j1) = True := eq_true hn1
    have q1 : (j1 < (T.length : Int)) = True := eq_true hm1
    obtain ⟨ad2, eA2, hx2⟩ := Kd.at_int HR.out j2 hn2 hm2
    have p2 : (0 ≤ j2) = True := eq_true hn2
    have q2 : (j2 < (T.length : Int)) = True := eq_true hm2
    subst eA1
    cases eA2
    have hd : DN T (i : Int) = ((rd T j1 == 10) && (!(rd T j2 == 10)) && ((i : Int) == (T.length : Int) || rd T (i : Int) == 10)) := by
      have e0 : ((i : Int) == 0) = false := beq_eq_false_iff_ne.mpr (by omega)
      have e1 : (j1 == 0) = false := beq_eq_false_iff_ne.mpr (by omega)
      have e2 : (j1 == (T.length : Int)) = false := beq_eq_false_iff_ne.mpr (by omega)
      have e3 : j1 - 1 = j2 := by omega
      have e4 : decide ((i : Int) > 0) = true := decide_eq_true (by omega)
      unfold DN emp
      rw [← hj1, e0, e1, e2, e3, e4]
      cases (rd T j1 == 10) <;> cases (rd T j2 == 10) <;> cases ((i : Int) == (T.length : Int) || rd T (i : Int) == 10) <;> rfl
    rw [hd]
    clear hd
    generalize rd T j1 = x1 at hx1 ⊢
    generalize rd T j2 = x2 at hx2 ⊢
    clear hj1 hj2 hn1 hn2 hm1 hm2
    by_cases k1 : x1 = 10
    · have k1b : (x1 == 10) = true := beq_iff_eq.mpr k1
      rw [k1b]
      clear k1
      by_cases k2 : x2 = 10
      · have k2b : (x2 == 10) = true := beq_iff_eq.mpr k2
        have k2c : (x2 != 10) = false := bne_eq_false_iff_eq.mpr k2
        rw [k2b]
        clear k2
        show Calls Try.prog 15 _ w fun e w' => e = .returned (.bool false) ∧ Drawn0 w w'
        go_enter Try.func15, Try.ntmps15
        go_wp2
        go_ret
        exact ⟨rfl, Drawn0.refl _⟩
      · have k2b : (x2 == 10) = false := beq_eq_false_iff_ne.mpr k2
        have k2c : (x2 != 10) = true := bne_iff_ne.mpr k2
        rw [k2b]
        clear k2
        by_cases k3 : i = T.length
        · have k3b : ((i : Int) == (T.length : Int)) = true := beq_iff_eq.mpr (by omega)
          rw [k3b]
          clear k3
          show Calls Try.prog 15 _ w fun e w' => e = .returned (.bool true) ∧ Drawn0 w w'
          go_enter Try.func15, Try.ntmps15
          go_wp2
          go_ret
          exact ⟨rfl, Drawn0.refl _⟩
        · have k3b : ((i : Int) == (T.length : Int)) = false := beq_eq_false_iff_ne.mpr (by omega)
          rw [k3b]
          obtain ⟨ad3, eA3, hx3⟩ := Kd.at_int HR.out (i : Int) (by omega) (by omega)
          cases eA3
          rw [Int.toNat_natCast] at hx3
          have q3 : ((i : Int) < (T.length : Int)) = True := eq_true (by omega)
          generalize rd T (i : Int) = x3 at hx3 ⊢
          show Calls Try.prog 15 _ w fun e w' => e = .returned (.bool (x3 == 10)) ∧ Drawn0 w w'
          clear k3
          go_enter Try.func15, Try.ntmps15
          go_wp2
          go_ret
          exact ⟨rfl, Drawn0.refl _⟩
    · have k1b : (x1 == 10) = false := beq_eq_false_iff_ne.mpr k1
      rw [k1b]
      clear k1
      show Calls Try.prog 15 _ w fun e w' => e = .returned (.bool false) ∧ Drawn0 w w'
      go_enter Try.func15, Try.ntmps15
      go_wp2
      go_ret
      exact ⟨rfl, Drawn0.refl _⟩
  · have f1 : decide ((i : Int) ≥ 2) = false := decide_eq_false (by omega)
    have f1b : ((2 : Int) ≤ (i : Int)) = False := eq_false (by omega)
    have hd : DN T (i : Int) = false := by
      unfold DN emp
      match i, c1 with
      | 0, _ => simp
      | 1, _ =>
        have e1 : (((1 : Nat) : Int) == 0) = false := by decide
        simp
        intro h1 h2 h3
        simp [h1]
      | i + 2, c1 => omega
    rw [hd]
    clear hd
    go_enter Try.func15, Try.ntmps15
    go_wp2
    go_ret
    exact ⟨rfl, Drawn0.refl _⟩
set_option maxHeartbeats 1000000 in
set_option maxRecDepth 100000 in
theorem up_calls (A : Option Addr) (c : Nat) (T : List Int) (p1 : Addr) (i : Nat) (hi : i ≤ T.length) (hl : T.length ≤ 1048576) (w : World) (hr : Kd.C (Kd.int .u8) w A T.length T) (h1 : w.cell? p1 = some (.slice A T.length c)) :
    Calls Try.prog 16 #[.int .i64 (i : Int), .pointer (some p1)] w fun e w' => e = .returned (.bool (UP T (i : Int))) ∧ Drawn0 w w' := by
  have HR := Aside0.mk hr
  clear hr
  obtain ⟨j2, hj2⟩ : ∃ j : Int, j = (i : Int) + 1 := ⟨_, rfl⟩
  have hw2 : IntKind.i64.wrap ((i : Int) + 1) = j2 := by rw [i64_w, w64 _ (by omega)]; exact hj2.symm
  have hn2 : 0 ≤ j2 := by omega
  by_cases c1 : j2 < (T.length : Int)
  · have f1 : decide (j2 < (T.length : Int)) = true := decide_eq_true c1
    have f1b : (j2 < (T.length : Int)) = True := eq_true c1
    have f1c : ((i : Int) < (T.length : Int)) = True := eq_true (by omega)
    have hm2 := c1
    obtain ⟨ad1, eA1, hx1⟩ := Kd.at_int HR.out (i : Int) (by omega) (by omega)
    subst eA1
    rw [Int.toNat_natCast] at hx1
    obtain ⟨ad2, eA2, hx2⟩ := Kd.at_int HR.out j2 hn2 hm2
    have p2 : (0 ≤ j2) = True := eq_true hn2
    have q2 : (j2 < (T.length : Int)) = True := eq_true hm2
    cases eA2
    have hd : UP T (i : Int) = ((rd T (i : Int) == 10) && (!(rd T j2 == 10)) && ((i : Int) == 0 || rd T ((i : Int) - 1) == 10)) := by
      have e0 : ((i : Int) == (T.length : Int)) = false := beq_eq_false_iff_ne.mpr (by omega)
      have e1 : (j2 == 0) = false := beq_eq_false_iff_ne.mpr (by omega)
      have e2 : (j2 == (T.length : Int)) = false := beq_eq_false_iff_ne.mpr (by omega)
      have e3 : j2 - 1 = (i : Int) := by omega
      have e4 : decide ((i : Int) < (T.length : Int)) = true := decide_eq_true (by omega)
      unfold UP emp
      rw [← hj2, e0, e1, e2, e3, e4]
      cases (rd T (i : Int) == 10) <;> cases (rd T j2 == 10) <;> cases ((i : Int) == 0 || rd T ((i : Int) - 1) == 10) <;> rfl
    rw [hd]
    clear hd
    generalize rd T (i : Int) = x1 at hx1 ⊢
    generalize rd T j2 = x2 at hx2 ⊢
    clear hm2 hn2
    by_cases k1 : x1 = 10
    · have k1b : (x1 == 10) = true := beq_iff_eq.mpr k1
      rw [k1b]
      clear k1
      by_cases k2 : x2 = 10
      · have k2b : (x2 == 10) = true := beq_iff_eq.mpr k2
        have k2c : (x2 != 10) = false := bne_eq_false_iff_eq.mpr k2
        rw [k2b]
        clear k2 hj2
        show Calls Try.prog 16 _ w fun e w' => e = .returned (.bool false) ∧ Drawn0 w w'
        go_enter Try.func16, Try.ntmps16
        go_wp2
        go_ret
        exact ⟨rfl, Drawn0.refl _⟩
      · have k2b : (x2 == 10) = false := beq_eq_false_iff_ne.mpr k2
        have k2c : (x2 != 10) = true := bne_iff_ne.mpr k2
        rw [k2b]
        clear k2
        by_cases k3 : i = 0
        · have k3b : ((i : Int) == 0) = true := beq_iff_eq.mpr (by omega)
          rw [k3b]
          clear k3 hj2
          show Calls Try.prog 16 _ w fun e w' => e = .returned (.bool true) ∧ Drawn0 w w'
          go_enter Try.func16, Try.ntmps16
          go_wp2
          go_ret
          exact ⟨rfl, Drawn0.refl _⟩
        · have k3b : ((i : Int) == 0) = false := beq_eq_false_iff_ne.mpr (by omega)
          rw [k3b]
          obtain ⟨j3, hj3⟩ : ∃ j : Int, j = (i : Int) - 1 := ⟨_, rfl⟩
          have hw3 : IntKind.i64.wrap ((i : Int) - 1) = j3 := by rw [i64_w, w64 _ (by omega)]; exact hj3.symm
          have hn3 : 0 ≤ j3 := by omega
          have hm3 : j3 < (T.length : Int) := by omega
          obtain ⟨ad3, eA3, hx3⟩ := Kd.at_int HR.out j3 hn3 hm3
          have p3 : (0 ≤ j3) = True := eq_true hn3
          have q3 : (j3 < (T.length : Int)) = True := eq_true hm3
          cases eA3
          rw [← hj3]
          generalize rd T j3 = x3 at hx3 ⊢
          show Calls Try.prog 16 _ w fun e w' => e = .returned (.bool (x3 == 10)) ∧ Drawn0 w w'
          clear k3 hj3 hn3 hm3 hj2
          go_enter Try.func16, Try.ntmps16
          go_wp2
          go_ret
          exact ⟨rfl, Drawn0.refl _⟩
    · have k1b : (x1 == 10) = false := beq_eq_false_iff_ne.mpr k1
      rw [k1b]
      clear k1 hj2
      show Calls Try.prog 16 _ w fun e w' => e = .returned (.bool false) ∧ Drawn0 w w'
      go_enter Try.func16, Try.ntmps16
      go_wp2
      go_ret
      exact ⟨rfl, Drawn0.refl _⟩
  · have f1 : decide (j2 < (T.length : Int)) = false := decide_eq_false c1
    have f1b : (j2 < (T.length : Int)) = False := eq_false c1
    have hd : UP T (i : Int) = false := by
      unfold UP emp
      by_cases h : (i : Int) < (T.length : Int)
      · have e2 : ((i : Int) + 1 == (T.length : Int)) = true := beq_iff_eq.mpr (by omega)
        have e0 : ((i : Int) == (T.length : Int)) = false := beq_eq_false_iff_ne.mpr (by omega)
        have e3 : (i : Int) + 1 - 1 = (i : Int) := by omega
        rw [e2, e0, e3]
        cases (rd T (i : Int) == 10) <;> simp
      · rw [decide_eq_false h]
        simp
    rw [hd]
    clear hd hj2
    go_enter Try.func16, Try.ntmps16
    go_wp2
    go_ret
    exact ⟨rfl, Drawn0.refl _⟩
end Go.Proofs.Ytbklmdgmgffjeaa.Hand
