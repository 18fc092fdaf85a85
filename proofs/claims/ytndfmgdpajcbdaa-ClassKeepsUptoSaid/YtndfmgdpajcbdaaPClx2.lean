-- written by a program of this session (wip/tools/xprint.py)
import Derived.Test.YtndfmgdpajcbdaaPClx0
import Derived.Test.YtndfmgdpajcbdaaPClx1
namespace Go.Proofs.Ytndfmgdpajcbdaa.PCl
open Go.RowKit Go.Proofs.YtndfmgdpajcbdaaW.PrintWords Go.Proofs.YtndfmgdpajcbdaaW.PrintLast Go.Proofs.YtndfmgdpajcbdaaW.PrintMore
attribute [local go_sem] max2_int min2_int max_two min_two max_three min_three max_four min_four   -- for this text's walks alone
set_option linter.unusedVariables false
set_option linter.unusedSimpArgs false

/-! ### quoinref06_Of: function 10 -/
def quoinref06_Of.j0 : Nat → Int → Bool → Bool → Option (Int)
  | 0, _, _, _ => none
  | k + 1, x0, x1, x12 => if x12 = true then (some 0) else ((quoinref06_small.f x0).bind fun t117 => (if t117 = true then (some 2) else ((quoinref06_great.f x0).bind fun t118 => (if t118 = true then (some 2) else (if x0 ≥ 48 then (if x0 ≤ 57 then (some 2) else (if x0 = 95 then (some 2) else (if x0 ≥ 128 then (some 2) else (if x1 = true then (some 2) else (some 1))))) else (if x0 = 95 then (some 2) else (if x0 ≥ 128 then (some 2) else (if x1 = true then (some 2) else (some 1)))))))))
def quoinref06_Of.f (k : Nat) (a0 : Int) (a1 : Bool) : Option (Int) := if a0 = 10 then (some 3) else (if a0 = 32 then (quoinref06_Of.j0 k a0 a1 true) else (quoinref06_Of.j0 k a0 a1 (a0 == 9)))
theorem quoinref06_Of.mono_l : ∀ k, (∀ y0 y1 y2, LeO (quoinref06_Of.j0 k y0 y1 y2) (quoinref06_Of.j0 (k + 1) y0 y1 y2))
  | 0 => fun _ _ _ r h => by simp [quoinref06_Of.j0] at h
  | k + 1 => by
    have ih0 := quoinref06_Of.mono_l k
    · intro y0 y1 y2
      unfold quoinref06_Of.j0
      repeat' first
      | (with_reducible exact ih0 _ _ _)
      | (with_reducible exact LeO.refl _)
      | (with_reducible exact LeO.none _)
      | (with_reducible refine LeO.ite ?_ ?_)
      | (with_reducible refine LeO.bind ?_ (fun _ => ?_))
      | exact ih0 _ _ _
      | exact LeO.none _
      | refine LeO.ite ?_ ?_
      | refine LeO.bind ?_ (fun _ => ?_)
theorem quoinref06_Of.mono : ∀ a0 a1 k, LeO (quoinref06_Of.f k a0 a1) (quoinref06_Of.f (k + 1) a0 a1) := by
  intro a0 a1 k
  have ih0 := quoinref06_Of.mono_l k
  unfold quoinref06_Of.f
  repeat' first
      | (with_reducible exact ih0 _ _ _)
      | (with_reducible exact LeO.refl _)
      | (with_reducible exact LeO.none _)
      | (with_reducible refine LeO.ite ?_ ?_)
      | (with_reducible refine LeO.bind ?_ (fun _ => ?_))
      | exact ih0 _ _ _
      | exact LeO.none _
      | refine LeO.ite ?_ ?_
      | refine LeO.bind ?_ (fun _ => ?_)
set_option maxHeartbeats 8000000 in
set_option maxRecDepth 100000 in
theorem quoinref06_Of.calls (k : Nat) (a0 : Int) (a1 : Bool) (r : Int) (w : World) (h : quoinref06_Of.f k a0 a1 = some r) :
    Calls Try.prog 10 #[.int .u8 a0, .bool a1] w fun e w' => e = .returned (.int .i64 r) ∧ Drawn0 w w' := by
  have H : (if a0 = 10 then (some 3) else (if a0 = 32 then (quoinref06_Of.j0 k a0 a1 true) else (quoinref06_Of.j0 k a0 a1 (a0 == 9)))) = some r := h
  clear h
  by_cases c3 : a0 = 10
  · rw [if_pos c3] at H
    have c3b0 : (a0 == 10) = true := beq_iff_eq.mpr c3
    have c3b1 : (a0 != 10) = false := bne_eq_false_iff_eq.mpr c3
    clear c3
    obtain rfl := Option.some.inj H
    go_enter Try.func10, Try.ntmps10
    go_wp2
    go_ret
    exact ⟨by first | rfl | (simp; done) | (simp [*]; done), by repeat (first | exact Drawn0.refl _ | apply Drawn0.step)⟩
  · rw [if_neg c3] at H
    have c3b0 : (a0 == 10) = false := beq_eq_false_iff_ne.mpr c3
    have c3b1 : (a0 != 10) = true := bne_iff_ne.mpr c3
    have HC4 := Aside0.mk H
    clear H
    go_enter Try.func10, Try.ntmps10
    go_upto_region 3 with (fail)
    go_cut [12] (fun v12 wc => ∃ (kq : Nat) (x12_3 : Bool), v12 = .bool x12_3 ∧ Aside0 (quoinref06_Of.j0 kq a0 a1 x12_3 = some r) ∧ Aside0 (kq ≤ k) ∧ Drawn0 w wc)
    case first =>
      have H := HC4.out
      clear HC4
      by_cases c5 : a0 = 32
      · rw [if_pos c5] at H
        have c5b0 : (a0 == 32) = true := beq_iff_eq.mpr c5
        have c5b1 : (a0 != 32) = false := bne_eq_false_iff_eq.mpr c5
        clear c5
        (first | rw [c5b0] | (simp only [i64_w, i32_w]; rw [c5b0]) | skip)
        have H' := Aside0.mk H
        clear H
        go_wp2
        go_meet
        case rel => exact ⟨_, (true), (by first | rfl | (simp; done) | (simp [*]; done)), H', ⟨by first | omega | exact Nat.le_refl _⟩, by repeat (first | exact Drawn0.refl _ | apply Drawn0.step)⟩
      · rw [if_neg c5] at H
        have c5b0 : (a0 == 32) = false := beq_eq_false_iff_ne.mpr c5
        have c5b1 : (a0 != 32) = true := bne_iff_ne.mpr c5
        (first | rw [c5b0] | (simp only [i64_w, i32_w]; rw [c5b0]) | skip)
        have H' := Aside0.mk H
        clear H
        go_wp2
        go_meet
        case rel => exact ⟨_, ((a0 == 9)), (by first | rfl | (simp; done) | (simp [*]; done)), H', ⟨by first | omega | exact Nat.le_refl _⟩, by repeat (first | exact Drawn0.refl _ | apply Drawn0.step)⟩
    case rest =>
      clear HC4
      try clear c1
      try clear p2
      try clear c3
      try clear c3b0
      try clear c3b1
      try clear c5
      try clear c5b0
      try clear c5b1
      obtain ⟨kq, x12_3, rfl, HA, HJ3, ⟨mc3, rfl⟩⟩ := hcut
      cases kq with
      | zero => exact absurd HA.out (by simp [quoinref06_Of.j0])
      | succ kj3 =>
        have H := HA.out
        clear HA
        simp only [quoinref06_Of.j0] at H
        by_cases c6 : x12_3 = true
        · subst c6
          have H1 : (some 0) = some r := by rw [if_pos rfl] at H; exact H
          clear H
          have H := H1
          clear H1
          obtain rfl := Option.some.inj H
          go_wp2
          go_ret
          exact ⟨by first | rfl | (simp; done) | (simp [*]; done), by repeat (first | exact Drawn0.refl _ | apply Drawn0.step)⟩
        · replace c6 := Bool.eq_false_iff.mpr c6
          subst c6
          have H1 : ((quoinref06_small.f a0).bind fun t117 => (if t117 = true then (some 2) else ((quoinref06_great.f a0).bind fun t118 => (if t118 = true then (some 2) else (if a0 ≥ 48 then (if a0 ≤ 57 then (some 2) else (if a0 = 95 then (some 2) else (if a0 ≥ 128 then (some 2) else (if a1 = true then (some 2) else (some 1))))) else (if a0 = 95 then (some 2) else (if a0 ≥ 128 then (some 2) else (if a1 = true then (some 2) else (some 1))))))))) = some r := by rw [if_neg (show ¬ (false = true) by decide)] at H; exact H
          clear H
          have H := H1
          clear H1
          replace H := Option.bind_eq_some_iff.mp H
          obtain ⟨t117, A70, H⟩ := H
          replace H : (if t117 = true then (some 2) else ((quoinref06_great.f a0).bind fun t118 => (if t118 = true then (some 2) else (if a0 ≥ 48 then (if a0 ≤ 57 then (some 2) else (if a0 = 95 then (some 2) else (if a0 ≥ 128 then (some 2) else (if a1 = true then (some 2) else (some 1))))) else (if a0 = 95 then (some 2) else (if a0 ≥ 128 then (some 2) else (if a1 = true then (some 2) else (some 1)))))))) = some r := H
          have A7 := Aside0.mk A70
          clear A70
          by_cases c8 : t117 = true
          · subst c8
            have H1 : (some 2) = some r := by rw [if_pos rfl] at H; exact H
            clear H
            have H := H1
            clear H1
            obtain rfl := Option.some.inj H
            go_wp2_with (first | ((with_reducible refine gate_callee (f := 24) rfl ?_); refine goesL_ (some 14) rfl rfl Try.func24 (by kernel_rfl) rfl #[.int .u8 a0] rfl (by (try simp only [List.map_toArray, List.map_cons, List.map_nil]); first | done | rfl | (simp only [List.length_drop, List.length_take]; rfl)) ?_; (with_reducible refine (quoinref06_small.calls a0 true _ A7.out).mono ?_); rintro e w' ⟨rfl, ⟨nd, rfl⟩⟩; refine ⟨_, rfl, ?_⟩))
            go_ret
            exact ⟨by first | rfl | (simp; done) | (simp [*]; done), by repeat (first | exact Drawn0.refl _ | apply Drawn0.step)⟩
          · replace c8 := Bool.eq_false_iff.mpr c8
            subst c8
            have H1 : ((quoinref06_great.f a0).bind fun t118 => (if t118 = true then (some 2) else (if a0 ≥ 48 then (if a0 ≤ 57 then (some 2) else (if a0 = 95 then (some 2) else (if a0 ≥ 128 then (some 2) else (if a1 = true then (some 2) else (some 1))))) else (if a0 = 95 then (some 2) else (if a0 ≥ 128 then (some 2) else (if a1 = true then (some 2) else (some 1))))))) = some r := by rw [if_neg (show ¬ (false = true) by decide)] at H; exact H
            clear H
            have H := H1
            clear H1
            replace H := Option.bind_eq_some_iff.mp H
            obtain ⟨t118, A90, H⟩ := H
            replace H : (if t118 = true then (some 2) else (if a0 ≥ 48 then (if a0 ≤ 57 then (some 2) else (if a0 = 95 then (some 2) else (if a0 ≥ 128 then (some 2) else (if a1 = true then (some 2) else (some 1))))) else (if a0 = 95 then (some 2) else (if a0 ≥ 128 then (some 2) else (if a1 = true then (some 2) else (some 1)))))) = some r := H
            have A9 := Aside0.mk A90
            clear A90
            by_cases c10 : t118 = true
            · subst c10
              have H1 : (some 2) = some r := by rw [if_pos rfl] at H; exact H
              clear H
              have H := H1
              clear H1
              obtain rfl := Option.some.inj H
              go_wp2_with (first | ((with_reducible refine gate_callee (f := 24) rfl ?_); refine goesL_ (some 14) rfl rfl Try.func24 (by kernel_rfl) rfl #[.int .u8 a0] rfl (by (try simp only [List.map_toArray, List.map_cons, List.map_nil]); first | done | rfl | (simp only [List.length_drop, List.length_take]; rfl)) ?_; (with_reducible refine (quoinref06_small.calls a0 false _ A7.out).mono ?_); rintro e w' ⟨rfl, ⟨nd, rfl⟩⟩; refine ⟨_, rfl, ?_⟩) | (go_at_call 25; (with_reducible refine (quoinref06_great.calls a0 true _ A9.out).mono ?_); rintro e w' ⟨rfl, ⟨nd, rfl⟩⟩))
              go_ret
              exact ⟨by first | rfl | (simp; done) | (simp [*]; done), by repeat (first | exact Drawn0.refl _ | apply Drawn0.step)⟩
            · replace c10 := Bool.eq_false_iff.mpr c10
              subst c10
              have H1 : (if a0 ≥ 48 then (if a0 ≤ 57 then (some 2) else (if a0 = 95 then (some 2) else (if a0 ≥ 128 then (some 2) else (if a1 = true then (some 2) else (some 1))))) else (if a0 = 95 then (some 2) else (if a0 ≥ 128 then (some 2) else (if a1 = true then (some 2) else (some 1))))) = some r := by rw [if_neg (show ¬ (false = true) by decide)] at H; exact H
              clear H
              have H := H1
              clear H1
              by_cases c11 : a0 ≥ 48
              · rw [if_pos c11] at H
                have c11b0 : decide (48 ≤ a0) = true := decide_eq_true c11
                clear c11
                by_cases c12 : a0 ≤ 57
                · rw [if_pos c12] at H
                  have c12b0 : decide (a0 ≤ 57) = true := decide_eq_true c12
                  clear c12
                  obtain rfl := Option.some.inj H
                  go_wp2_with (first | ((with_reducible refine gate_callee (f := 24) rfl ?_); refine goesL_ (some 14) rfl rfl Try.func24 (by kernel_rfl) rfl #[.int .u8 a0] rfl (by (try simp only [List.map_toArray, List.map_cons, List.map_nil]); first | done | rfl | (simp only [List.length_drop, List.length_take]; rfl)) ?_; (with_reducible refine (quoinref06_small.calls a0 false _ A7.out).mono ?_); rintro e w' ⟨rfl, ⟨nd, rfl⟩⟩; refine ⟨_, rfl, ?_⟩) | (go_at_call 25; (with_reducible refine (quoinref06_great.calls a0 false _ A9.out).mono ?_); rintro e w' ⟨rfl, ⟨nd, rfl⟩⟩))
                  go_ret
                  exact ⟨by first | rfl | (simp; done) | (simp [*]; done), by repeat (first | exact Drawn0.refl _ | apply Drawn0.step)⟩
                · rw [if_neg c12] at H
                  have c12b0 : decide (a0 ≤ 57) = false := decide_eq_false c12
                  clear c12
                  by_cases c13 : a0 = 95
                  · rw [if_pos c13] at H
                    have c13b0 : (a0 == 95) = true := beq_iff_eq.mpr c13
                    have c13b1 : (a0 != 95) = false := bne_eq_false_iff_eq.mpr c13
                    clear c13
                    obtain rfl := Option.some.inj H
                    go_wp2_with (first | ((with_reducible refine gate_callee (f := 24) rfl ?_); refine goesL_ (some 14) rfl rfl Try.func24 (by kernel_rfl) rfl #[.int .u8 a0] rfl (by (try simp only [List.map_toArray, List.map_cons, List.map_nil]); first | done | rfl | (simp only [List.length_drop, List.length_take]; rfl)) ?_; (with_reducible refine (quoinref06_small.calls a0 false _ A7.out).mono ?_); rintro e w' ⟨rfl, ⟨nd, rfl⟩⟩; refine ⟨_, rfl, ?_⟩) | (go_at_call 25; (with_reducible refine (quoinref06_great.calls a0 false _ A9.out).mono ?_); rintro e w' ⟨rfl, ⟨nd, rfl⟩⟩))
                    go_ret
                    exact ⟨by first | rfl | (simp; done) | (simp [*]; done), by repeat (first | exact Drawn0.refl _ | apply Drawn0.step)⟩
                  · rw [if_neg c13] at H
                    have c13b0 : (a0 == 95) = false := beq_eq_false_iff_ne.mpr c13
                    have c13b1 : (a0 != 95) = true := bne_iff_ne.mpr c13
                    by_cases c14 : a0 ≥ 128
                    · rw [if_pos c14] at H
                      have c14b0 : decide (128 ≤ a0) = true := decide_eq_true c14
                      clear c14
                      obtain rfl := Option.some.inj H
                      go_wp2_with (first | ((with_reducible refine gate_callee (f := 24) rfl ?_); refine goesL_ (some 14) rfl rfl Try.func24 (by kernel_rfl) rfl #[.int .u8 a0] rfl (by (try simp only [List.map_toArray, List.map_cons, List.map_nil]); first | done | rfl | (simp only [List.length_drop, List.length_take]; rfl)) ?_; (with_reducible refine (quoinref06_small.calls a0 false _ A7.out).mono ?_); rintro e w' ⟨rfl, ⟨nd, rfl⟩⟩; refine ⟨_, rfl, ?_⟩) | (go_at_call 25; (with_reducible refine (quoinref06_great.calls a0 false _ A9.out).mono ?_); rintro e w' ⟨rfl, ⟨nd, rfl⟩⟩))
                      go_ret
                      exact ⟨by first | rfl | (simp; done) | (simp [*]; done), by repeat (first | exact Drawn0.refl _ | apply Drawn0.step)⟩
                    · rw [if_neg c14] at H
                      have c14b0 : decide (128 ≤ a0) = false := decide_eq_false c14
                      clear c14
                      by_cases c15 : a1 = true
                      · subst c15
                        have H1 : (some 2) = some r := by rw [if_pos rfl] at H; exact H
                        clear H
                        have H := H1
                        clear H1
                        obtain rfl := Option.some.inj H
                        go_wp2_with (first | ((with_reducible refine gate_callee (f := 24) rfl ?_); refine goesL_ (some 14) rfl rfl Try.func24 (by kernel_rfl) rfl #[.int .u8 a0] rfl (by (try simp only [List.map_toArray, List.map_cons, List.map_nil]); first | done | rfl | (simp only [List.length_drop, List.length_take]; rfl)) ?_; (with_reducible refine (quoinref06_small.calls a0 false _ A7.out).mono ?_); rintro e w' ⟨rfl, ⟨nd, rfl⟩⟩; refine ⟨_, rfl, ?_⟩) | (go_at_call 25; (with_reducible refine (quoinref06_great.calls a0 false _ A9.out).mono ?_); rintro e w' ⟨rfl, ⟨nd, rfl⟩⟩))
                        go_ret
                        exact ⟨by first | rfl | (simp; done) | (simp [*]; done), by repeat (first | exact Drawn0.refl _ | apply Drawn0.step)⟩
                      · replace c15 := Bool.eq_false_iff.mpr c15
                        subst c15
                        have H1 : (some 1) = some r := by rw [if_neg (show ¬ (false = true) by decide)] at H; exact H
                        clear H
                        have H := H1
                        clear H1
                        obtain rfl := Option.some.inj H
                        go_wp2_with (first | ((with_reducible refine gate_callee (f := 24) rfl ?_); refine goesL_ (some 14) rfl rfl Try.func24 (by kernel_rfl) rfl #[.int .u8 a0] rfl (by (try simp only [List.map_toArray, List.map_cons, List.map_nil]); first | done | rfl | (simp only [List.length_drop, List.length_take]; rfl)) ?_; (with_reducible refine (quoinref06_small.calls a0 false _ A7.out).mono ?_); rintro e w' ⟨rfl, ⟨nd, rfl⟩⟩; refine ⟨_, rfl, ?_⟩) | (go_at_call 25; (with_reducible refine (quoinref06_great.calls a0 false _ A9.out).mono ?_); rintro e w' ⟨rfl, ⟨nd, rfl⟩⟩))
                        go_ret
                        exact ⟨by first | rfl | (simp; done) | (simp [*]; done), by repeat (first | exact Drawn0.refl _ | apply Drawn0.step)⟩
              · rw [if_neg c11] at H
                have c11b0 : decide (48 ≤ a0) = false := decide_eq_false c11
                clear c11
                by_cases c16 : a0 = 95
                · rw [if_pos c16] at H
                  have c16b0 : (a0 == 95) = true := beq_iff_eq.mpr c16
                  have c16b1 : (a0 != 95) = false := bne_eq_false_iff_eq.mpr c16
                  clear c16
                  obtain rfl := Option.some.inj H
                  go_wp2_with (first | ((with_reducible refine gate_callee (f := 24) rfl ?_); refine goesL_ (some 14) rfl rfl Try.func24 (by kernel_rfl) rfl #[.int .u8 a0] rfl (by (try simp only [List.map_toArray, List.map_cons, List.map_nil]); first | done | rfl | (simp only [List.length_drop, List.length_take]; rfl)) ?_; (with_reducible refine (quoinref06_small.calls a0 false _ A7.out).mono ?_); rintro e w' ⟨rfl, ⟨nd, rfl⟩⟩; refine ⟨_, rfl, ?_⟩) | (go_at_call 25; (with_reducible refine (quoinref06_great.calls a0 false _ A9.out).mono ?_); rintro e w' ⟨rfl, ⟨nd, rfl⟩⟩))
                  go_ret
                  exact ⟨by first | rfl | (simp; done) | (simp [*]; done), by repeat (first | exact Drawn0.refl _ | apply Drawn0.step)⟩
                · rw [if_neg c16] at H
                  have c16b0 : (a0 == 95) = false := beq_eq_false_iff_ne.mpr c16
                  have c16b1 : (a0 != 95) = true := bne_iff_ne.mpr c16
                  by_cases c17 : a0 ≥ 128
                  · rw [if_pos c17] at H
                    have c17b0 : decide (128 ≤ a0) = true := decide_eq_true c17
                    clear c17
                    obtain rfl := Option.some.inj H
                    go_wp2_with (first | ((with_reducible refine gate_callee (f := 24) rfl ?_); refine goesL_ (some 14) rfl rfl Try.func24 (by kernel_rfl) rfl #[.int .u8 a0] rfl (by (try simp only [List.map_toArray, List.map_cons, List.map_nil]); first | done | rfl | (simp only [List.length_drop, List.length_take]; rfl)) ?_; (with_reducible refine (quoinref06_small.calls a0 false _ A7.out).mono ?_); rintro e w' ⟨rfl, ⟨nd, rfl⟩⟩; refine ⟨_, rfl, ?_⟩) | (go_at_call 25; (with_reducible refine (quoinref06_great.calls a0 false _ A9.out).mono ?_); rintro e w' ⟨rfl, ⟨nd, rfl⟩⟩))
                    go_ret
                    exact ⟨by first | rfl | (simp; done) | (simp [*]; done), by repeat (first | exact Drawn0.refl _ | apply Drawn0.step)⟩
                  · rw [if_neg c17] at H
                    have c17b0 : decide (128 ≤ a0) = false := decide_eq_false c17
                    clear c17
                    by_cases c18 : a1 = true
                    · subst c18
                      have H1 : (some 2) = some r := by rw [if_pos rfl] at H; exact H
                      clear H
                      have H := H1
                      clear H1
                      obtain rfl := Option.some.inj H
                      go_wp2_with (first | ((with_reducible refine gate_callee (f := 24) rfl ?_); refine goesL_ (some 14) rfl rfl Try.func24 (by kernel_rfl) rfl #[.int .u8 a0] rfl (by (try simp only [List.map_toArray, List.map_cons, List.map_nil]); first | done | rfl | (simp only [List.length_drop, List.length_take]; rfl)) ?_; (with_reducible refine (quoinref06_small.calls a0 false _ A7.out).mono ?_); rintro e w' ⟨rfl, ⟨nd, rfl⟩⟩; refine ⟨_, rfl, ?_⟩) | (go_at_call 25; (with_reducible refine (quoinref06_great.calls a0 false _ A9.out).mono ?_); rintro e w' ⟨rfl, ⟨nd, rfl⟩⟩))
                      go_ret
                      exact ⟨by first | rfl | (simp; done) | (simp [*]; done), by repeat (first | exact Drawn0.refl _ | apply Drawn0.step)⟩
                    · replace c18 := Bool.eq_false_iff.mpr c18
                      subst c18
                      have H1 : (some 1) = some r := by rw [if_neg (show ¬ (false = true) by decide)] at H; exact H
                      clear H
                      have H := H1
                      clear H1
                      obtain rfl := Option.some.inj H
                      go_wp2_with (first | ((with_reducible refine gate_callee (f := 24) rfl ?_); refine goesL_ (some 14) rfl rfl Try.func24 (by kernel_rfl) rfl #[.int .u8 a0] rfl (by (try simp only [List.map_toArray, List.map_cons, List.map_nil]); first | done | rfl | (simp only [List.length_drop, List.length_take]; rfl)) ?_; (with_reducible refine (quoinref06_small.calls a0 false _ A7.out).mono ?_); rintro e w' ⟨rfl, ⟨nd, rfl⟩⟩; refine ⟨_, rfl, ?_⟩) | (go_at_call 25; (with_reducible refine (quoinref06_great.calls a0 false _ A9.out).mono ?_); rintro e w' ⟨rfl, ⟨nd, rfl⟩⟩))
                      go_ret
                      exact ⟨by first | rfl | (simp; done) | (simp [*]; done), by repeat (first | exact Drawn0.refl _ | apply Drawn0.step)⟩

/-! ### quoinref06_Partner: function 12 -/
def quoinref06_Partner.l0 : Nat → Int → Int → Option (Int × Bool × Bool)
  | 0, _, _ => none
  | k + 1, x0, x5 => if x5 < 3 then (if 0 ≤ x5 then (if (bt (⟨#[40, 91, 123]⟩ : ByteArray) x5) = x0 then (some (bt (⟨#[41, 93, 125]⟩ : ByteArray) x5, true, true)) else (if (bt (⟨#[41, 93, 125]⟩ : ByteArray) x5) = x0 then (some (bt (⟨#[40, 91, 123]⟩ : ByteArray) x5, false, true)) else (quoinref06_Partner.l0 k x0 (wrap64 (x5 + 1))))) else (none)) else (some (0, false, false))
def quoinref06_Partner.f (k : Nat) (a0 : Int) : Option (Int × Bool × Bool) := quoinref06_Partner.l0 k a0 0
theorem quoinref06_Partner.mono_l : ∀ k, (∀ y0 y1, LeO (quoinref06_Partner.l0 k y0 y1) (quoinref06_Partner.l0 (k + 1) y0 y1))
  | 0 => fun _ _ r h => by simp [quoinref06_Partner.l0] at h
  | k + 1 => by
    have ih0 := quoinref06_Partner.mono_l k
    · intro y0 y1
      unfold quoinref06_Partner.l0
      repeat' first
      | (with_reducible exact ih0 _ _)
      | (with_reducible exact LeO.refl _)
      | (with_reducible exact LeO.none _)
      | (with_reducible refine LeO.ite ?_ ?_)
      | (with_reducible refine LeO.bind ?_ (fun _ => ?_))
      | exact ih0 _ _
      | exact LeO.none _
      | refine LeO.ite ?_ ?_
      | refine LeO.bind ?_ (fun _ => ?_)
theorem quoinref06_Partner.mono : ∀ a0 k, LeO (quoinref06_Partner.f k a0) (quoinref06_Partner.f (k + 1) a0) := by
  intro a0 k
  have ih0 := quoinref06_Partner.mono_l k
  unfold quoinref06_Partner.f
  repeat' first
      | (with_reducible exact ih0 _ _)
      | (with_reducible exact LeO.refl _)
      | (with_reducible exact LeO.none _)
      | (with_reducible refine LeO.ite ?_ ?_)
      | (with_reducible refine LeO.bind ?_ (fun _ => ?_))
      | exact ih0 _ _
      | exact LeO.none _
      | refine LeO.ite ?_ ?_
      | refine LeO.bind ?_ (fun _ => ?_)
set_option maxHeartbeats 8000000 in
set_option maxRecDepth 100000 in
theorem quoinref06_Partner.calls (k : Nat) (a0 : Int) (r1 : Int) (r2 : Bool) (r3 : Bool) (w : World) (h : quoinref06_Partner.f k a0 = some (r1, r2, r3)) :
    Calls Try.prog 12 #[.int .u8 a0] w fun e w' => e = .returned (.tuple #[.int .u8 r1, .bool r2, .bool r3]) ∧ Drawn0 w w' := by
  have H : (quoinref06_Partner.l0 k a0 0) = some (r1, r2, r3) := h
  clear h
  have H' := Aside0.mk H
  clear H
  go_enter Try.func12, Try.ntmps12
  go_wp2
  go_loopg [5] k (fun kq v5 w' => ∃ (x5_1 : Int), v5 = .int .i64 x5_1 ∧ Aside0 (quoinref06_Partner.l0 kq a0 x5_1 = some (r1, r2, r3)) ∧ Aside0 (kq ≤ k) ∧ Drawn0 w w')
  case atStart => exact ⟨(0), (by first | rfl | (simp; done) | (simp [*]; done)), H', ⟨Nat.le_refl _⟩, by repeat (first | exact Drawn0.refl _ | apply Drawn0.step)⟩
  case round =>
    clear H'
    try clear c1
    obtain ⟨x5_1, rfl, HA, HK1, ⟨m1, rfl⟩⟩ := hrel
    cases gk with
    | zero => exact absurd HA.out (by simp [quoinref06_Partner.l0])
    | succ k1 =>
      have H := HA.out
      clear HA
      simp only [quoinref06_Partner.l0] at H
      by_cases c2 : x5_1 < 3
      · rw [if_pos c2] at H
        have c2b0 : decide (x5_1 < 3) = true := decide_eq_true c2
        clear c2
        by_cases c3 : 0 ≤ x5_1
        · rw [if_pos c3] at H
          have c3b0 : decide (0 ≤ x5_1) = true := decide_eq_true c3
          clear c3
          by_cases c5 : (bt (⟨#[40, 91, 123]⟩ : ByteArray) x5_1) = a0
          · rw [if_pos c5] at H
            have c5b0 : ((bt (⟨#[40, 91, 123]⟩ : ByteArray) x5_1) == a0) = true := beq_iff_eq.mpr c5
            have c5b1 : ((bt (⟨#[40, 91, 123]⟩ : ByteArray) x5_1) != a0) = false := bne_eq_false_iff_eq.mpr c5
            clear c5
            simp only [Option.some.injEq, Prod.mk.injEq] at H
            obtain ⟨rfl, rfl, rfl⟩ := H
            have p4 : 0 ≤ (x5_1 : Int) := of_decide_eq_true (by first | (with_reducible assumption) | assumption)
            have q4 : x5_1 < (3 : Int) := of_decide_eq_true (by first | (with_reducible assumption) | assumption)
            have hx4 := bt_at (⟨#[40, 91, 123]⟩ : ByteArray) x5_1
            replace p4 := eq_true p4
            replace q4 := eq_true q4
            have p6 : 0 ≤ (x5_1 : Int) := of_decide_eq_true (by first | (with_reducible assumption) | assumption)
            have q6 : x5_1 < (3 : Int) := of_decide_eq_true (by first | (with_reducible assumption) | assumption)
            have hx6 := bt_at (⟨#[41, 93, 125]⟩ : ByteArray) x5_1
            replace p6 := eq_true p6
            replace q6 := eq_true q6
            go_wp2
            go_ret3
            exact ⟨by first | rfl | (simp; done) | (simp [*]; done), by repeat (first | exact Drawn0.refl _ | apply Drawn0.step)⟩
          · rw [if_neg c5] at H
            have c5b0 : ((bt (⟨#[40, 91, 123]⟩ : ByteArray) x5_1) == a0) = false := beq_eq_false_iff_ne.mpr c5
            have c5b1 : ((bt (⟨#[40, 91, 123]⟩ : ByteArray) x5_1) != a0) = true := bne_iff_ne.mpr c5
            by_cases c8 : (bt (⟨#[41, 93, 125]⟩ : ByteArray) x5_1) = a0
            · rw [if_pos c8] at H
              have c8b0 : ((bt (⟨#[41, 93, 125]⟩ : ByteArray) x5_1) == a0) = true := beq_iff_eq.mpr c8
              have c8b1 : ((bt (⟨#[41, 93, 125]⟩ : ByteArray) x5_1) != a0) = false := bne_eq_false_iff_eq.mpr c8
              clear c8
              simp only [Option.some.injEq, Prod.mk.injEq] at H
              obtain ⟨rfl, rfl, rfl⟩ := H
              have p4 : 0 ≤ (x5_1 : Int) := of_decide_eq_true (by first | (with_reducible assumption) | assumption)
              have q4 : x5_1 < (3 : Int) := of_decide_eq_true (by first | (with_reducible assumption) | assumption)
              have hx4 := bt_at (⟨#[40, 91, 123]⟩ : ByteArray) x5_1
              replace p4 := eq_true p4
              replace q4 := eq_true q4
              have p7 : 0 ≤ (x5_1 : Int) := of_decide_eq_true (by first | (with_reducible assumption) | assumption)
              have q7 : x5_1 < (3 : Int) := of_decide_eq_true (by first | (with_reducible assumption) | assumption)
              have hx7 := bt_at (⟨#[41, 93, 125]⟩ : ByteArray) x5_1
              replace p7 := eq_true p7
              replace q7 := eq_true q7
              have p9 : 0 ≤ (x5_1 : Int) := of_decide_eq_true (by first | (with_reducible assumption) | assumption)
              have q9 : x5_1 < (3 : Int) := of_decide_eq_true (by first | (with_reducible assumption) | assumption)
              have hx9 := bt_at (⟨#[40, 91, 123]⟩ : ByteArray) x5_1
              replace p9 := eq_true p9
              replace q9 := eq_true q9
              go_wp2
              go_ret3
              exact ⟨by first | rfl | (simp; done) | (simp [*]; done), by repeat (first | exact Drawn0.refl _ | apply Drawn0.step)⟩
            · rw [if_neg c8] at H
              have c8b0 : ((bt (⟨#[41, 93, 125]⟩ : ByteArray) x5_1) == a0) = false := beq_eq_false_iff_ne.mpr c8
              have c8b1 : ((bt (⟨#[41, 93, 125]⟩ : ByteArray) x5_1) != a0) = true := bne_iff_ne.mpr c8
              have H' := Aside0.mk H
              clear H
              have p4 : 0 ≤ (x5_1 : Int) := of_decide_eq_true (by first | (with_reducible assumption) | assumption)
              have q4 : x5_1 < (3 : Int) := of_decide_eq_true (by first | (with_reducible assumption) | assumption)
              have hx4 := bt_at (⟨#[40, 91, 123]⟩ : ByteArray) x5_1
              replace p4 := eq_true p4
              replace q4 := eq_true q4
              have p7 : 0 ≤ (x5_1 : Int) := of_decide_eq_true (by first | (with_reducible assumption) | assumption)
              have q7 : x5_1 < (3 : Int) := of_decide_eq_true (by first | (with_reducible assumption) | assumption)
              have hx7 := bt_at (⟨#[41, 93, 125]⟩ : ByteArray) x5_1
              replace p7 := eq_true p7
              replace q7 := eq_true q7
              go_wp2
              go_roundg k1
              case measure => have := HK1.out; omega
              case rel => exact ⟨(wrap64 (x5_1 + 1)), (by first | rfl | (simp; done) | (simp [*]; done)), H', ⟨by have := HK1.out; omega⟩, by repeat (first | exact Drawn0.refl _ | apply Drawn0.step)⟩
        · rw [if_neg c3] at H
          exact absurd H (by simp)
      · rw [if_neg c2] at H
        have c2b0 : decide (x5_1 < 3) = false := decide_eq_false c2
        clear c2
        simp only [Option.some.injEq, Prod.mk.injEq] at H
        obtain ⟨rfl, rfl, rfl⟩ := H
        go_wp2
        go_ret3
        exact ⟨by first | rfl | (simp; done) | (simp [*]; done), by repeat (first | exact Drawn0.refl _ | apply Drawn0.step)⟩

/-! ### quoinref06_Upper: function 14 -/
def quoinref06_Upper.f (a0 : Int) : Option (Int) := (quoinref06_small.f a0).bind fun t119 => (if t119 = true then (some ((a0 - 32) % 256)) else (some a0))
set_option maxHeartbeats 8000000 in
set_option maxRecDepth 100000 in
theorem quoinref06_Upper.calls (a0 : Int) (r : Int) (w : World) (h : quoinref06_Upper.f a0 = some r) :
    Calls Try.prog 14 #[.int .u8 a0] w fun e w' => e = .returned (.int .u8 r) ∧ Drawn0 w w' := by
  have H : ((quoinref06_small.f a0).bind fun t119 => (if t119 = true then (some ((a0 - 32) % 256)) else (some a0))) = some r := h
  clear h
  replace H := Option.bind_eq_some_iff.mp H
  obtain ⟨t119, A20, H⟩ := H
  replace H : (if t119 = true then (some ((a0 - 32) % 256)) else (some a0)) = some r := H
  have A2 := Aside0.mk A20
  clear A20
  by_cases c3 : t119 = true
  · subst c3
    have H1 : (some ((a0 - 32) % 256)) = some r := by rw [if_pos rfl] at H; exact H
    clear H
    have H := H1
    clear H1
    obtain rfl := Option.some.inj H
    go_enter Try.func14, Try.ntmps14
    go_wp2_with (first | ((with_reducible refine gate_callee (f := 24) rfl ?_); refine goesL_ (some 4) rfl rfl Try.func24 (by kernel_rfl) rfl #[.int .u8 a0] rfl (by (try simp only [List.map_toArray, List.map_cons, List.map_nil]); first | done | rfl | (simp only [List.length_drop, List.length_take]; rfl)) ?_; (with_reducible refine (quoinref06_small.calls a0 true _ A2.out).mono ?_); rintro e w' ⟨rfl, ⟨nd, rfl⟩⟩; refine ⟨_, rfl, ?_⟩))
    go_ret
    exact ⟨by first | rfl | (simp; done) | (simp [*]; done), by repeat (first | exact Drawn0.refl _ | apply Drawn0.step)⟩
  · replace c3 := Bool.eq_false_iff.mpr c3
    subst c3
    have H1 : (some a0) = some r := by rw [if_neg (show ¬ (false = true) by decide)] at H; exact H
    clear H
    have H := H1
    clear H1
    obtain rfl := Option.some.inj H
    go_enter Try.func14, Try.ntmps14
    go_wp2_with (first | ((with_reducible refine gate_callee (f := 24) rfl ?_); refine goesL_ (some 4) rfl rfl Try.func24 (by kernel_rfl) rfl #[.int .u8 a0] rfl (by (try simp only [List.map_toArray, List.map_cons, List.map_nil]); first | done | rfl | (simp only [List.length_drop, List.length_take]; rfl)) ?_; (with_reducible refine (quoinref06_small.calls a0 false _ A2.out).mono ?_); rintro e w' ⟨rfl, ⟨nd, rfl⟩⟩; refine ⟨_, rfl, ?_⟩))
    go_ret
    exact ⟨by first | rfl | (simp; done) | (simp [*]; done), by repeat (first | exact Drawn0.refl _ | apply Drawn0.step)⟩

/-! ### quoinref06_Lower: function 16 -/
def quoinref06_Lower.f (a0 : Int) : Option (Int) := (quoinref06_great.f a0).bind fun t120 => (if t120 = true then (some ((a0 + 32) % 256)) else (some a0))
set_option maxHeartbeats 8000000 in
set_option maxRecDepth 100000 in
theorem quoinref06_Lower.calls (a0 : Int) (r : Int) (w : World) (h : quoinref06_Lower.f a0 = some r) :
    Calls Try.prog 16 #[.int .u8 a0] w fun e w' => e = .returned (.int .u8 r) ∧ Drawn0 w w' := by
  have H : ((quoinref06_great.f a0).bind fun t120 => (if t120 = true then (some ((a0 + 32) % 256)) else (some a0))) = some r := h
  clear h
  replace H := Option.bind_eq_some_iff.mp H
  obtain ⟨t120, A20, H⟩ := H
  replace H : (if t120 = true then (some ((a0 + 32) % 256)) else (some a0)) = some r := H
  have A2 := Aside0.mk A20
  clear A20
  by_cases c3 : t120 = true
  · subst c3
    have H1 : (some ((a0 + 32) % 256)) = some r := by rw [if_pos rfl] at H; exact H
    clear H
    have H := H1
    clear H1
    obtain rfl := Option.some.inj H
    go_enter Try.func16, Try.ntmps16
    go_wp2_with (first | ((with_reducible refine gate_callee (f := 25) rfl ?_); refine goesL_ (some 4) rfl rfl Try.func25 (by kernel_rfl) rfl #[.int .u8 a0] rfl (by (try simp only [List.map_toArray, List.map_cons, List.map_nil]); first | done | rfl | (simp only [List.length_drop, List.length_take]; rfl)) ?_; (with_reducible refine (quoinref06_great.calls a0 true _ A2.out).mono ?_); rintro e w' ⟨rfl, ⟨nd, rfl⟩⟩; refine ⟨_, rfl, ?_⟩))
    go_ret
    exact ⟨by first | rfl | (simp; done) | (simp [*]; done), by repeat (first | exact Drawn0.refl _ | apply Drawn0.step)⟩
  · replace c3 := Bool.eq_false_iff.mpr c3
    subst c3
    have H1 : (some a0) = some r := by rw [if_neg (show ¬ (false = true) by decide)] at H; exact H
    clear H
    have H := H1
    clear H1
    obtain rfl := Option.some.inj H
    go_enter Try.func16, Try.ntmps16
    go_wp2_with (first | ((with_reducible refine gate_callee (f := 25) rfl ?_); refine goesL_ (some 4) rfl rfl Try.func25 (by kernel_rfl) rfl #[.int .u8 a0] rfl (by (try simp only [List.map_toArray, List.map_cons, List.map_nil]); first | done | rfl | (simp only [List.length_drop, List.length_take]; rfl)) ?_; (with_reducible refine (quoinref06_great.calls a0 false _ A2.out).mono ?_); rintro e w' ⟨rfl, ⟨nd, rfl⟩⟩; refine ⟨_, rfl, ?_⟩))
    go_ret
    exact ⟨by first | rfl | (simp; done) | (simp [*]; done), by repeat (first | exact Drawn0.refl _ | apply Drawn0.step)⟩

/-! ### quoinref06_Toggle: function 18 -/
def quoinref06_Toggle.f (a0 : Int) : Option (Int) := (quoinref06_small.f a0).bind fun t121 => (if t121 = true then ((quoinref06_Upper.f a0).bind fun t122 => (some t122)) else ((quoinref06_Lower.f a0).bind fun t123 => (some t123)))
set_option maxHeartbeats 8000000 in
set_option maxRecDepth 100000 in
theorem quoinref06_Toggle.calls (a0 : Int) (r : Int) (w : World) (h : quoinref06_Toggle.f a0 = some r) :
    Calls Try.prog 18 #[.int .u8 a0] w fun e w' => e = .returned (.int .u8 r) ∧ Drawn0 w w' := by
  have H : ((quoinref06_small.f a0).bind fun t121 => (if t121 = true then ((quoinref06_Upper.f a0).bind fun t122 => (some t122)) else ((quoinref06_Lower.f a0).bind fun t123 => (some t123)))) = some r := h
  clear h
  replace H := Option.bind_eq_some_iff.mp H
  obtain ⟨t121, A20, H⟩ := H
  replace H : (if t121 = true then ((quoinref06_Upper.f a0).bind fun t122 => (some t122)) else ((quoinref06_Lower.f a0).bind fun t123 => (some t123))) = some r := H
  have A2 := Aside0.mk A20
  clear A20
  by_cases c3 : t121 = true
  · subst c3
    have H1 : ((quoinref06_Upper.f a0).bind fun t122 => (some t122)) = some r := by rw [if_pos rfl] at H; exact H
    clear H
    have H := H1
    clear H1
    replace H := Option.bind_eq_some_iff.mp H
    obtain ⟨t122, A40, H⟩ := H
    replace H : (some t122) = some r := H
    have A4 := Aside0.mk A40
    clear A40
    obtain rfl := Option.some.inj H
    go_enter Try.func18, Try.ntmps18
    go_wp2_with (first | ((with_reducible refine gate_callee (f := 24) rfl ?_); refine goesL_ (some 4) rfl rfl Try.func24 (by kernel_rfl) rfl #[.int .u8 a0] rfl (by (try simp only [List.map_toArray, List.map_cons, List.map_nil]); first | done | rfl | (simp only [List.length_drop, List.length_take]; rfl)) ?_; (with_reducible refine (quoinref06_small.calls a0 true _ A2.out).mono ?_); rintro e w' ⟨rfl, ⟨nd, rfl⟩⟩; refine ⟨_, rfl, ?_⟩) | ((with_reducible refine gate_callee (f := 14) rfl ?_); refine goesL_ (some 6) rfl rfl Try.func14 (by kernel_rfl) rfl #[.int .u8 a0] rfl (by (try simp only [List.map_toArray, List.map_cons, List.map_nil]); first | done | rfl | (simp only [List.length_drop, List.length_take]; rfl)) ?_; (with_reducible refine (quoinref06_Upper.calls a0 t122 _ A4.out).mono ?_); rintro e w' ⟨rfl, ⟨nd, rfl⟩⟩; refine ⟨_, rfl, ?_⟩))
    go_ret
    exact ⟨by first | rfl | (simp; done) | (simp [*]; done), by repeat (first | exact Drawn0.refl _ | apply Drawn0.step)⟩
  · replace c3 := Bool.eq_false_iff.mpr c3
    subst c3
    have H1 : ((quoinref06_Lower.f a0).bind fun t123 => (some t123)) = some r := by rw [if_neg (show ¬ (false = true) by decide)] at H; exact H
    clear H
    have H := H1
    clear H1
    replace H := Option.bind_eq_some_iff.mp H
    obtain ⟨t123, A50, H⟩ := H
    replace H : (some t123) = some r := H
    have A5 := Aside0.mk A50
    clear A50
    obtain rfl := Option.some.inj H
    go_enter Try.func18, Try.ntmps18
    go_wp2_with (first | ((with_reducible refine gate_callee (f := 24) rfl ?_); refine goesL_ (some 4) rfl rfl Try.func24 (by kernel_rfl) rfl #[.int .u8 a0] rfl (by (try simp only [List.map_toArray, List.map_cons, List.map_nil]); first | done | rfl | (simp only [List.length_drop, List.length_take]; rfl)) ?_; (with_reducible refine (quoinref06_small.calls a0 false _ A2.out).mono ?_); rintro e w' ⟨rfl, ⟨nd, rfl⟩⟩; refine ⟨_, rfl, ?_⟩) | ((with_reducible refine gate_callee (f := 16) rfl ?_); refine goesL_ (some 8) rfl rfl Try.func16 (by kernel_rfl) rfl #[.int .u8 a0] rfl (by (try simp only [List.map_toArray, List.map_cons, List.map_nil]); first | done | rfl | (simp only [List.length_drop, List.length_take]; rfl)) ?_; (with_reducible refine (quoinref06_Lower.calls a0 t123 _ A5.out).mono ?_); rintro e w' ⟨rfl, ⟨nd, rfl⟩⟩; refine ⟨_, rfl, ?_⟩))
    go_ret
    exact ⟨by first | rfl | (simp; done) | (simp [*]; done), by repeat (first | exact Drawn0.refl _ | apply Drawn0.step)⟩

/-! ### quoinlaw06_ClassBytes: function 3 -/
def quoinlaw06_ClassBytes.j0 : Nat → Int → Bool → Option (Bool)
  | 0, _, _ => none
  | k + 1, x0, x30 => if x30 = true then (some false) else ((class_Partner.f x0).bind fun bt129 => ((quoinref06_Partner.f k x0).bind fun bt132 => (if bt129.1 = bt132.1 then (if (bt129.2.1 == bt132.2.1) = true then (if (bt129.2.2 == bt132.2.2) = true then ((class_Upper.f x0).bind fun t135 => ((quoinref06_Upper.f x0).bind fun t136 => (if t135 = t136 then ((class_Lower.f x0).bind fun t137 => ((quoinref06_Lower.f x0).bind fun t138 => (if t137 = t138 then ((class_Toggle.f x0).bind fun t139 => ((quoinref06_Toggle.f x0).bind fun t140 => (some (t139 == t140)))) else (some false)))) else (some false)))) else (some false)) else (some false)) else (some false))))
def quoinlaw06_ClassBytes.f (k : Nat) (a0 : Int) : Option (Bool) := (quoinlaw06_awake.f k).bind fun t124 => (if t124 = true then ((class_Of.f k a0 false).bind fun t125 => ((quoinref06_Of.f k a0 false).bind fun t126 => (if t125 = t126 then ((class_Of.f k a0 true).bind fun t127 => ((quoinref06_Of.f k a0 true).bind fun t128 => (quoinlaw06_ClassBytes.j0 k a0 (t127 != t128)))) else (quoinlaw06_ClassBytes.j0 k a0 true)))) else (some false))
theorem quoinlaw06_ClassBytes.mono_l : ∀ k, (∀ y0 y1, LeO (quoinlaw06_ClassBytes.j0 k y0 y1) (quoinlaw06_ClassBytes.j0 (k + 1) y0 y1))
  | 0 => fun _ _ r h => by simp [quoinlaw06_ClassBytes.j0] at h
  | k + 1 => by
    have ih0 := quoinlaw06_ClassBytes.mono_l k
    · intro y0 y1
      unfold quoinlaw06_ClassBytes.j0
      repeat' first
      | (with_reducible exact ih0 _ _)
      | (with_reducible exact class_Of.mono _ _ _)
      | (with_reducible exact quoinlaw06_awake.mono _)
      | (with_reducible exact quoinref06_Of.mono _ _ _)
      | (with_reducible exact quoinref06_Partner.mono _ _)
      | (with_reducible exact LeO.refl _)
      | (with_reducible exact LeO.none _)
      | (with_reducible refine LeO.ite ?_ ?_)
      | (with_reducible refine LeO.bind ?_ (fun _ => ?_))
      | exact ih0 _ _
      | exact class_Of.mono _ _ _
      | exact quoinlaw06_awake.mono _
      | exact quoinref06_Of.mono _ _ _
      | exact quoinref06_Partner.mono _ _
      | exact LeO.none _
      | refine LeO.ite ?_ ?_
      | refine LeO.bind ?_ (fun _ => ?_)
theorem quoinlaw06_ClassBytes.mono : ∀ a0 k, LeO (quoinlaw06_ClassBytes.f k a0) (quoinlaw06_ClassBytes.f (k + 1) a0) := by
  intro a0 k
  have ih0 := quoinlaw06_ClassBytes.mono_l k
  unfold quoinlaw06_ClassBytes.f
  repeat' first
      | (with_reducible exact ih0 _ _)
      | (with_reducible exact class_Of.mono _ _ _)
      | (with_reducible exact quoinlaw06_awake.mono _)
      | (with_reducible exact quoinref06_Of.mono _ _ _)
      | (with_reducible exact quoinref06_Partner.mono _ _)
      | (with_reducible exact LeO.refl _)
      | (with_reducible exact LeO.none _)
      | (with_reducible refine LeO.ite ?_ ?_)
      | (with_reducible refine LeO.bind ?_ (fun _ => ?_))
      | exact ih0 _ _
      | exact class_Of.mono _ _ _
      | exact quoinlaw06_awake.mono _
      | exact quoinref06_Of.mono _ _ _
      | exact quoinref06_Partner.mono _ _
      | exact LeO.none _
      | refine LeO.ite ?_ ?_
      | refine LeO.bind ?_ (fun _ => ?_)
set_option maxHeartbeats 8000000 in
set_option maxRecDepth 100000 in
theorem quoinlaw06_ClassBytes.calls (k : Nat) (a0 : Int) (r : Bool) (w : World) (h : quoinlaw06_ClassBytes.f k a0 = some r) :
    Calls Try.prog 3 #[.int .u8 a0] w fun e w' => e = .returned (.bool r) ∧ Drawn0 w w' := by
  have H : ((quoinlaw06_awake.f k).bind fun t124 => (if t124 = true then ((class_Of.f k a0 false).bind fun t125 => ((quoinref06_Of.f k a0 false).bind fun t126 => (if t125 = t126 then ((class_Of.f k a0 true).bind fun t127 => ((quoinref06_Of.f k a0 true).bind fun t128 => (quoinlaw06_ClassBytes.j0 k a0 (t127 != t128)))) else (quoinlaw06_ClassBytes.j0 k a0 true)))) else (some false))) = some r := h
  clear h
  replace H := Option.bind_eq_some_iff.mp H
  obtain ⟨t124, A20, H⟩ := H
  replace H : (if t124 = true then ((class_Of.f k a0 false).bind fun t125 => ((quoinref06_Of.f k a0 false).bind fun t126 => (if t125 = t126 then ((class_Of.f k a0 true).bind fun t127 => ((quoinref06_Of.f k a0 true).bind fun t128 => (quoinlaw06_ClassBytes.j0 k a0 (t127 != t128)))) else (quoinlaw06_ClassBytes.j0 k a0 true)))) else (some false)) = some r := H
  have A2 := Aside0.mk A20
  clear A20
  by_cases c3 : t124 = true
  · subst c3
    have H1 : ((class_Of.f k a0 false).bind fun t125 => ((quoinref06_Of.f k a0 false).bind fun t126 => (if t125 = t126 then ((class_Of.f k a0 true).bind fun t127 => ((quoinref06_Of.f k a0 true).bind fun t128 => (quoinlaw06_ClassBytes.j0 k a0 (t127 != t128)))) else (quoinlaw06_ClassBytes.j0 k a0 true)))) = some r := by rw [if_pos rfl] at H; exact H
    clear H
    have H := H1
    clear H1
    have HC4 := Aside0.mk H
    clear H
    go_enter Try.func3, Try.ntmps3
    go_upto_region 3 with (first | ((with_reducible refine gate_callee (f := 8) rfl ?_); refine goesL_ (some 9) rfl rfl Try.func8 (by kernel_rfl) rfl #[] rfl (by (try simp only [List.map_toArray, List.map_cons, List.map_nil]); first | done | rfl | (simp only [List.length_drop, List.length_take]; rfl)) ?_; (with_reducible refine (quoinlaw06_awake.calls k  true _ A2.out).mono ?_); rintro e w' ⟨rfl, ⟨nd, rfl⟩⟩; refine ⟨_, rfl, ?_⟩))
    (try simp only [Act.put, List.setIfInBounds_toArray, List.set_cons_zero, List.set_cons_succ])
    go_cut [30] (fun v30 wc => ∃ (kq : Nat) (x30_3 : Bool), v30 = .bool x30_3 ∧ Aside0 (quoinlaw06_ClassBytes.j0 kq a0 x30_3 = some r) ∧ Aside0 (kq ≤ k) ∧ Drawn0 w wc)
    case first =>
      have H := HC4.out
      clear HC4
      replace H := Option.bind_eq_some_iff.mp H
      obtain ⟨t125, A50, H⟩ := H
      replace H : ((quoinref06_Of.f k a0 false).bind fun t126 => (if t125 = t126 then ((class_Of.f k a0 true).bind fun t127 => ((quoinref06_Of.f k a0 true).bind fun t128 => (quoinlaw06_ClassBytes.j0 k a0 (t127 != t128)))) else (quoinlaw06_ClassBytes.j0 k a0 true))) = some r := H
      have A5 := Aside0.mk A50
      clear A50
      replace H := Option.bind_eq_some_iff.mp H
      obtain ⟨t126, A60, H⟩ := H
      replace H : (if t125 = t126 then ((class_Of.f k a0 true).bind fun t127 => ((quoinref06_Of.f k a0 true).bind fun t128 => (quoinlaw06_ClassBytes.j0 k a0 (t127 != t128)))) else (quoinlaw06_ClassBytes.j0 k a0 true)) = some r := H
      have A6 := Aside0.mk A60
      clear A60
      by_cases c7 : t125 = t126
      · rw [if_pos c7] at H
        have c7b0 : (t125 == t126) = true := beq_iff_eq.mpr c7
        have c7b1 : (t125 != t126) = false := bne_eq_false_iff_eq.mpr c7
        clear c7
        (first | rw [c7b0] | (simp only [i64_w, i32_w]; rw [c7b0]) | skip)
        replace H := Option.bind_eq_some_iff.mp H
        obtain ⟨t127, A80, H⟩ := H
        replace H : ((quoinref06_Of.f k a0 true).bind fun t128 => (quoinlaw06_ClassBytes.j0 k a0 (t127 != t128))) = some r := H
        have A8 := Aside0.mk A80
        clear A80
        replace H := Option.bind_eq_some_iff.mp H
        obtain ⟨t128, A90, H⟩ := H
        replace H : (quoinlaw06_ClassBytes.j0 k a0 (t127 != t128)) = some r := H
        have A9 := Aside0.mk A90
        clear A90
        have H' := Aside0.mk H
        clear H
        go_wp2_with (first | ((with_reducible refine gate_callee (f := 9) rfl ?_); refine goesL_ (some 20) rfl rfl Try.func9 (by kernel_rfl) rfl #[.int .u8 a0, .bool false] rfl (by (try simp only [List.map_toArray, List.map_cons, List.map_nil]); first | done | rfl | (simp only [List.length_drop, List.length_take]; rfl)) ?_; (with_reducible refine (class_Of.calls k a0 false t125 _ A5.out).mono ?_); rintro e w' ⟨rfl, ⟨nd, rfl⟩⟩; refine ⟨_, rfl, ?_⟩) | ((with_reducible refine gate_callee (f := 10) rfl ?_); refine goesL_ (some 22) rfl rfl Try.func10 (by kernel_rfl) rfl #[.int .u8 a0, .bool false] rfl (by (try simp only [List.map_toArray, List.map_cons, List.map_nil]); first | done | rfl | (simp only [List.length_drop, List.length_take]; rfl)) ?_; (with_reducible refine (quoinref06_Of.calls k a0 false t126 _ A6.out).mono ?_); rintro e w' ⟨rfl, ⟨nd, rfl⟩⟩; refine ⟨_, rfl, ?_⟩) | (go_at_call 9; (with_reducible refine (class_Of.calls k a0 true t127 _ A8.out).mono ?_); rintro e w' ⟨rfl, ⟨nd, rfl⟩⟩) | (go_at_call 10; (with_reducible refine (quoinref06_Of.calls k a0 true t128 _ A9.out).mono ?_); rintro e w' ⟨rfl, ⟨nd, rfl⟩⟩))
        go_meet
        case rel => exact ⟨_, ((t127 != t128)), (by first | rfl | (simp; done) | (simp [*]; done)), H', ⟨by first | omega | exact Nat.le_refl _⟩, by repeat (first | exact Drawn0.refl _ | apply Drawn0.step)⟩
      · rw [if_neg c7] at H
        have c7b0 : (t125 == t126) = false := beq_eq_false_iff_ne.mpr c7
        have c7b1 : (t125 != t126) = true := bne_iff_ne.mpr c7
        (first | rw [c7b0] | (simp only [i64_w, i32_w]; rw [c7b0]) | skip)
        have H' := Aside0.mk H
        clear H
        go_wp2_with (first | ((with_reducible refine gate_callee (f := 9) rfl ?_); refine goesL_ (some 20) rfl rfl Try.func9 (by kernel_rfl) rfl #[.int .u8 a0, .bool false] rfl (by (try simp only [List.map_toArray, List.map_cons, List.map_nil]); first | done | rfl | (simp only [List.length_drop, List.length_take]; rfl)) ?_; (with_reducible refine (class_Of.calls k a0 false t125 _ A5.out).mono ?_); rintro e w' ⟨rfl, ⟨nd, rfl⟩⟩; refine ⟨_, rfl, ?_⟩) | ((with_reducible refine gate_callee (f := 10) rfl ?_); refine goesL_ (some 22) rfl rfl Try.func10 (by kernel_rfl) rfl #[.int .u8 a0, .bool false] rfl (by (try simp only [List.map_toArray, List.map_cons, List.map_nil]); first | done | rfl | (simp only [List.length_drop, List.length_take]; rfl)) ?_; (with_reducible refine (quoinref06_Of.calls k a0 false t126 _ A6.out).mono ?_); rintro e w' ⟨rfl, ⟨nd, rfl⟩⟩; refine ⟨_, rfl, ?_⟩))
        go_meet
        case rel => exact ⟨_, (true), (by first | rfl | (simp; done) | (simp [*]; done)), H', ⟨by first | omega | exact Nat.le_refl _⟩, by repeat (first | exact Drawn0.refl _ | apply Drawn0.step)⟩
    case rest =>
      clear HC4
      try clear c1
      try clear p2
      try clear c3
      try clear c7
      try clear c7b0
      try clear c7b1
      try clear c8
      try clear c9
      obtain ⟨kq, x30_3, rfl, HA, HJ3, ⟨mc3, rfl⟩⟩ := hcut
      cases kq with
      | zero => exact absurd HA.out (by simp [quoinlaw06_ClassBytes.j0])
      | succ kj3 =>
        have H := HA.out
        clear HA
        simp only [quoinlaw06_ClassBytes.j0] at H
        by_cases c10 : x30_3 = true
        · subst c10
          have H1 : (some false) = some r := by rw [if_pos rfl] at H; exact H
          clear H
          have H := H1
          clear H1
          obtain rfl := Option.some.inj H
          go_wp2
          go_ret
          exact ⟨by first | rfl | (simp; done) | (simp [*]; done), by repeat (first | exact Drawn0.refl _ | apply Drawn0.step)⟩
        · replace c10 := Bool.eq_false_iff.mpr c10
          subst c10
          have H1 : ((class_Partner.f a0).bind fun bt129 => ((quoinref06_Partner.f kj3 a0).bind fun bt132 => (if bt129.1 = bt132.1 then (if (bt129.2.1 == bt132.2.1) = true then (if (bt129.2.2 == bt132.2.2) = true then ((class_Upper.f a0).bind fun t135 => ((quoinref06_Upper.f a0).bind fun t136 => (if t135 = t136 then ((class_Lower.f a0).bind fun t137 => ((quoinref06_Lower.f a0).bind fun t138 => (if t137 = t138 then ((class_Toggle.f a0).bind fun t139 => ((quoinref06_Toggle.f a0).bind fun t140 => (some (t139 == t140)))) else (some false)))) else (some false)))) else (some false)) else (some false)) else (some false)))) = some r := by rw [if_neg (show ¬ (false = true) by decide)] at H; exact H
          clear H
          have H := H1
          clear H1
          replace H := Option.bind_eq_some_iff.mp H
          obtain ⟨⟨t129, t130, t131⟩, A110, H⟩ := H
          replace H : ((quoinref06_Partner.f kj3 a0).bind fun bt132 => (if t129 = bt132.1 then (if (t130 == bt132.2.1) = true then (if (t131 == bt132.2.2) = true then ((class_Upper.f a0).bind fun t135 => ((quoinref06_Upper.f a0).bind fun t136 => (if t135 = t136 then ((class_Lower.f a0).bind fun t137 => ((quoinref06_Lower.f a0).bind fun t138 => (if t137 = t138 then ((class_Toggle.f a0).bind fun t139 => ((quoinref06_Toggle.f a0).bind fun t140 => (some (t139 == t140)))) else (some false)))) else (some false)))) else (some false)) else (some false)) else (some false))) = some r := H
          have A11 := Aside0.mk A110
          clear A110
          replace H := Option.bind_eq_some_iff.mp H
          obtain ⟨⟨t132, t133, t134⟩, A120, H⟩ := H
          replace H : (if t129 = t132 then (if (t130 == t133) = true then (if (t131 == t134) = true then ((class_Upper.f a0).bind fun t135 => ((quoinref06_Upper.f a0).bind fun t136 => (if t135 = t136 then ((class_Lower.f a0).bind fun t137 => ((quoinref06_Lower.f a0).bind fun t138 => (if t137 = t138 then ((class_Toggle.f a0).bind fun t139 => ((quoinref06_Toggle.f a0).bind fun t140 => (some (t139 == t140)))) else (some false)))) else (some false)))) else (some false)) else (some false)) else (some false)) = some r := H
          have A12 := Aside0.mk A120
          clear A120
          by_cases c13 : t129 = t132
          · rw [if_pos c13] at H
            have c13b0 : (t129 == t132) = true := beq_iff_eq.mpr c13
            have c13b1 : (t129 != t132) = false := bne_eq_false_iff_eq.mpr c13
            clear c13
            by_cases c14 : (t130 == t133) = true
            · rw [if_pos c14] at H
              have c14b0 : (t130 == t133) = true := c14
              (try (have c14b1 : decide (t130 = t133) = true := by simpa using c14))
              (try (have c14b2 : (t130 == t133) = true := by simpa using c14))
              clear c14
              by_cases c15 : (t131 == t134) = true
              · rw [if_pos c15] at H
                have c15b0 : (t131 == t134) = true := c15
                (try (have c15b1 : decide (t131 = t134) = true := by simpa using c15))
                (try (have c15b2 : (t131 == t134) = true := by simpa using c15))
                clear c15
                replace H := Option.bind_eq_some_iff.mp H
                obtain ⟨t135, A160, H⟩ := H
                replace H : ((quoinref06_Upper.f a0).bind fun t136 => (if t135 = t136 then ((class_Lower.f a0).bind fun t137 => ((quoinref06_Lower.f a0).bind fun t138 => (if t137 = t138 then ((class_Toggle.f a0).bind fun t139 => ((quoinref06_Toggle.f a0).bind fun t140 => (some (t139 == t140)))) else (some false)))) else (some false))) = some r := H
                have A16 := Aside0.mk A160
                clear A160
                replace H := Option.bind_eq_some_iff.mp H
                obtain ⟨t136, A170, H⟩ := H
                replace H : (if t135 = t136 then ((class_Lower.f a0).bind fun t137 => ((quoinref06_Lower.f a0).bind fun t138 => (if t137 = t138 then ((class_Toggle.f a0).bind fun t139 => ((quoinref06_Toggle.f a0).bind fun t140 => (some (t139 == t140)))) else (some false)))) else (some false)) = some r := H
                have A17 := Aside0.mk A170
                clear A170
                by_cases c18 : t135 = t136
                · rw [if_pos c18] at H
                  have c18b0 : (t135 == t136) = true := beq_iff_eq.mpr c18
                  have c18b1 : (t135 != t136) = false := bne_eq_false_iff_eq.mpr c18
                  clear c18
                  replace H := Option.bind_eq_some_iff.mp H
                  obtain ⟨t137, A190, H⟩ := H
                  replace H : ((quoinref06_Lower.f a0).bind fun t138 => (if t137 = t138 then ((class_Toggle.f a0).bind fun t139 => ((quoinref06_Toggle.f a0).bind fun t140 => (some (t139 == t140)))) else (some false))) = some r := H
                  have A19 := Aside0.mk A190
                  clear A190
                  replace H := Option.bind_eq_some_iff.mp H
                  obtain ⟨t138, A200, H⟩ := H
                  replace H : (if t137 = t138 then ((class_Toggle.f a0).bind fun t139 => ((quoinref06_Toggle.f a0).bind fun t140 => (some (t139 == t140)))) else (some false)) = some r := H
                  have A20 := Aside0.mk A200
                  clear A200
                  by_cases c21 : t137 = t138
                  · rw [if_pos c21] at H
                    have c21b0 : (t137 == t138) = true := beq_iff_eq.mpr c21
                    have c21b1 : (t137 != t138) = false := bne_eq_false_iff_eq.mpr c21
                    clear c21
                    replace H := Option.bind_eq_some_iff.mp H
                    obtain ⟨t139, A220, H⟩ := H
                    replace H : ((quoinref06_Toggle.f a0).bind fun t140 => (some (t139 == t140))) = some r := H
                    have A22 := Aside0.mk A220
                    clear A220
                    replace H := Option.bind_eq_some_iff.mp H
                    obtain ⟨t140, A230, H⟩ := H
                    replace H : (some (t139 == t140)) = some r := H
                    have A23 := Aside0.mk A230
                    clear A230
                    obtain rfl := Option.some.inj H
                    go_wp2_with (first | ((with_reducible refine gate_callee (f := 11) rfl ?_); refine goesL_ (some 33) rfl rfl Try.func11 (by kernel_rfl) rfl #[.int .u8 a0] rfl (by (try simp only [List.map_toArray, List.map_cons, List.map_nil]); first | done | rfl | (simp only [List.length_drop, List.length_take]; rfl)) ?_; (with_reducible refine (class_Partner.calls a0 t129 t130 t131 _ A11.out).mono ?_); rintro e w' ⟨rfl, ⟨nd, rfl⟩⟩; refine ⟨_, rfl, ?_⟩) | ((with_reducible refine gate_callee (f := 12) rfl ?_); refine goesL_ (some 39) rfl rfl Try.func12 (by kernel_rfl) rfl #[.int .u8 a0] rfl (by (try simp only [List.map_toArray, List.map_cons, List.map_nil]); first | done | rfl | (simp only [List.length_drop, List.length_take]; rfl)) ?_; (with_reducible refine (quoinref06_Partner.calls kj3 a0 t132 t133 t134 _ A12.out).mono ?_); rintro e w' ⟨rfl, ⟨nd, rfl⟩⟩; refine ⟨_, rfl, ?_⟩) | (go_at_call 13; (with_reducible refine (class_Upper.calls a0 t135 _ A16.out).mono ?_); rintro e w' ⟨rfl, ⟨nd, rfl⟩⟩) | (go_at_call 14; (with_reducible refine (quoinref06_Upper.calls a0 t136 _ A17.out).mono ?_); rintro e w' ⟨rfl, ⟨nd, rfl⟩⟩) | (go_at_call 15; (with_reducible refine (class_Lower.calls a0 t137 _ A19.out).mono ?_); rintro e w' ⟨rfl, ⟨nd, rfl⟩⟩) | (go_at_call 16; (with_reducible refine (quoinref06_Lower.calls a0 t138 _ A20.out).mono ?_); rintro e w' ⟨rfl, ⟨nd, rfl⟩⟩) | (go_at_call 17; (with_reducible refine (class_Toggle.calls a0 t139 _ A22.out).mono ?_); rintro e w' ⟨rfl, ⟨nd, rfl⟩⟩) | (go_at_call 18; (with_reducible refine (quoinref06_Toggle.calls a0 t140 _ A23.out).mono ?_); rintro e w' ⟨rfl, ⟨nd, rfl⟩⟩))
                    go_ret
                    exact ⟨by first | rfl | (simp; done) | (simp [*]; done), by repeat (first | exact Drawn0.refl _ | apply Drawn0.step)⟩
                  · rw [if_neg c21] at H
                    have c21b0 : (t137 == t138) = false := beq_eq_false_iff_ne.mpr c21
                    have c21b1 : (t137 != t138) = true := bne_iff_ne.mpr c21
                    obtain rfl := Option.some.inj H
                    go_wp2_with (first | ((with_reducible refine gate_callee (f := 11) rfl ?_); refine goesL_ (some 33) rfl rfl Try.func11 (by kernel_rfl) rfl #[.int .u8 a0] rfl (by (try simp only [List.map_toArray, List.map_cons, List.map_nil]); first | done | rfl | (simp only [List.length_drop, List.length_take]; rfl)) ?_; (with_reducible refine (class_Partner.calls a0 t129 t130 t131 _ A11.out).mono ?_); rintro e w' ⟨rfl, ⟨nd, rfl⟩⟩; refine ⟨_, rfl, ?_⟩) | ((with_reducible refine gate_callee (f := 12) rfl ?_); refine goesL_ (some 39) rfl rfl Try.func12 (by kernel_rfl) rfl #[.int .u8 a0] rfl (by (try simp only [List.map_toArray, List.map_cons, List.map_nil]); first | done | rfl | (simp only [List.length_drop, List.length_take]; rfl)) ?_; (with_reducible refine (quoinref06_Partner.calls kj3 a0 t132 t133 t134 _ A12.out).mono ?_); rintro e w' ⟨rfl, ⟨nd, rfl⟩⟩; refine ⟨_, rfl, ?_⟩) | (go_at_call 13; (with_reducible refine (class_Upper.calls a0 t135 _ A16.out).mono ?_); rintro e w' ⟨rfl, ⟨nd, rfl⟩⟩) | (go_at_call 14; (with_reducible refine (quoinref06_Upper.calls a0 t136 _ A17.out).mono ?_); rintro e w' ⟨rfl, ⟨nd, rfl⟩⟩) | (go_at_call 15; (with_reducible refine (class_Lower.calls a0 t137 _ A19.out).mono ?_); rintro e w' ⟨rfl, ⟨nd, rfl⟩⟩) | (go_at_call 16; (with_reducible refine (quoinref06_Lower.calls a0 t138 _ A20.out).mono ?_); rintro e w' ⟨rfl, ⟨nd, rfl⟩⟩))
                    go_ret
                    exact ⟨by first | rfl | (simp; done) | (simp [*]; done), by repeat (first | exact Drawn0.refl _ | apply Drawn0.step)⟩
                · rw [if_neg c18] at H
                  have c18b0 : (t135 == t136) = false := beq_eq_false_iff_ne.mpr c18
                  have c18b1 : (t135 != t136) = true := bne_iff_ne.mpr c18
                  obtain rfl := Option.some.inj H
                  go_wp2_with (first | ((with_reducible refine gate_callee (f := 11) rfl ?_); refine goesL_ (some 33) rfl rfl Try.func11 (by kernel_rfl) rfl #[.int .u8 a0] rfl (by (try simp only [List.map_toArray, List.map_cons, List.map_nil]); first | done | rfl | (simp only [List.length_drop, List.length_take]; rfl)) ?_; (with_reducible refine (class_Partner.calls a0 t129 t130 t131 _ A11.out).mono ?_); rintro e w' ⟨rfl, ⟨nd, rfl⟩⟩; refine ⟨_, rfl, ?_⟩) | ((with_reducible refine gate_callee (f := 12) rfl ?_); refine goesL_ (some 39) rfl rfl Try.func12 (by kernel_rfl) rfl #[.int .u8 a0] rfl (by (try simp only [List.map_toArray, List.map_cons, List.map_nil]); first | done | rfl | (simp only [List.length_drop, List.length_take]; rfl)) ?_; (with_reducible refine (quoinref06_Partner.calls kj3 a0 t132 t133 t134 _ A12.out).mono ?_); rintro e w' ⟨rfl, ⟨nd, rfl⟩⟩; refine ⟨_, rfl, ?_⟩) | (go_at_call 13; (with_reducible refine (class_Upper.calls a0 t135 _ A16.out).mono ?_); rintro e w' ⟨rfl, ⟨nd, rfl⟩⟩) | (go_at_call 14; (with_reducible refine (quoinref06_Upper.calls a0 t136 _ A17.out).mono ?_); rintro e w' ⟨rfl, ⟨nd, rfl⟩⟩))
                  go_ret
                  exact ⟨by first | rfl | (simp; done) | (simp [*]; done), by repeat (first | exact Drawn0.refl _ | apply Drawn0.step)⟩
              · rw [if_neg c15] at H
                have c15b0 : (t131 == t134) = false := by simpa using c15
                (try (have c15b1 : decide (t131 = t134) = false := by simpa using c15))
                (try (have c15b2 : (t131 == t134) = false := by simpa using c15))
                (try (have c15b3 : ¬ (t131 = t134) := by simpa using c15))
                clear c15
                obtain rfl := Option.some.inj H
                go_wp2_with (first | ((with_reducible refine gate_callee (f := 11) rfl ?_); refine goesL_ (some 33) rfl rfl Try.func11 (by kernel_rfl) rfl #[.int .u8 a0] rfl (by (try simp only [List.map_toArray, List.map_cons, List.map_nil]); first | done | rfl | (simp only [List.length_drop, List.length_take]; rfl)) ?_; (with_reducible refine (class_Partner.calls a0 t129 t130 t131 _ A11.out).mono ?_); rintro e w' ⟨rfl, ⟨nd, rfl⟩⟩; refine ⟨_, rfl, ?_⟩) | ((with_reducible refine gate_callee (f := 12) rfl ?_); refine goesL_ (some 39) rfl rfl Try.func12 (by kernel_rfl) rfl #[.int .u8 a0] rfl (by (try simp only [List.map_toArray, List.map_cons, List.map_nil]); first | done | rfl | (simp only [List.length_drop, List.length_take]; rfl)) ?_; (with_reducible refine (quoinref06_Partner.calls kj3 a0 t132 t133 t134 _ A12.out).mono ?_); rintro e w' ⟨rfl, ⟨nd, rfl⟩⟩; refine ⟨_, rfl, ?_⟩))
                go_ret
                exact ⟨by first | rfl | (simp; done) | (simp [*]; done), by repeat (first | exact Drawn0.refl _ | apply Drawn0.step)⟩
            · rw [if_neg c14] at H
              have c14b0 : (t130 == t133) = false := by simpa using c14
              (try (have c14b1 : decide (t130 = t133) = false := by simpa using c14))
              (try (have c14b2 : (t130 == t133) = false := by simpa using c14))
              (try (have c14b3 : ¬ (t130 = t133) := by simpa using c14))
              clear c14
              obtain rfl := Option.some.inj H
              go_wp2_with (first | ((with_reducible refine gate_callee (f := 11) rfl ?_); refine goesL_ (some 33) rfl rfl Try.func11 (by kernel_rfl) rfl #[.int .u8 a0] rfl (by (try simp only [List.map_toArray, List.map_cons, List.map_nil]); first | done | rfl | (simp only [List.length_drop, List.length_take]; rfl)) ?_; (with_reducible refine (class_Partner.calls a0 t129 t130 t131 _ A11.out).mono ?_); rintro e w' ⟨rfl, ⟨nd, rfl⟩⟩; refine ⟨_, rfl, ?_⟩) | ((with_reducible refine gate_callee (f := 12) rfl ?_); refine goesL_ (some 39) rfl rfl Try.func12 (by kernel_rfl) rfl #[.int .u8 a0] rfl (by (try simp only [List.map_toArray, List.map_cons, List.map_nil]); first | done | rfl | (simp only [List.length_drop, List.length_take]; rfl)) ?_; (with_reducible refine (quoinref06_Partner.calls kj3 a0 t132 t133 t134 _ A12.out).mono ?_); rintro e w' ⟨rfl, ⟨nd, rfl⟩⟩; refine ⟨_, rfl, ?_⟩))
              go_ret
              exact ⟨by first | rfl | (simp; done) | (simp [*]; done), by repeat (first | exact Drawn0.refl _ | apply Drawn0.step)⟩
          · rw [if_neg c13] at H
            have c13b0 : (t129 == t132) = false := beq_eq_false_iff_ne.mpr c13
            have c13b1 : (t129 != t132) = true := bne_iff_ne.mpr c13
            obtain rfl := Option.some.inj H
            go_wp2_with (first | ((with_reducible refine gate_callee (f := 11) rfl ?_); refine goesL_ (some 33) rfl rfl Try.func11 (by kernel_rfl) rfl #[.int .u8 a0] rfl (by (try simp only [List.map_toArray, List.map_cons, List.map_nil]); first | done | rfl | (simp only [List.length_drop, List.length_take]; rfl)) ?_; (with_reducible refine (class_Partner.calls a0 t129 t130 t131 _ A11.out).mono ?_); rintro e w' ⟨rfl, ⟨nd, rfl⟩⟩; refine ⟨_, rfl, ?_⟩) | ((with_reducible refine gate_callee (f := 12) rfl ?_); refine goesL_ (some 39) rfl rfl Try.func12 (by kernel_rfl) rfl #[.int .u8 a0] rfl (by (try simp only [List.map_toArray, List.map_cons, List.map_nil]); first | done | rfl | (simp only [List.length_drop, List.length_take]; rfl)) ?_; (with_reducible refine (quoinref06_Partner.calls kj3 a0 t132 t133 t134 _ A12.out).mono ?_); rintro e w' ⟨rfl, ⟨nd, rfl⟩⟩; refine ⟨_, rfl, ?_⟩))
            go_ret
            exact ⟨by first | rfl | (simp; done) | (simp [*]; done), by repeat (first | exact Drawn0.refl _ | apply Drawn0.step)⟩
  · replace c3 := Bool.eq_false_iff.mpr c3
    subst c3
    have H1 : (some false) = some r := by rw [if_neg (show ¬ (false = true) by decide)] at H; exact H
    clear H
    have H := H1
    clear H1
    obtain rfl := Option.some.inj H
    go_enter Try.func3, Try.ntmps3
    go_wp2_with (first | ((with_reducible refine gate_callee (f := 8) rfl ?_); refine goesL_ (some 9) rfl rfl Try.func8 (by kernel_rfl) rfl #[] rfl (by (try simp only [List.map_toArray, List.map_cons, List.map_nil]); first | done | rfl | (simp only [List.length_drop, List.length_take]; rfl)) ?_; (with_reducible refine (quoinlaw06_awake.calls k  false _ A2.out).mono ?_); rintro e w' ⟨rfl, ⟨nd, rfl⟩⟩; refine ⟨_, rfl, ?_⟩))
    go_ret
    exact ⟨by first | rfl | (simp; done) | (simp [*]; done), by repeat (first | exact Drawn0.refl _ | apply Drawn0.step)⟩

/-- THE ONE PURE STATEMENT of quoinlaw06_ClassBytes: yours. -/
def quoinlaw06_ClassBytes.Pure : Prop := ∀ (a0 : Int), (Lit.int .u8 a0).wf = true → ∃ k, quoinlaw06_ClassBytes.f k a0 = some true
theorem quoinlaw06_ClassBytes.walk (P : quoinlaw06_ClassBytes.Pure) (a0 : Int) (w : World) (w0 : (Lit.int .u8 a0).wf = true) :
    Calls Try.prog 3 #[.int .u8 a0] w fun e w' => e = .returned (.bool true) ∧ Below w.heap.size w w' := by
  obtain ⟨k, h⟩ := P a0 w0
  refine (quoinlaw06_ClassBytes.calls k a0 true w h).mono ?_
  rintro e w' ⟨rfl, hd⟩
  exact ⟨rfl, hd.below⟩

end Go.Proofs.Ytndfmgdpajcbdaa.PCl
