-- written by a program of this session (wip/tools/xprint.py)
import Derived.Test.YtghoeadmimgfnaaPWbx0
import Derived.Test.YtghoeadmimgfnaaPWbx2
import Derived.Test.YtghoeadmimgfnaaPWbx4
namespace Go.Proofs.Ytghoeadmimgfnaa.PWb
open Go.RowKit Go.Proofs.YtghoeadmimgfnaaW.PrintWords Go.Proofs.YtghoeadmimgfnaaW.PrintLast Go.Proofs.YtghoeadmimgfnaaW.PrintMore
attribute [local go_sem] max2_int min2_int max_two min_two max_three min_three max_four min_four   -- for this text's walks alone
set_option linter.unusedVariables false
set_option linter.unusedSimpArgs false

/-! ### quoinlaw08_WordBack: function 6 -/
mutual
def quoinlaw08_WordBack.j0 : Nat → List Int → Int → Bool → Bool → Option (Bool)
  | 0, _, _, _, _ => none
  | k + 1, x0, x1, x2, x29 => if x29 = true then (some true) else (if x2 = true then (quoinlaw08_WordBack.j1 k x0 x1 x2 (⟨#[87]⟩ : ByteArray) (⟨#[66]⟩ : ByteArray) (⟨#[69]⟩ : ByteArray) (⟨#[103, 69]⟩ : ByteArray)) else (quoinlaw08_WordBack.j1 k x0 x1 x2 (⟨#[119]⟩ : ByteArray) (⟨#[98]⟩ : ByteArray) (⟨#[101]⟩ : ByteArray) (⟨#[103, 101]⟩ : ByteArray)))
def quoinlaw08_WordBack.j1 : Nat → List Int → Int → Bool → ByteArray → ByteArray → ByteArray → ByteArray → Option (Bool)
  | 0, _, _, _, _, _, _, _ => none
  | k + 1, x0, x1, x2, x7, x8, x9, x10 => (quoinlaw08_starts.f k x0 x1 x2).bind fun t152 => (if t152 = true then (quoinlaw08_WordBack.j2 k x0 x1 x2 x7 x8 x9 x10 true) else ((quoinlaw08_bare.f x0 x1).bind fun t153 => (quoinlaw08_WordBack.j2 k x0 x1 x2 x7 x8 x9 x10 t153)))
def quoinlaw08_WordBack.j2 : Nat → List Int → Int → Bool → ByteArray → ByteArray → ByteArray → ByteArray → Bool → Option (Bool)
  | 0, _, _, _, _, _, _, _, _ => none
  | k + 1, x0, x1, x2, x7, x8, x9, x10, x39 => if x39 = true then ((word_Move.f x0 x1 1 x7).bind fun bt154 => (if bt154.2.2.2 = 0 then ((quoinlaw08_starts.f k x0 bt154.2.1 x2).bind fun t159 => (if t159 = true then (quoinlaw08_WordBack.j3 k x0 x1 x2 x8 x9 x10 true bt154.1 bt154.2.1 bt154.2.2.1) else ((quoinlaw08_bare.f x0 bt154.2.1).bind fun t160 => (quoinlaw08_WordBack.j3 k x0 x1 x2 x8 x9 x10 t160 bt154.1 bt154.2.1 bt154.2.2.1)))) else (quoinlaw08_WordBack.j3 k x0 x1 x2 x8 x9 x10 false bt154.1 bt154.2.1 bt154.2.2.1))) else (quoinlaw08_WordBack.j4 k x0 x1 x2 x9 x10)
def quoinlaw08_WordBack.j4 : Nat → List Int → Int → Bool → ByteArray → ByteArray → Option (Bool)
  | 0, _, _, _, _, _ => none
  | k + 1, x0, x1, x2, x9, x10 => (quoinlaw08_ends.f k x0 x1 x2).bind fun t166 => (if t166 = true then ((word_Move.f x0 x1 1 x9).bind fun bt167 => (if bt167.2.2.2 = 0 then (quoinlaw08_WordBack.l0 k x0 x1 x10 (wrap64 (x1 + 1)) bt167.1 bt167.2.1 bt167.2.2.1) else (some true))) else (some true))
def quoinlaw08_WordBack.l0 : Nat → List Int → Int → ByteArray → Int → Int → Int → Int → Option (Bool)
  | 0, _, _, _, _, _, _, _ => none
  | k + 1, x0, x1, x10, x17, x172000, x172001, x172002 => if x17 < x172001 then ((quoinlaw08_bare.f x0 x17).bind fun t172 => (if t172 = true then (some true) else (quoinlaw08_WordBack.l0 k x0 x1 x10 (wrap64 (x17 + 1)) x172000 x172001 x172002))) else ((word_Move.f x0 x172001 1 x10).bind fun bt173 => (if bt173.2.2.2 = 0 then (if bt173.2.1 = x1 then (some true) else (some false)) else (some false)))
def quoinlaw08_WordBack.j3 : Nat → List Int → Int → Bool → ByteArray → ByteArray → ByteArray → Bool → Int → Int → Int → Option (Bool)
  | 0, _, _, _, _, _, _, _, _, _, _ => none
  | k + 1, x0, x1, x2, x8, x9, x10, x61, x159000, x159001, x159002 => if x61 = true then ((word_Move.f x0 x159001 1 x8).bind fun bt161 => (if bt161.2.2.2 = 0 then (if bt161.2.1 = x1 then (quoinlaw08_WordBack.j4 k x0 x1 x2 x9 x10) else (some false)) else (some false))) else (quoinlaw08_WordBack.j4 k x0 x1 x2 x9 x10)
end
def quoinlaw08_WordBack.f (k : Nat) (l0 : List Int) (a1 : Int) (a2 : Bool) : Option (Bool) := (quoinlaw08_alive.f).bind fun t151 => (if t151 = true then (if a1 < 0 then (quoinlaw08_WordBack.j0 k l0 a1 a2 true) else (quoinlaw08_WordBack.j0 k l0 a1 a2 (decide (a1 > (l0.length : Int))))) else (some false))
theorem quoinlaw08_WordBack.mono_l : ∀ k, (∀ y0 y1 y2 y3, LeO (quoinlaw08_WordBack.j0 k y0 y1 y2 y3) (quoinlaw08_WordBack.j0 (k + 1) y0 y1 y2 y3)) ∧ (∀ y0 y1 y2 y3 y4 y5 y6, LeO (quoinlaw08_WordBack.j1 k y0 y1 y2 y3 y4 y5 y6) (quoinlaw08_WordBack.j1 (k + 1) y0 y1 y2 y3 y4 y5 y6)) ∧ (∀ y0 y1 y2 y3 y4 y5 y6 y7, LeO (quoinlaw08_WordBack.j2 k y0 y1 y2 y3 y4 y5 y6 y7) (quoinlaw08_WordBack.j2 (k + 1) y0 y1 y2 y3 y4 y5 y6 y7)) ∧ (∀ y0 y1 y2 y3 y4, LeO (quoinlaw08_WordBack.j4 k y0 y1 y2 y3 y4) (quoinlaw08_WordBack.j4 (k + 1) y0 y1 y2 y3 y4)) ∧ (∀ y0 y1 y2 y3 y4 y5 y6, LeO (quoinlaw08_WordBack.l0 k y0 y1 y2 y3 y4 y5 y6) (quoinlaw08_WordBack.l0 (k + 1) y0 y1 y2 y3 y4 y5 y6)) ∧ (∀ y0 y1 y2 y3 y4 y5 y6 y7 y8 y9, LeO (quoinlaw08_WordBack.j3 k y0 y1 y2 y3 y4 y5 y6 y7 y8 y9) (quoinlaw08_WordBack.j3 (k + 1) y0 y1 y2 y3 y4 y5 y6 y7 y8 y9))
  | 0 => ⟨fun _ _ _ _ r h => by simp [quoinlaw08_WordBack.j0] at h, fun _ _ _ _ _ _ _ r h => by simp [quoinlaw08_WordBack.j1] at h, fun _ _ _ _ _ _ _ _ r h => by simp [quoinlaw08_WordBack.j2] at h, fun _ _ _ _ _ r h => by simp [quoinlaw08_WordBack.j4] at h, fun _ _ _ _ _ _ _ r h => by simp [quoinlaw08_WordBack.l0] at h, fun _ _ _ _ _ _ _ _ _ _ r h => by simp [quoinlaw08_WordBack.j3] at h⟩
  | k + 1 => by
    obtain ⟨ih0, ih1, ih2, ih3, ih4, ih5⟩ := quoinlaw08_WordBack.mono_l k
    refine ⟨?_, ?_, ?_, ?_, ?_, ?_⟩
    · intro y0 y1 y2 y3
      unfold quoinlaw08_WordBack.j0
      repeat' first
      | (with_reducible exact ih0 _ _ _ _)
      | (with_reducible exact ih1 _ _ _ _ _ _ _)
      | (with_reducible exact ih2 _ _ _ _ _ _ _ _)
      | (with_reducible exact ih3 _ _ _ _ _)
      | (with_reducible exact ih4 _ _ _ _ _ _ _)
      | (with_reducible exact ih5 _ _ _ _ _ _ _ _ _ _)
      | (with_reducible exact quoinlaw08_ends.mono _ _ _ _)
      | (with_reducible exact quoinlaw08_starts.mono _ _ _ _)
      | (with_reducible exact LeO.refl _)
      | (with_reducible exact LeO.none _)
      | (with_reducible refine LeO.ite ?_ ?_)
      | (with_reducible refine LeO.bind ?_ (fun _ => ?_))
      | exact ih0 _ _ _ _
      | exact ih1 _ _ _ _ _ _ _
      | exact ih2 _ _ _ _ _ _ _ _
      | exact ih3 _ _ _ _ _
      | exact ih4 _ _ _ _ _ _ _
      | exact ih5 _ _ _ _ _ _ _ _ _ _
      | exact quoinlaw08_ends.mono _ _ _ _
      | exact quoinlaw08_starts.mono _ _ _ _
      | exact LeO.none _
      | refine LeO.ite ?_ ?_
      | refine LeO.bind ?_ (fun _ => ?_)
    · intro y0 y1 y2 y3 y4 y5 y6
      unfold quoinlaw08_WordBack.j1
      repeat' first
      | (with_reducible exact ih0 _ _ _ _)
      | (with_reducible exact ih1 _ _ _ _ _ _ _)
      | (with_reducible exact ih2 _ _ _ _ _ _ _ _)
      | (with_reducible exact ih3 _ _ _ _ _)
      | (with_reducible exact ih4 _ _ _ _ _ _ _)
      | (with_reducible exact ih5 _ _ _ _ _ _ _ _ _ _)
      | (with_reducible exact quoinlaw08_ends.mono _ _ _ _)
      | (with_reducible exact quoinlaw08_starts.mono _ _ _ _)
      | (with_reducible exact LeO.refl _)
      | (with_reducible exact LeO.none _)
      | (with_reducible refine LeO.ite ?_ ?_)
      | (with_reducible refine LeO.bind ?_ (fun _ => ?_))
      | exact ih0 _ _ _ _
      | exact ih1 _ _ _ _ _ _ _
      | exact ih2 _ _ _ _ _ _ _ _
      | exact ih3 _ _ _ _ _
      | exact ih4 _ _ _ _ _ _ _
      | exact ih5 _ _ _ _ _ _ _ _ _ _
      | exact quoinlaw08_ends.mono _ _ _ _
      | exact quoinlaw08_starts.mono _ _ _ _
      | exact LeO.none _
      | refine LeO.ite ?_ ?_
      | refine LeO.bind ?_ (fun _ => ?_)
    · intro y0 y1 y2 y3 y4 y5 y6 y7
      unfold quoinlaw08_WordBack.j2
      repeat' first
      | (with_reducible exact ih0 _ _ _ _)
      | (with_reducible exact ih1 _ _ _ _ _ _ _)
      | (with_reducible exact ih2 _ _ _ _ _ _ _ _)
      | (with_reducible exact ih3 _ _ _ _ _)
      | (with_reducible exact ih4 _ _ _ _ _ _ _)
      | (with_reducible exact ih5 _ _ _ _ _ _ _ _ _ _)
      | (with_reducible exact quoinlaw08_ends.mono _ _ _ _)
      | (with_reducible exact quoinlaw08_starts.mono _ _ _ _)
      | (with_reducible exact LeO.refl _)
      | (with_reducible exact LeO.none _)
      | (with_reducible refine LeO.ite ?_ ?_)
      | (with_reducible refine LeO.bind ?_ (fun _ => ?_))
      | exact ih0 _ _ _ _
      | exact ih1 _ _ _ _ _ _ _
      | exact ih2 _ _ _ _ _ _ _ _
      | exact ih3 _ _ _ _ _
      | exact ih4 _ _ _ _ _ _ _
      | exact ih5 _ _ _ _ _ _ _ _ _ _
      | exact quoinlaw08_ends.mono _ _ _ _
      | exact quoinlaw08_starts.mono _ _ _ _
      | exact LeO.none _
      | refine LeO.ite ?_ ?_
      | refine LeO.bind ?_ (fun _ => ?_)
    · intro y0 y1 y2 y3 y4
      unfold quoinlaw08_WordBack.j4
      repeat' first
      | (with_reducible exact ih0 _ _ _ _)
      | (with_reducible exact ih1 _ _ _ _ _ _ _)
      | (with_reducible exact ih2 _ _ _ _ _ _ _ _)
      | (with_reducible exact ih3 _ _ _ _ _)
      | (with_reducible exact ih4 _ _ _ _ _ _ _)
      | (with_reducible exact ih5 _ _ _ _ _ _ _ _ _ _)
      | (with_reducible exact quoinlaw08_ends.mono _ _ _ _)
      | (with_reducible exact quoinlaw08_starts.mono _ _ _ _)
      | (with_reducible exact LeO.refl _)
      | (with_reducible exact LeO.none _)
      | (with_reducible refine LeO.ite ?_ ?_)
      | (with_reducible refine LeO.bind ?_ (fun _ => ?_))
      | exact ih0 _ _ _ _
      | exact ih1 _ _ _ _ _ _ _
      | exact ih2 _ _ _ _ _ _ _ _
      | exact ih3 _ _ _ _ _
      | exact ih4 _ _ _ _ _ _ _
      | exact ih5 _ _ _ _ _ _ _ _ _ _
      | exact quoinlaw08_ends.mono _ _ _ _
      | exact quoinlaw08_starts.mono _ _ _ _
      | exact LeO.none _
      | refine LeO.ite ?_ ?_
      | refine LeO.bind ?_ (fun _ => ?_)
    · intro y0 y1 y2 y3 y4 y5 y6
      unfold quoinlaw08_WordBack.l0
      repeat' first
      | (with_reducible exact ih0 _ _ _ _)
      | (with_reducible exact ih1 _ _ _ _ _ _ _)
      | (with_reducible exact ih2 _ _ _ _ _ _ _ _)
      | (with_reducible exact ih3 _ _ _ _ _)
      | (with_reducible exact ih4 _ _ _ _ _ _ _)
      | (with_reducible exact ih5 _ _ _ _ _ _ _ _ _ _)
      | (with_reducible exact quoinlaw08_ends.mono _ _ _ _)
      | (with_reducible exact quoinlaw08_starts.mono _ _ _ _)
      | (with_reducible exact LeO.refl _)
      | (with_reducible exact LeO.none _)
      | (with_reducible refine LeO.ite ?_ ?_)
      | (with_reducible refine LeO.bind ?_ (fun _ => ?_))
      | exact ih0 _ _ _ _
      | exact ih1 _ _ _ _ _ _ _
      | exact ih2 _ _ _ _ _ _ _ _
      | exact ih3 _ _ _ _ _
      | exact ih4 _ _ _ _ _ _ _
      | exact ih5 _ _ _ _ _ _ _ _ _ _
      | exact quoinlaw08_ends.mono _ _ _ _
      | exact quoinlaw08_starts.mono _ _ _ _
      | exact LeO.none _
      | refine LeO.ite ?_ ?_
      | refine LeO.bind ?_ (fun _ => ?_)
    · intro y0 y1 y2 y3 y4 y5 y6 y7 y8 y9
      unfold quoinlaw08_WordBack.j3
      repeat' first
      | (with_reducible exact ih0 _ _ _ _)
      | (with_reducible exact ih1 _ _ _ _ _ _ _)
      | (with_reducible exact ih2 _ _ _ _ _ _ _ _)
      | (with_reducible exact ih3 _ _ _ _ _)
      | (with_reducible exact ih4 _ _ _ _ _ _ _)
      | (with_reducible exact ih5 _ _ _ _ _ _ _ _ _ _)
      | (with_reducible exact quoinlaw08_ends.mono _ _ _ _)
      | (with_reducible exact quoinlaw08_starts.mono _ _ _ _)
      | (with_reducible exact LeO.refl _)
      | (with_reducible exact LeO.none _)
      | (with_reducible refine LeO.ite ?_ ?_)
      | (with_reducible refine LeO.bind ?_ (fun _ => ?_))
      | exact ih0 _ _ _ _
      | exact ih1 _ _ _ _ _ _ _
      | exact ih2 _ _ _ _ _ _ _ _
      | exact ih3 _ _ _ _ _
      | exact ih4 _ _ _ _ _ _ _
      | exact ih5 _ _ _ _ _ _ _ _ _ _
      | exact quoinlaw08_ends.mono _ _ _ _
      | exact quoinlaw08_starts.mono _ _ _ _
      | exact LeO.none _
      | refine LeO.ite ?_ ?_
      | refine LeO.bind ?_ (fun _ => ?_)
theorem quoinlaw08_WordBack.mono : ∀ a0 a1 a2 k, LeO (quoinlaw08_WordBack.f k a0 a1 a2) (quoinlaw08_WordBack.f (k + 1) a0 a1 a2) := by
  intro a0 a1 a2 k
  obtain ⟨ih0, ih1, ih2, ih3, ih4, ih5⟩ := quoinlaw08_WordBack.mono_l k
  unfold quoinlaw08_WordBack.f
  repeat' first
      | (with_reducible exact ih0 _ _ _ _)
      | (with_reducible exact ih1 _ _ _ _ _ _ _)
      | (with_reducible exact ih2 _ _ _ _ _ _ _ _)
      | (with_reducible exact ih3 _ _ _ _ _)
      | (with_reducible exact ih4 _ _ _ _ _ _ _)
      | (with_reducible exact ih5 _ _ _ _ _ _ _ _ _ _)
      | (with_reducible exact quoinlaw08_ends.mono _ _ _ _)
      | (with_reducible exact quoinlaw08_starts.mono _ _ _ _)
      | (with_reducible exact LeO.refl _)
      | (with_reducible exact LeO.none _)
      | (with_reducible refine LeO.ite ?_ ?_)
      | (with_reducible refine LeO.bind ?_ (fun _ => ?_))
      | exact ih0 _ _ _ _
      | exact ih1 _ _ _ _ _ _ _
      | exact ih2 _ _ _ _ _ _ _ _
      | exact ih3 _ _ _ _ _
      | exact ih4 _ _ _ _ _ _ _
      | exact ih5 _ _ _ _ _ _ _ _ _ _
      | exact quoinlaw08_ends.mono _ _ _ _
      | exact quoinlaw08_starts.mono _ _ _ _
      | exact LeO.none _
      | refine LeO.ite ?_ ?_
      | refine LeO.bind ?_ (fun _ => ?_)
set_option maxHeartbeats 8000000 in
set_option maxRecDepth 100000 in
theorem quoinlaw08_WordBack.calls (k : Nat) (A0 : Option Addr) (c0 : Nat) (l0 : List Int) (a1 : Int) (a2 : Bool) (r : Bool) (w : World) (hr0 : Kd.C (Kd.int .u8) w A0 l0.length l0) (hc0 : l0.length ≤ c0) (h : quoinlaw08_WordBack.f k l0 a1 a2 = some r) :
    Calls Try.prog 6 #[.slice A0 l0.length c0, .int .i64 a1, .bool a2] w fun e w' => e = .returned (.bool r) ∧ Below w.heap.size w w' := by
  have hu27 := Try.underlying27
  have HR0 := Aside0.mk hr0
  have HC0 := Aside0.mk hc0
  clear hr0 hc0
  have HB := Aside0.mk (Below.refl w.heap.size w)
  have H : ((quoinlaw08_alive.f).bind fun t151 => (if t151 = true then (if a1 < 0 then (quoinlaw08_WordBack.j0 k l0 a1 a2 true) else (quoinlaw08_WordBack.j0 k l0 a1 a2 (decide (a1 > (l0.length : Int))))) else (some false))) = some r := h
  clear h
  replace H := Option.bind_eq_some_iff.mp H
  obtain ⟨t151, A40, H⟩ := H
  replace H : (if t151 = true then (if a1 < 0 then (quoinlaw08_WordBack.j0 k l0 a1 a2 true) else (quoinlaw08_WordBack.j0 k l0 a1 a2 (decide (a1 > (l0.length : Int))))) else (some false)) = some r := H
  have A4 := Aside0.mk A40
  clear A40
  by_cases c5 : t151 = true
  · subst c5
    have H1 : (if a1 < 0 then (quoinlaw08_WordBack.j0 k l0 a1 a2 true) else (quoinlaw08_WordBack.j0 k l0 a1 a2 (decide (a1 > (l0.length : Int))))) = some r := by rw [if_pos rfl] at H; exact H
    clear H
    have H := H1
    clear H1
    have HC6 := Aside0.mk H
    clear H
    go_enter Try.func6, Try.ntmps6
    go_upto_region 3 with (first | ((with_reducible refine gate_callee (f := 8) rfl ?_); refine goesL_ (some 20) rfl rfl Try.func8 (by kernel_rfl) rfl #[] rfl (by (try simp only [List.map_toArray, List.map_cons, List.map_nil]); first | done | rfl | (simp only [List.length_drop, List.length_take]; rfl)) ?_; (with_reducible refine (quoinlaw08_alive.calls  true _ A4.out).mono ?_); rintro e w7 ⟨rfl, hb⟩; refine ⟨_, rfl, ?_⟩; have n0_ := Aside0.mk (below_step (by repeat (first | (with_reducible first | exact HB.out | apply below_alloc | apply pw_below_drewN | apply below_drew1) | exact HB.out)) hb); clear HB; have HB := n0_; clear n0_; (try clear hb); (try clear hb2); (try clear hk); (try clear hi)))
    (try simp only [Act.put, List.setIfInBounds_toArray, List.set_cons_zero, List.set_cons_succ])
    go_cut [29] (fun v29 wc => ∃ (kq : Nat) (x29_5 : Bool), v29 = .bool x29_5 ∧ Aside0 (quoinlaw08_WordBack.j0 kq l0 a1 a2 x29_5 = some r) ∧ Aside0 (kq ≤ k) ∧ Aside0 (Below w.heap.size w wc))
    case first =>
      have H := HC6.out
      clear HC6
      by_cases c8 : a1 < 0
      · rw [if_pos c8] at H
        have c8b0 : decide (a1 < 0) = true := decide_eq_true c8
        clear c8
        (first | rw [c8b0] | (simp only [i64_w, i32_w]; rw [c8b0]) | skip)
        have H' := Aside0.mk H
        clear H
        go_wp2
        go_meet
        case rel => exact ⟨_, (true), (by first | rfl | (simp; done) | (simp [*]; done)), H', ⟨by first | omega | exact Nat.le_refl _⟩, ⟨by repeat (first | (with_reducible first | exact HB.out | apply below_alloc | apply pw_below_drewN | apply below_drew1) | exact HB.out)⟩⟩
      · rw [if_neg c8] at H
        have c8b0 : decide (a1 < 0) = false := decide_eq_false c8
        clear c8
        (first | rw [c8b0] | (simp only [i64_w, i32_w]; rw [c8b0]) | skip)
        have H' := Aside0.mk H
        clear H
        go_wp2
        go_meet
        case rel => exact ⟨_, (decide (a1 > (l0.length : Int))), (by first | rfl | (simp; done) | (simp [*]; done)), H', ⟨by first | omega | exact Nat.le_refl _⟩, ⟨by repeat (first | (with_reducible first | exact HB.out | apply below_alloc | apply pw_below_drewN | apply below_drew1) | exact HB.out)⟩⟩
    case rest =>
      clear HC6
      try clear p2
      try clear c5
      try clear c6
      try clear c8
      try clear c8b0
      obtain ⟨kq, x29_5, rfl, HA, HJ5, HB⟩ := hcut
      cases kq with
      | zero => exact absurd HA.out (by simp [quoinlaw08_WordBack.j0])
      | succ kj5 =>
        have H := HA.out
        clear HA
        simp only [quoinlaw08_WordBack.j0] at H
        by_cases c9 : x29_5 = true
        · subst c9
          have H1 : (some true) = some r := by rw [if_pos rfl] at H; exact H
          clear H
          have H := H1
          clear H1
          obtain rfl := Option.some.inj H
          go_wp2
          go_ret
          exact ⟨by first | rfl | (simp [errW_none, errW_some] <;> rfl) | (simp [*, errW_none, errW_some] <;> rfl), by repeat (first | (with_reducible first | exact HB.out | apply below_alloc | apply pw_below_drewN | apply below_drew1) | exact HB.out)⟩
        · replace c9 := Bool.eq_false_iff.mpr c9
          subst c9
          have H1 : (if a2 = true then (quoinlaw08_WordBack.j1 kj5 l0 a1 a2 (⟨#[87]⟩ : ByteArray) (⟨#[66]⟩ : ByteArray) (⟨#[69]⟩ : ByteArray) (⟨#[103, 69]⟩ : ByteArray)) else (quoinlaw08_WordBack.j1 kj5 l0 a1 a2 (⟨#[119]⟩ : ByteArray) (⟨#[98]⟩ : ByteArray) (⟨#[101]⟩ : ByteArray) (⟨#[103, 101]⟩ : ByteArray))) = some r := by rw [if_neg (show ¬ (false = true) by decide)] at H; exact H
          clear H
          have H := H1
          clear H1
          have HC10 := Aside0.mk H
          clear H
          go_upto_if 30 with (fail)
          go_cut [7, 8, 9, 10] (fun v7 v8 v9 v10 wc => ∃ (kq : Nat) (x7_9 : ByteArray) (x8_9 : ByteArray) (x9_9 : ByteArray) (x10_9 : ByteArray), v7 = .string x7_9 ∧ v8 = .string x8_9 ∧ v9 = .string x9_9 ∧ v10 = .string x10_9 ∧ Aside0 (quoinlaw08_WordBack.j1 kq l0 a1 a2 x7_9 x8_9 x9_9 x10_9 = some r) ∧ Aside0 (kq ≤ kj5) ∧ Aside0 (Below w.heap.size w wc))
          case first =>
            have H := HC10.out
            clear HC10
            by_cases c11 : a2 = true
            · subst c11
              have H1 : (quoinlaw08_WordBack.j1 kj5 l0 a1 true (⟨#[87]⟩ : ByteArray) (⟨#[66]⟩ : ByteArray) (⟨#[69]⟩ : ByteArray) (⟨#[103, 69]⟩ : ByteArray)) = some r := by rw [if_pos rfl] at H; exact H
              clear H
              have H := H1
              clear H1
              have H' := Aside0.mk H
              clear H
              go_wp2
              go_meet
              case rel => exact ⟨_, ((⟨#[87]⟩ : ByteArray)), ((⟨#[66]⟩ : ByteArray)), ((⟨#[69]⟩ : ByteArray)), ((⟨#[103, 69]⟩ : ByteArray)), (by first | rfl | (simp; done) | (simp [*]; done)), (by first | rfl | (simp; done) | (simp [*]; done)), (by first | rfl | (simp; done) | (simp [*]; done)), (by first | rfl | (simp; done) | (simp [*]; done)), H', ⟨by have := HJ5.out; first | omega | exact Nat.le_refl _⟩, ⟨by repeat (first | (with_reducible first | exact HB.out | apply below_alloc | apply pw_below_drewN | apply below_drew1) | exact HB.out)⟩⟩
            · replace c11 := Bool.eq_false_iff.mpr c11
              subst c11
              have H1 : (quoinlaw08_WordBack.j1 kj5 l0 a1 false (⟨#[119]⟩ : ByteArray) (⟨#[98]⟩ : ByteArray) (⟨#[101]⟩ : ByteArray) (⟨#[103, 101]⟩ : ByteArray)) = some r := by rw [if_neg (show ¬ (false = true) by decide)] at H; exact H
              clear H
              have H := H1
              clear H1
              have H' := Aside0.mk H
              clear H
              go_wp2
              go_meet
              case rel => exact ⟨_, ((⟨#[119]⟩ : ByteArray)), ((⟨#[98]⟩ : ByteArray)), ((⟨#[101]⟩ : ByteArray)), ((⟨#[103, 101]⟩ : ByteArray)), (by first | rfl | (simp; done) | (simp [*]; done)), (by first | rfl | (simp; done) | (simp [*]; done)), (by first | rfl | (simp; done) | (simp [*]; done)), (by first | rfl | (simp; done) | (simp [*]; done)), H', ⟨by have := HJ5.out; first | omega | exact Nat.le_refl _⟩, ⟨by repeat (first | (with_reducible first | exact HB.out | apply below_alloc | apply pw_below_drewN | apply below_drew1) | exact HB.out)⟩⟩
          case rest =>
            clear HC10
            try clear c1
            try clear p2
            try clear c5
            try clear c6
            try clear c8
            try clear c8b0
            try clear c9
            try clear c11
            try clear p2
            obtain ⟨kq, x7_9, x8_9, x9_9, x10_9, rfl, rfl, rfl, rfl, HA, HJ9, HB⟩ := hcut
            cases kq with
            | zero => exact absurd HA.out (by simp [quoinlaw08_WordBack.j1])
            | succ kj9 =>
              have H := HA.out
              clear HA
              simp only [quoinlaw08_WordBack.j1] at H
              have HC12 := Aside0.mk H
              clear H
              go_upto_region 8 with (fail)
              go_cut [39] (fun v39 wc => ∃ (kq : Nat) (x39_11 : Bool), v39 = .bool x39_11 ∧ Aside0 (quoinlaw08_WordBack.j2 kq l0 a1 a2 x7_9 x8_9 x9_9 x10_9 x39_11 = some r) ∧ Aside0 (kq ≤ kj9) ∧ Aside0 (Below w.heap.size w wc))
              case first =>
                have H := HC12.out
                clear HC12
                replace H := Option.bind_eq_some_iff.mp H
                obtain ⟨t152, A130, H⟩ := H
                replace H : (if t152 = true then (quoinlaw08_WordBack.j2 kj9 l0 a1 a2 x7_9 x8_9 x9_9 x10_9 true) else ((quoinlaw08_bare.f l0 a1).bind fun t153 => (quoinlaw08_WordBack.j2 kj9 l0 a1 a2 x7_9 x8_9 x9_9 x10_9 t153))) = some r := H
                have A13 := Aside0.mk A130
                clear A130
                by_cases c14 : t152 = true
                · subst c14
                  have H1 : (quoinlaw08_WordBack.j2 kj9 l0 a1 a2 x7_9 x8_9 x9_9 x10_9 true) = some r := by rw [if_pos rfl] at H; exact H
                  clear H
                  have H := H1
                  clear H1
                  have H' := Aside0.mk H
                  clear H
                  go_wp2_with (first | ((with_reducible refine gate_callee (f := 12) rfl ?_); refine goesL_ (some 34) rfl rfl Try.func12 (by kernel_rfl) rfl #[.slice A0 l0.length c0, .int .i64 a1, .bool a2] rfl (by (try simp only [List.map_toArray, List.map_cons, List.map_nil]); first | done | rfl | (simp only [List.length_drop, List.length_take]; rfl)) ?_; (with_reducible refine (quoinlaw08_starts.calls kj9 _ _ l0 a1 a2 true _ ?side1 ?side2 A13.out).mono ?_); (case side1 => repeat (first | exact (Kd.C_below HR0.out HB.out) | (with_reducible refine Kd.C_alloc ?_ _) | (with_reducible refine Kd.C_drewN ?_ _) | (with_reducible refine Kd.C_drew ?_))); (case side2 => exact HC0.out); rintro e w' ⟨rfl, ⟨nd, rfl⟩⟩; refine ⟨_, rfl, ?_⟩))
                  go_meet
                  case rel => exact ⟨_, (true), (by first | rfl | (simp; done) | (simp [*]; done)), H', ⟨by have := HJ5.out; have := HJ9.out; first | omega | exact Nat.le_refl _⟩, ⟨by repeat (first | (with_reducible first | exact HB.out | apply below_alloc | apply pw_below_drewN | apply below_drew1) | exact HB.out)⟩⟩
                · replace c14 := Bool.eq_false_iff.mpr c14
                  subst c14
                  have H1 : ((quoinlaw08_bare.f l0 a1).bind fun t153 => (quoinlaw08_WordBack.j2 kj9 l0 a1 a2 x7_9 x8_9 x9_9 x10_9 t153)) = some r := by rw [if_neg (show ¬ (false = true) by decide)] at H; exact H
                  clear H
                  have H := H1
                  clear H1
                  replace H := Option.bind_eq_some_iff.mp H
                  obtain ⟨t153, A150, H⟩ := H
                  replace H : (quoinlaw08_WordBack.j2 kj9 l0 a1 a2 x7_9 x8_9 x9_9 x10_9 t153) = some r := H
                  have A15 := Aside0.mk A150
                  clear A150
                  have H' := Aside0.mk H
                  clear H
                  go_wp2_with (first | ((with_reducible refine gate_callee (f := 12) rfl ?_); refine goesL_ (some 34) rfl rfl Try.func12 (by kernel_rfl) rfl #[.slice A0 l0.length c0, .int .i64 a1, .bool a2] rfl (by (try simp only [List.map_toArray, List.map_cons, List.map_nil]); first | done | rfl | (simp only [List.length_drop, List.length_take]; rfl)) ?_; (with_reducible refine (quoinlaw08_starts.calls kj9 _ _ l0 a1 a2 false _ ?side1 ?side2 A13.out).mono ?_); (case side1 => repeat (first | exact (Kd.C_below HR0.out HB.out) | (with_reducible refine Kd.C_alloc ?_ _) | (with_reducible refine Kd.C_drewN ?_ _) | (with_reducible refine Kd.C_drew ?_))); (case side2 => exact HC0.out); rintro e w' ⟨rfl, ⟨nd, rfl⟩⟩; refine ⟨_, rfl, ?_⟩) | (go_at_call 13; (with_reducible refine (quoinlaw08_bare.calls _ _ l0 a1 t153 _ ?side1 ?side2 A15.out).mono ?_); (case side1 => repeat (first | exact (Kd.C_below HR0.out (by repeat (first | (with_reducible first | exact HB.out | apply below_alloc | apply pw_below_drewN | apply below_drew1) | exact HB.out))) | (with_reducible refine Kd.C_alloc ?_ _) | (with_reducible refine Kd.C_drewN ?_ _) | (with_reducible refine Kd.C_drew ?_))); (case side2 => exact HC0.out); rintro e w' ⟨rfl, ⟨nd, rfl⟩⟩))
                  go_meet
                  case rel => exact ⟨_, (t153), (by first | rfl | (simp; done) | (simp [*]; done)), H', ⟨by have := HJ5.out; have := HJ9.out; first | omega | exact Nat.le_refl _⟩, ⟨by repeat (first | (with_reducible first | exact HB.out | apply below_alloc | apply pw_below_drewN | apply below_drew1) | exact HB.out)⟩⟩
              case rest =>
                clear HC12
                try clear c1
                try clear p2
                try clear c5
                try clear c6
                try clear c8
                try clear c8b0
                try clear c9
                try clear c11
                try clear c12
                try clear c14
                try clear p2
                obtain ⟨kq, x39_11, rfl, HA, HJ11, HB⟩ := hcut
                cases kq with
                | zero => exact absurd HA.out (by simp [quoinlaw08_WordBack.j2])
                | succ kj11 =>
                  have H := HA.out
                  clear HA
                  simp only [quoinlaw08_WordBack.j2] at H
                  have HC16 := Aside0.mk H
                  clear H
                  go_upto_if 39 with (fail)
                  go_cut [] (fun wc => ∃ (kq : Nat), Aside0 (quoinlaw08_WordBack.j4 kq l0 a1 a2 x9_9 x10_9 = some r) ∧ Aside0 (kq ≤ kj11) ∧ Aside0 (Below w.heap.size w wc))
                  case first =>
                    have H := HC16.out
                    clear HC16
                    by_cases c17 : x39_11 = true
                    · subst c17
                      have H1 : ((word_Move.f l0 a1 1 x7_9).bind fun bt154 => (if bt154.2.2.2 = 0 then ((quoinlaw08_starts.f kj11 l0 bt154.2.1 a2).bind fun t159 => (if t159 = true then (quoinlaw08_WordBack.j3 kj11 l0 a1 a2 x8_9 x9_9 x10_9 true bt154.1 bt154.2.1 bt154.2.2.1) else ((quoinlaw08_bare.f l0 bt154.2.1).bind fun t160 => (quoinlaw08_WordBack.j3 kj11 l0 a1 a2 x8_9 x9_9 x10_9 t160 bt154.1 bt154.2.1 bt154.2.2.1)))) else (quoinlaw08_WordBack.j3 kj11 l0 a1 a2 x8_9 x9_9 x10_9 false bt154.1 bt154.2.1 bt154.2.2.1))) = some r := by rw [if_pos rfl] at H; exact H
                      clear H
                      have H := H1
                      clear H1
                      replace H := Option.bind_eq_some_iff.mp H
                      obtain ⟨⟨t154, t155, t156, t157⟩, A180, H⟩ := H
                      replace H : (if t157 = 0 then ((quoinlaw08_starts.f kj11 l0 t155 a2).bind fun t159 => (if t159 = true then (quoinlaw08_WordBack.j3 kj11 l0 a1 a2 x8_9 x9_9 x10_9 true t154 t155 t156) else ((quoinlaw08_bare.f l0 t155).bind fun t160 => (quoinlaw08_WordBack.j3 kj11 l0 a1 a2 x8_9 x9_9 x10_9 t160 t154 t155 t156)))) else (quoinlaw08_WordBack.j3 kj11 l0 a1 a2 x8_9 x9_9 x10_9 false t154 t155 t156)) = some r := H
                      have A18 := Aside0.mk A180
                      clear A180
                      have HC19 := Aside0.mk H
                      clear H
                      go_upto_region 10 with (first | ((with_reducible refine gate_callee (f := 10) rfl ?_); refine goesL_ (some 44) rfl rfl Try.func10 (by kernel_rfl) rfl #[.slice A0 l0.length c0, .int .i64 a1, .int .i64 1, .string x7_9] rfl (by (try simp only [List.map_toArray, List.map_cons, List.map_nil]); first | done | rfl | (simp only [List.length_drop, List.length_take]; rfl)) ?_; (with_reducible refine (word_Move.calls _ _ l0 a1 1 x7_9 t154 t155 t156 t157 _ ?side1 ?side2 A18.out).mono ?_); (case side1 => repeat (first | exact (Kd.C_below HR0.out HB.out) | (with_reducible refine Kd.C_alloc ?_ _) | (with_reducible refine Kd.C_drewN ?_ _) | (with_reducible refine Kd.C_drew ?_))); (case side2 => exact HC0.out); rintro e w20 ⟨rfl, hb⟩; refine ⟨_, rfl, ?_⟩; have n0_ := Aside0.mk (below_step (by repeat (first | (with_reducible first | exact HB.out | apply below_alloc | apply pw_below_drewN | apply below_drew1) | exact HB.out)) hb); clear HB; have HB := n0_; clear n0_; (try clear hb); (try clear hb2); (try clear hk); (try clear hi)) | ((with_reducible refine gate_dst (N := 11) rfl ?_); (try (refine gate_guard (by rfl) ?_; dsimp only)); refine box_event ?hg (N := 11) ?hd (cs := #[.int .i64 0, .int .i64 0, .int .i64 0]) (t := 27) ?hr ?_; (case hd => rfl); (case hg => rfl); (case hr => first | (go_simp; done) | (go_simp; rfl)); intro gb158 hg w21 hbox hb; have n0_ := Aside0.mk (below_step (by repeat (first | (with_reducible first | exact HB.out | apply below_alloc | apply pw_below_drewN | apply below_drew1) | exact HB.out)) hb); have n1_ := Aside0.mk (hbox); have n2_ := Aside0.mk ((by rw [hg]; exact (below_size (by repeat (first | (with_reducible first | exact HB.out | apply below_alloc | apply pw_below_drewN | apply below_drew1) | exact HB.out))) : w.heap.size ≤ gb158)); have n3_ := Aside0.mk ((by rw [hg]; exact (below_size (by repeat (first | (with_reducible first | exact HB.out | apply below_alloc | apply pw_below_drewN | apply below_drew1) | exact HB.out))) : w.heap.size ≤ gb158)); clear HB; have HB := n0_; have BK158 := n1_; have GW158 := n2_; have GE158 := n3_; clear n0_ n1_ n2_ n3_; clear hb hbox hg; have hcz22_0 : w21.cell? ⟨gb158, 0, none⟩ = some (.int .i64 0) := (blk_cell BK158.out 0).trans rfl; have hcz22_1 : w21.cell? ⟨gb158, 1, none⟩ = some (.int .i64 0) := (blk_cell BK158.out 1).trans rfl; have hcz22_2 : w21.cell? ⟨gb158, 2, none⟩ = some (.int .i64 0) := (blk_cell BK158.out 2).trans rfl; have hfz22_0 := blk_frozen BK158.out 0; have hfz22_1 := blk_frozen BK158.out 1; have hfz22_2 := blk_frozen BK158.out 2))
                      (try simp only [Act.put, List.setIfInBounds_toArray, List.set_cons_zero, List.set_cons_succ])
                      go_cut [61] (fun v61 wc => ∃ (kq : Nat) (x61_18 : Bool), v61 = .bool x61_18 ∧ Aside0 (quoinlaw08_WordBack.j3 kq l0 a1 a2 x8_9 x9_9 x10_9 x61_18 t154 t155 t156 = some r) ∧ Aside0 (kq ≤ kj11) ∧ Aside0 (wc.heap[gb158]? = some (.cells #[.int .i64 t154, .int .i64 t155, .int .i64 t156] 27 (0, 0))) ∧ Aside0 (Below w.heap.size w wc))
                      case first =>
                        have H := HC19.out
                        clear HC19
                        by_cases c23 : t157 = 0
                        · rw [if_pos c23] at H
                          have c23b0 : (t157 == 0) = true := beq_iff_eq.mpr c23
                          have c23b1 : (t157 != 0) = false := bne_eq_false_iff_eq.mpr c23
                          clear c23
                          (first | rw [c23b0] | (simp only [i64_w, i32_w]; rw [c23b0]) | skip)
                          replace H := Option.bind_eq_some_iff.mp H
                          obtain ⟨t159, A240, H⟩ := H
                          replace H : (if t159 = true then (quoinlaw08_WordBack.j3 kj11 l0 a1 a2 x8_9 x9_9 x10_9 true t154 t155 t156) else ((quoinlaw08_bare.f l0 t155).bind fun t160 => (quoinlaw08_WordBack.j3 kj11 l0 a1 a2 x8_9 x9_9 x10_9 t160 t154 t155 t156))) = some r := H
                          have A24 := Aside0.mk A240
                          clear A240
                          by_cases c25 : t159 = true
                          · subst c25
                            have H1 : (quoinlaw08_WordBack.j3 kj11 l0 a1 a2 x8_9 x9_9 x10_9 true t154 t155 t156) = some r := by rw [if_pos rfl] at H; exact H
                            clear H
                            have H := H1
                            clear H1
                            have H' := Aside0.mk H
                            clear H
                            have hcz26_0 : w21.cell? ⟨gb158, 0, none⟩ = some (.int .i64 0) := (blk_cell BK158.out 0).trans rfl
                            have hcz26_1 : w21.cell? ⟨gb158, 1, none⟩ = some (.int .i64 0) := (blk_cell BK158.out 1).trans rfl
                            have hcz26_2 : w21.cell? ⟨gb158, 2, none⟩ = some (.int .i64 0) := (blk_cell BK158.out 2).trans rfl
                            have hfz26_0 := blk_frozen BK158.out 0
                            have hfz26_1 := blk_frozen BK158.out 1
                            have hfz26_2 := blk_frozen BK158.out 2
                            go_wp2_with (first | (go_at_call 12; (with_reducible refine (quoinlaw08_starts.calls kj11 _ _ l0 t155 a2 true _ ?side1 ?side2 A24.out).mono ?_); (case side1 => exact Kd.C_below HR0.out (by repeat (first | (with_reducible first | exact HB.out | apply below_alloc | apply pw_below_drewN | apply below_drew1 | refine below_set ?_ GE158.out) | exact HB.out))); (case side2 => exact HC0.out); rintro e w' ⟨rfl, ⟨nd, rfl⟩⟩))
                            go_meet
                            case rel => exact ⟨_, (true), (by first | rfl | (simp; done) | (simp [*]; done)), H', ⟨by have := HJ5.out; have := HJ9.out; have := HJ11.out; first | omega | exact Nat.le_refl _⟩, ⟨by (with_reducible repeat (first | refine blk_drewN ?_ _ | refine blk_drew ?_ | refine blk_alloc ?_ _)); refine blk_put (cs := #[.int .i64 t154, .int .i64 t155, .int .i64 0]) ?_ 2 _ rfl; (with_reducible repeat (first | refine blk_drewN ?_ _ | refine blk_drew ?_ | refine blk_alloc ?_ _)); refine blk_put (cs := #[.int .i64 t154, .int .i64 0, .int .i64 0]) ?_ 1 _ rfl; (with_reducible repeat (first | refine blk_drewN ?_ _ | refine blk_drew ?_ | refine blk_alloc ?_ _)); refine blk_put (cs := #[.int .i64 0, .int .i64 0, .int .i64 0]) ?_ 0 _ rfl; (with_reducible repeat (first | refine blk_drewN ?_ _ | refine blk_drew ?_ | refine blk_alloc ?_ _)); exact BK158.out⟩, ⟨by repeat (first | (with_reducible first | exact HB.out | apply below_alloc | apply pw_below_drewN | apply below_drew1 | refine below_set ?_ GE158.out) | exact HB.out)⟩⟩
                          · replace c25 := Bool.eq_false_iff.mpr c25
                            subst c25
                            have H1 : ((quoinlaw08_bare.f l0 t155).bind fun t160 => (quoinlaw08_WordBack.j3 kj11 l0 a1 a2 x8_9 x9_9 x10_9 t160 t154 t155 t156)) = some r := by rw [if_neg (show ¬ (false = true) by decide)] at H; exact H
                            clear H
                            have H := H1
                            clear H1
                            replace H := Option.bind_eq_some_iff.mp H
                            obtain ⟨t160, A270, H⟩ := H
                            replace H : (quoinlaw08_WordBack.j3 kj11 l0 a1 a2 x8_9 x9_9 x10_9 t160 t154 t155 t156) = some r := H
                            have A27 := Aside0.mk A270
                            clear A270
                            have H' := Aside0.mk H
                            clear H
                            have hcz28_0 : w21.cell? ⟨gb158, 0, none⟩ = some (.int .i64 0) := (blk_cell BK158.out 0).trans rfl
                            have hcz28_1 : w21.cell? ⟨gb158, 1, none⟩ = some (.int .i64 0) := (blk_cell BK158.out 1).trans rfl
                            have hcz28_2 : w21.cell? ⟨gb158, 2, none⟩ = some (.int .i64 0) := (blk_cell BK158.out 2).trans rfl
                            have hfz28_0 := blk_frozen BK158.out 0
                            have hfz28_1 := blk_frozen BK158.out 1
                            have hfz28_2 := blk_frozen BK158.out 2
                            go_wp2_with (first | (go_at_call 12; (with_reducible refine (quoinlaw08_starts.calls kj11 _ _ l0 t155 a2 false _ ?side1 ?side2 A24.out).mono ?_); (case side1 => exact Kd.C_below HR0.out (by repeat (first | (with_reducible first | exact HB.out | apply below_alloc | apply pw_below_drewN | apply below_drew1 | refine below_set ?_ GE158.out) | exact HB.out))); (case side2 => exact HC0.out); rintro e w' ⟨rfl, ⟨nd, rfl⟩⟩) | (go_at_call 13; (with_reducible refine (quoinlaw08_bare.calls _ _ l0 t155 t160 _ ?side1 ?side2 A27.out).mono ?_); (case side1 => exact Kd.C_below HR0.out (by repeat (first | (with_reducible first | exact HB.out | apply below_alloc | apply pw_below_drewN | apply below_drew1 | refine below_set ?_ GE158.out) | exact HB.out))); (case side2 => exact HC0.out); rintro e w' ⟨rfl, ⟨nd, rfl⟩⟩))
                            go_meet
                            case rel => exact ⟨_, (t160), (by first | rfl | (simp; done) | (simp [*]; done)), H', ⟨by have := HJ5.out; have := HJ9.out; have := HJ11.out; first | omega | exact Nat.le_refl _⟩, ⟨by (with_reducible repeat (first | refine blk_drewN ?_ _ | refine blk_drew ?_ | refine blk_alloc ?_ _)); refine blk_put (cs := #[.int .i64 t154, .int .i64 t155, .int .i64 0]) ?_ 2 _ rfl; (with_reducible repeat (first | refine blk_drewN ?_ _ | refine blk_drew ?_ | refine blk_alloc ?_ _)); refine blk_put (cs := #[.int .i64 t154, .int .i64 0, .int .i64 0]) ?_ 1 _ rfl; (with_reducible repeat (first | refine blk_drewN ?_ _ | refine blk_drew ?_ | refine blk_alloc ?_ _)); refine blk_put (cs := #[.int .i64 0, .int .i64 0, .int .i64 0]) ?_ 0 _ rfl; (with_reducible repeat (first | refine blk_drewN ?_ _ | refine blk_drew ?_ | refine blk_alloc ?_ _)); exact BK158.out⟩, ⟨by repeat (first | (with_reducible first | exact HB.out | apply below_alloc | apply pw_below_drewN | apply below_drew1 | refine below_set ?_ GE158.out) | exact HB.out)⟩⟩
                        · rw [if_neg c23] at H
                          have c23b0 : (t157 == 0) = false := beq_eq_false_iff_ne.mpr c23
                          have c23b1 : (t157 != 0) = true := bne_iff_ne.mpr c23
                          (first | rw [c23b0] | (simp only [i64_w, i32_w]; rw [c23b0]) | skip)
                          have H' := Aside0.mk H
                          clear H
                          go_wp2
                          go_meet
                          case rel => exact ⟨_, (false), (by first | rfl | (simp; done) | (simp [*]; done)), H', ⟨by have := HJ5.out; have := HJ9.out; have := HJ11.out; first | omega | exact Nat.le_refl _⟩, ⟨by (with_reducible repeat (first | refine blk_drewN ?_ _ | refine blk_drew ?_ | refine blk_alloc ?_ _)); refine blk_put (cs := #[.int .i64 t154, .int .i64 t155, .int .i64 0]) ?_ 2 _ rfl; (with_reducible repeat (first | refine blk_drewN ?_ _ | refine blk_drew ?_ | refine blk_alloc ?_ _)); refine blk_put (cs := #[.int .i64 t154, .int .i64 0, .int .i64 0]) ?_ 1 _ rfl; (with_reducible repeat (first | refine blk_drewN ?_ _ | refine blk_drew ?_ | refine blk_alloc ?_ _)); refine blk_put (cs := #[.int .i64 0, .int .i64 0, .int .i64 0]) ?_ 0 _ rfl; (with_reducible repeat (first | refine blk_drewN ?_ _ | refine blk_drew ?_ | refine blk_alloc ?_ _)); exact BK158.out⟩, ⟨by repeat (first | (with_reducible first | exact HB.out | apply below_alloc | apply pw_below_drewN | apply below_drew1 | refine below_set ?_ GE158.out) | exact HB.out)⟩⟩
                      case rest =>
                        clear HC19
                        try clear c1
                        try clear c2
                        try clear p2
                        try clear c5
                        try clear c6
                        try clear c8
                        try clear c8b0
                        try clear c9
                        try clear c10
                        try clear c11
                        try clear c12
                        try clear c14
                        try clear c17
                        try clear c23
                        try clear c23b0
                        try clear c23b1
                        try clear c25
                        try clear hcz22_0
                        try clear hcz22_1
                        try clear hcz22_2
                        try clear hcz26_0
                        try clear hcz26_1
                        try clear hcz26_2
                        try clear hcz28_0
                        try clear hcz28_1
                        try clear hcz28_2
                        try clear hfz22_0
                        try clear hfz22_1
                        try clear hfz22_2
                        try clear hfz26_0
                        try clear hfz26_1
                        try clear hfz26_2
                        try clear hfz28_0
                        try clear hfz28_1
                        try clear hfz28_2
                        try clear p2
                        obtain ⟨kq, x61_18, rfl, HA, HJ18, BK158, HB⟩ := hcut
                        cases kq with
                        | zero => exact absurd HA.out (by simp [quoinlaw08_WordBack.j3])
                        | succ kj18 =>
                          have H := HA.out
                          clear HA
                          simp only [quoinlaw08_WordBack.j3] at H
                          by_cases c29 : x61_18 = true
                          · subst c29
                            have H1 : ((word_Move.f l0 t155 1 x8_9).bind fun bt161 => (if bt161.2.2.2 = 0 then (if bt161.2.1 = a1 then (quoinlaw08_WordBack.j4 kj18 l0 a1 a2 x9_9 x10_9) else (some false)) else (some false))) = some r := by rw [if_pos rfl] at H; exact H
                            clear H
                            have H := H1
                            clear H1
                            replace H := Option.bind_eq_some_iff.mp H
                            obtain ⟨⟨t161, t162, t163, t164⟩, A300, H⟩ := H
                            replace H : (if t164 = 0 then (if t162 = a1 then (quoinlaw08_WordBack.j4 kj18 l0 a1 a2 x9_9 x10_9) else (some false)) else (some false)) = some r := H
                            have A30 := Aside0.mk A300
                            clear A300
                            by_cases c31 : t164 = 0
                            · rw [if_pos c31] at H
                              have c31b0 : (t164 == 0) = true := beq_iff_eq.mpr c31
                              have c31b1 : (t164 != 0) = false := bne_eq_false_iff_eq.mpr c31
                              clear c31
                              by_cases c32 : t162 = a1
                              · rw [if_pos c32] at H
                                have c32b0 : (t162 == a1) = true := beq_iff_eq.mpr c32
                                have c32b1 : (t162 != a1) = false := bne_eq_false_iff_eq.mpr c32
                                clear c32
                                have H' := Aside0.mk H
                                clear H
                                have hcz33_0 : wc.cell? ⟨gb158, 0, none⟩ = some (.int .i64 t154) := (blk_cell BK158.out 0).trans rfl
                                have hcz33_1 : wc.cell? ⟨gb158, 1, none⟩ = some (.int .i64 t155) := (blk_cell BK158.out 1).trans rfl
                                have hcz33_2 : wc.cell? ⟨gb158, 2, none⟩ = some (.int .i64 t156) := (blk_cell BK158.out 2).trans rfl
                                have hfz33_0 := blk_frozen BK158.out 0
                                have hfz33_1 := blk_frozen BK158.out 1
                                have hfz33_2 := blk_frozen BK158.out 2
                                go_wp2_with (first | ((with_reducible refine gate_callee (f := 10) rfl ?_); refine goesL_ (some 67) rfl rfl Try.func10 (by kernel_rfl) rfl #[.slice A0 l0.length c0, .int .i64 t155, .int .i64 1, .string x8_9] rfl (by (try simp only [List.map_toArray, List.map_cons, List.map_nil]); first | done | rfl | (simp only [List.length_drop, List.length_take]; rfl)) ?_; (with_reducible refine (word_Move.calls _ _ l0 t155 1 x8_9 t161 t162 t163 t164 _ ?side1 ?side2 A30.out).mono ?_); (case side1 => repeat (first | exact (Kd.C_below HR0.out HB.out) | (with_reducible refine Kd.C_alloc ?_ _) | (with_reducible refine Kd.C_drewN ?_ _) | (with_reducible refine Kd.C_drew ?_))); (case side2 => exact HC0.out); rintro e w34 ⟨rfl, hb⟩; refine ⟨_, rfl, ?_⟩; have n0_ := Aside0.mk (blk_below (g := gb158) (o := .cells #[.int .i64 t154, .int .i64 t155, .int .i64 t156] 27 (0, 0)) (by (with_reducible repeat (first | refine blk_drewN ?_ _ | refine blk_drew ?_ | refine blk_alloc ?_ _)); exact BK158.out) hb); have n1_ := Aside0.mk (below_step (by repeat (first | (with_reducible first | exact HB.out | apply below_alloc | apply pw_below_drewN | apply below_drew1 | refine below_set ?_ GE158.out) | exact HB.out)) hb); clear BK158; clear HB; have BK158 := n0_; have HB := n1_; clear n0_ n1_; (try clear hb); (try clear hb2); (try clear hk); (try clear hi)) | ((with_reducible refine gate_dst (N := 13) rfl ?_); (try (refine gate_guard (by rfl) ?_; dsimp only)); refine box_event ?hg (N := 13) ?hd (cs := #[.int .i64 0, .int .i64 0, .int .i64 0]) (t := 27) ?hr ?_; (case hd => rfl); (case hg => rfl); (case hr => first | (go_simp; done) | (go_simp; rfl)); intro gb165 hg w35 hbox hb; have n0_ := Aside0.mk (blk_below (g := gb158) (o := .cells #[.int .i64 t154, .int .i64 t155, .int .i64 t156] 27 (0, 0)) (by (with_reducible repeat (first | refine blk_drewN ?_ _ | refine blk_drew ?_ | refine blk_alloc ?_ _)); exact BK158.out) hb); have n1_ := Aside0.mk (below_step (by repeat (first | (with_reducible first | exact HB.out | apply below_alloc | apply pw_below_drewN | apply below_drew1 | refine below_set ?_ GE158.out) | exact HB.out)) hb); have n2_ := Aside0.mk (hbox); have n3_ := Aside0.mk ((by rw [hg]; exact (below_size (by repeat (first | (with_reducible first | exact HB.out | apply below_alloc | apply pw_below_drewN | apply below_drew1 | refine below_set ?_ GE158.out) | exact HB.out))) : w.heap.size ≤ gb165)); have n4_ := Aside0.mk ((by rw [hg]; exact (below_size (by repeat (first | (with_reducible first | exact HB.out | apply below_alloc | apply pw_below_drewN | apply below_drew1 | refine below_set ?_ GE158.out) | exact HB.out))) : w.heap.size ≤ gb165)); have n5_ := Aside0.mk ((by rw [hg]; exact Nat.ne_of_lt (blk_lt (g := gb158) (o := .cells #[.int .i64 t154, .int .i64 t155, .int .i64 t156] 27 (0, 0)) (by (with_reducible repeat (first | refine blk_drewN ?_ _ | refine blk_drew ?_ | refine blk_alloc ?_ _)); exact BK158.out)) : gb158 ≠ gb165)); have n6_ := Aside0.mk ((by rw [hg]; exact Nat.ne_of_gt (blk_lt (g := gb158) (o := .cells #[.int .i64 t154, .int .i64 t155, .int .i64 t156] 27 (0, 0)) (by (with_reducible repeat (first | refine blk_drewN ?_ _ | refine blk_drew ?_ | refine blk_alloc ?_ _)); exact BK158.out)) : gb165 ≠ gb158)); clear BK158; clear HB; have BK158 := n0_; have HB := n1_; have BK165 := n2_; have GW165 := n3_; have GE165 := n4_; have NB158_165 := n5_; have NB165_158 := n6_; clear n0_ n1_ n2_ n3_ n4_ n5_ n6_; clear hb hbox hg; have hnb36 := NB165_158.out; have hnc36 := NB158_165.out; have hcz37_0 : w35.cell? ⟨gb165, 0, none⟩ = some (.int .i64 0) := (blk_cell BK165.out 0).trans rfl; have hcz37_1 : w35.cell? ⟨gb165, 1, none⟩ = some (.int .i64 0) := (blk_cell BK165.out 1).trans rfl; have hcz37_2 : w35.cell? ⟨gb165, 2, none⟩ = some (.int .i64 0) := (blk_cell BK165.out 2).trans rfl; have hfz37_0 := blk_frozen BK165.out 0; have hfz37_1 := blk_frozen BK165.out 1; have hfz37_2 := blk_frozen BK165.out 2))
                                go_meet
                                case rel => exact ⟨_, H', ⟨by have := HJ5.out; have := HJ9.out; have := HJ11.out; have := HJ18.out; first | omega | exact Nat.le_refl _⟩, ⟨by repeat (first | (with_reducible first | exact HB.out | apply below_alloc | apply pw_below_drewN | apply below_drew1 | refine below_set ?_ GE158.out | refine below_set ?_ GE165.out) | exact HB.out)⟩⟩
                              · rw [if_neg c32] at H
                                have c32b0 : (t162 == a1) = false := beq_eq_false_iff_ne.mpr c32
                                have c32b1 : (t162 != a1) = true := bne_iff_ne.mpr c32
                                obtain rfl := Option.some.inj H
                                have hcz38_0 : wc.cell? ⟨gb158, 0, none⟩ = some (.int .i64 t154) := (blk_cell BK158.out 0).trans rfl
                                have hcz38_1 : wc.cell? ⟨gb158, 1, none⟩ = some (.int .i64 t155) := (blk_cell BK158.out 1).trans rfl
                                have hcz38_2 : wc.cell? ⟨gb158, 2, none⟩ = some (.int .i64 t156) := (blk_cell BK158.out 2).trans rfl
                                have hfz38_0 := blk_frozen BK158.out 0
                                have hfz38_1 := blk_frozen BK158.out 1
                                have hfz38_2 := blk_frozen BK158.out 2
                                go_wp2_with (first | ((with_reducible refine gate_callee (f := 10) rfl ?_); refine goesL_ (some 67) rfl rfl Try.func10 (by kernel_rfl) rfl #[.slice A0 l0.length c0, .int .i64 t155, .int .i64 1, .string x8_9] rfl (by (try simp only [List.map_toArray, List.map_cons, List.map_nil]); first | done | rfl | (simp only [List.length_drop, List.length_take]; rfl)) ?_; (with_reducible refine (word_Move.calls _ _ l0 t155 1 x8_9 t161 t162 t163 t164 _ ?side1 ?side2 A30.out).mono ?_); (case side1 => repeat (first | exact (Kd.C_below HR0.out HB.out) | (with_reducible refine Kd.C_alloc ?_ _) | (with_reducible refine Kd.C_drewN ?_ _) | (with_reducible refine Kd.C_drew ?_))); (case side2 => exact HC0.out); rintro e w39 ⟨rfl, hb⟩; refine ⟨_, rfl, ?_⟩; have n0_ := Aside0.mk (blk_below (g := gb158) (o := .cells #[.int .i64 t154, .int .i64 t155, .int .i64 t156] 27 (0, 0)) (by (with_reducible repeat (first | refine blk_drewN ?_ _ | refine blk_drew ?_ | refine blk_alloc ?_ _)); exact BK158.out) hb); have n1_ := Aside0.mk (below_step (by repeat (first | (with_reducible first | exact HB.out | apply below_alloc | apply pw_below_drewN | apply below_drew1 | refine below_set ?_ GE158.out) | exact HB.out)) hb); clear BK158; clear HB; have BK158 := n0_; have HB := n1_; clear n0_ n1_; (try clear hb); (try clear hb2); (try clear hk); (try clear hi)) | ((with_reducible refine gate_dst (N := 13) rfl ?_); (try (refine gate_guard (by rfl) ?_; dsimp only)); refine box_event ?hg (N := 13) ?hd (cs := #[.int .i64 0, .int .i64 0, .int .i64 0]) (t := 27) ?hr ?_; (case hd => rfl); (case hg => rfl); (case hr => first | (go_simp; done) | (go_simp; rfl)); intro gb165 hg w40 hbox hb; have n0_ := Aside0.mk (blk_below (g := gb158) (o := .cells #[.int .i64 t154, .int .i64 t155, .int .i64 t156] 27 (0, 0)) (by (with_reducible repeat (first | refine blk_drewN ?_ _ | refine blk_drew ?_ | refine blk_alloc ?_ _)); exact BK158.out) hb); have n1_ := Aside0.mk (below_step (by repeat (first | (with_reducible first | exact HB.out | apply below_alloc | apply pw_below_drewN | apply below_drew1 | refine below_set ?_ GE158.out) | exact HB.out)) hb); have n2_ := Aside0.mk (hbox); have n3_ := Aside0.mk ((by rw [hg]; exact (below_size (by repeat (first | (with_reducible first | exact HB.out | apply below_alloc | apply pw_below_drewN | apply below_drew1 | refine below_set ?_ GE158.out) | exact HB.out))) : w.heap.size ≤ gb165)); have n4_ := Aside0.mk ((by rw [hg]; exact (below_size (by repeat (first | (with_reducible first | exact HB.out | apply below_alloc | apply pw_below_drewN | apply below_drew1 | refine below_set ?_ GE158.out) | exact HB.out))) : w.heap.size ≤ gb165)); have n5_ := Aside0.mk ((by rw [hg]; exact Nat.ne_of_lt (blk_lt (g := gb158) (o := .cells #[.int .i64 t154, .int .i64 t155, .int .i64 t156] 27 (0, 0)) (by (with_reducible repeat (first | refine blk_drewN ?_ _ | refine blk_drew ?_ | refine blk_alloc ?_ _)); exact BK158.out)) : gb158 ≠ gb165)); have n6_ := Aside0.mk ((by rw [hg]; exact Nat.ne_of_gt (blk_lt (g := gb158) (o := .cells #[.int .i64 t154, .int .i64 t155, .int .i64 t156] 27 (0, 0)) (by (with_reducible repeat (first | refine blk_drewN ?_ _ | refine blk_drew ?_ | refine blk_alloc ?_ _)); exact BK158.out)) : gb165 ≠ gb158)); clear BK158; clear HB; have BK158 := n0_; have HB := n1_; have BK165 := n2_; have GW165 := n3_; have GE165 := n4_; have NB158_165 := n5_; have NB165_158 := n6_; clear n0_ n1_ n2_ n3_ n4_ n5_ n6_; clear hb hbox hg; have hnb41 := NB165_158.out; have hnc41 := NB158_165.out; have hcz42_0 : w40.cell? ⟨gb165, 0, none⟩ = some (.int .i64 0) := (blk_cell BK165.out 0).trans rfl; have hcz42_1 : w40.cell? ⟨gb165, 1, none⟩ = some (.int .i64 0) := (blk_cell BK165.out 1).trans rfl; have hcz42_2 : w40.cell? ⟨gb165, 2, none⟩ = some (.int .i64 0) := (blk_cell BK165.out 2).trans rfl; have hfz42_0 := blk_frozen BK165.out 0; have hfz42_1 := blk_frozen BK165.out 1; have hfz42_2 := blk_frozen BK165.out 2))
                                go_ret
                                exact ⟨by first | rfl | (simp [errW_none, errW_some] <;> rfl) | (simp [*, errW_none, errW_some] <;> rfl), by repeat (first | (with_reducible first | exact HB.out | apply below_alloc | apply pw_below_drewN | apply below_drew1 | refine below_set ?_ GE158.out | refine below_set ?_ GE165.out) | exact HB.out)⟩
                            · rw [if_neg c31] at H
                              have c31b0 : (t164 == 0) = false := beq_eq_false_iff_ne.mpr c31
                              have c31b1 : (t164 != 0) = true := bne_iff_ne.mpr c31
                              obtain rfl := Option.some.inj H
                              have hcz43_0 : wc.cell? ⟨gb158, 0, none⟩ = some (.int .i64 t154) := (blk_cell BK158.out 0).trans rfl
                              have hcz43_1 : wc.cell? ⟨gb158, 1, none⟩ = some (.int .i64 t155) := (blk_cell BK158.out 1).trans rfl
                              have hcz43_2 : wc.cell? ⟨gb158, 2, none⟩ = some (.int .i64 t156) := (blk_cell BK158.out 2).trans rfl
                              have hfz43_0 := blk_frozen BK158.out 0
                              have hfz43_1 := blk_frozen BK158.out 1
                              have hfz43_2 := blk_frozen BK158.out 2
                              go_wp2_with (first | ((with_reducible refine gate_callee (f := 10) rfl ?_); refine goesL_ (some 67) rfl rfl Try.func10 (by kernel_rfl) rfl #[.slice A0 l0.length c0, .int .i64 t155, .int .i64 1, .string x8_9] rfl (by (try simp only [List.map_toArray, List.map_cons, List.map_nil]); first | done | rfl | (simp only [List.length_drop, List.length_take]; rfl)) ?_; (with_reducible refine (word_Move.calls _ _ l0 t155 1 x8_9 t161 t162 t163 t164 _ ?side1 ?side2 A30.out).mono ?_); (case side1 => repeat (first | exact (Kd.C_below HR0.out HB.out) | (with_reducible refine Kd.C_alloc ?_ _) | (with_reducible refine Kd.C_drewN ?_ _) | (with_reducible refine Kd.C_drew ?_))); (case side2 => exact HC0.out); rintro e w44 ⟨rfl, hb⟩; refine ⟨_, rfl, ?_⟩; have n0_ := Aside0.mk (blk_below (g := gb158) (o := .cells #[.int .i64 t154, .int .i64 t155, .int .i64 t156] 27 (0, 0)) (by (with_reducible repeat (first | refine blk_drewN ?_ _ | refine blk_drew ?_ | refine blk_alloc ?_ _)); exact BK158.out) hb); have n1_ := Aside0.mk (below_step (by repeat (first | (with_reducible first | exact HB.out | apply below_alloc | apply pw_below_drewN | apply below_drew1 | refine below_set ?_ GE158.out) | exact HB.out)) hb); clear BK158; clear HB; have BK158 := n0_; have HB := n1_; clear n0_ n1_; (try clear hb); (try clear hb2); (try clear hk); (try clear hi)) | ((with_reducible refine gate_dst (N := 13) rfl ?_); (try (refine gate_guard (by rfl) ?_; dsimp only)); refine box_event ?hg (N := 13) ?hd (cs := #[.int .i64 0, .int .i64 0, .int .i64 0]) (t := 27) ?hr ?_; (case hd => rfl); (case hg => rfl); (case hr => first | (go_simp; done) | (go_simp; rfl)); intro gb165 hg w45 hbox hb; have n0_ := Aside0.mk (blk_below (g := gb158) (o := .cells #[.int .i64 t154, .int .i64 t155, .int .i64 t156] 27 (0, 0)) (by (with_reducible repeat (first | refine blk_drewN ?_ _ | refine blk_drew ?_ | refine blk_alloc ?_ _)); exact BK158.out) hb); have n1_ := Aside0.mk (below_step (by repeat (first | (with_reducible first | exact HB.out | apply below_alloc | apply pw_below_drewN | apply below_drew1 | refine below_set ?_ GE158.out) | exact HB.out)) hb); have n2_ := Aside0.mk (hbox); have n3_ := Aside0.mk ((by rw [hg]; exact (below_size (by repeat (first | (with_reducible first | exact HB.out | apply below_alloc | apply pw_below_drewN | apply below_drew1 | refine below_set ?_ GE158.out) | exact HB.out))) : w.heap.size ≤ gb165)); have n4_ := Aside0.mk ((by rw [hg]; exact (below_size (by repeat (first | (with_reducible first | exact HB.out | apply below_alloc | apply pw_below_drewN | apply below_drew1 | refine below_set ?_ GE158.out) | exact HB.out))) : w.heap.size ≤ gb165)); have n5_ := Aside0.mk ((by rw [hg]; exact Nat.ne_of_lt (blk_lt (g := gb158) (o := .cells #[.int .i64 t154, .int .i64 t155, .int .i64 t156] 27 (0, 0)) (by (with_reducible repeat (first | refine blk_drewN ?_ _ | refine blk_drew ?_ | refine blk_alloc ?_ _)); exact BK158.out)) : gb158 ≠ gb165)); have n6_ := Aside0.mk ((by rw [hg]; exact Nat.ne_of_gt (blk_lt (g := gb158) (o := .cells #[.int .i64 t154, .int .i64 t155, .int .i64 t156] 27 (0, 0)) (by (with_reducible repeat (first | refine blk_drewN ?_ _ | refine blk_drew ?_ | refine blk_alloc ?_ _)); exact BK158.out)) : gb165 ≠ gb158)); clear BK158; clear HB; have BK158 := n0_; have HB := n1_; have BK165 := n2_; have GW165 := n3_; have GE165 := n4_; have NB158_165 := n5_; have NB165_158 := n6_; clear n0_ n1_ n2_ n3_ n4_ n5_ n6_; clear hb hbox hg; have hnb46 := NB165_158.out; have hnc46 := NB158_165.out; have hcz47_0 : w45.cell? ⟨gb165, 0, none⟩ = some (.int .i64 0) := (blk_cell BK165.out 0).trans rfl; have hcz47_1 : w45.cell? ⟨gb165, 1, none⟩ = some (.int .i64 0) := (blk_cell BK165.out 1).trans rfl; have hcz47_2 : w45.cell? ⟨gb165, 2, none⟩ = some (.int .i64 0) := (blk_cell BK165.out 2).trans rfl; have hfz47_0 := blk_frozen BK165.out 0; have hfz47_1 := blk_frozen BK165.out 1; have hfz47_2 := blk_frozen BK165.out 2))
                              go_ret
                              exact ⟨by first | rfl | (simp [errW_none, errW_some] <;> rfl) | (simp [*, errW_none, errW_some] <;> rfl), by repeat (first | (with_reducible first | exact HB.out | apply below_alloc | apply pw_below_drewN | apply below_drew1 | refine below_set ?_ GE158.out | refine below_set ?_ GE165.out) | exact HB.out)⟩
                          · replace c29 := Bool.eq_false_iff.mpr c29
                            subst c29
                            have H1 : (quoinlaw08_WordBack.j4 kj18 l0 a1 a2 x9_9 x10_9) = some r := by rw [if_neg (show ¬ (false = true) by decide)] at H; exact H
                            clear H
                            have H := H1
                            clear H1
                            have H' := Aside0.mk H
                            clear H
                            go_wp2
                            go_meet
                            case rel => exact ⟨_, H', ⟨by have := HJ5.out; have := HJ9.out; have := HJ11.out; have := HJ18.out; first | omega | exact Nat.le_refl _⟩, ⟨by repeat (first | (with_reducible first | exact HB.out | apply below_alloc | apply pw_below_drewN | apply below_drew1 | refine below_set ?_ GE158.out) | exact HB.out)⟩⟩
                    · replace c17 := Bool.eq_false_iff.mpr c17
                      subst c17
                      have H1 : (quoinlaw08_WordBack.j4 kj11 l0 a1 a2 x9_9 x10_9) = some r := by rw [if_neg (show ¬ (false = true) by decide)] at H; exact H
                      clear H
                      have H := H1
                      clear H1
                      have H' := Aside0.mk H
                      clear H
                      go_wp2
                      go_meet
                      case rel => exact ⟨_, H', ⟨by have := HJ5.out; have := HJ9.out; have := HJ11.out; first | omega | exact Nat.le_refl _⟩, ⟨by repeat (first | (with_reducible first | exact HB.out | apply below_alloc | apply pw_below_drewN | apply below_drew1) | exact HB.out)⟩⟩
                  case rest =>
                    clear HC16
                    try clear c1
                    try clear c2
                    try clear p2
                    try clear c3
                    try clear c4
                    try clear c5
                    try clear c6
                    try clear c8
                    try clear c8b0
                    try clear c9
                    try clear c10
                    try clear c11
                    try clear c12
                    try clear c14
                    try clear c17
                    try clear c23
                    try clear c23b0
                    try clear c23b1
                    try clear c25
                    try clear c29
                    try clear c31
                    try clear c31b0
                    try clear c31b1
                    try clear c32
                    try clear c32b0
                    try clear c32b1
                    try clear c36
                    try clear c41
                    try clear c46
                    try clear hcz22_0
                    try clear hcz22_1
                    try clear hcz22_2
                    try clear hcz26_0
                    try clear hcz26_1
                    try clear hcz26_2
                    try clear hcz28_0
                    try clear hcz28_1
                    try clear hcz28_2
                    try clear hcz33_0
                    try clear hcz33_1
                    try clear hcz33_2
                    try clear hcz37_0
                    try clear hcz37_1
                    try clear hcz37_2
                    try clear hcz38_0
                    try clear hcz38_1
                    try clear hcz38_2
                    try clear hcz42_0
                    try clear hcz42_1
                    try clear hcz42_2
                    try clear hcz43_0
                    try clear hcz43_1
                    try clear hcz43_2
                    try clear hcz47_0
                    try clear hcz47_1
                    try clear hcz47_2
                    try clear hfz22_0
                    try clear hfz22_1
                    try clear hfz22_2
                    try clear hfz26_0
                    try clear hfz26_1
                    try clear hfz26_2
                    try clear hfz28_0
                    try clear hfz28_1
                    try clear hfz28_2
                    try clear hfz33_0
                    try clear hfz33_1
                    try clear hfz33_2
                    try clear hfz37_0
                    try clear hfz37_1
                    try clear hfz37_2
                    try clear hfz38_0
                    try clear hfz38_1
                    try clear hfz38_2
                    try clear hfz42_0
                    try clear hfz42_1
                    try clear hfz42_2
                    try clear hfz43_0
                    try clear hfz43_1
                    try clear hfz43_2
                    try clear hfz47_0
                    try clear hfz47_1
                    try clear hfz47_2
                    try clear p2
                    obtain ⟨kq, HA, HJ15, HB⟩ := hcut
                    cases kq with
                    | zero => exact absurd HA.out (by simp [quoinlaw08_WordBack.j4])
                    | succ kj15 =>
                      have H := HA.out
                      clear HA
                      simp only [quoinlaw08_WordBack.j4] at H
                      replace H := Option.bind_eq_some_iff.mp H
                      obtain ⟨t166, A480, H⟩ := H
                      replace H : (if t166 = true then ((word_Move.f l0 a1 1 x9_9).bind fun bt167 => (if bt167.2.2.2 = 0 then (quoinlaw08_WordBack.l0 kj15 l0 a1 x10_9 (wrap64 (a1 + 1)) bt167.1 bt167.2.1 bt167.2.2.1) else (some true))) else (some true)) = some r := H
                      have A48 := Aside0.mk A480
                      clear A480
                      by_cases c49 : t166 = true
                      · subst c49
                        have H1 : ((word_Move.f l0 a1 1 x9_9).bind fun bt167 => (if bt167.2.2.2 = 0 then (quoinlaw08_WordBack.l0 kj15 l0 a1 x10_9 (wrap64 (a1 + 1)) bt167.1 bt167.2.1 bt167.2.2.1) else (some true))) = some r := by rw [if_pos rfl] at H; exact H
                        clear H
                        have H := H1
                        clear H1
                        replace H := Option.bind_eq_some_iff.mp H
                        obtain ⟨⟨t167, t168, t169, t170⟩, A500, H⟩ := H
                        replace H : (if t170 = 0 then (quoinlaw08_WordBack.l0 kj15 l0 a1 x10_9 (wrap64 (a1 + 1)) t167 t168 t169) else (some true)) = some r := H
                        have A50 := Aside0.mk A500
                        clear A500
                        by_cases c51 : t170 = 0
                        · rw [if_pos c51] at H
                          have c51b0 : (t170 == 0) = true := beq_iff_eq.mpr c51
                          have c51b1 : (t170 != 0) = false := bne_eq_false_iff_eq.mpr c51
                          clear c51
                          have H' := Aside0.mk H
                          clear H
                          go_wp2_with (first | ((with_reducible refine gate_callee (f := 14) rfl ?_); refine goesL_ (some 81) rfl rfl Try.func14 (by kernel_rfl) rfl #[.slice A0 l0.length c0, .int .i64 a1, .bool a2] rfl (by (try simp only [List.map_toArray, List.map_cons, List.map_nil]); first | done | rfl | (simp only [List.length_drop, List.length_take]; rfl)) ?_; (with_reducible refine (quoinlaw08_ends.calls kj15 _ _ l0 a1 a2 true _ ?side1 ?side2 A48.out).mono ?_); (case side1 => repeat (first | exact (Kd.C_below HR0.out HB.out) | (with_reducible refine Kd.C_alloc ?_ _) | (with_reducible refine Kd.C_drewN ?_ _) | (with_reducible refine Kd.C_drew ?_))); (case side2 => exact HC0.out); rintro e w' ⟨rfl, ⟨nd, rfl⟩⟩; refine ⟨_, rfl, ?_⟩; (try (rw [drewN_self wc]; generalize hq_ : World.drewN wc _ = wc; have n0_ : Aside0 (Below w.heap.size w wc) := ⟨by rw [← hq_]; exact (by repeat (first | (with_reducible first | exact HB.out | apply below_alloc | apply pw_below_drewN | apply below_drew1) | exact HB.out))⟩; clear HB hq_; have HB := n0_; clear n0_))) | ((with_reducible refine gate_callee (f := 10) rfl ?_); refine goesL_ (some 86) rfl rfl Try.func10 (by kernel_rfl) rfl #[.slice A0 l0.length c0, .int .i64 a1, .int .i64 1, .string x9_9] rfl (by (try simp only [List.map_toArray, List.map_cons, List.map_nil]); first | done | rfl | (simp only [List.length_drop, List.length_take]; rfl)) ?_; (with_reducible refine (word_Move.calls _ _ l0 a1 1 x9_9 t167 t168 t169 t170 _ ?side1 ?side2 A50.out).mono ?_); (case side1 => repeat (first | exact (Kd.C_below HR0.out HB.out) | (with_reducible refine Kd.C_alloc ?_ _) | (with_reducible refine Kd.C_drewN ?_ _) | (with_reducible refine Kd.C_drew ?_))); (case side2 => exact HC0.out); rintro e w52 ⟨rfl, hb⟩; refine ⟨_, rfl, ?_⟩; have n0_ := Aside0.mk (below_step (by repeat (first | (with_reducible first | exact HB.out | apply below_alloc | apply pw_below_drewN | apply below_drew1) | exact HB.out)) hb); clear HB; have HB := n0_; clear n0_; (try clear hb); (try clear hb2); (try clear hk); (try clear hi)) | ((with_reducible refine gate_dst (N := 15) rfl ?_); (try (refine gate_guard (by rfl) ?_; dsimp only)); refine box_event ?hg (N := 15) ?hd (cs := #[.int .i64 0, .int .i64 0, .int .i64 0]) (t := 27) ?hr ?_; (case hd => rfl); (case hg => rfl); (case hr => first | (go_simp; done) | (go_simp; rfl)); intro gb171 hg w53 hbox hb; have n0_ := Aside0.mk (below_step (by repeat (first | (with_reducible first | exact HB.out | apply below_alloc | apply pw_below_drewN | apply below_drew1) | exact HB.out)) hb); have n1_ := Aside0.mk (hbox); have n2_ := Aside0.mk ((by rw [hg]; exact (below_size (by repeat (first | (with_reducible first | exact HB.out | apply below_alloc | apply pw_below_drewN | apply below_drew1) | exact HB.out))) : w.heap.size ≤ gb171)); have n3_ := Aside0.mk ((by rw [hg]; exact (below_size (by repeat (first | (with_reducible first | exact HB.out | apply below_alloc | apply pw_below_drewN | apply below_drew1) | exact HB.out))) : w.heap.size ≤ gb171)); clear HB; have HB := n0_; have BK171 := n1_; have GW171 := n2_; have GE171 := n3_; clear n0_ n1_ n2_ n3_; clear hb hbox hg; have hcz54_0 : w53.cell? ⟨gb171, 0, none⟩ = some (.int .i64 0) := (blk_cell BK171.out 0).trans rfl; have hcz54_1 : w53.cell? ⟨gb171, 1, none⟩ = some (.int .i64 0) := (blk_cell BK171.out 1).trans rfl; have hcz54_2 : w53.cell? ⟨gb171, 2, none⟩ = some (.int .i64 0) := (blk_cell BK171.out 2).trans rfl; have hfz54_0 := blk_frozen BK171.out 0; have hfz54_1 := blk_frozen BK171.out 1; have hfz54_2 := blk_frozen BK171.out 2))
                          go_loopg [17] kj15 (fun kq v17 w' => ∃ (x17_5 : Int), v17 = .int .i64 x17_5 ∧ Aside0 (quoinlaw08_WordBack.l0 kq l0 a1 x10_9 x17_5 t167 t168 t169 = some r) ∧ Aside0 (kq ≤ kj15) ∧ Aside0 (w'.heap[gb171]? = some (.cells #[.int .i64 t167, .int .i64 t168, .int .i64 t169] 27 (0, 0))) ∧ Aside0 (Below w.heap.size w w'))
                          case atStart => exact ⟨(wrap64 (a1 + 1)), (by first | rfl | (simp; done) | (simp [*]; done)), H', ⟨Nat.le_refl _⟩, ⟨by (with_reducible repeat (first | refine blk_drewN ?_ _ | refine blk_drew ?_ | refine blk_alloc ?_ _)); refine blk_put (cs := #[.int .i64 t167, .int .i64 t168, .int .i64 0]) ?_ 2 _ rfl; (with_reducible repeat (first | refine blk_drewN ?_ _ | refine blk_drew ?_ | refine blk_alloc ?_ _)); refine blk_put (cs := #[.int .i64 t167, .int .i64 0, .int .i64 0]) ?_ 1 _ rfl; (with_reducible repeat (first | refine blk_drewN ?_ _ | refine blk_drew ?_ | refine blk_alloc ?_ _)); refine blk_put (cs := #[.int .i64 0, .int .i64 0, .int .i64 0]) ?_ 0 _ rfl; (with_reducible repeat (first | refine blk_drewN ?_ _ | refine blk_drew ?_ | refine blk_alloc ?_ _)); exact BK171.out⟩, ⟨by repeat (first | (with_reducible first | exact HB.out | apply below_alloc | apply pw_below_drewN | apply below_drew1 | refine below_set ?_ GE171.out) | exact HB.out)⟩⟩
                          case round =>
                            clear H'
                            try clear c1
                            try clear c2
                            try clear p2
                            try clear c3
                            try clear c4
                            try clear c5
                            try clear c6
                            try clear p6
                            try clear c8
                            try clear c8b0
                            try clear c9
                            try clear c10
                            try clear c11
                            try clear c12
                            try clear c14
                            try clear c17
                            try clear c23
                            try clear c23b0
                            try clear c23b1
                            try clear c25
                            try clear c29
                            try clear c31
                            try clear c31b0
                            try clear c31b1
                            try clear c32
                            try clear c32b0
                            try clear c32b1
                            try clear c36
                            try clear c41
                            try clear c46
                            try clear c49
                            try clear c51
                            try clear c51b0
                            try clear c51b1
                            try clear hcz22_0
                            try clear hcz22_1
                            try clear hcz22_2
                            try clear hcz26_0
                            try clear hcz26_1
                            try clear hcz26_2
                            try clear hcz28_0
                            try clear hcz28_1
                            try clear hcz28_2
                            try clear hcz33_0
                            try clear hcz33_1
                            try clear hcz33_2
                            try clear hcz37_0
                            try clear hcz37_1
                            try clear hcz37_2
                            try clear hcz38_0
                            try clear hcz38_1
                            try clear hcz38_2
                            try clear hcz42_0
                            try clear hcz42_1
                            try clear hcz42_2
                            try clear hcz43_0
                            try clear hcz43_1
                            try clear hcz43_2
                            try clear hcz47_0
                            try clear hcz47_1
                            try clear hcz47_2
                            try clear hcz54_0
                            try clear hcz54_1
                            try clear hcz54_2
                            try clear hfz22_0
                            try clear hfz22_1
                            try clear hfz22_2
                            try clear hfz26_0
                            try clear hfz26_1
                            try clear hfz26_2
                            try clear hfz28_0
                            try clear hfz28_1
                            try clear hfz28_2
                            try clear hfz33_0
                            try clear hfz33_1
                            try clear hfz33_2
                            try clear hfz37_0
                            try clear hfz37_1
                            try clear hfz37_2
                            try clear hfz38_0
                            try clear hfz38_1
                            try clear hfz38_2
                            try clear hfz42_0
                            try clear hfz42_1
                            try clear hfz42_2
                            try clear hfz43_0
                            try clear hfz43_1
                            try clear hfz43_2
                            try clear hfz47_0
                            try clear hfz47_1
                            try clear hfz47_2
                            try clear hfz54_0
                            try clear hfz54_1
                            try clear hfz54_2
                            try clear p2
                            obtain ⟨x17_5, rfl, HA, HK5, BK171, HB⟩ := hrel
                            cases gk with
                            | zero => exact absurd HA.out (by simp [quoinlaw08_WordBack.l0])
                            | succ k5 =>
                              have H := HA.out
                              clear HA
                              simp only [quoinlaw08_WordBack.l0] at H
                              by_cases c55 : x17_5 < t168
                              · rw [if_pos c55] at H
                                have c55b0 : decide (x17_5 < t168) = true := decide_eq_true c55
                                clear c55
                                replace H := Option.bind_eq_some_iff.mp H
                                obtain ⟨t172, A560, H⟩ := H
                                replace H : (if t172 = true then (some true) else (quoinlaw08_WordBack.l0 k5 l0 a1 x10_9 (wrap64 (x17_5 + 1)) t167 t168 t169)) = some r := H
                                have A56 := Aside0.mk A560
                                clear A560
                                by_cases c57 : t172 = true
                                · subst c57
                                  have H1 : (some true) = some r := by rw [if_pos rfl] at H; exact H
                                  clear H
                                  have H := H1
                                  clear H1
                                  obtain rfl := Option.some.inj H
                                  have hcz58_0 : wr.cell? ⟨gb171, 0, none⟩ = some (.int .i64 t167) := (blk_cell BK171.out 0).trans rfl
                                  have hcz58_1 : wr.cell? ⟨gb171, 1, none⟩ = some (.int .i64 t168) := (blk_cell BK171.out 1).trans rfl
                                  have hcz58_2 : wr.cell? ⟨gb171, 2, none⟩ = some (.int .i64 t169) := (blk_cell BK171.out 2).trans rfl
                                  have hfz58_0 := blk_frozen BK171.out 0
                                  have hfz58_1 := blk_frozen BK171.out 1
                                  have hfz58_2 := blk_frozen BK171.out 2
                                  go_wp2_with (first | ((with_reducible refine gate_callee (f := 13) rfl ?_); refine goesL_ (some 101) rfl rfl Try.func13 (by kernel_rfl) rfl #[.slice A0 l0.length c0, .int .i64 x17_5] rfl (by (try simp only [List.map_toArray, List.map_cons, List.map_nil]); first | done | rfl | (simp only [List.length_drop, List.length_take]; rfl)) ?_; (with_reducible refine (quoinlaw08_bare.calls _ _ l0 x17_5 true _ ?side1 ?side2 A56.out).mono ?_); (case side1 => repeat (first | exact (Kd.C_below HR0.out HB.out) | (with_reducible refine Kd.C_alloc ?_ _) | (with_reducible refine Kd.C_drewN ?_ _) | (with_reducible refine Kd.C_drew ?_))); (case side2 => exact HC0.out); rintro e w' ⟨rfl, ⟨nd, rfl⟩⟩; refine ⟨_, rfl, ?_⟩))
                                  go_ret
                                  exact ⟨by first | rfl | (simp [errW_none, errW_some] <;> rfl) | (simp [*, errW_none, errW_some] <;> rfl), by repeat (first | (with_reducible first | exact HB.out | apply below_alloc | apply pw_below_drewN | apply below_drew1 | refine below_set ?_ GE171.out) | exact HB.out)⟩
                                · replace c57 := Bool.eq_false_iff.mpr c57
                                  subst c57
                                  have H1 : (quoinlaw08_WordBack.l0 k5 l0 a1 x10_9 (wrap64 (x17_5 + 1)) t167 t168 t169) = some r := by rw [if_neg (show ¬ (false = true) by decide)] at H; exact H
                                  clear H
                                  have H := H1
                                  clear H1
                                  have H' := Aside0.mk H
                                  clear H
                                  have hcz59_0 : wr.cell? ⟨gb171, 0, none⟩ = some (.int .i64 t167) := (blk_cell BK171.out 0).trans rfl
                                  have hcz59_1 : wr.cell? ⟨gb171, 1, none⟩ = some (.int .i64 t168) := (blk_cell BK171.out 1).trans rfl
                                  have hcz59_2 : wr.cell? ⟨gb171, 2, none⟩ = some (.int .i64 t169) := (blk_cell BK171.out 2).trans rfl
                                  have hfz59_0 := blk_frozen BK171.out 0
                                  have hfz59_1 := blk_frozen BK171.out 1
                                  have hfz59_2 := blk_frozen BK171.out 2
                                  go_wp2_with (first | ((with_reducible refine gate_callee (f := 13) rfl ?_); refine goesL_ (some 101) rfl rfl Try.func13 (by kernel_rfl) rfl #[.slice A0 l0.length c0, .int .i64 x17_5] rfl (by (try simp only [List.map_toArray, List.map_cons, List.map_nil]); first | done | rfl | (simp only [List.length_drop, List.length_take]; rfl)) ?_; (with_reducible refine (quoinlaw08_bare.calls _ _ l0 x17_5 false _ ?side1 ?side2 A56.out).mono ?_); (case side1 => repeat (first | exact (Kd.C_below HR0.out HB.out) | (with_reducible refine Kd.C_alloc ?_ _) | (with_reducible refine Kd.C_drewN ?_ _) | (with_reducible refine Kd.C_drew ?_))); (case side2 => exact HC0.out); rintro e w' ⟨rfl, ⟨nd, rfl⟩⟩; refine ⟨_, rfl, ?_⟩))
                                  go_roundg k5
                                  case measure => have := HJ5.out; have := HJ9.out; have := HJ11.out; have := HJ15.out; have := HK5.out; omega
                                  case rel => exact ⟨(wrap64 (x17_5 + 1)), (by first | rfl | (simp; done) | (simp [*]; done)), H', ⟨by have := HJ5.out; have := HJ9.out; have := HJ11.out; have := HJ15.out; have := HK5.out; omega⟩, ⟨by (with_reducible repeat (first | refine blk_drewN ?_ _ | refine blk_drew ?_ | refine blk_alloc ?_ _)); exact BK171.out⟩, ⟨by repeat (first | (with_reducible first | exact HB.out | apply below_alloc | apply pw_below_drewN | apply below_drew1 | refine below_set ?_ GE171.out) | exact HB.out)⟩⟩
                              · rw [if_neg c55] at H
                                have c55b0 : decide (x17_5 < t168) = false := decide_eq_false c55
                                clear c55
                                replace H := Option.bind_eq_some_iff.mp H
                                obtain ⟨⟨t173, t174, t175, t176⟩, A600, H⟩ := H
                                replace H : (if t176 = 0 then (if t174 = a1 then (some true) else (some false)) else (some false)) = some r := H
                                have A60 := Aside0.mk A600
                                clear A600
                                by_cases c61 : t176 = 0
                                · rw [if_pos c61] at H
                                  have c61b0 : (t176 == 0) = true := beq_iff_eq.mpr c61
                                  have c61b1 : (t176 != 0) = false := bne_eq_false_iff_eq.mpr c61
                                  clear c61
                                  by_cases c62 : t174 = a1
                                  · rw [if_pos c62] at H
                                    have c62b0 : (t174 == a1) = true := beq_iff_eq.mpr c62
                                    have c62b1 : (t174 != a1) = false := bne_eq_false_iff_eq.mpr c62
                                    clear c62
                                    obtain rfl := Option.some.inj H
                                    have hcz63_0 : wr.cell? ⟨gb171, 0, none⟩ = some (.int .i64 t167) := (blk_cell BK171.out 0).trans rfl
                                    have hcz63_1 : wr.cell? ⟨gb171, 1, none⟩ = some (.int .i64 t168) := (blk_cell BK171.out 1).trans rfl
                                    have hcz63_2 : wr.cell? ⟨gb171, 2, none⟩ = some (.int .i64 t169) := (blk_cell BK171.out 2).trans rfl
                                    have hfz63_0 := blk_frozen BK171.out 0
                                    have hfz63_1 := blk_frozen BK171.out 1
                                    have hfz63_2 := blk_frozen BK171.out 2
                                    go_wp2_with (first | ((with_reducible refine gate_callee (f := 10) rfl ?_); refine goesL_ (some 107) rfl rfl Try.func10 (by kernel_rfl) rfl #[.slice A0 l0.length c0, .int .i64 t168, .int .i64 1, .string x10_9] rfl (by (try simp only [List.map_toArray, List.map_cons, List.map_nil]); first | done | rfl | (simp only [List.length_drop, List.length_take]; rfl)) ?_; (with_reducible refine (word_Move.calls _ _ l0 t168 1 x10_9 t173 t174 t175 t176 _ ?side1 ?side2 A60.out).mono ?_); (case side1 => repeat (first | exact (Kd.C_below HR0.out HB.out) | (with_reducible refine Kd.C_alloc ?_ _) | (with_reducible refine Kd.C_drewN ?_ _) | (with_reducible refine Kd.C_drew ?_))); (case side2 => exact HC0.out); rintro e w64 ⟨rfl, hb⟩; refine ⟨_, rfl, ?_⟩; have n0_ := Aside0.mk (blk_below (g := gb171) (o := .cells #[.int .i64 t167, .int .i64 t168, .int .i64 t169] 27 (0, 0)) (by (with_reducible repeat (first | refine blk_drewN ?_ _ | refine blk_drew ?_ | refine blk_alloc ?_ _)); exact BK171.out) hb); have n1_ := Aside0.mk (below_step (by repeat (first | (with_reducible first | exact HB.out | apply below_alloc | apply pw_below_drewN | apply below_drew1 | refine below_set ?_ GE171.out) | exact HB.out)) hb); clear BK171; clear HB; have BK171 := n0_; have HB := n1_; clear n0_ n1_; (try clear hb); (try clear hb2); (try clear hk); (try clear hi)) | ((with_reducible refine gate_dst (N := 18) rfl ?_); (try (refine gate_guard (by rfl) ?_; dsimp only)); refine box_event ?hg (N := 18) ?hd (cs := #[.int .i64 0, .int .i64 0, .int .i64 0]) (t := 27) ?hr ?_; (case hd => rfl); (case hg => rfl); (case hr => first | (go_simp; done) | (go_simp; rfl)); intro gb177 hg w65 hbox hb; have n0_ := Aside0.mk (blk_below (g := gb171) (o := .cells #[.int .i64 t167, .int .i64 t168, .int .i64 t169] 27 (0, 0)) (by (with_reducible repeat (first | refine blk_drewN ?_ _ | refine blk_drew ?_ | refine blk_alloc ?_ _)); exact BK171.out) hb); have n1_ := Aside0.mk (below_step (by repeat (first | (with_reducible first | exact HB.out | apply below_alloc | apply pw_below_drewN | apply below_drew1 | refine below_set ?_ GE171.out) | exact HB.out)) hb); have n2_ := Aside0.mk (hbox); have n3_ := Aside0.mk ((by rw [hg]; exact (below_size (by repeat (first | (with_reducible first | exact HB.out | apply below_alloc | apply pw_below_drewN | apply below_drew1 | refine below_set ?_ GE171.out) | exact HB.out))) : w.heap.size ≤ gb177)); have n4_ := Aside0.mk ((by rw [hg]; exact (below_size (by repeat (first | (with_reducible first | exact HB.out | apply below_alloc | apply pw_below_drewN | apply below_drew1 | refine below_set ?_ GE171.out) | exact HB.out))) : w.heap.size ≤ gb177)); have n5_ := Aside0.mk ((by rw [hg]; exact Nat.ne_of_lt (blk_lt (g := gb171) (o := .cells #[.int .i64 t167, .int .i64 t168, .int .i64 t169] 27 (0, 0)) (by (with_reducible repeat (first | refine blk_drewN ?_ _ | refine blk_drew ?_ | refine blk_alloc ?_ _)); exact BK171.out)) : gb171 ≠ gb177)); have n6_ := Aside0.mk ((by rw [hg]; exact Nat.ne_of_gt (blk_lt (g := gb171) (o := .cells #[.int .i64 t167, .int .i64 t168, .int .i64 t169] 27 (0, 0)) (by (with_reducible repeat (first | refine blk_drewN ?_ _ | refine blk_drew ?_ | refine blk_alloc ?_ _)); exact BK171.out)) : gb177 ≠ gb171)); clear BK171; clear HB; have BK171 := n0_; have HB := n1_; have BK177 := n2_; have GW177 := n3_; have GE177 := n4_; have NB171_177 := n5_; have NB177_171 := n6_; clear n0_ n1_ n2_ n3_ n4_ n5_ n6_; clear hb hbox hg; have hnb66 := NB177_171.out; have hnc66 := NB171_177.out; have hcz67_0 : w65.cell? ⟨gb177, 0, none⟩ = some (.int .i64 0) := (blk_cell BK177.out 0).trans rfl; have hcz67_1 : w65.cell? ⟨gb177, 1, none⟩ = some (.int .i64 0) := (blk_cell BK177.out 1).trans rfl; have hcz67_2 : w65.cell? ⟨gb177, 2, none⟩ = some (.int .i64 0) := (blk_cell BK177.out 2).trans rfl; have hfz67_0 := blk_frozen BK177.out 0; have hfz67_1 := blk_frozen BK177.out 1; have hfz67_2 := blk_frozen BK177.out 2))
                                    go_ret
                                    exact ⟨by first | rfl | (simp [errW_none, errW_some] <;> rfl) | (simp [*, errW_none, errW_some] <;> rfl), by repeat (first | (with_reducible first | exact HB.out | apply below_alloc | apply pw_below_drewN | apply below_drew1 | refine below_set ?_ GE171.out | refine below_set ?_ GE177.out) | exact HB.out)⟩
                                  · rw [if_neg c62] at H
                                    have c62b0 : (t174 == a1) = false := beq_eq_false_iff_ne.mpr c62
                                    have c62b1 : (t174 != a1) = true := bne_iff_ne.mpr c62
                                    obtain rfl := Option.some.inj H
                                    have hcz68_0 : wr.cell? ⟨gb171, 0, none⟩ = some (.int .i64 t167) := (blk_cell BK171.out 0).trans rfl
                                    have hcz68_1 : wr.cell? ⟨gb171, 1, none⟩ = some (.int .i64 t168) := (blk_cell BK171.out 1).trans rfl
                                    have hcz68_2 : wr.cell? ⟨gb171, 2, none⟩ = some (.int .i64 t169) := (blk_cell BK171.out 2).trans rfl
                                    have hfz68_0 := blk_frozen BK171.out 0
                                    have hfz68_1 := blk_frozen BK171.out 1
                                    have hfz68_2 := blk_frozen BK171.out 2
                                    go_wp2_with (first | ((with_reducible refine gate_callee (f := 10) rfl ?_); refine goesL_ (some 107) rfl rfl Try.func10 (by kernel_rfl) rfl #[.slice A0 l0.length c0, .int .i64 t168, .int .i64 1, .string x10_9] rfl (by (try simp only [List.map_toArray, List.map_cons, List.map_nil]); first | done | rfl | (simp only [List.length_drop, List.length_take]; rfl)) ?_; (with_reducible refine (word_Move.calls _ _ l0 t168 1 x10_9 t173 t174 t175 t176 _ ?side1 ?side2 A60.out).mono ?_); (case side1 => repeat (first | exact (Kd.C_below HR0.out HB.out) | (with_reducible refine Kd.C_alloc ?_ _) | (with_reducible refine Kd.C_drewN ?_ _) | (with_reducible refine Kd.C_drew ?_))); (case side2 => exact HC0.out); rintro e w69 ⟨rfl, hb⟩; refine ⟨_, rfl, ?_⟩; have n0_ := Aside0.mk (blk_below (g := gb171) (o := .cells #[.int .i64 t167, .int .i64 t168, .int .i64 t169] 27 (0, 0)) (by (with_reducible repeat (first | refine blk_drewN ?_ _ | refine blk_drew ?_ | refine blk_alloc ?_ _)); exact BK171.out) hb); have n1_ := Aside0.mk (below_step (by repeat (first | (with_reducible first | exact HB.out | apply below_alloc | apply pw_below_drewN | apply below_drew1 | refine below_set ?_ GE171.out) | exact HB.out)) hb); clear BK171; clear HB; have BK171 := n0_; have HB := n1_; clear n0_ n1_; (try clear hb); (try clear hb2); (try clear hk); (try clear hi)) | ((with_reducible refine gate_dst (N := 18) rfl ?_); (try (refine gate_guard (by rfl) ?_; dsimp only)); refine box_event ?hg (N := 18) ?hd (cs := #[.int .i64 0, .int .i64 0, .int .i64 0]) (t := 27) ?hr ?_; (case hd => rfl); (case hg => rfl); (case hr => first | (go_simp; done) | (go_simp; rfl)); intro gb177 hg w70 hbox hb; have n0_ := Aside0.mk (blk_below (g := gb171) (o := .cells #[.int .i64 t167, .int .i64 t168, .int .i64 t169] 27 (0, 0)) (by (with_reducible repeat (first | refine blk_drewN ?_ _ | refine blk_drew ?_ | refine blk_alloc ?_ _)); exact BK171.out) hb); have n1_ := Aside0.mk (below_step (by repeat (first | (with_reducible first | exact HB.out | apply below_alloc | apply pw_below_drewN | apply below_drew1 | refine below_set ?_ GE171.out) | exact HB.out)) hb); have n2_ := Aside0.mk (hbox); have n3_ := Aside0.mk ((by rw [hg]; exact (below_size (by repeat (first | (with_reducible first | exact HB.out | apply below_alloc | apply pw_below_drewN | apply below_drew1 | refine below_set ?_ GE171.out) | exact HB.out))) : w.heap.size ≤ gb177)); have n4_ := Aside0.mk ((by rw [hg]; exact (below_size (by repeat (first | (with_reducible first | exact HB.out | apply below_alloc | apply pw_below_drewN | apply below_drew1 | refine below_set ?_ GE171.out) | exact HB.out))) : w.heap.size ≤ gb177)); have n5_ := Aside0.mk ((by rw [hg]; exact Nat.ne_of_lt (blk_lt (g := gb171) (o := .cells #[.int .i64 t167, .int .i64 t168, .int .i64 t169] 27 (0, 0)) (by (with_reducible repeat (first | refine blk_drewN ?_ _ | refine blk_drew ?_ | refine blk_alloc ?_ _)); exact BK171.out)) : gb171 ≠ gb177)); have n6_ := Aside0.mk ((by rw [hg]; exact Nat.ne_of_gt (blk_lt (g := gb171) (o := .cells #[.int .i64 t167, .int .i64 t168, .int .i64 t169] 27 (0, 0)) (by (with_reducible repeat (first | refine blk_drewN ?_ _ | refine blk_drew ?_ | refine blk_alloc ?_ _)); exact BK171.out)) : gb177 ≠ gb171)); clear BK171; clear HB; have BK171 := n0_; have HB := n1_; have BK177 := n2_; have GW177 := n3_; have GE177 := n4_; have NB171_177 := n5_; have NB177_171 := n6_; clear n0_ n1_ n2_ n3_ n4_ n5_ n6_; clear hb hbox hg; have hnb71 := NB177_171.out; have hnc71 := NB171_177.out; have hcz72_0 : w70.cell? ⟨gb177, 0, none⟩ = some (.int .i64 0) := (blk_cell BK177.out 0).trans rfl; have hcz72_1 : w70.cell? ⟨gb177, 1, none⟩ = some (.int .i64 0) := (blk_cell BK177.out 1).trans rfl; have hcz72_2 : w70.cell? ⟨gb177, 2, none⟩ = some (.int .i64 0) := (blk_cell BK177.out 2).trans rfl; have hfz72_0 := blk_frozen BK177.out 0; have hfz72_1 := blk_frozen BK177.out 1; have hfz72_2 := blk_frozen BK177.out 2))
                                    go_ret
                                    exact ⟨by first | rfl | (simp [errW_none, errW_some] <;> rfl) | (simp [*, errW_none, errW_some] <;> rfl), by repeat (first | (with_reducible first | exact HB.out | apply below_alloc | apply pw_below_drewN | apply below_drew1 | refine below_set ?_ GE171.out | refine below_set ?_ GE177.out) | exact HB.out)⟩
                                · rw [if_neg c61] at H
                                  have c61b0 : (t176 == 0) = false := beq_eq_false_iff_ne.mpr c61
                                  have c61b1 : (t176 != 0) = true := bne_iff_ne.mpr c61
                                  obtain rfl := Option.some.inj H
                                  have hcz73_0 : wr.cell? ⟨gb171, 0, none⟩ = some (.int .i64 t167) := (blk_cell BK171.out 0).trans rfl
                                  have hcz73_1 : wr.cell? ⟨gb171, 1, none⟩ = some (.int .i64 t168) := (blk_cell BK171.out 1).trans rfl
                                  have hcz73_2 : wr.cell? ⟨gb171, 2, none⟩ = some (.int .i64 t169) := (blk_cell BK171.out 2).trans rfl
                                  have hfz73_0 := blk_frozen BK171.out 0
                                  have hfz73_1 := blk_frozen BK171.out 1
                                  have hfz73_2 := blk_frozen BK171.out 2
                                  go_wp2_with (first | ((with_reducible refine gate_callee (f := 10) rfl ?_); refine goesL_ (some 107) rfl rfl Try.func10 (by kernel_rfl) rfl #[.slice A0 l0.length c0, .int .i64 t168, .int .i64 1, .string x10_9] rfl (by (try simp only [List.map_toArray, List.map_cons, List.map_nil]); first | done | rfl | (simp only [List.length_drop, List.length_take]; rfl)) ?_; (with_reducible refine (word_Move.calls _ _ l0 t168 1 x10_9 t173 t174 t175 t176 _ ?side1 ?side2 A60.out).mono ?_); (case side1 => repeat (first | exact (Kd.C_below HR0.out HB.out) | (with_reducible refine Kd.C_alloc ?_ _) | (with_reducible refine Kd.C_drewN ?_ _) | (with_reducible refine Kd.C_drew ?_))); (case side2 => exact HC0.out); rintro e w74 ⟨rfl, hb⟩; refine ⟨_, rfl, ?_⟩; have n0_ := Aside0.mk (blk_below (g := gb171) (o := .cells #[.int .i64 t167, .int .i64 t168, .int .i64 t169] 27 (0, 0)) (by (with_reducible repeat (first | refine blk_drewN ?_ _ | refine blk_drew ?_ | refine blk_alloc ?_ _)); exact BK171.out) hb); have n1_ := Aside0.mk (below_step (by repeat (first | (with_reducible first | exact HB.out | apply below_alloc | apply pw_below_drewN | apply below_drew1 | refine below_set ?_ GE171.out) | exact HB.out)) hb); clear BK171; clear HB; have BK171 := n0_; have HB := n1_; clear n0_ n1_; (try clear hb); (try clear hb2); (try clear hk); (try clear hi)) | ((with_reducible refine gate_dst (N := 18) rfl ?_); (try (refine gate_guard (by rfl) ?_; dsimp only)); refine box_event ?hg (N := 18) ?hd (cs := #[.int .i64 0, .int .i64 0, .int .i64 0]) (t := 27) ?hr ?_; (case hd => rfl); (case hg => rfl); (case hr => first | (go_simp; done) | (go_simp; rfl)); intro gb177 hg w75 hbox hb; have n0_ := Aside0.mk (blk_below (g := gb171) (o := .cells #[.int .i64 t167, .int .i64 t168, .int .i64 t169] 27 (0, 0)) (by (with_reducible repeat (first | refine blk_drewN ?_ _ | refine blk_drew ?_ | refine blk_alloc ?_ _)); exact BK171.out) hb); have n1_ := Aside0.mk (below_step (by repeat (first | (with_reducible first | exact HB.out | apply below_alloc | apply pw_below_drewN | apply below_drew1 | refine below_set ?_ GE171.out) | exact HB.out)) hb); have n2_ := Aside0.mk (hbox); have n3_ := Aside0.mk ((by rw [hg]; exact (below_size (by repeat (first | (with_reducible first | exact HB.out | apply below_alloc | apply pw_below_drewN | apply below_drew1 | refine below_set ?_ GE171.out) | exact HB.out))) : w.heap.size ≤ gb177)); have n4_ := Aside0.mk ((by rw [hg]; exact (below_size (by repeat (first | (with_reducible first | exact HB.out | apply below_alloc | apply pw_below_drewN | apply below_drew1 | refine below_set ?_ GE171.out) | exact HB.out))) : w.heap.size ≤ gb177)); have n5_ := Aside0.mk ((by rw [hg]; exact Nat.ne_of_lt (blk_lt (g := gb171) (o := .cells #[.int .i64 t167, .int .i64 t168, .int .i64 t169] 27 (0, 0)) (by (with_reducible repeat (first | refine blk_drewN ?_ _ | refine blk_drew ?_ | refine blk_alloc ?_ _)); exact BK171.out)) : gb171 ≠ gb177)); have n6_ := Aside0.mk ((by rw [hg]; exact Nat.ne_of_gt (blk_lt (g := gb171) (o := .cells #[.int .i64 t167, .int .i64 t168, .int .i64 t169] 27 (0, 0)) (by (with_reducible repeat (first | refine blk_drewN ?_ _ | refine blk_drew ?_ | refine blk_alloc ?_ _)); exact BK171.out)) : gb177 ≠ gb171)); clear BK171; clear HB; have BK171 := n0_; have HB := n1_; have BK177 := n2_; have GW177 := n3_; have GE177 := n4_; have NB171_177 := n5_; have NB177_171 := n6_; clear n0_ n1_ n2_ n3_ n4_ n5_ n6_; clear hb hbox hg; have hnb76 := NB177_171.out; have hnc76 := NB171_177.out; have hcz77_0 : w75.cell? ⟨gb177, 0, none⟩ = some (.int .i64 0) := (blk_cell BK177.out 0).trans rfl; have hcz77_1 : w75.cell? ⟨gb177, 1, none⟩ = some (.int .i64 0) := (blk_cell BK177.out 1).trans rfl; have hcz77_2 : w75.cell? ⟨gb177, 2, none⟩ = some (.int .i64 0) := (blk_cell BK177.out 2).trans rfl; have hfz77_0 := blk_frozen BK177.out 0; have hfz77_1 := blk_frozen BK177.out 1; have hfz77_2 := blk_frozen BK177.out 2))
                                  go_ret
                                  exact ⟨by first | rfl | (simp [errW_none, errW_some] <;> rfl) | (simp [*, errW_none, errW_some] <;> rfl), by repeat (first | (with_reducible first | exact HB.out | apply below_alloc | apply pw_below_drewN | apply below_drew1 | refine below_set ?_ GE171.out | refine below_set ?_ GE177.out) | exact HB.out)⟩
                        · rw [if_neg c51] at H
                          have c51b0 : (t170 == 0) = false := beq_eq_false_iff_ne.mpr c51
                          have c51b1 : (t170 != 0) = true := bne_iff_ne.mpr c51
                          obtain rfl := Option.some.inj H
                          go_wp2_with (first | ((with_reducible refine gate_callee (f := 14) rfl ?_); refine goesL_ (some 81) rfl rfl Try.func14 (by kernel_rfl) rfl #[.slice A0 l0.length c0, .int .i64 a1, .bool a2] rfl (by (try simp only [List.map_toArray, List.map_cons, List.map_nil]); first | done | rfl | (simp only [List.length_drop, List.length_take]; rfl)) ?_; (with_reducible refine (quoinlaw08_ends.calls kj15 _ _ l0 a1 a2 true _ ?side1 ?side2 A48.out).mono ?_); (case side1 => repeat (first | exact (Kd.C_below HR0.out HB.out) | (with_reducible refine Kd.C_alloc ?_ _) | (with_reducible refine Kd.C_drewN ?_ _) | (with_reducible refine Kd.C_drew ?_))); (case side2 => exact HC0.out); rintro e w' ⟨rfl, ⟨nd, rfl⟩⟩; refine ⟨_, rfl, ?_⟩; (try (rw [drewN_self wc]; generalize hq_ : World.drewN wc _ = wc; have n0_ : Aside0 (Below w.heap.size w wc) := ⟨by rw [← hq_]; exact (by repeat (first | (with_reducible first | exact HB.out | apply below_alloc | apply pw_below_drewN | apply below_drew1) | exact HB.out))⟩; clear HB hq_; have HB := n0_; clear n0_))) | ((with_reducible refine gate_callee (f := 10) rfl ?_); refine goesL_ (some 86) rfl rfl Try.func10 (by kernel_rfl) rfl #[.slice A0 l0.length c0, .int .i64 a1, .int .i64 1, .string x9_9] rfl (by (try simp only [List.map_toArray, List.map_cons, List.map_nil]); first | done | rfl | (simp only [List.length_drop, List.length_take]; rfl)) ?_; (with_reducible refine (word_Move.calls _ _ l0 a1 1 x9_9 t167 t168 t169 t170 _ ?side1 ?side2 A50.out).mono ?_); (case side1 => repeat (first | exact (Kd.C_below HR0.out HB.out) | (with_reducible refine Kd.C_alloc ?_ _) | (with_reducible refine Kd.C_drewN ?_ _) | (with_reducible refine Kd.C_drew ?_))); (case side2 => exact HC0.out); rintro e w78 ⟨rfl, hb⟩; refine ⟨_, rfl, ?_⟩; have n0_ := Aside0.mk (below_step (by repeat (first | (with_reducible first | exact HB.out | apply below_alloc | apply pw_below_drewN | apply below_drew1) | exact HB.out)) hb); clear HB; have HB := n0_; clear n0_; (try clear hb); (try clear hb2); (try clear hk); (try clear hi)) | ((with_reducible refine gate_dst (N := 15) rfl ?_); (try (refine gate_guard (by rfl) ?_; dsimp only)); refine box_event ?hg (N := 15) ?hd (cs := #[.int .i64 0, .int .i64 0, .int .i64 0]) (t := 27) ?hr ?_; (case hd => rfl); (case hg => rfl); (case hr => first | (go_simp; done) | (go_simp; rfl)); intro gb171 hg w79 hbox hb; have n0_ := Aside0.mk (below_step (by repeat (first | (with_reducible first | exact HB.out | apply below_alloc | apply pw_below_drewN | apply below_drew1) | exact HB.out)) hb); have n1_ := Aside0.mk (hbox); have n2_ := Aside0.mk ((by rw [hg]; exact (below_size (by repeat (first | (with_reducible first | exact HB.out | apply below_alloc | apply pw_below_drewN | apply below_drew1) | exact HB.out))) : w.heap.size ≤ gb171)); have n3_ := Aside0.mk ((by rw [hg]; exact (below_size (by repeat (first | (with_reducible first | exact HB.out | apply below_alloc | apply pw_below_drewN | apply below_drew1) | exact HB.out))) : w.heap.size ≤ gb171)); clear HB; have HB := n0_; have BK171 := n1_; have GW171 := n2_; have GE171 := n3_; clear n0_ n1_ n2_ n3_; clear hb hbox hg; have hcz80_0 : w79.cell? ⟨gb171, 0, none⟩ = some (.int .i64 0) := (blk_cell BK171.out 0).trans rfl; have hcz80_1 : w79.cell? ⟨gb171, 1, none⟩ = some (.int .i64 0) := (blk_cell BK171.out 1).trans rfl; have hcz80_2 : w79.cell? ⟨gb171, 2, none⟩ = some (.int .i64 0) := (blk_cell BK171.out 2).trans rfl; have hfz80_0 := blk_frozen BK171.out 0; have hfz80_1 := blk_frozen BK171.out 1; have hfz80_2 := blk_frozen BK171.out 2))
                          go_ret
                          exact ⟨by first | rfl | (simp [errW_none, errW_some] <;> rfl) | (simp [*, errW_none, errW_some] <;> rfl), by repeat (first | (with_reducible first | exact HB.out | apply below_alloc | apply pw_below_drewN | apply below_drew1 | refine below_set ?_ GE171.out) | exact HB.out)⟩
                      · replace c49 := Bool.eq_false_iff.mpr c49
                        subst c49
                        have H1 : (some true) = some r := by rw [if_neg (show ¬ (false = true) by decide)] at H; exact H
                        clear H
                        have H := H1
                        clear H1
                        obtain rfl := Option.some.inj H
                        go_wp2_with (first | ((with_reducible refine gate_callee (f := 14) rfl ?_); refine goesL_ (some 81) rfl rfl Try.func14 (by kernel_rfl) rfl #[.slice A0 l0.length c0, .int .i64 a1, .bool a2] rfl (by (try simp only [List.map_toArray, List.map_cons, List.map_nil]); first | done | rfl | (simp only [List.length_drop, List.length_take]; rfl)) ?_; (with_reducible refine (quoinlaw08_ends.calls kj15 _ _ l0 a1 a2 false _ ?side1 ?side2 A48.out).mono ?_); (case side1 => repeat (first | exact (Kd.C_below HR0.out HB.out) | (with_reducible refine Kd.C_alloc ?_ _) | (with_reducible refine Kd.C_drewN ?_ _) | (with_reducible refine Kd.C_drew ?_))); (case side2 => exact HC0.out); rintro e w' ⟨rfl, ⟨nd, rfl⟩⟩; refine ⟨_, rfl, ?_⟩))
                        go_ret
                        exact ⟨by first | rfl | (simp [errW_none, errW_some] <;> rfl) | (simp [*, errW_none, errW_some] <;> rfl), by repeat (first | (with_reducible first | exact HB.out | apply below_alloc | apply pw_below_drewN | apply below_drew1) | exact HB.out)⟩
  · replace c5 := Bool.eq_false_iff.mpr c5
    subst c5
    have H1 : (some false) = some r := by rw [if_neg (show ¬ (false = true) by decide)] at H; exact H
    clear H
    have H := H1
    clear H1
    obtain rfl := Option.some.inj H
    go_enter Try.func6, Try.ntmps6
    go_wp2_with (first | ((with_reducible refine gate_callee (f := 8) rfl ?_); refine goesL_ (some 20) rfl rfl Try.func8 (by kernel_rfl) rfl #[] rfl (by (try simp only [List.map_toArray, List.map_cons, List.map_nil]); first | done | rfl | (simp only [List.length_drop, List.length_take]; rfl)) ?_; (with_reducible refine (quoinlaw08_alive.calls  false _ A4.out).mono ?_); rintro e w81 ⟨rfl, hb⟩; refine ⟨_, rfl, ?_⟩; have n0_ := Aside0.mk (below_step (by repeat (first | (with_reducible first | exact HB.out | apply below_alloc | apply pw_below_drewN | apply below_drew1) | exact HB.out)) hb); clear HB; have HB := n0_; clear n0_; (try clear hb); (try clear hb2); (try clear hk); (try clear hi)))
    go_ret
    exact ⟨by first | rfl | (simp [errW_none, errW_some] <;> rfl) | (simp [*, errW_none, errW_some] <;> rfl), by repeat (first | (with_reducible first | exact HB.out | apply below_alloc | apply pw_below_drewN | apply below_drew1) | exact HB.out)⟩

/-- THE ONE PURE STATEMENT of quoinlaw08_WordBack: yours. -/
def quoinlaw08_WordBack.Pure : Prop := ∀ (l0 : List Int) (a1 : Int) (a2 : Bool), l0.length ≤ maxLen → l0.length * 1 ≤ 140737488351232 → (∀ x ∈ l0, (Lit.int .u8 x).wf = true) → (Lit.int .i64 a1).wf = true → ∃ k, quoinlaw08_WordBack.f k l0 a1 a2 = some true
theorem quoinlaw08_WordBack.walk (P : quoinlaw08_WordBack.Pure) (a0 : Option Addr) (len0 cap0 : Nat) (z0 : List Int) (a1 : Int) (a2 : Bool) (w : World) (w0 : (a0 = none ∧ len0 = 0 ∧ cap0 = 0 ∧ z0 = []) ∨ ∃ x, a0 = some x ∧ len0 ≤ cap0 ∧ cap0 ≤ maxLen ∧ z0.length = cap0 ∧ (∀ i, i < z0.length → w.cell? (x.add i) = some (.int .u8 (z0.getD i 0))) ∧ ∀ n ∈ z0, (Lit.int .u8 n).wf = true) (y0 : len0 * 1 ≤ 140737488351232) (w1 : (Lit.int .i64 a1).wf = true) :
    Calls Try.prog 6 #[.slice a0 len0 cap0, .int .i64 a1, .bool a2] w fun e w' => e = .returned (.bool true) ∧ Below w.heap.size w w' := by
  obtain ⟨l0, rfl, hr0, hm0, hw0, hc0⟩ := ReadsInt.ofRowC w0
  obtain ⟨k, h⟩ := P l0 a1 a2 hm0 y0 hw0 w1
  refine (quoinlaw08_WordBack.calls k _ _ l0 a1 a2 true w (Kd.C_of_reads (d := (0 : Int)) (h1 := fun _ => rfl) hr0) hc0 h).mono ?_
  rintro e w' ⟨rfl, hd⟩
  exact ⟨rfl, hd⟩

end Go.Proofs.Ytghoeadmimgfnaa.PWb
