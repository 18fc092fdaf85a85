-- written by a program of this session (wip/tools/xprint.py)
import Derived.Test.YtbklmdgmgffjeaaPBlx0
import Derived.Test.YtbklmdgmgffjeaaPBlx2
namespace Go.Proofs.Ytbklmdgmgffjeaa.PBl
open Go.RowKit Go.Proofs.YtbklmdgmgffjeaaW.PrintWords Go.Proofs.YtbklmdgmgffjeaaW.PrintLast Go.Proofs.YtbklmdgmgffjeaaW.PrintMore
attribute [local go_sem] max2_int min2_int max_two min_two max_three min_three max_four min_four   -- for this text's walks alone
set_option linter.unusedVariables false
set_option linter.unusedSimpArgs false

/-! ### block_sentences: function 33 -/
mutual
def block_sentences.l0 : Nat → List Int → List Int → Bool → Bool → Bool → Bool → List Int → Int → Int → Option (List Int)
  | 0, _, _, _, _, _, _, _, _, _ => none
  | k + 1, x0, x3, x4, x5, x6, x7, x12, x13, x14 => if x14 < x13 then (if 0 ≤ x14 then (if x14 < (x12.length : Int) then ((block_blank.f k (rd x12 x14)).bind fun t110 => (if t110 = true then ((block_empty.f x0 x14).bind fun t111 => (if t111 = true then (if x14 = 0 then (if x3.length < 17592186044416 then (block_sentences.l0 k x0 (x3 ++ [x14]) x4 x5 true true x12 x13 (wrap64 (x14 + 1))) else (none)) else ((block_empty.f x0 (wrap64 (x14 - 1))).bind fun t115 => (if t115 = true then (block_sentences.l0 k x0 x3 x4 x5 true true x12 x13 (wrap64 (x14 + 1))) else (if x3.length < 17592186044416 then (block_sentences.l0 k x0 (x3 ++ [x14]) x4 x5 true true x12 x13 (wrap64 (x14 + 1))) else (none))))) else (block_sentences.l0 k x0 x3 x4 x5 true x7 x12 x13 (wrap64 (x14 + 1))))) else (if x4 = true then (block_sentences.j1 k x0 x3 x5 x6 x14 (rd x12 x14) x12 x13 x14 true) else (if x6 = true then (if x5 = true then (block_sentences.j1 k x0 x3 x5 x6 x14 (rd x12 x14) x12 x13 x14 true) else (block_sentences.j1 k x0 x3 x5 x6 x14 (rd x12 x14) x12 x13 x14 x7)) else (block_sentences.j1 k x0 x3 x5 x6 x14 (rd x12 x14) x12 x13 x14 false))))) else (none)) else (none)) else ((block_empty.f x0 (x0.length : Int)).bind fun t126 => (if t126 = true then (if (x0.length : Int) = 0 then (if x3.length < 17592186044416 then (some (x3 ++ [(x0.length : Int)])) else (none)) else ((block_empty.f x0 (wrap64 ((x0.length : Int) - 1))).bind fun t130 => (if t130 = true then (some x3) else (if x3.length < 17592186044416 then (some (x3 ++ [(x0.length : Int)])) else (none))))) else (some x3)))
def block_sentences.j1 : Nat → List Int → List Int → Bool → Bool → Int → Int → List Int → Int → Int → Bool → Option (List Int)
  | 0, _, _, _, _, _, _, _, _, _, _ => none
  | k + 1, x0, x3, x5, x6, x8, x9, x12, x13, x14, x46 => if x46 = true then (if x3.length < 17592186044416 then ((some (x3 ++ [x8] : List Int)).bind fun y119 => ((strings_IndexByte.f (⟨#[41, 93, 34, 39]⟩ : ByteArray) x9).bind fun t122 => ((strings_IndexByte.f (⟨#[46, 33, 63]⟩ : ByteArray) x9).bind fun t123 => (if t123 ≥ 0 then (block_sentences.l0 k x0 y119 false true false false x12 x13 (wrap64 (x14 + 1))) else (if t122 ≥ 0 then (if x5 = true then (block_sentences.l0 k x0 y119 false (!x6) false false x12 x13 (wrap64 (x14 + 1))) else (block_sentences.l0 k x0 y119 false false false false x12 x13 (wrap64 (x14 + 1)))) else (block_sentences.l0 k x0 y119 false false false false x12 x13 (wrap64 (x14 + 1)))))))) else (none)) else ((strings_IndexByte.f (⟨#[41, 93, 34, 39]⟩ : ByteArray) x9).bind fun t124 => ((strings_IndexByte.f (⟨#[46, 33, 63]⟩ : ByteArray) x9).bind fun t125 => (if t125 ≥ 0 then (block_sentences.l0 k x0 x3 false true false false x12 x13 (wrap64 (x14 + 1))) else (if t124 ≥ 0 then (if x5 = true then (block_sentences.l0 k x0 x3 false (!x6) false false x12 x13 (wrap64 (x14 + 1))) else (block_sentences.l0 k x0 x3 false false false false x12 x13 (wrap64 (x14 + 1)))) else (block_sentences.l0 k x0 x3 false false false false x12 x13 (wrap64 (x14 + 1)))))))
end
def block_sentences.f (k : Nat) (l0 : List Int) : Option (List Int) := block_sentences.l0 k l0 ([] : List Int) true false false false l0 (l0.length : Int) 0
theorem block_sentences.mono_l : ∀ k, (∀ y0 y1 y2 y3 y4 y5 y6 y7 y8, LeO (block_sentences.l0 k y0 y1 y2 y3 y4 y5 y6 y7 y8) (block_sentences.l0 (k + 1) y0 y1 y2 y3 y4 y5 y6 y7 y8)) ∧ (∀ y0 y1 y2 y3 y4 y5 y6 y7 y8 y9, LeO (block_sentences.j1 k y0 y1 y2 y3 y4 y5 y6 y7 y8 y9) (block_sentences.j1 (k + 1) y0 y1 y2 y3 y4 y5 y6 y7 y8 y9))
  | 0 => ⟨fun _ _ _ _ _ _ _ _ _ r h => by simp [block_sentences.l0] at h, fun _ _ _ _ _ _ _ _ _ _ r h => by simp [block_sentences.j1] at h⟩
  | k + 1 => by
    obtain ⟨ih0, ih1⟩ := block_sentences.mono_l k
    refine ⟨?_, ?_⟩
    · intro y0 y1 y2 y3 y4 y5 y6 y7 y8
      unfold block_sentences.l0
      repeat' first
      | (with_reducible exact ih0 _ _ _ _ _ _ _ _ _)
      | (with_reducible exact ih1 _ _ _ _ _ _ _ _ _ _)
      | (with_reducible exact block_blank.mono _ _)
      | (with_reducible exact LeO.refl _)
      | (with_reducible exact LeO.none _)
      | (with_reducible refine LeO.ite ?_ ?_)
      | (with_reducible refine LeO.bind ?_ (fun _ => ?_))
      | exact ih0 _ _ _ _ _ _ _ _ _
      | exact ih1 _ _ _ _ _ _ _ _ _ _
      | exact block_blank.mono _ _
      | exact LeO.none _
      | refine LeO.ite ?_ ?_
      | refine LeO.bind ?_ (fun _ => ?_)
    · intro y0 y1 y2 y3 y4 y5 y6 y7 y8 y9
      unfold block_sentences.j1
      repeat' first
      | (with_reducible exact ih0 _ _ _ _ _ _ _ _ _)
      | (with_reducible exact ih1 _ _ _ _ _ _ _ _ _ _)
      | (with_reducible exact block_blank.mono _ _)
      | (with_reducible exact LeO.refl _)
      | (with_reducible exact LeO.none _)
      | (with_reducible refine LeO.ite ?_ ?_)
      | (with_reducible refine LeO.bind ?_ (fun _ => ?_))
      | exact ih0 _ _ _ _ _ _ _ _ _
      | exact ih1 _ _ _ _ _ _ _ _ _ _
      | exact block_blank.mono _ _
      | exact LeO.none _
      | refine LeO.ite ?_ ?_
      | refine LeO.bind ?_ (fun _ => ?_)
theorem block_sentences.mono : ∀ a0 k, LeO (block_sentences.f k a0) (block_sentences.f (k + 1) a0) := by
  intro a0 k
  obtain ⟨ih0, ih1⟩ := block_sentences.mono_l k
  unfold block_sentences.f
  repeat' first
      | (with_reducible exact ih0 _ _ _ _ _ _ _ _ _)
      | (with_reducible exact ih1 _ _ _ _ _ _ _ _ _ _)
      | (with_reducible exact block_blank.mono _ _)
      | (with_reducible exact LeO.refl _)
      | (with_reducible exact LeO.none _)
      | (with_reducible refine LeO.ite ?_ ?_)
      | (with_reducible refine LeO.bind ?_ (fun _ => ?_))
      | exact ih0 _ _ _ _ _ _ _ _ _
      | exact ih1 _ _ _ _ _ _ _ _ _ _
      | exact block_blank.mono _ _
      | exact LeO.none _
      | refine LeO.ite ?_ ?_
      | refine LeO.bind ?_ (fun _ => ?_)
set_option maxHeartbeats 8000000 in
set_option maxRecDepth 100000 in
theorem block_sentences.calls (k : Nat) (A0 : Option Addr) (c0 : Nat) (l0 : List Int) (r : List Int) (w : World) (hr0 : Kd.C (Kd.int .u8) w A0 l0.length l0) (hc0 : l0.length ≤ c0) (h : block_sentences.f k l0 = some r) :
    Calls Try.prog 33 #[.slice A0 l0.length c0] w fun e w' => ∃ v0_ : Value, e = .returned (v0_) ∧ Kd.R (Kd.int .i64) 3 w' w.heap.size (fun _ => True) v0_ r ∧ Below w.heap.size w w' := by
  have HR0 := Aside0.mk hr0
  have HC0 := Aside0.mk hc0
  clear hr0 hc0
  have HB := Aside0.mk (Below.refl w.heap.size w)
  have H : (block_sentences.l0 k l0 ([] : List Int) true false false false l0 (l0.length : Int) 0) = some r := h
  clear h
  have H' := Aside0.mk H
  clear H
  go_enter Try.func33, Try.ntmps33
  go_wp2
  go_loopg [3, 4, 5, 6, 7, 14] k (fun kq v3 v4 v5 v6 v7 v14 w' => ∃ (x3_1 : List Int) (x4_1 : Bool) (x5_1 : Bool) (x6_1 : Bool) (x7_1 : Bool) (x14_1 : Int), v4 = .bool x4_1 ∧ v5 = .bool x5_1 ∧ v6 = .bool x6_1 ∧ v7 = .bool x7_1 ∧ v14 = .int .i64 x14_1 ∧ Aside0 (block_sentences.l0 kq l0 x3_1 x4_1 x5_1 x6_1 x7_1 l0 (l0.length : Int) x14_1 = some r) ∧ Aside0 (kq ≤ k) ∧ Aside0 (Kd.R (Kd.int .i64) 3 w' w.heap.size (fun _ => True) v3 x3_1) ∧ Aside0 (Below w.heap.size w w'))
  case atStart => exact ⟨(([] : List Int)), (true), (false), (false), (false), (0), (by first | rfl | (simp; done) | (simp [*]; done)), (by first | rfl | (simp; done) | (simp [*]; done)), (by first | rfl | (simp; done) | (simp [*]; done)), (by first | rfl | (simp; done) | (simp [*]; done)), (by first | rfl | (simp; done) | (simp [*]; done)), H', ⟨Nat.le_refl _⟩, ⟨by first | exact Kd.R_nil _ _ _ _ _ | exact Kd.N_nil _ _ _ _ _ | exact Kd.V_nil _ _ _ _ _ | exact Kd.Q_nil _ _ _ _ _ | exact Kd.S_nil _ _ _ _ _⟩, ⟨by repeat (first | (with_reducible first | exact HB.out | apply below_alloc | apply pw_below_drewN | apply below_drew1) | exact HB.out)⟩⟩
  case round =>
    clear H'
    obtain ⟨x3_1, x4_1, x5_1, x6_1, x7_1, x14_1, rfl, rfl, rfl, rfl, rfl, HA, HK1, HO_3, HB⟩ := hrel
    cases gk with
    | zero => exact absurd HA.out (by simp [block_sentences.l0])
    | succ k1 =>
      have H := HA.out
      clear HA
      simp only [block_sentences.l0] at H
      by_cases c2 : x14_1 < (l0.length : Int)
      · rw [if_pos c2] at H
        have c2b0 : decide (x14_1 < (l0.length : Int)) = true := decide_eq_true c2
        clear c2
        by_cases c3 : 0 ≤ x14_1
        · rw [if_pos c3] at H
          have c3b0 : decide (0 ≤ x14_1) = true := decide_eq_true c3
          clear c3
          by_cases c4 : x14_1 < (l0.length : Int)
          · rw [if_pos c4] at H
            have c4b0 : decide (x14_1 < (l0.length : Int)) = true := decide_eq_true c4
            clear c4
            replace H := Option.bind_eq_some_iff.mp H
            obtain ⟨t110, A50, H⟩ := H
            replace H : (if t110 = true then ((block_empty.f l0 x14_1).bind fun t111 => (if t111 = true then (if x14_1 = 0 then (if x3_1.length < 17592186044416 then (block_sentences.l0 k1 l0 (x3_1 ++ [x14_1]) x4_1 x5_1 true true l0 (l0.length : Int) (wrap64 (x14_1 + 1))) else (none)) else ((block_empty.f l0 (wrap64 (x14_1 - 1))).bind fun t115 => (if t115 = true then (block_sentences.l0 k1 l0 x3_1 x4_1 x5_1 true true l0 (l0.length : Int) (wrap64 (x14_1 + 1))) else (if x3_1.length < 17592186044416 then (block_sentences.l0 k1 l0 (x3_1 ++ [x14_1]) x4_1 x5_1 true true l0 (l0.length : Int) (wrap64 (x14_1 + 1))) else (none))))) else (block_sentences.l0 k1 l0 x3_1 x4_1 x5_1 true x7_1 l0 (l0.length : Int) (wrap64 (x14_1 + 1))))) else (if x4_1 = true then (block_sentences.j1 k1 l0 x3_1 x5_1 x6_1 x14_1 (rd l0 x14_1) l0 (l0.length : Int) x14_1 true) else (if x6_1 = true then (if x5_1 = true then (block_sentences.j1 k1 l0 x3_1 x5_1 x6_1 x14_1 (rd l0 x14_1) l0 (l0.length : Int) x14_1 true) else (block_sentences.j1 k1 l0 x3_1 x5_1 x6_1 x14_1 (rd l0 x14_1) l0 (l0.length : Int) x14_1 x7_1)) else (block_sentences.j1 k1 l0 x3_1 x5_1 x6_1 x14_1 (rd l0 x14_1) l0 (l0.length : Int) x14_1 false)))) = some r := H
            have A5 := Aside0.mk A50
            clear A50
            by_cases c6 : t110 = true
            · subst c6
              have H1 : ((block_empty.f l0 x14_1).bind fun t111 => (if t111 = true then (if x14_1 = 0 then (if x3_1.length < 17592186044416 then (block_sentences.l0 k1 l0 (x3_1 ++ [x14_1]) x4_1 x5_1 true true l0 (l0.length : Int) (wrap64 (x14_1 + 1))) else (none)) else ((block_empty.f l0 (wrap64 (x14_1 - 1))).bind fun t115 => (if t115 = true then (block_sentences.l0 k1 l0 x3_1 x4_1 x5_1 true true l0 (l0.length : Int) (wrap64 (x14_1 + 1))) else (if x3_1.length < 17592186044416 then (block_sentences.l0 k1 l0 (x3_1 ++ [x14_1]) x4_1 x5_1 true true l0 (l0.length : Int) (wrap64 (x14_1 + 1))) else (none))))) else (block_sentences.l0 k1 l0 x3_1 x4_1 x5_1 true x7_1 l0 (l0.length : Int) (wrap64 (x14_1 + 1))))) = some r := by rw [if_pos rfl] at H; exact H
              clear H
              have H := H1
              clear H1
              replace H := Option.bind_eq_some_iff.mp H
              obtain ⟨t111, A70, H⟩ := H
              replace H : (if t111 = true then (if x14_1 = 0 then (if x3_1.length < 17592186044416 then (block_sentences.l0 k1 l0 (x3_1 ++ [x14_1]) x4_1 x5_1 true true l0 (l0.length : Int) (wrap64 (x14_1 + 1))) else (none)) else ((block_empty.f l0 (wrap64 (x14_1 - 1))).bind fun t115 => (if t115 = true then (block_sentences.l0 k1 l0 x3_1 x4_1 x5_1 true true l0 (l0.length : Int) (wrap64 (x14_1 + 1))) else (if x3_1.length < 17592186044416 then (block_sentences.l0 k1 l0 (x3_1 ++ [x14_1]) x4_1 x5_1 true true l0 (l0.length : Int) (wrap64 (x14_1 + 1))) else (none))))) else (block_sentences.l0 k1 l0 x3_1 x4_1 x5_1 true x7_1 l0 (l0.length : Int) (wrap64 (x14_1 + 1)))) = some r := H
              have A7 := Aside0.mk A70
              clear A70
              by_cases c8 : t111 = true
              · subst c8
                have H1 : (if x14_1 = 0 then (if x3_1.length < 17592186044416 then (block_sentences.l0 k1 l0 (x3_1 ++ [x14_1]) x4_1 x5_1 true true l0 (l0.length : Int) (wrap64 (x14_1 + 1))) else (none)) else ((block_empty.f l0 (wrap64 (x14_1 - 1))).bind fun t115 => (if t115 = true then (block_sentences.l0 k1 l0 x3_1 x4_1 x5_1 true true l0 (l0.length : Int) (wrap64 (x14_1 + 1))) else (if x3_1.length < 17592186044416 then (block_sentences.l0 k1 l0 (x3_1 ++ [x14_1]) x4_1 x5_1 true true l0 (l0.length : Int) (wrap64 (x14_1 + 1))) else (none))))) = some r := by rw [if_pos rfl] at H; exact H
                clear H
                have H := H1
                clear H1
                by_cases c9 : x14_1 = 0
                · rw [if_pos c9] at H
                  have c9b0 : (x14_1 == 0) = true := beq_iff_eq.mpr c9
                  have c9b1 : (x14_1 != 0) = false := bne_eq_false_iff_eq.mpr c9
                  clear c9
                  by_cases c10 : x3_1.length < 17592186044416
                  · rw [if_pos c10] at H
                    have LMc10 := Aside0.mk c10
                    clear c10
                    obtain ⟨y112, hy112⟩ : ∃ y_ : List Int, y_ = (x3_1 ++ [x14_1]) := ⟨_, rfl⟩
                    replace H : (block_sentences.l0 k1 l0 y112 x4_1 x5_1 true true l0 (l0.length : Int) (wrap64 (x14_1 + 1))) = some r := by first | (rw [hy112]; with_reducible exact H) | (have H2_ := (Option.bind_some _ _).symm.trans H; rw [hy112]; with_reducible exact H2_) | (have H2_ := (Option.bind_some _ _).symm.trans H; with_reducible exact H2_) | with_reducible exact H | (rw [hy112]; exact H) | exact H
                    have Ny112 := Aside0.mk hy112
                    clear hy112
                    have H' := Aside0.mk H
                    clear H
                    have p109 : 0 ≤ (x14_1 : Int) := of_decide_eq_true (by first | (with_reducible assumption) | assumption)
                    have q109 : x14_1 < (l0.length : Int) := of_decide_eq_true (by first | (with_reducible assumption) | assumption)
                    obtain ⟨ad109, e109, hx109_0⟩ := Kd.at_int HR0.out x14_1 p109 q109
                    cases e109
                    replace hx109_0 := (HB.out.cell (World.block_lt_of_cell? w _ hx109_0)).trans hx109_0
                    replace p109 := eq_true p109
                    replace q109 := eq_true q109
                    go_wp2_with (first | ((with_reducible refine gate_callee (f := 40) rfl ?_); refine goesL_ (some 20) rfl rfl Try.func40 (by kernel_rfl) rfl #[.int .u8 (rd l0 x14_1)] rfl (by (try simp only [List.map_toArray, List.map_cons, List.map_nil]); first | done | rfl | (simp only [List.length_drop, List.length_take]; rfl)) ?_; (with_reducible refine (block_blank.calls k1 (rd l0 x14_1) true _ A5.out).mono ?_); rintro e w' ⟨rfl, ⟨nd, rfl⟩⟩; refine ⟨_, rfl, ?_⟩) | ((with_reducible refine gate_callee (f := 34) rfl ?_); refine goesL_ (some 23) rfl rfl Try.func34 (by kernel_rfl) rfl #[.slice (some ad109) l0.length c0, .int .i64 x14_1] rfl (by (try simp only [List.map_toArray, List.map_cons, List.map_nil]); first | done | rfl | (simp only [List.length_drop, List.length_take]; rfl)) ?_; (with_reducible refine (block_empty.calls _ _ l0 x14_1 true _ ?side1 ?side2 A7.out).mono ?_); (case side1 => repeat (first | exact (Kd.C_below HR0.out (by repeat (first | (with_reducible first | exact HB.out | apply below_alloc | apply pw_below_drewN | apply below_drew1) | exact HB.out))) | (with_reducible refine Kd.C_alloc ?_ _) | (with_reducible refine Kd.C_drewN ?_ _) | (with_reducible refine Kd.C_drew ?_))); (case side2 => exact HC0.out); rintro e w' ⟨rfl, ⟨nd, rfl⟩⟩; refine ⟨_, rfl, ?_⟩) | ((with_reducible refine gate_builtin (b := .append) (xs := #[.tmp 33, .tmp 35]) rfl ?_); at_builtin; refine Kd.R_append (Kd.int .i64) (w0 := w) w.heap.size rfl (.tmp 33) (.tmp 35) 46 3 (.int .i64 0) 8 rfl Try.underlying46 info3 rfl (by decide) (by omega) u3 x3_1 x14_1 [.int .i64 x14_1] (fun _ => True) (fun _ => False) rfl rfl ?aP (fun _ hk => hk.elim) ?aF ?aO ?aB ?aS ?aL ?_; (case aP => exact rfl); (case aB => exact (by repeat (first | (with_reducible first | exact HB.out | apply below_alloc | apply pw_below_drewN | apply below_drew1) | exact HB.out))); (case aF => exact (fun _ _ => trivial)); (case aO => exact (by (with_reducible repeat (first | apply Kd.R_alloc | apply Kd.R_drewN | apply Kd.R_drew)); exact HO_3.out)); (case aS => exact (below_size (by repeat (first | (with_reducible first | exact HB.out | apply below_alloc | apply pw_below_drewN | apply below_drew1) | exact HB.out)))); (case aL => have := LMc10.out; omega); intro v113 w11 ho hb hg hat; rw [← Ny112.out] at ho; have n0_ := Aside0.mk (hb); have n1_ := Aside0.mk (ho); clear HB; clear HO_3; have HB := n0_; have HO114 := n1_; clear n0_ n1_; clear ho hb hg hat))
                    go_roundg k1
                    case measure => have := HK1.out; omega
                    case rel => exact ⟨(y112), (x4_1), (x5_1), (true), (true), (wrap64 (x14_1 + 1)), (by first | rfl | (simp; done) | (simp [*]; done)), (by first | rfl | (simp; done) | (simp [*]; done)), (by first | rfl | (simp; done) | (simp [*]; done)), (by first | rfl | (simp; done) | (simp [*]; done)), (by first | rfl | (simp; done) | (simp [*]; done)), H', ⟨by have := HK1.out; omega⟩, ⟨by (with_reducible repeat (first | apply Kd.R_alloc | apply Kd.R_drewN | apply Kd.R_drew)); exact HO114.out⟩, ⟨by repeat (first | (with_reducible first | exact HB.out | apply below_alloc | apply pw_below_drewN | apply below_drew1) | exact HB.out)⟩⟩
                  · rw [if_neg c10] at H
                    exact absurd H (by simp)
                · rw [if_neg c9] at H
                  have c9b0 : (x14_1 == 0) = false := beq_eq_false_iff_ne.mpr c9
                  have c9b1 : (x14_1 != 0) = true := bne_iff_ne.mpr c9
                  replace H := Option.bind_eq_some_iff.mp H
                  obtain ⟨t115, A120, H⟩ := H
                  replace H : (if t115 = true then (block_sentences.l0 k1 l0 x3_1 x4_1 x5_1 true true l0 (l0.length : Int) (wrap64 (x14_1 + 1))) else (if x3_1.length < 17592186044416 then (block_sentences.l0 k1 l0 (x3_1 ++ [x14_1]) x4_1 x5_1 true true l0 (l0.length : Int) (wrap64 (x14_1 + 1))) else (none))) = some r := H
                  have A12 := Aside0.mk A120
                  clear A120
                  by_cases c13 : t115 = true
                  · subst c13
                    have H1 : (block_sentences.l0 k1 l0 x3_1 x4_1 x5_1 true true l0 (l0.length : Int) (wrap64 (x14_1 + 1))) = some r := by rw [if_pos rfl] at H; exact H
                    clear H
                    have H := H1
                    clear H1
                    have H' := Aside0.mk H
                    clear H
                    have p109 : 0 ≤ (x14_1 : Int) := of_decide_eq_true (by first | (with_reducible assumption) | assumption)
                    have q109 : x14_1 < (l0.length : Int) := of_decide_eq_true (by first | (with_reducible assumption) | assumption)
                    obtain ⟨ad109, e109, hx109_0⟩ := Kd.at_int HR0.out x14_1 p109 q109
                    cases e109
                    replace hx109_0 := (HB.out.cell (World.block_lt_of_cell? w _ hx109_0)).trans hx109_0
                    replace p109 := eq_true p109
                    replace q109 := eq_true q109
                    go_wp2_with (first | ((with_reducible refine gate_callee (f := 40) rfl ?_); refine goesL_ (some 20) rfl rfl Try.func40 (by kernel_rfl) rfl #[.int .u8 (rd l0 x14_1)] rfl (by (try simp only [List.map_toArray, List.map_cons, List.map_nil]); first | done | rfl | (simp only [List.length_drop, List.length_take]; rfl)) ?_; (with_reducible refine (block_blank.calls k1 (rd l0 x14_1) true _ A5.out).mono ?_); rintro e w' ⟨rfl, ⟨nd, rfl⟩⟩; refine ⟨_, rfl, ?_⟩) | ((with_reducible refine gate_callee (f := 34) rfl ?_); refine goesL_ (some 23) rfl rfl Try.func34 (by kernel_rfl) rfl #[.slice (some ad109) l0.length c0, .int .i64 x14_1] rfl (by (try simp only [List.map_toArray, List.map_cons, List.map_nil]); first | done | rfl | (simp only [List.length_drop, List.length_take]; rfl)) ?_; (with_reducible refine (block_empty.calls _ _ l0 x14_1 true _ ?side1 ?side2 A7.out).mono ?_); (case side1 => repeat (first | exact (Kd.C_below HR0.out (by repeat (first | (with_reducible first | exact HB.out | apply below_alloc | apply pw_below_drewN | apply below_drew1) | exact HB.out))) | (with_reducible refine Kd.C_alloc ?_ _) | (with_reducible refine Kd.C_drewN ?_ _) | (with_reducible refine Kd.C_drew ?_))); (case side2 => exact HC0.out); rintro e w' ⟨rfl, ⟨nd, rfl⟩⟩; refine ⟨_, rfl, ?_⟩) | (go_at_call 34; (with_reducible refine (block_empty.calls _ _ l0 (wrap64 (x14_1 - 1)) true _ ?side1 ?side2 A12.out).mono ?_); (case side1 => repeat (first | exact (Kd.C_below HR0.out (by repeat (first | (with_reducible first | exact HB.out | apply below_alloc | apply pw_below_drewN | apply below_drew1) | exact HB.out))) | (with_reducible refine Kd.C_alloc ?_ _) | (with_reducible refine Kd.C_drewN ?_ _) | (with_reducible refine Kd.C_drew ?_))); (case side2 => exact HC0.out); rintro e w' ⟨rfl, ⟨nd, rfl⟩⟩))
                    go_roundg k1
                    case measure => have := HK1.out; omega
                    case rel => exact ⟨(x3_1), (x4_1), (x5_1), (true), (true), (wrap64 (x14_1 + 1)), (by first | rfl | (simp; done) | (simp [*]; done)), (by first | rfl | (simp; done) | (simp [*]; done)), (by first | rfl | (simp; done) | (simp [*]; done)), (by first | rfl | (simp; done) | (simp [*]; done)), (by first | rfl | (simp; done) | (simp [*]; done)), H', ⟨by have := HK1.out; omega⟩, ⟨by (with_reducible repeat (first | apply Kd.R_alloc | apply Kd.R_drewN | apply Kd.R_drew)); exact HO_3.out⟩, ⟨by repeat (first | (with_reducible first | exact HB.out | apply below_alloc | apply pw_below_drewN | apply below_drew1) | exact HB.out)⟩⟩
                  · replace c13 := Bool.eq_false_iff.mpr c13
                    subst c13
                    have H1 : (if x3_1.length < 17592186044416 then (block_sentences.l0 k1 l0 (x3_1 ++ [x14_1]) x4_1 x5_1 true true l0 (l0.length : Int) (wrap64 (x14_1 + 1))) else (none)) = some r := by rw [if_neg (show ¬ (false = true) by decide)] at H; exact H
                    clear H
                    have H := H1
                    clear H1
                    by_cases c14 : x3_1.length < 17592186044416
                    · rw [if_pos c14] at H
                      have LMc14 := Aside0.mk c14
                      clear c14
                      obtain ⟨y116, hy116⟩ : ∃ y_ : List Int, y_ = (x3_1 ++ [x14_1]) := ⟨_, rfl⟩
                      replace H : (block_sentences.l0 k1 l0 y116 x4_1 x5_1 true true l0 (l0.length : Int) (wrap64 (x14_1 + 1))) = some r := by first | (rw [hy116]; with_reducible exact H) | (have H2_ := (Option.bind_some _ _).symm.trans H; rw [hy116]; with_reducible exact H2_) | (have H2_ := (Option.bind_some _ _).symm.trans H; with_reducible exact H2_) | with_reducible exact H | (rw [hy116]; exact H) | exact H
                      have Ny116 := Aside0.mk hy116
                      clear hy116
                      have H' := Aside0.mk H
                      clear H
                      have p109 : 0 ≤ (x14_1 : Int) := of_decide_eq_true (by first | (with_reducible assumption) | assumption)
                      have q109 : x14_1 < (l0.length : Int) := of_decide_eq_true (by first | (with_reducible assumption) | assumption)
                      obtain ⟨ad109, e109, hx109_0⟩ := Kd.at_int HR0.out x14_1 p109 q109
                      cases e109
                      replace hx109_0 := (HB.out.cell (World.block_lt_of_cell? w _ hx109_0)).trans hx109_0
                      replace p109 := eq_true p109
                      replace q109 := eq_true q109
                      go_wp2_with (first | ((with_reducible refine gate_callee (f := 40) rfl ?_); refine goesL_ (some 20) rfl rfl Try.func40 (by kernel_rfl) rfl #[.int .u8 (rd l0 x14_1)] rfl (by (try simp only [List.map_toArray, List.map_cons, List.map_nil]); first | done | rfl | (simp only [List.length_drop, List.length_take]; rfl)) ?_; (with_reducible refine (block_blank.calls k1 (rd l0 x14_1) true _ A5.out).mono ?_); rintro e w' ⟨rfl, ⟨nd, rfl⟩⟩; refine ⟨_, rfl, ?_⟩) | ((with_reducible refine gate_callee (f := 34) rfl ?_); refine goesL_ (some 23) rfl rfl Try.func34 (by kernel_rfl) rfl #[.slice (some ad109) l0.length c0, .int .i64 x14_1] rfl (by (try simp only [List.map_toArray, List.map_cons, List.map_nil]); first | done | rfl | (simp only [List.length_drop, List.length_take]; rfl)) ?_; (with_reducible refine (block_empty.calls _ _ l0 x14_1 true _ ?side1 ?side2 A7.out).mono ?_); (case side1 => repeat (first | exact (Kd.C_below HR0.out (by repeat (first | (with_reducible first | exact HB.out | apply below_alloc | apply pw_below_drewN | apply below_drew1) | exact HB.out))) | (with_reducible refine Kd.C_alloc ?_ _) | (with_reducible refine Kd.C_drewN ?_ _) | (with_reducible refine Kd.C_drew ?_))); (case side2 => exact HC0.out); rintro e w' ⟨rfl, ⟨nd, rfl⟩⟩; refine ⟨_, rfl, ?_⟩) | (go_at_call 34; (with_reducible refine (block_empty.calls _ _ l0 (wrap64 (x14_1 - 1)) false _ ?side1 ?side2 A12.out).mono ?_); (case side1 => repeat (first | exact (Kd.C_below HR0.out (by repeat (first | (with_reducible first | exact HB.out | apply below_alloc | apply pw_below_drewN | apply below_drew1) | exact HB.out))) | (with_reducible refine Kd.C_alloc ?_ _) | (with_reducible refine Kd.C_drewN ?_ _) | (with_reducible refine Kd.C_drew ?_))); (case side2 => exact HC0.out); rintro e w' ⟨rfl, ⟨nd, rfl⟩⟩) | ((with_reducible refine gate_builtin (b := .append) (xs := #[.tmp 33, .tmp 35]) rfl ?_); at_builtin; refine Kd.R_append (Kd.int .i64) (w0 := w) w.heap.size rfl (.tmp 33) (.tmp 35) 46 3 (.int .i64 0) 8 rfl Try.underlying46 info3 rfl (by decide) (by omega) u3 x3_1 x14_1 [.int .i64 x14_1] (fun _ => True) (fun _ => False) rfl rfl ?aP (fun _ hk => hk.elim) ?aF ?aO ?aB ?aS ?aL ?_; (case aP => exact rfl); (case aB => exact (by repeat (first | (with_reducible first | exact HB.out | apply below_alloc | apply pw_below_drewN | apply below_drew1) | exact HB.out))); (case aF => exact (fun _ _ => trivial)); (case aO => exact (by (with_reducible repeat (first | apply Kd.R_alloc | apply Kd.R_drewN | apply Kd.R_drew)); exact HO_3.out)); (case aS => exact (below_size (by repeat (first | (with_reducible first | exact HB.out | apply below_alloc | apply pw_below_drewN | apply below_drew1) | exact HB.out)))); (case aL => have := LMc14.out; omega); intro v117 w15 ho hb hg hat; rw [← Ny116.out] at ho; have n0_ := Aside0.mk (hb); have n1_ := Aside0.mk (ho); clear HB; clear HO_3; have HB := n0_; have HO118 := n1_; clear n0_ n1_; clear ho hb hg hat))
                      go_roundg k1
                      case measure => have := HK1.out; omega
                      case rel => exact ⟨(y116), (x4_1), (x5_1), (true), (true), (wrap64 (x14_1 + 1)), (by first | rfl | (simp; done) | (simp [*]; done)), (by first | rfl | (simp; done) | (simp [*]; done)), (by first | rfl | (simp; done) | (simp [*]; done)), (by first | rfl | (simp; done) | (simp [*]; done)), (by first | rfl | (simp; done) | (simp [*]; done)), H', ⟨by have := HK1.out; omega⟩, ⟨by (with_reducible repeat (first | apply Kd.R_alloc | apply Kd.R_drewN | apply Kd.R_drew)); exact HO118.out⟩, ⟨by repeat (first | (with_reducible first | exact HB.out | apply below_alloc | apply pw_below_drewN | apply below_drew1) | exact HB.out)⟩⟩
                    · rw [if_neg c14] at H
                      exact absurd H (by simp)
              · replace c8 := Bool.eq_false_iff.mpr c8
                subst c8
                have H1 : (block_sentences.l0 k1 l0 x3_1 x4_1 x5_1 true x7_1 l0 (l0.length : Int) (wrap64 (x14_1 + 1))) = some r := by rw [if_neg (show ¬ (false = true) by decide)] at H; exact H
                clear H
                have H := H1
                clear H1
                have H' := Aside0.mk H
                clear H
                have p109 : 0 ≤ (x14_1 : Int) := of_decide_eq_true (by first | (with_reducible assumption) | assumption)
                have q109 : x14_1 < (l0.length : Int) := of_decide_eq_true (by first | (with_reducible assumption) | assumption)
                obtain ⟨ad109, e109, hx109_0⟩ := Kd.at_int HR0.out x14_1 p109 q109
                cases e109
                replace hx109_0 := (HB.out.cell (World.block_lt_of_cell? w _ hx109_0)).trans hx109_0
                replace p109 := eq_true p109
                replace q109 := eq_true q109
                go_wp2_with (first | ((with_reducible refine gate_callee (f := 40) rfl ?_); refine goesL_ (some 20) rfl rfl Try.func40 (by kernel_rfl) rfl #[.int .u8 (rd l0 x14_1)] rfl (by (try simp only [List.map_toArray, List.map_cons, List.map_nil]); first | done | rfl | (simp only [List.length_drop, List.length_take]; rfl)) ?_; (with_reducible refine (block_blank.calls k1 (rd l0 x14_1) true _ A5.out).mono ?_); rintro e w' ⟨rfl, ⟨nd, rfl⟩⟩; refine ⟨_, rfl, ?_⟩) | ((with_reducible refine gate_callee (f := 34) rfl ?_); refine goesL_ (some 23) rfl rfl Try.func34 (by kernel_rfl) rfl #[.slice (some ad109) l0.length c0, .int .i64 x14_1] rfl (by (try simp only [List.map_toArray, List.map_cons, List.map_nil]); first | done | rfl | (simp only [List.length_drop, List.length_take]; rfl)) ?_; (with_reducible refine (block_empty.calls _ _ l0 x14_1 false _ ?side1 ?side2 A7.out).mono ?_); (case side1 => repeat (first | exact (Kd.C_below HR0.out (by repeat (first | (with_reducible first | exact HB.out | apply below_alloc | apply pw_below_drewN | apply below_drew1) | exact HB.out))) | (with_reducible refine Kd.C_alloc ?_ _) | (with_reducible refine Kd.C_drewN ?_ _) | (with_reducible refine Kd.C_drew ?_))); (case side2 => exact HC0.out); rintro e w' ⟨rfl, ⟨nd, rfl⟩⟩; refine ⟨_, rfl, ?_⟩))
                go_roundg k1
                case measure => have := HK1.out; omega
                case rel => exact ⟨(x3_1), (x4_1), (x5_1), (true), (x7_1), (wrap64 (x14_1 + 1)), (by first | rfl | (simp; done) | (simp [*]; done)), (by first | rfl | (simp; done) | (simp [*]; done)), (by first | rfl | (simp; done) | (simp [*]; done)), (by first | rfl | (simp; done) | (simp [*]; done)), (by first | rfl | (simp; done) | (simp [*]; done)), H', ⟨by have := HK1.out; omega⟩, ⟨by (with_reducible repeat (first | apply Kd.R_alloc | apply Kd.R_drewN | apply Kd.R_drew)); exact HO_3.out⟩, ⟨by repeat (first | (with_reducible first | exact HB.out | apply below_alloc | apply pw_below_drewN | apply below_drew1) | exact HB.out)⟩⟩
            · replace c6 := Bool.eq_false_iff.mpr c6
              subst c6
              have H1 : (if x4_1 = true then (block_sentences.j1 k1 l0 x3_1 x5_1 x6_1 x14_1 (rd l0 x14_1) l0 (l0.length : Int) x14_1 true) else (if x6_1 = true then (if x5_1 = true then (block_sentences.j1 k1 l0 x3_1 x5_1 x6_1 x14_1 (rd l0 x14_1) l0 (l0.length : Int) x14_1 true) else (block_sentences.j1 k1 l0 x3_1 x5_1 x6_1 x14_1 (rd l0 x14_1) l0 (l0.length : Int) x14_1 x7_1)) else (block_sentences.j1 k1 l0 x3_1 x5_1 x6_1 x14_1 (rd l0 x14_1) l0 (l0.length : Int) x14_1 false))) = some r := by rw [if_neg (show ¬ (false = true) by decide)] at H; exact H
              clear H
              have H := H1
              clear H1
              have HC16 := Aside0.mk H
              clear H
              have p109 : 0 ≤ (x14_1 : Int) := of_decide_eq_true (by first | (with_reducible assumption) | assumption)
              have q109 : x14_1 < (l0.length : Int) := of_decide_eq_true (by first | (with_reducible assumption) | assumption)
              obtain ⟨ad109, e109, hx109_0⟩ := Kd.at_int HR0.out x14_1 p109 q109
              cases e109
              replace hx109_0 := (HB.out.cell (World.block_lt_of_cell? w _ hx109_0)).trans hx109_0
              replace p109 := eq_true p109
              replace q109 := eq_true q109
              go_upto_region 15 with (first | ((with_reducible refine gate_callee (f := 40) rfl ?_); refine goesL_ (some 20) rfl rfl Try.func40 (by kernel_rfl) rfl #[.int .u8 (rd l0 x14_1)] rfl (by (try simp only [List.map_toArray, List.map_cons, List.map_nil]); first | done | rfl | (simp only [List.length_drop, List.length_take]; rfl)) ?_; (with_reducible refine (block_blank.calls k1 (rd l0 x14_1) false _ A5.out).mono ?_); rintro e w' ⟨rfl, ⟨nd, rfl⟩⟩; refine ⟨_, rfl, ?_⟩))
              (try simp only [Act.put, List.setIfInBounds_toArray, List.set_cons_zero, List.set_cons_succ])
              go_cut [46] (fun v46 wc => ∃ (kq : Nat) (x46_15 : Bool), v46 = .bool x46_15 ∧ Aside0 (block_sentences.j1 kq l0 x3_1 x5_1 x6_1 x14_1 (rd l0 x14_1) l0 (l0.length : Int) x14_1 x46_15 = some r) ∧ Aside0 (kq ≤ k1) ∧ Aside0 (Kd.R (Kd.int .i64) 3 wc w.heap.size (fun _ => True) u3 x3_1) ∧ Aside0 (Below w.heap.size w wc))
              case first =>
                have H := HC16.out
                clear HC16
                by_cases c17 : x4_1 = true
                · subst c17
                  have H1 : (block_sentences.j1 k1 l0 x3_1 x5_1 x6_1 x14_1 (rd l0 x14_1) l0 (l0.length : Int) x14_1 true) = some r := by rw [if_pos rfl] at H; exact H
                  clear H
                  have H := H1
                  clear H1
                  have H' := Aside0.mk H
                  clear H
                  go_wp2
                  go_meet
                  case rel => exact ⟨_, (true), (by first | rfl | (simp; done) | (simp [*]; done)), H', ⟨by have := HK1.out; first | omega | exact Nat.le_refl _⟩, ⟨by (with_reducible repeat (first | apply Kd.R_alloc | apply Kd.R_drewN | apply Kd.R_drew)); exact HO_3.out⟩, ⟨by repeat (first | (with_reducible first | exact HB.out | apply below_alloc | apply pw_below_drewN | apply below_drew1) | exact HB.out)⟩⟩
                · replace c17 := Bool.eq_false_iff.mpr c17
                  subst c17
                  have H1 : (if x6_1 = true then (if x5_1 = true then (block_sentences.j1 k1 l0 x3_1 x5_1 x6_1 x14_1 (rd l0 x14_1) l0 (l0.length : Int) x14_1 true) else (block_sentences.j1 k1 l0 x3_1 x5_1 x6_1 x14_1 (rd l0 x14_1) l0 (l0.length : Int) x14_1 x7_1)) else (block_sentences.j1 k1 l0 x3_1 x5_1 x6_1 x14_1 (rd l0 x14_1) l0 (l0.length : Int) x14_1 false)) = some r := by rw [if_neg (show ¬ (false = true) by decide)] at H; exact H
                  clear H
                  have H := H1
                  clear H1
                  by_cases c18 : x6_1 = true
                  · subst c18
                    have H1 : (if x5_1 = true then (block_sentences.j1 k1 l0 x3_1 x5_1 true x14_1 (rd l0 x14_1) l0 (l0.length : Int) x14_1 true) else (block_sentences.j1 k1 l0 x3_1 x5_1 true x14_1 (rd l0 x14_1) l0 (l0.length : Int) x14_1 x7_1)) = some r := by rw [if_pos rfl] at H; exact H
                    clear H
                    have H := H1
                    clear H1
                    by_cases c19 : x5_1 = true
                    · subst c19
                      have H1 : (block_sentences.j1 k1 l0 x3_1 true true x14_1 (rd l0 x14_1) l0 (l0.length : Int) x14_1 true) = some r := by rw [if_pos rfl] at H; exact H
                      clear H
                      have H := H1
                      clear H1
                      have H' := Aside0.mk H
                      clear H
                      go_wp2
                      go_meet
                      case rel => exact ⟨_, (true), (by first | rfl | (simp; done) | (simp [*]; done)), H', ⟨by have := HK1.out; first | omega | exact Nat.le_refl _⟩, ⟨by (with_reducible repeat (first | apply Kd.R_alloc | apply Kd.R_drewN | apply Kd.R_drew)); exact HO_3.out⟩, ⟨by repeat (first | (with_reducible first | exact HB.out | apply below_alloc | apply pw_below_drewN | apply below_drew1) | exact HB.out)⟩⟩
                    · replace c19 := Bool.eq_false_iff.mpr c19
                      subst c19
                      have H1 : (block_sentences.j1 k1 l0 x3_1 false true x14_1 (rd l0 x14_1) l0 (l0.length : Int) x14_1 x7_1) = some r := by rw [if_neg (show ¬ (false = true) by decide)] at H; exact H
                      clear H
                      have H := H1
                      clear H1
                      have H' := Aside0.mk H
                      clear H
                      go_wp2
                      go_meet
                      case rel => exact ⟨_, (x7_1), (by first | rfl | (simp; done) | (simp [*]; done)), H', ⟨by have := HK1.out; first | omega | exact Nat.le_refl _⟩, ⟨by (with_reducible repeat (first | apply Kd.R_alloc | apply Kd.R_drewN | apply Kd.R_drew)); exact HO_3.out⟩, ⟨by repeat (first | (with_reducible first | exact HB.out | apply below_alloc | apply pw_below_drewN | apply below_drew1) | exact HB.out)⟩⟩
                  · replace c18 := Bool.eq_false_iff.mpr c18
                    subst c18
                    have H1 : (block_sentences.j1 k1 l0 x3_1 x5_1 false x14_1 (rd l0 x14_1) l0 (l0.length : Int) x14_1 false) = some r := by rw [if_neg (show ¬ (false = true) by decide)] at H; exact H
                    clear H
                    have H := H1
                    clear H1
                    have H' := Aside0.mk H
                    clear H
                    go_wp2
                    go_meet
                    case rel => exact ⟨_, (false), (by first | rfl | (simp; done) | (simp [*]; done)), H', ⟨by have := HK1.out; first | omega | exact Nat.le_refl _⟩, ⟨by (with_reducible repeat (first | apply Kd.R_alloc | apply Kd.R_drewN | apply Kd.R_drew)); exact HO_3.out⟩, ⟨by repeat (first | (with_reducible first | exact HB.out | apply below_alloc | apply pw_below_drewN | apply below_drew1) | exact HB.out)⟩⟩
              case rest =>
                clear HC16
                try clear c1
                try clear p1
                try clear q1
                try clear hx1
                try clear c2
                try clear c2b0
                try clear p2
                try clear c3
                try clear c3b0
                try clear c4
                try clear c4b0
                try clear c6
                try clear p6
                try clear c8
                try clear c9
                try clear c9b0
                try clear c9b1
                try clear c10
                try clear p10
                try clear q10
                try clear hx10
                try clear c13
                try clear c14
                try clear c17
                try clear c18
                try clear c19
                try clear hx109_0
                try clear p109
                try clear q109
                obtain ⟨kq, x46_15, rfl, HA, HJ15, HO_3, HB⟩ := hcut
                cases kq with
                | zero => exact absurd HA.out (by simp [block_sentences.j1])
                | succ kj15 =>
                  have H := HA.out
                  clear HA
                  simp only [block_sentences.j1] at H
                  by_cases c20 : x46_15 = true
                  · subst c20
                    have H1 : (if x3_1.length < 17592186044416 then ((some (x3_1 ++ [x14_1] : List Int)).bind fun y119 => ((strings_IndexByte.f (⟨#[41, 93, 34, 39]⟩ : ByteArray) (rd l0 x14_1)).bind fun t122 => ((strings_IndexByte.f (⟨#[46, 33, 63]⟩ : ByteArray) (rd l0 x14_1)).bind fun t123 => (if t123 ≥ 0 then (block_sentences.l0 kj15 l0 y119 false true false false l0 (l0.length : Int) (wrap64 (x14_1 + 1))) else (if t122 ≥ 0 then (if x5_1 = true then (block_sentences.l0 kj15 l0 y119 false (!x6_1) false false l0 (l0.length : Int) (wrap64 (x14_1 + 1))) else (block_sentences.l0 kj15 l0 y119 false false false false l0 (l0.length : Int) (wrap64 (x14_1 + 1)))) else (block_sentences.l0 kj15 l0 y119 false false false false l0 (l0.length : Int) (wrap64 (x14_1 + 1)))))))) else (none)) = some r := by rw [if_pos rfl] at H; exact H
                    clear H
                    have H := H1
                    clear H1
                    by_cases c21 : x3_1.length < 17592186044416
                    · rw [if_pos c21] at H
                      have LMc21 := Aside0.mk c21
                      clear c21
                      obtain ⟨y119, hy119⟩ : ∃ y_ : List Int, y_ = (x3_1 ++ [x14_1]) := ⟨_, rfl⟩
                      replace H : ((strings_IndexByte.f (⟨#[41, 93, 34, 39]⟩ : ByteArray) (rd l0 x14_1)).bind fun t122 => ((strings_IndexByte.f (⟨#[46, 33, 63]⟩ : ByteArray) (rd l0 x14_1)).bind fun t123 => (if t123 ≥ 0 then (block_sentences.l0 kj15 l0 y119 false true false false l0 (l0.length : Int) (wrap64 (x14_1 + 1))) else (if t122 ≥ 0 then (if x5_1 = true then (block_sentences.l0 kj15 l0 y119 false (!x6_1) false false l0 (l0.length : Int) (wrap64 (x14_1 + 1))) else (block_sentences.l0 kj15 l0 y119 false false false false l0 (l0.length : Int) (wrap64 (x14_1 + 1)))) else (block_sentences.l0 kj15 l0 y119 false false false false l0 (l0.length : Int) (wrap64 (x14_1 + 1))))))) = some r := by first | (rw [hy119]; with_reducible exact H) | (have H2_ := (Option.bind_some _ _).symm.trans H; rw [hy119]; with_reducible exact H2_) | (have H2_ := (Option.bind_some _ _).symm.trans H; with_reducible exact H2_) | with_reducible exact H | (rw [hy119]; exact H) | exact H
                      have Ny119 := Aside0.mk hy119
                      clear hy119
                      replace H := Option.bind_eq_some_iff.mp H
                      obtain ⟨t122, A220, H⟩ := H
                      replace H : ((strings_IndexByte.f (⟨#[46, 33, 63]⟩ : ByteArray) (rd l0 x14_1)).bind fun t123 => (if t123 ≥ 0 then (block_sentences.l0 kj15 l0 y119 false true false false l0 (l0.length : Int) (wrap64 (x14_1 + 1))) else (if t122 ≥ 0 then (if x5_1 = true then (block_sentences.l0 kj15 l0 y119 false (!x6_1) false false l0 (l0.length : Int) (wrap64 (x14_1 + 1))) else (block_sentences.l0 kj15 l0 y119 false false false false l0 (l0.length : Int) (wrap64 (x14_1 + 1)))) else (block_sentences.l0 kj15 l0 y119 false false false false l0 (l0.length : Int) (wrap64 (x14_1 + 1)))))) = some r := H
                      have A22 := Aside0.mk A220
                      clear A220
                      replace H := Option.bind_eq_some_iff.mp H
                      obtain ⟨t123, A230, H⟩ := H
                      replace H : (if t123 ≥ 0 then (block_sentences.l0 kj15 l0 y119 false true false false l0 (l0.length : Int) (wrap64 (x14_1 + 1))) else (if t122 ≥ 0 then (if x5_1 = true then (block_sentences.l0 kj15 l0 y119 false (!x6_1) false false l0 (l0.length : Int) (wrap64 (x14_1 + 1))) else (block_sentences.l0 kj15 l0 y119 false false false false l0 (l0.length : Int) (wrap64 (x14_1 + 1)))) else (block_sentences.l0 kj15 l0 y119 false false false false l0 (l0.length : Int) (wrap64 (x14_1 + 1))))) = some r := H
                      have A23 := Aside0.mk A230
                      clear A230
                      by_cases c24 : t123 ≥ 0
                      · rw [if_pos c24] at H
                        have c24b0 : decide (0 ≤ t123) = true := decide_eq_true c24
                        clear c24
                        have H' := Aside0.mk H
                        clear H
                        go_wp2_with (first | ((with_reducible refine gate_builtin (b := .append) (xs := #[.tmp 47, .tmp 49]) rfl ?_); at_builtin; refine Kd.R_append (Kd.int .i64) (w0 := w) w.heap.size rfl (.tmp 47) (.tmp 49) 46 3 (.int .i64 0) 8 rfl Try.underlying46 info3 rfl (by decide) (by omega) u3 x3_1 x14_1 [.int .i64 x14_1] (fun _ => True) (fun _ => False) rfl rfl ?aP (fun _ hk => hk.elim) ?aF ?aO ?aB ?aS ?aL ?_; (case aP => exact rfl); (case aB => exact (by repeat (first | (with_reducible first | exact HB.out | apply below_alloc | apply pw_below_drewN | apply below_drew1) | exact HB.out))); (case aF => exact (fun _ _ => trivial)); (case aO => exact (by (with_reducible repeat (first | apply Kd.R_alloc | apply Kd.R_drewN | apply Kd.R_drew)); exact HO_3.out)); (case aS => exact (below_size (by repeat (first | (with_reducible first | exact HB.out | apply below_alloc | apply pw_below_drewN | apply below_drew1) | exact HB.out)))); (case aL => have := LMc21.out; omega); intro v120 w25 ho hb hg hat; rw [← Ny119.out] at ho; have n0_ := Aside0.mk (hb); have n1_ := Aside0.mk (ho); clear HB; clear HO_3; have HB := n0_; have HO121 := n1_; clear n0_ n1_; clear ho hb hg hat) | ((with_reducible refine gate_callee (f := 27) rfl ?_); refine goesL_ (some 52) rfl rfl Try.func27 (by kernel_rfl) rfl #[.string (⟨#[41, 93, 34, 39]⟩ : ByteArray), .int .u8 (rd l0 x14_1)] rfl (by (try simp only [List.map_toArray, List.map_cons, List.map_nil]); first | done | rfl | (simp only [List.length_drop, List.length_take]; rfl)) ?_; (with_reducible refine (strings_IndexByte.calls (⟨#[41, 93, 34, 39]⟩ : ByteArray) (rd l0 x14_1) t122 _ A22.out).mono ?_); rintro e w' ⟨rfl, ⟨nd, rfl⟩⟩; refine ⟨_, rfl, ?_⟩) | ((with_reducible refine gate_callee (f := 27) rfl ?_); refine goesL_ (some 55) rfl rfl Try.func27 (by kernel_rfl) rfl #[.string (⟨#[46, 33, 63]⟩ : ByteArray), .int .u8 (rd l0 x14_1)] rfl (by (try simp only [List.map_toArray, List.map_cons, List.map_nil]); first | done | rfl | (simp only [List.length_drop, List.length_take]; rfl)) ?_; (with_reducible refine (strings_IndexByte.calls (⟨#[46, 33, 63]⟩ : ByteArray) (rd l0 x14_1) t123 _ A23.out).mono ?_); rintro e w' ⟨rfl, ⟨nd, rfl⟩⟩; refine ⟨_, rfl, ?_⟩))
                        go_roundg kj15
                        case measure => have := HK1.out; have := HJ15.out; omega
                        case rel => exact ⟨(y119), (false), (true), (false), (false), (wrap64 (x14_1 + 1)), (by first | rfl | (simp; done) | (simp [*]; done)), (by first | rfl | (simp; done) | (simp [*]; done)), (by first | rfl | (simp; done) | (simp [*]; done)), (by first | rfl | (simp; done) | (simp [*]; done)), (by first | rfl | (simp; done) | (simp [*]; done)), H', ⟨by have := HK1.out; have := HJ15.out; omega⟩, ⟨by (with_reducible repeat (first | apply Kd.R_alloc | apply Kd.R_drewN | apply Kd.R_drew)); exact HO121.out⟩, ⟨by repeat (first | (with_reducible first | exact HB.out | apply below_alloc | apply pw_below_drewN | apply below_drew1) | exact HB.out)⟩⟩
                      · rw [if_neg c24] at H
                        have c24b0 : decide (0 ≤ t123) = false := decide_eq_false c24
                        clear c24
                        by_cases c26 : t122 ≥ 0
                        · rw [if_pos c26] at H
                          have c26b0 : decide (0 ≤ t122) = true := decide_eq_true c26
                          clear c26
                          by_cases c27 : x5_1 = true
                          · subst c27
                            have H1 : (block_sentences.l0 kj15 l0 y119 false (!x6_1) false false l0 (l0.length : Int) (wrap64 (x14_1 + 1))) = some r := by rw [if_pos rfl] at H; exact H
                            clear H
                            have H := H1
                            clear H1
                            have H' := Aside0.mk H
                            clear H
                            go_wp2_with (first | ((with_reducible refine gate_builtin (b := .append) (xs := #[.tmp 47, .tmp 49]) rfl ?_); at_builtin; refine Kd.R_append (Kd.int .i64) (w0 := w) w.heap.size rfl (.tmp 47) (.tmp 49) 46 3 (.int .i64 0) 8 rfl Try.underlying46 info3 rfl (by decide) (by omega) u3 x3_1 x14_1 [.int .i64 x14_1] (fun _ => True) (fun _ => False) rfl rfl ?aP (fun _ hk => hk.elim) ?aF ?aO ?aB ?aS ?aL ?_; (case aP => exact rfl); (case aB => exact (by repeat (first | (with_reducible first | exact HB.out | apply below_alloc | apply pw_below_drewN | apply below_drew1) | exact HB.out))); (case aF => exact (fun _ _ => trivial)); (case aO => exact (by (with_reducible repeat (first | apply Kd.R_alloc | apply Kd.R_drewN | apply Kd.R_drew)); exact HO_3.out)); (case aS => exact (below_size (by repeat (first | (with_reducible first | exact HB.out | apply below_alloc | apply pw_below_drewN | apply below_drew1) | exact HB.out)))); (case aL => have := LMc21.out; omega); intro v120 w28 ho hb hg hat; rw [← Ny119.out] at ho; have n0_ := Aside0.mk (hb); have n1_ := Aside0.mk (ho); clear HB; clear HO_3; have HB := n0_; have HO121 := n1_; clear n0_ n1_; clear ho hb hg hat) | ((with_reducible refine gate_callee (f := 27) rfl ?_); refine goesL_ (some 52) rfl rfl Try.func27 (by kernel_rfl) rfl #[.string (⟨#[41, 93, 34, 39]⟩ : ByteArray), .int .u8 (rd l0 x14_1)] rfl (by (try simp only [List.map_toArray, List.map_cons, List.map_nil]); first | done | rfl | (simp only [List.length_drop, List.length_take]; rfl)) ?_; (with_reducible refine (strings_IndexByte.calls (⟨#[41, 93, 34, 39]⟩ : ByteArray) (rd l0 x14_1) t122 _ A22.out).mono ?_); rintro e w' ⟨rfl, ⟨nd, rfl⟩⟩; refine ⟨_, rfl, ?_⟩) | ((with_reducible refine gate_callee (f := 27) rfl ?_); refine goesL_ (some 55) rfl rfl Try.func27 (by kernel_rfl) rfl #[.string (⟨#[46, 33, 63]⟩ : ByteArray), .int .u8 (rd l0 x14_1)] rfl (by (try simp only [List.map_toArray, List.map_cons, List.map_nil]); first | done | rfl | (simp only [List.length_drop, List.length_take]; rfl)) ?_; (with_reducible refine (strings_IndexByte.calls (⟨#[46, 33, 63]⟩ : ByteArray) (rd l0 x14_1) t123 _ A23.out).mono ?_); rintro e w' ⟨rfl, ⟨nd, rfl⟩⟩; refine ⟨_, rfl, ?_⟩))
                            go_roundg kj15
                            case measure => have := HK1.out; have := HJ15.out; omega
                            case rel => exact ⟨(y119), (false), (!x6_1), (false), (false), (wrap64 (x14_1 + 1)), (by first | rfl | (simp; done) | (simp [*]; done)), (by first | rfl | (simp; done) | (simp [*]; done)), (by first | rfl | (simp; done) | (simp [*]; done)), (by first | rfl | (simp; done) | (simp [*]; done)), (by first | rfl | (simp; done) | (simp [*]; done)), H', ⟨by have := HK1.out; have := HJ15.out; omega⟩, ⟨by (with_reducible repeat (first | apply Kd.R_alloc | apply Kd.R_drewN | apply Kd.R_drew)); exact HO121.out⟩, ⟨by repeat (first | (with_reducible first | exact HB.out | apply below_alloc | apply pw_below_drewN | apply below_drew1) | exact HB.out)⟩⟩
                          · replace c27 := Bool.eq_false_iff.mpr c27
                            subst c27
                            have H1 : (block_sentences.l0 kj15 l0 y119 false false false false l0 (l0.length : Int) (wrap64 (x14_1 + 1))) = some r := by rw [if_neg (show ¬ (false = true) by decide)] at H; exact H
                            clear H
                            have H := H1
                            clear H1
                            have H' := Aside0.mk H
                            clear H
                            go_wp2_with (first | ((with_reducible refine gate_builtin (b := .append) (xs := #[.tmp 47, .tmp 49]) rfl ?_); at_builtin; refine Kd.R_append (Kd.int .i64) (w0 := w) w.heap.size rfl (.tmp 47) (.tmp 49) 46 3 (.int .i64 0) 8 rfl Try.underlying46 info3 rfl (by decide) (by omega) u3 x3_1 x14_1 [.int .i64 x14_1] (fun _ => True) (fun _ => False) rfl rfl ?aP (fun _ hk => hk.elim) ?aF ?aO ?aB ?aS ?aL ?_; (case aP => exact rfl); (case aB => exact (by repeat (first | (with_reducible first | exact HB.out | apply below_alloc | apply pw_below_drewN | apply below_drew1) | exact HB.out))); (case aF => exact (fun _ _ => trivial)); (case aO => exact (by (with_reducible repeat (first | apply Kd.R_alloc | apply Kd.R_drewN | apply Kd.R_drew)); exact HO_3.out)); (case aS => exact (below_size (by repeat (first | (with_reducible first | exact HB.out | apply below_alloc | apply pw_below_drewN | apply below_drew1) | exact HB.out)))); (case aL => have := LMc21.out; omega); intro v120 w29 ho hb hg hat; rw [← Ny119.out] at ho; have n0_ := Aside0.mk (hb); have n1_ := Aside0.mk (ho); clear HB; clear HO_3; have HB := n0_; have HO121 := n1_; clear n0_ n1_; clear ho hb hg hat) | ((with_reducible refine gate_callee (f := 27) rfl ?_); refine goesL_ (some 52) rfl rfl Try.func27 (by kernel_rfl) rfl #[.string (⟨#[41, 93, 34, 39]⟩ : ByteArray), .int .u8 (rd l0 x14_1)] rfl (by (try simp only [List.map_toArray, List.map_cons, List.map_nil]); first | done | rfl | (simp only [List.length_drop, List.length_take]; rfl)) ?_; (with_reducible refine (strings_IndexByte.calls (⟨#[41, 93, 34, 39]⟩ : ByteArray) (rd l0 x14_1) t122 _ A22.out).mono ?_); rintro e w' ⟨rfl, ⟨nd, rfl⟩⟩; refine ⟨_, rfl, ?_⟩) | ((with_reducible refine gate_callee (f := 27) rfl ?_); refine goesL_ (some 55) rfl rfl Try.func27 (by kernel_rfl) rfl #[.string (⟨#[46, 33, 63]⟩ : ByteArray), .int .u8 (rd l0 x14_1)] rfl (by (try simp only [List.map_toArray, List.map_cons, List.map_nil]); first | done | rfl | (simp only [List.length_drop, List.length_take]; rfl)) ?_; (with_reducible refine (strings_IndexByte.calls (⟨#[46, 33, 63]⟩ : ByteArray) (rd l0 x14_1) t123 _ A23.out).mono ?_); rintro e w' ⟨rfl, ⟨nd, rfl⟩⟩; refine ⟨_, rfl, ?_⟩))
                            go_roundg kj15
                            case measure => have := HK1.out; have := HJ15.out; omega
                            case rel => exact ⟨(y119), (false), (false), (false), (false), (wrap64 (x14_1 + 1)), (by first | rfl | (simp; done) | (simp [*]; done)), (by first | rfl | (simp; done) | (simp [*]; done)), (by first | rfl | (simp; done) | (simp [*]; done)), (by first | rfl | (simp; done) | (simp [*]; done)), (by first | rfl | (simp; done) | (simp [*]; done)), H', ⟨by have := HK1.out; have := HJ15.out; omega⟩, ⟨by (with_reducible repeat (first | apply Kd.R_alloc | apply Kd.R_drewN | apply Kd.R_drew)); exact HO121.out⟩, ⟨by repeat (first | (with_reducible first | exact HB.out | apply below_alloc | apply pw_below_drewN | apply below_drew1) | exact HB.out)⟩⟩
                        · rw [if_neg c26] at H
                          have c26b0 : decide (0 ≤ t122) = false := decide_eq_false c26
                          clear c26
                          have H' := Aside0.mk H
                          clear H
                          go_wp2_with (first | ((with_reducible refine gate_builtin (b := .append) (xs := #[.tmp 47, .tmp 49]) rfl ?_); at_builtin; refine Kd.R_append (Kd.int .i64) (w0 := w) w.heap.size rfl (.tmp 47) (.tmp 49) 46 3 (.int .i64 0) 8 rfl Try.underlying46 info3 rfl (by decide) (by omega) u3 x3_1 x14_1 [.int .i64 x14_1] (fun _ => True) (fun _ => False) rfl rfl ?aP (fun _ hk => hk.elim) ?aF ?aO ?aB ?aS ?aL ?_; (case aP => exact rfl); (case aB => exact (by repeat (first | (with_reducible first | exact HB.out | apply below_alloc | apply pw_below_drewN | apply below_drew1) | exact HB.out))); (case aF => exact (fun _ _ => trivial)); (case aO => exact (by (with_reducible repeat (first | apply Kd.R_alloc | apply Kd.R_drewN | apply Kd.R_drew)); exact HO_3.out)); (case aS => exact (below_size (by repeat (first | (with_reducible first | exact HB.out | apply below_alloc | apply pw_below_drewN | apply below_drew1) | exact HB.out)))); (case aL => have := LMc21.out; omega); intro v120 w30 ho hb hg hat; rw [← Ny119.out] at ho; have n0_ := Aside0.mk (hb); have n1_ := Aside0.mk (ho); clear HB; clear HO_3; have HB := n0_; have HO121 := n1_; clear n0_ n1_; clear ho hb hg hat) | ((with_reducible refine gate_callee (f := 27) rfl ?_); refine goesL_ (some 52) rfl rfl Try.func27 (by kernel_rfl) rfl #[.string (⟨#[41, 93, 34, 39]⟩ : ByteArray), .int .u8 (rd l0 x14_1)] rfl (by (try simp only [List.map_toArray, List.map_cons, List.map_nil]); first | done | rfl | (simp only [List.length_drop, List.length_take]; rfl)) ?_; (with_reducible refine (strings_IndexByte.calls (⟨#[41, 93, 34, 39]⟩ : ByteArray) (rd l0 x14_1) t122 _ A22.out).mono ?_); rintro e w' ⟨rfl, ⟨nd, rfl⟩⟩; refine ⟨_, rfl, ?_⟩) | ((with_reducible refine gate_callee (f := 27) rfl ?_); refine goesL_ (some 55) rfl rfl Try.func27 (by kernel_rfl) rfl #[.string (⟨#[46, 33, 63]⟩ : ByteArray), .int .u8 (rd l0 x14_1)] rfl (by (try simp only [List.map_toArray, List.map_cons, List.map_nil]); first | done | rfl | (simp only [List.length_drop, List.length_take]; rfl)) ?_; (with_reducible refine (strings_IndexByte.calls (⟨#[46, 33, 63]⟩ : ByteArray) (rd l0 x14_1) t123 _ A23.out).mono ?_); rintro e w' ⟨rfl, ⟨nd, rfl⟩⟩; refine ⟨_, rfl, ?_⟩))
                          go_roundg kj15
                          case measure => have := HK1.out; have := HJ15.out; omega
                          case rel => exact ⟨(y119), (false), (false), (false), (false), (wrap64 (x14_1 + 1)), (by first | rfl | (simp; done) | (simp [*]; done)), (by first | rfl | (simp; done) | (simp [*]; done)), (by first | rfl | (simp; done) | (simp [*]; done)), (by first | rfl | (simp; done) | (simp [*]; done)), (by first | rfl | (simp; done) | (simp [*]; done)), H', ⟨by have := HK1.out; have := HJ15.out; omega⟩, ⟨by (with_reducible repeat (first | apply Kd.R_alloc | apply Kd.R_drewN | apply Kd.R_drew)); exact HO121.out⟩, ⟨by repeat (first | (with_reducible first | exact HB.out | apply below_alloc | apply pw_below_drewN | apply below_drew1) | exact HB.out)⟩⟩
                    · rw [if_neg c21] at H
                      exact absurd H (by simp)
                  · replace c20 := Bool.eq_false_iff.mpr c20
                    subst c20
                    have H1 : ((strings_IndexByte.f (⟨#[41, 93, 34, 39]⟩ : ByteArray) (rd l0 x14_1)).bind fun t124 => ((strings_IndexByte.f (⟨#[46, 33, 63]⟩ : ByteArray) (rd l0 x14_1)).bind fun t125 => (if t125 ≥ 0 then (block_sentences.l0 kj15 l0 x3_1 false true false false l0 (l0.length : Int) (wrap64 (x14_1 + 1))) else (if t124 ≥ 0 then (if x5_1 = true then (block_sentences.l0 kj15 l0 x3_1 false (!x6_1) false false l0 (l0.length : Int) (wrap64 (x14_1 + 1))) else (block_sentences.l0 kj15 l0 x3_1 false false false false l0 (l0.length : Int) (wrap64 (x14_1 + 1)))) else (block_sentences.l0 kj15 l0 x3_1 false false false false l0 (l0.length : Int) (wrap64 (x14_1 + 1))))))) = some r := by rw [if_neg (show ¬ (false = true) by decide)] at H; exact H
                    clear H
                    have H := H1
                    clear H1
                    replace H := Option.bind_eq_some_iff.mp H
                    obtain ⟨t124, A310, H⟩ := H
                    replace H : ((strings_IndexByte.f (⟨#[46, 33, 63]⟩ : ByteArray) (rd l0 x14_1)).bind fun t125 => (if t125 ≥ 0 then (block_sentences.l0 kj15 l0 x3_1 false true false false l0 (l0.length : Int) (wrap64 (x14_1 + 1))) else (if t124 ≥ 0 then (if x5_1 = true then (block_sentences.l0 kj15 l0 x3_1 false (!x6_1) false false l0 (l0.length : Int) (wrap64 (x14_1 + 1))) else (block_sentences.l0 kj15 l0 x3_1 false false false false l0 (l0.length : Int) (wrap64 (x14_1 + 1)))) else (block_sentences.l0 kj15 l0 x3_1 false false false false l0 (l0.length : Int) (wrap64 (x14_1 + 1)))))) = some r := H
                    have A31 := Aside0.mk A310
                    clear A310
                    replace H := Option.bind_eq_some_iff.mp H
                    obtain ⟨t125, A320, H⟩ := H
                    replace H : (if t125 ≥ 0 then (block_sentences.l0 kj15 l0 x3_1 false true false false l0 (l0.length : Int) (wrap64 (x14_1 + 1))) else (if t124 ≥ 0 then (if x5_1 = true then (block_sentences.l0 kj15 l0 x3_1 false (!x6_1) false false l0 (l0.length : Int) (wrap64 (x14_1 + 1))) else (block_sentences.l0 kj15 l0 x3_1 false false false false l0 (l0.length : Int) (wrap64 (x14_1 + 1)))) else (block_sentences.l0 kj15 l0 x3_1 false false false false l0 (l0.length : Int) (wrap64 (x14_1 + 1))))) = some r := H
                    have A32 := Aside0.mk A320
                    clear A320
                    by_cases c33 : t125 ≥ 0
                    · rw [if_pos c33] at H
                      have c33b0 : decide (0 ≤ t125) = true := decide_eq_true c33
                      clear c33
                      have H' := Aside0.mk H
                      clear H
                      go_wp2_with (first | ((with_reducible refine gate_callee (f := 27) rfl ?_); refine goesL_ (some 52) rfl rfl Try.func27 (by kernel_rfl) rfl #[.string (⟨#[41, 93, 34, 39]⟩ : ByteArray), .int .u8 (rd l0 x14_1)] rfl (by (try simp only [List.map_toArray, List.map_cons, List.map_nil]); first | done | rfl | (simp only [List.length_drop, List.length_take]; rfl)) ?_; (with_reducible refine (strings_IndexByte.calls (⟨#[41, 93, 34, 39]⟩ : ByteArray) (rd l0 x14_1) t124 _ A31.out).mono ?_); rintro e w' ⟨rfl, ⟨nd, rfl⟩⟩; refine ⟨_, rfl, ?_⟩) | ((with_reducible refine gate_callee (f := 27) rfl ?_); refine goesL_ (some 55) rfl rfl Try.func27 (by kernel_rfl) rfl #[.string (⟨#[46, 33, 63]⟩ : ByteArray), .int .u8 (rd l0 x14_1)] rfl (by (try simp only [List.map_toArray, List.map_cons, List.map_nil]); first | done | rfl | (simp only [List.length_drop, List.length_take]; rfl)) ?_; (with_reducible refine (strings_IndexByte.calls (⟨#[46, 33, 63]⟩ : ByteArray) (rd l0 x14_1) t125 _ A32.out).mono ?_); rintro e w' ⟨rfl, ⟨nd, rfl⟩⟩; refine ⟨_, rfl, ?_⟩))
                      go_roundg kj15
                      case measure => have := HK1.out; have := HJ15.out; omega
                      case rel => exact ⟨(x3_1), (false), (true), (false), (false), (wrap64 (x14_1 + 1)), (by first | rfl | (simp; done) | (simp [*]; done)), (by first | rfl | (simp; done) | (simp [*]; done)), (by first | rfl | (simp; done) | (simp [*]; done)), (by first | rfl | (simp; done) | (simp [*]; done)), (by first | rfl | (simp; done) | (simp [*]; done)), H', ⟨by have := HK1.out; have := HJ15.out; omega⟩, ⟨by (with_reducible repeat (first | apply Kd.R_alloc | apply Kd.R_drewN | apply Kd.R_drew)); exact HO_3.out⟩, ⟨by repeat (first | (with_reducible first | exact HB.out | apply below_alloc | apply pw_below_drewN | apply below_drew1) | exact HB.out)⟩⟩
                    · rw [if_neg c33] at H
                      have c33b0 : decide (0 ≤ t125) = false := decide_eq_false c33
                      clear c33
                      by_cases c34 : t124 ≥ 0
                      · rw [if_pos c34] at H
                        have c34b0 : decide (0 ≤ t124) = true := decide_eq_true c34
                        clear c34
                        by_cases c35 : x5_1 = true
                        · subst c35
                          have H1 : (block_sentences.l0 kj15 l0 x3_1 false (!x6_1) false false l0 (l0.length : Int) (wrap64 (x14_1 + 1))) = some r := by rw [if_pos rfl] at H; exact H
                          clear H
                          have H := H1
                          clear H1
                          have H' := Aside0.mk H
                          clear H
                          go_wp2_with (first | ((with_reducible refine gate_callee (f := 27) rfl ?_); refine goesL_ (some 52) rfl rfl Try.func27 (by kernel_rfl) rfl #[.string (⟨#[41, 93, 34, 39]⟩ : ByteArray), .int .u8 (rd l0 x14_1)] rfl (by (try simp only [List.map_toArray, List.map_cons, List.map_nil]); first | done | rfl | (simp only [List.length_drop, List.length_take]; rfl)) ?_; (with_reducible refine (strings_IndexByte.calls (⟨#[41, 93, 34, 39]⟩ : ByteArray) (rd l0 x14_1) t124 _ A31.out).mono ?_); rintro e w' ⟨rfl, ⟨nd, rfl⟩⟩; refine ⟨_, rfl, ?_⟩) | ((with_reducible refine gate_callee (f := 27) rfl ?_); refine goesL_ (some 55) rfl rfl Try.func27 (by kernel_rfl) rfl #[.string (⟨#[46, 33, 63]⟩ : ByteArray), .int .u8 (rd l0 x14_1)] rfl (by (try simp only [List.map_toArray, List.map_cons, List.map_nil]); first | done | rfl | (simp only [List.length_drop, List.length_take]; rfl)) ?_; (with_reducible refine (strings_IndexByte.calls (⟨#[46, 33, 63]⟩ : ByteArray) (rd l0 x14_1) t125 _ A32.out).mono ?_); rintro e w' ⟨rfl, ⟨nd, rfl⟩⟩; refine ⟨_, rfl, ?_⟩))
                          go_roundg kj15
                          case measure => have := HK1.out; have := HJ15.out; omega
                          case rel => exact ⟨(x3_1), (false), (!x6_1), (false), (false), (wrap64 (x14_1 + 1)), (by first | rfl | (simp; done) | (simp [*]; done)), (by first | rfl | (simp; done) | (simp [*]; done)), (by first | rfl | (simp; done) | (simp [*]; done)), (by first | rfl | (simp; done) | (simp [*]; done)), (by first | rfl | (simp; done) | (simp [*]; done)), H', ⟨by have := HK1.out; have := HJ15.out; omega⟩, ⟨by (with_reducible repeat (first | apply Kd.R_alloc | apply Kd.R_drewN | apply Kd.R_drew)); exact HO_3.out⟩, ⟨by repeat (first | (with_reducible first | exact HB.out | apply below_alloc | apply pw_below_drewN | apply below_drew1) | exact HB.out)⟩⟩
                        · replace c35 := Bool.eq_false_iff.mpr c35
                          subst c35
                          have H1 : (block_sentences.l0 kj15 l0 x3_1 false false false false l0 (l0.length : Int) (wrap64 (x14_1 + 1))) = some r := by rw [if_neg (show ¬ (false = true) by decide)] at H; exact H
                          clear H
                          have H := H1
                          clear H1
                          have H' := Aside0.mk H
                          clear H
                          go_wp2_with (first | ((with_reducible refine gate_callee (f := 27) rfl ?_); refine goesL_ (some 52) rfl rfl Try.func27 (by kernel_rfl) rfl #[.string (⟨#[41, 93, 34, 39]⟩ : ByteArray), .int .u8 (rd l0 x14_1)] rfl (by (try simp only [List.map_toArray, List.map_cons, List.map_nil]); first | done | rfl | (simp only [List.length_drop, List.length_take]; rfl)) ?_; (with_reducible refine (strings_IndexByte.calls (⟨#[41, 93, 34, 39]⟩ : ByteArray) (rd l0 x14_1) t124 _ A31.out).mono ?_); rintro e w' ⟨rfl, ⟨nd, rfl⟩⟩; refine ⟨_, rfl, ?_⟩) | ((with_reducible refine gate_callee (f := 27) rfl ?_); refine goesL_ (some 55) rfl rfl Try.func27 (by kernel_rfl) rfl #[.string (⟨#[46, 33, 63]⟩ : ByteArray), .int .u8 (rd l0 x14_1)] rfl (by (try simp only [List.map_toArray, List.map_cons, List.map_nil]); first | done | rfl | (simp only [List.length_drop, List.length_take]; rfl)) ?_; (with_reducible refine (strings_IndexByte.calls (⟨#[46, 33, 63]⟩ : ByteArray) (rd l0 x14_1) t125 _ A32.out).mono ?_); rintro e w' ⟨rfl, ⟨nd, rfl⟩⟩; refine ⟨_, rfl, ?_⟩))
                          go_roundg kj15
                          case measure => have := HK1.out; have := HJ15.out; omega
                          case rel => exact ⟨(x3_1), (false), (false), (false), (false), (wrap64 (x14_1 + 1)), (by first | rfl | (simp; done) | (simp [*]; done)), (by first | rfl | (simp; done) | (simp [*]; done)), (by first | rfl | (simp; done) | (simp [*]; done)), (by first | rfl | (simp; done) | (simp [*]; done)), (by first | rfl | (simp; done) | (simp [*]; done)), H', ⟨by have := HK1.out; have := HJ15.out; omega⟩, ⟨by (with_reducible repeat (first | apply Kd.R_alloc | apply Kd.R_drewN | apply Kd.R_drew)); exact HO_3.out⟩, ⟨by repeat (first | (with_reducible first | exact HB.out | apply below_alloc | apply pw_below_drewN | apply below_drew1) | exact HB.out)⟩⟩
                      · rw [if_neg c34] at H
                        have c34b0 : decide (0 ≤ t124) = false := decide_eq_false c34
                        clear c34
                        have H' := Aside0.mk H
                        clear H
                        go_wp2_with (first | ((with_reducible refine gate_callee (f := 27) rfl ?_); refine goesL_ (some 52) rfl rfl Try.func27 (by kernel_rfl) rfl #[.string (⟨#[41, 93, 34, 39]⟩ : ByteArray), .int .u8 (rd l0 x14_1)] rfl (by (try simp only [List.map_toArray, List.map_cons, List.map_nil]); first | done | rfl | (simp only [List.length_drop, List.length_take]; rfl)) ?_; (with_reducible refine (strings_IndexByte.calls (⟨#[41, 93, 34, 39]⟩ : ByteArray) (rd l0 x14_1) t124 _ A31.out).mono ?_); rintro e w' ⟨rfl, ⟨nd, rfl⟩⟩; refine ⟨_, rfl, ?_⟩) | ((with_reducible refine gate_callee (f := 27) rfl ?_); refine goesL_ (some 55) rfl rfl Try.func27 (by kernel_rfl) rfl #[.string (⟨#[46, 33, 63]⟩ : ByteArray), .int .u8 (rd l0 x14_1)] rfl (by (try simp only [List.map_toArray, List.map_cons, List.map_nil]); first | done | rfl | (simp only [List.length_drop, List.length_take]; rfl)) ?_; (with_reducible refine (strings_IndexByte.calls (⟨#[46, 33, 63]⟩ : ByteArray) (rd l0 x14_1) t125 _ A32.out).mono ?_); rintro e w' ⟨rfl, ⟨nd, rfl⟩⟩; refine ⟨_, rfl, ?_⟩))
                        go_roundg kj15
                        case measure => have := HK1.out; have := HJ15.out; omega
                        case rel => exact ⟨(x3_1), (false), (false), (false), (false), (wrap64 (x14_1 + 1)), (by first | rfl | (simp; done) | (simp [*]; done)), (by first | rfl | (simp; done) | (simp [*]; done)), (by first | rfl | (simp; done) | (simp [*]; done)), (by first | rfl | (simp; done) | (simp [*]; done)), (by first | rfl | (simp; done) | (simp [*]; done)), H', ⟨by have := HK1.out; have := HJ15.out; omega⟩, ⟨by (with_reducible repeat (first | apply Kd.R_alloc | apply Kd.R_drewN | apply Kd.R_drew)); exact HO_3.out⟩, ⟨by repeat (first | (with_reducible first | exact HB.out | apply below_alloc | apply pw_below_drewN | apply below_drew1) | exact HB.out)⟩⟩
          · rw [if_neg c4] at H
            exact absurd H (by simp)
        · rw [if_neg c3] at H
          exact absurd H (by simp)
      · rw [if_neg c2] at H
        have c2b0 : decide (x14_1 < (l0.length : Int)) = false := decide_eq_false c2
        clear c2
        replace H := Option.bind_eq_some_iff.mp H
        obtain ⟨t126, A360, H⟩ := H
        replace H : (if t126 = true then (if (l0.length : Int) = 0 then (if x3_1.length < 17592186044416 then (some (x3_1 ++ [(l0.length : Int)])) else (none)) else ((block_empty.f l0 (wrap64 ((l0.length : Int) - 1))).bind fun t130 => (if t130 = true then (some x3_1) else (if x3_1.length < 17592186044416 then (some (x3_1 ++ [(l0.length : Int)])) else (none))))) else (some x3_1)) = some r := H
        have A36 := Aside0.mk A360
        clear A360
        by_cases c37 : t126 = true
        · subst c37
          have H1 : (if (l0.length : Int) = 0 then (if x3_1.length < 17592186044416 then (some (x3_1 ++ [(l0.length : Int)])) else (none)) else ((block_empty.f l0 (wrap64 ((l0.length : Int) - 1))).bind fun t130 => (if t130 = true then (some x3_1) else (if x3_1.length < 17592186044416 then (some (x3_1 ++ [(l0.length : Int)])) else (none))))) = some r := by rw [if_pos rfl] at H; exact H
          clear H
          have H := H1
          clear H1
          by_cases c38 : (l0.length : Int) = 0
          · rw [if_pos c38] at H
            have c38b0 : ((l0.length : Int) == 0) = true := beq_iff_eq.mpr c38
            have c38b1 : ((l0.length : Int) != 0) = false := bne_eq_false_iff_eq.mpr c38
            clear c38
            by_cases c39 : x3_1.length < 17592186044416
            · rw [if_pos c39] at H
              have LMc39 := Aside0.mk c39
              clear c39
              obtain ⟨y127, hy127⟩ : ∃ y_ : List Int, y_ = (x3_1 ++ [(l0.length : Int)]) := ⟨_, rfl⟩
              replace H : (some y127) = some r := by first | (rw [hy127]; with_reducible exact H) | (have H2_ := (Option.bind_some _ _).symm.trans H; rw [hy127]; with_reducible exact H2_) | (have H2_ := (Option.bind_some _ _).symm.trans H; with_reducible exact H2_) | with_reducible exact H | (rw [hy127]; exact H) | exact H
              have Ny127 := Aside0.mk hy127
              clear hy127
              obtain rfl := Option.some.inj H
              go_wp2_with (first | ((with_reducible refine gate_callee (f := 34) rfl ?_); refine goesL_ (some 72) rfl rfl Try.func34 (by kernel_rfl) rfl #[.slice A0 l0.length c0, .int .i64 (l0.length : Int)] rfl (by (try simp only [List.map_toArray, List.map_cons, List.map_nil]); first | done | rfl | (simp only [List.length_drop, List.length_take]; rfl)) ?_; (with_reducible refine (block_empty.calls _ _ l0 (l0.length : Int) true _ ?side1 ?side2 A36.out).mono ?_); (case side1 => repeat (first | exact (Kd.C_below HR0.out HB.out) | (with_reducible refine Kd.C_alloc ?_ _) | (with_reducible refine Kd.C_drewN ?_ _) | (with_reducible refine Kd.C_drew ?_))); (case side2 => exact HC0.out); rintro e w' ⟨rfl, ⟨nd, rfl⟩⟩; refine ⟨_, rfl, ?_⟩) | ((with_reducible refine gate_builtin (b := .append) (xs := #[.tmp 84, .tmp 86]) rfl ?_); at_builtin; refine Kd.R_append (Kd.int .i64) (w0 := w) w.heap.size rfl (.tmp 84) (.tmp 86) 46 3 (.int .i64 0) 8 rfl Try.underlying46 info3 rfl (by decide) (by omega) u3 x3_1 (l0.length : Int) [.int .i64 (l0.length : Int)] (fun _ => True) (fun _ => False) rfl rfl ?aP (fun _ hk => hk.elim) ?aF ?aO ?aB ?aS ?aL ?_; (case aP => exact rfl); (case aB => exact (by repeat (first | (with_reducible first | exact HB.out | apply below_alloc | apply pw_below_drewN | apply below_drew1) | exact HB.out))); (case aF => exact (fun _ _ => trivial)); (case aO => exact (by (with_reducible repeat (first | apply Kd.R_alloc | apply Kd.R_drewN | apply Kd.R_drew)); exact HO_3.out)); (case aS => exact (below_size (by repeat (first | (with_reducible first | exact HB.out | apply below_alloc | apply pw_below_drewN | apply below_drew1) | exact HB.out)))); (case aL => have := LMc39.out; omega); intro v128 w40 ho hb hg hat; rw [← Ny127.out] at ho; have n0_ := Aside0.mk (hb); have n1_ := Aside0.mk (ho); clear HB; clear HO_3; have HB := n0_; have HO129 := n1_; clear n0_ n1_; clear ho hb hg hat))
              go_ret
              exact ⟨_, by first | rfl | (simp [errW_none, errW_some] <;> rfl) | (simp [*, errW_none, errW_some] <;> rfl), by (with_reducible repeat (first | apply Kd.R_alloc | apply Kd.R_drewN | apply Kd.R_drew)); exact HO129.out, by repeat (first | (with_reducible first | exact HB.out | apply below_alloc | apply pw_below_drewN | apply below_drew1) | exact HB.out)⟩
            · rw [if_neg c39] at H
              exact absurd H (by simp)
          · rw [if_neg c38] at H
            have c38b0 : ((l0.length : Int) == 0) = false := beq_eq_false_iff_ne.mpr c38
            have c38b1 : ((l0.length : Int) != 0) = true := bne_iff_ne.mpr c38
            have c38b2 : ¬ (l0 = []) := fun h_ => c38 (by rw [h_]; rfl)
            replace H := Option.bind_eq_some_iff.mp H
            obtain ⟨t130, A410, H⟩ := H
            replace H : (if t130 = true then (some x3_1) else (if x3_1.length < 17592186044416 then (some (x3_1 ++ [(l0.length : Int)])) else (none))) = some r := H
            have A41 := Aside0.mk A410
            clear A410
            by_cases c42 : t130 = true
            · subst c42
              have H1 : (some x3_1) = some r := by rw [if_pos rfl] at H; exact H
              clear H
              have H := H1
              clear H1
              obtain rfl := Option.some.inj H
              go_wp2_with (first | ((with_reducible refine gate_callee (f := 34) rfl ?_); refine goesL_ (some 72) rfl rfl Try.func34 (by kernel_rfl) rfl #[.slice A0 l0.length c0, .int .i64 (l0.length : Int)] rfl (by (try simp only [List.map_toArray, List.map_cons, List.map_nil]); first | done | rfl | (simp only [List.length_drop, List.length_take]; rfl)) ?_; (with_reducible refine (block_empty.calls _ _ l0 (l0.length : Int) true _ ?side1 ?side2 A36.out).mono ?_); (case side1 => repeat (first | exact (Kd.C_below HR0.out HB.out) | (with_reducible refine Kd.C_alloc ?_ _) | (with_reducible refine Kd.C_drewN ?_ _) | (with_reducible refine Kd.C_drew ?_))); (case side2 => exact HC0.out); rintro e w' ⟨rfl, ⟨nd, rfl⟩⟩; refine ⟨_, rfl, ?_⟩) | (go_at_call 34; (with_reducible refine (block_empty.calls _ _ l0 (wrap64 ((l0.length : Int) - 1)) true _ ?side1 ?side2 A41.out).mono ?_); (case side1 => repeat (first | exact (Kd.C_below HR0.out (by repeat (first | (with_reducible first | exact HB.out | apply below_alloc | apply pw_below_drewN | apply below_drew1) | exact HB.out))) | (with_reducible refine Kd.C_alloc ?_ _) | (with_reducible refine Kd.C_drewN ?_ _) | (with_reducible refine Kd.C_drew ?_))); (case side2 => exact HC0.out); rintro e w' ⟨rfl, ⟨nd, rfl⟩⟩))
              go_ret
              exact ⟨_, by first | rfl | (simp [errW_none, errW_some] <;> rfl) | (simp [*, errW_none, errW_some] <;> rfl), by (with_reducible repeat (first | apply Kd.R_alloc | apply Kd.R_drewN | apply Kd.R_drew)); exact HO_3.out, by repeat (first | (with_reducible first | exact HB.out | apply below_alloc | apply pw_below_drewN | apply below_drew1) | exact HB.out)⟩
            · replace c42 := Bool.eq_false_iff.mpr c42
              subst c42
              have H1 : (if x3_1.length < 17592186044416 then (some (x3_1 ++ [(l0.length : Int)])) else (none)) = some r := by rw [if_neg (show ¬ (false = true) by decide)] at H; exact H
              clear H
              have H := H1
              clear H1
              by_cases c43 : x3_1.length < 17592186044416
              · rw [if_pos c43] at H
                have LMc43 := Aside0.mk c43
                clear c43
                obtain ⟨y131, hy131⟩ : ∃ y_ : List Int, y_ = (x3_1 ++ [(l0.length : Int)]) := ⟨_, rfl⟩
                replace H : (some y131) = some r := by first | (rw [hy131]; with_reducible exact H) | (have H2_ := (Option.bind_some _ _).symm.trans H; rw [hy131]; with_reducible exact H2_) | (have H2_ := (Option.bind_some _ _).symm.trans H; with_reducible exact H2_) | with_reducible exact H | (rw [hy131]; exact H) | exact H
                have Ny131 := Aside0.mk hy131
                clear hy131
                obtain rfl := Option.some.inj H
                go_wp2_with (first | ((with_reducible refine gate_callee (f := 34) rfl ?_); refine goesL_ (some 72) rfl rfl Try.func34 (by kernel_rfl) rfl #[.slice A0 l0.length c0, .int .i64 (l0.length : Int)] rfl (by (try simp only [List.map_toArray, List.map_cons, List.map_nil]); first | done | rfl | (simp only [List.length_drop, List.length_take]; rfl)) ?_; (with_reducible refine (block_empty.calls _ _ l0 (l0.length : Int) true _ ?side1 ?side2 A36.out).mono ?_); (case side1 => repeat (first | exact (Kd.C_below HR0.out HB.out) | (with_reducible refine Kd.C_alloc ?_ _) | (with_reducible refine Kd.C_drewN ?_ _) | (with_reducible refine Kd.C_drew ?_))); (case side2 => exact HC0.out); rintro e w' ⟨rfl, ⟨nd, rfl⟩⟩; refine ⟨_, rfl, ?_⟩) | (go_at_call 34; (with_reducible refine (block_empty.calls _ _ l0 (wrap64 ((l0.length : Int) - 1)) false _ ?side1 ?side2 A41.out).mono ?_); (case side1 => repeat (first | exact (Kd.C_below HR0.out (by repeat (first | (with_reducible first | exact HB.out | apply below_alloc | apply pw_below_drewN | apply below_drew1) | exact HB.out))) | (with_reducible refine Kd.C_alloc ?_ _) | (with_reducible refine Kd.C_drewN ?_ _) | (with_reducible refine Kd.C_drew ?_))); (case side2 => exact HC0.out); rintro e w' ⟨rfl, ⟨nd, rfl⟩⟩) | ((with_reducible refine gate_builtin (b := .append) (xs := #[.tmp 84, .tmp 86]) rfl ?_); at_builtin; refine Kd.R_append (Kd.int .i64) (w0 := w) w.heap.size rfl (.tmp 84) (.tmp 86) 46 3 (.int .i64 0) 8 rfl Try.underlying46 info3 rfl (by decide) (by omega) u3 x3_1 (l0.length : Int) [.int .i64 (l0.length : Int)] (fun _ => True) (fun _ => False) rfl rfl ?aP (fun _ hk => hk.elim) ?aF ?aO ?aB ?aS ?aL ?_; (case aP => exact rfl); (case aB => exact (by repeat (first | (with_reducible first | exact HB.out | apply below_alloc | apply pw_below_drewN | apply below_drew1) | exact HB.out))); (case aF => exact (fun _ _ => trivial)); (case aO => exact (by (with_reducible repeat (first | apply Kd.R_alloc | apply Kd.R_drewN | apply Kd.R_drew)); exact HO_3.out)); (case aS => exact (below_size (by repeat (first | (with_reducible first | exact HB.out | apply below_alloc | apply pw_below_drewN | apply below_drew1) | exact HB.out)))); (case aL => have := LMc43.out; omega); intro v132 w44 ho hb hg hat; rw [← Ny131.out] at ho; have n0_ := Aside0.mk (hb); have n1_ := Aside0.mk (ho); clear HB; clear HO_3; have HB := n0_; have HO133 := n1_; clear n0_ n1_; clear ho hb hg hat))
                go_ret
                exact ⟨_, by first | rfl | (simp [errW_none, errW_some] <;> rfl) | (simp [*, errW_none, errW_some] <;> rfl), by (with_reducible repeat (first | apply Kd.R_alloc | apply Kd.R_drewN | apply Kd.R_drew)); exact HO133.out, by repeat (first | (with_reducible first | exact HB.out | apply below_alloc | apply pw_below_drewN | apply below_drew1) | exact HB.out)⟩
              · rw [if_neg c43] at H
                exact absurd H (by simp)
        · replace c37 := Bool.eq_false_iff.mpr c37
          subst c37
          have H1 : (some x3_1) = some r := by rw [if_neg (show ¬ (false = true) by decide)] at H; exact H
          clear H
          have H := H1
          clear H1
          obtain rfl := Option.some.inj H
          go_wp2_with (first | ((with_reducible refine gate_callee (f := 34) rfl ?_); refine goesL_ (some 72) rfl rfl Try.func34 (by kernel_rfl) rfl #[.slice A0 l0.length c0, .int .i64 (l0.length : Int)] rfl (by (try simp only [List.map_toArray, List.map_cons, List.map_nil]); first | done | rfl | (simp only [List.length_drop, List.length_take]; rfl)) ?_; (with_reducible refine (block_empty.calls _ _ l0 (l0.length : Int) false _ ?side1 ?side2 A36.out).mono ?_); (case side1 => repeat (first | exact (Kd.C_below HR0.out HB.out) | (with_reducible refine Kd.C_alloc ?_ _) | (with_reducible refine Kd.C_drewN ?_ _) | (with_reducible refine Kd.C_drew ?_))); (case side2 => exact HC0.out); rintro e w' ⟨rfl, ⟨nd, rfl⟩⟩; refine ⟨_, rfl, ?_⟩))
          go_ret
          exact ⟨_, by first | rfl | (simp [errW_none, errW_some] <;> rfl) | (simp [*, errW_none, errW_some] <;> rfl), by (with_reducible repeat (first | apply Kd.R_alloc | apply Kd.R_drewN | apply Kd.R_drew)); exact HO_3.out, by repeat (first | (with_reducible first | exact HB.out | apply below_alloc | apply pw_below_drewN | apply below_drew1) | exact HB.out)⟩

end Go.Proofs.Ytbklmdgmgffjeaa.PBl
