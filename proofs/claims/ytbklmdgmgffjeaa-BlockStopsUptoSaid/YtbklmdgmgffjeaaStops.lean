/- The law BlockStops by hand. Condition: the text's length is at most 1048576. -/
import Derived.Test.YtbklmdgmgffjeaaLits
import Derived.Test.YtbklmdgmgffjeaaAwake
namespace Go.Proofs.Ytbklmdgmgffjeaa.Hand
open Go.RowKit Go.Proofs.Ytbklmdgmgffjeaa.PBl Go.Proofs.Ytbklmdgmgffjeaa.Aggs Go.Proofs.YtbklmdgmgffjeaaW.PrintWords Go.Proofs.YtbklmdgmgffjeaaW.PrintLast Go.Proofs.YtbklmdgmgffjeaaW.PrintMore
set_option linter.unusedVariables false
set_option linter.unusedSimpArgs false
set_option maxHeartbeats 2000000 in
set_option maxRecDepth 100000 in
theorem stops_mid (A : Option Addr) (c : Nat) (T : List Int) (at_ : Int) (p : Nat) (hp : p ≤ T.length) (hpl : quoinlaw10_place.f at_ ((T.length : Int) + 1) = some (p : Int)) (q1 : p ≠ T.length) (q2 : p ≠ 0) (w : World) (hr : Kd.C (Kd.int .u8) w A T.length T) (hc : T.length ≤ c) (hl : T.length ≤ 1048576) :
    Calls Try.prog 6 #[.slice A T.length c, .int .i64 at_] w fun e w' => e = .returned (.bool true) ∧ Below w.heap.size w w' := by
  have HR := Aside0.mk hr
  have HC := Aside0.mk hc
  have HL := Aside0.mk hl
  have HPL := Aside0.mk hpl
  have HPP := Aside0.mk hp
  have hw : IntKind.i64.wrap ((T.length : Int) + 1) = (T.length : Int) + 1 := by rw [i64_w, w64 _ (by omega)]
  have hwp : IntKind.i64.wrap ((p : Int) + 1) = (p : Int) + 1 := by rw [i64_w, w64 _ (by omega)]
  have f1 : ((p : Int) == (T.length : Int)) = false := by first | exact beq_iff_eq.mpr (by omega) | exact beq_eq_false_iff_ne.mpr (by omega)
  have f2 : ((p : Int) == 0) = false := by first | exact beq_iff_eq.mpr (by omega) | exact beq_eq_false_iff_ne.mpr (by omega)
  obtain ⟨g, hg1, hg2, hg3, hg4, hg5⟩ := next_spec (DN T) T.length p (by omega)
  have hm1 : block_Move.f 12583200010 T (p : Int) 1 ⟨#[125]⟩ = some ((p : Int), (g : Int), 1, 0) := by
    have h := move_dn T hl p 1 12583200010 hp (by omega) (by omega) (by omega)
    rw [runD, if_neg (by omega), hg1] at h
    exact h
  obtain ⟨u, hu1, hu2, hu4, hu5⟩ := prev_spec (UP T) T.length p (by omega) hp
  have hm2 : block_Move.f 12583200010 T (p : Int) 1 ⟨#[123]⟩ = some ((p : Int), (u : Int), 1, 0) := by
    have h := move_up T hl p 1 12583200010 hp (by omega) (by omega) (by omega)
    rw [runU, if_neg (by omega), hu1] at h
    exact h
  have HM1 := Aside0.mk hm1
  have HM2 := Aside0.mk hm2
  clear hr hc hl hpl hm1 hm2 q1 q2 hp hg1 hu1
  have HG2 := Aside0.mk hg2
  have HG3 := Aside0.mk hg3
  have HG4 := Aside0.mk hg4
  have HG5 := Aside0.mk hg5
  clear hg2 hg3 hg4 hg5
  have HU2 := Aside0.mk hu2
  have HU4 := Aside0.mk hu4
  have HU5 := Aside0.mk hu5
  clear hu2 hu4 hu5
  go_enter Try.func6, Try.ntmps6
  go_upto_region 1 with (fail)
  have hb := blk_new w (Obj.cells #[Value.slice A T.length c] 22)
  have hB := (Below.refl w.heap.size w).alloc (Nat.le_refl _) (Obj.cells #[Value.slice A T.length c] 22)
  generalize w.alloc (Obj.cells #[Value.slice A T.length c] 22) = W0 at hb hB ⊢
  have HX0 := Aside0.mk hb
  have HB0 := Aside0.mk hB
  clear hb hB
  go_wp2_with fail
  refine (awake_calls W0).mono ?_
  rintro e w1 ⟨rfl, h1⟩
  have HX1 := Aside0.mk (blk_below HX0.out h1)
  have HB1 := Aside0.mk (below_step HB0.out h1)
  clear h1 HX0 HB0
  have hx := blk_cell HX1.out 0
  simp only [List.getElem?_toArray, List.getElem?_cons_zero] at hx
  go_wp2_with fail
  refine (quoinlaw10_place.calls at_ ((T.length : Int) + 1) (p : Int) w1 HPL.out).mono ?_
  rintro e w2 ⟨rfl, h2⟩
  have h2 := h2.below
  have HX2 := Aside0.mk (blk_below HX1.out h2)
  have HB2 := Aside0.mk (below_step HB1.out h2)
  clear h2 HX1 HB1 hx
  have hx := blk_cell HX2.out 0
  simp only [List.getElem?_toArray, List.getElem?_cons_zero] at hx
  go_wp2_with fail
  refine (block_Move.calls 12583200010 A c T (p : Int) 1 ⟨#[125]⟩ (p : Int) (g : Int) 1 0 _ (Kd.C_below HR.out HB2.out) HC.out HM1.out).mono ?_
  rintro e w3 ⟨rfl, h3⟩
  have HX3 := Aside0.mk (blk_below HX2.out h3)
  have HB3 := Aside0.mk (below_step HB2.out h3)
  clear h3 HX2 HB2 hx
  go_upto_region 7 with (fail)
  have ha := blk_new w3 (Obj.cells #[Value.int .i64 (p : Int), Value.int .i64 (g : Int), Value.int .i64 1] 30)
  have hx4 := blk_alloc HX3.out (Obj.cells #[Value.int .i64 (p : Int), Value.int .i64 (g : Int), Value.int .i64 1] 30)
  have hB4 := HB3.out.alloc HB3.out.size (Obj.cells #[Value.int .i64 (p : Int), Value.int .i64 (g : Int), Value.int .i64 1] 30)
  generalize w3.alloc (Obj.cells #[Value.int .i64 (p : Int), Value.int .i64 (g : Int), Value.int .i64 1] 30) = w4 at ha hx4 hB4 ⊢
  have HA4 := Aside0.mk ha
  have HX4 := Aside0.mk hx4
  have HB4 := Aside0.mk hB4
  clear ha hx4 hB4
  have hx := blk_cell HX4.out 0
  simp only [List.getElem?_toArray, List.getElem?_cons_zero] at hx
  go_wp2_with fail
  refine (block_Move.calls 12583200010 A c T (p : Int) 1 ⟨#[123]⟩ (p : Int) (u : Int) 1 0 _ (Kd.C_below HR.out HB4.out) HC.out HM2.out).mono ?_
  rintro e w5 ⟨rfl, h5⟩
  have HA5 := Aside0.mk (blk_below HA4.out h5)
  have HX5 := Aside0.mk (blk_below HX4.out h5)
  have HB5 := Aside0.mk (below_step HB4.out h5)
  clear h5 HA4 HX4 HB4 hx
  go_upto_region 8 with (fail)
  have hb := blk_new w5 (Obj.cells #[Value.int .i64 (p : Int), Value.int .i64 (u : Int), Value.int .i64 1] 30)
  have ha6 := blk_alloc HA5.out (Obj.cells #[Value.int .i64 (p : Int), Value.int .i64 (u : Int), Value.int .i64 1] 30)
  have hx6 := blk_alloc HX5.out (Obj.cells #[Value.int .i64 (p : Int), Value.int .i64 (u : Int), Value.int .i64 1] 30)
  have hB6 := HB5.out.alloc HB5.out.size (Obj.cells #[Value.int .i64 (p : Int), Value.int .i64 (u : Int), Value.int .i64 1] 30)
  generalize w5.alloc (Obj.cells #[Value.int .i64 (p : Int), Value.int .i64 (u : Int), Value.int .i64 1] 30) = w6 at hb ha6 hx6 hB6 ⊢
  have HA := Aside0.mk ha6
  have HBB := Aside0.mk hb
  have HX := Aside0.mk hx6
  have HW := Aside0.mk hB6
  clear hb ha6 hx6 hB6 HB3 HX3
  have hx := blk_cell HX.out 0
  have ha1 := blk_cell HA.out 1
  have hb1 := blk_cell HBB.out 1
  simp only [List.getElem?_toArray, List.getElem?_cons_zero, List.getElem?_cons_succ] at hx ha1 hb1
  have h1a : decide ((g : Int) ≤ (p : Int)) = false := decide_eq_false (by have := HG2.out; omega)
  have h1b : decide ((g : Int) > (T.length : Int)) = false := decide_eq_false (by have := HG3.out; omega)
  have h1c : ((g : Int) ≤ (p : Int)) = False := eq_false (by have := HG2.out; omega)
  have h1d : ((T.length : Int) < (g : Int)) = False := eq_false (by have := HG3.out; omega)
  by_cases hgN : g = T.length
  · have h1e : ((g : Int) != (T.length : Int)) = false := bne_eq_false_iff_eq.mpr (by omega)
    clear hgN
    go_wp2_with fail
    go_loopw [12] (fun v W => ∃ i : Nat, (p + 1) ≤ i ∧ i ≤ g ∧ v = .int .i64 i ∧ Aside0 (W.heap[w.heap.size]? = some (Obj.cells #[Value.slice A T.length c] 22 (0, 0))) ∧ Aside0 (W.heap[w3.heap.size]? = some (Obj.cells #[Value.int .i64 (p : Int), Value.int .i64 (g : Int), Value.int .i64 1] 30 (0, 0))) ∧ Aside0 (W.heap[w5.heap.size]? = some (Obj.cells #[Value.int .i64 (p : Int), Value.int .i64 (u : Int), Value.int .i64 1] 30 (0, 0))) ∧ Aside0 (Below w.heap.size w W)) (fun v _ => g - (intOf v).toNat)
    case atStart => exact ⟨(p + 1), Nat.le_refl _, by have := HG2.out; omega, by go_num, HX, HA, HBB, HW⟩
    case round =>
      clear hx ha1 hb1 HX HA HBB HW
      obtain ⟨i, hi1, hi2, rfl, HXr, HAr, HBBr, HWr⟩ := hrel
      have hx := blk_cell HXr.out 0
      have ha1 := blk_cell HAr.out 1
      have hb1 := blk_cell HBBr.out 1
      simp only [List.getElem?_toArray, List.getElem?_cons_zero, List.getElem?_cons_succ] at hx ha1 hb1
      by_cases hlt : i < g
      · have hlt1 : ((i : Int) < (g : Int)) = True := eq_true (by omega)
        have hlt2 : decide ((i : Int) < (g : Int)) = true := decide_eq_true (by omega)
        have hwi : IntKind.i64.wrap ((i : Int) + 1) = (i : Int) + 1 := by have := HL.out; have := HPP.out; have := HG3.out; rw [i64_w, w64 _ (by omega)]
        go_wp2_with fail
        refine (dn_calls A c T ⟨w.heap.size, 0, none⟩ i (by have := HPP.out; have := HG3.out; omega) HL.out wr (Kd.C_below HR.out HWr.out) hx).mono ?_
        rintro e wL1 ⟨rfl, hL1⟩
        have hL1 := hL1.below
        have HXL1 := Aside0.mk (blk_below HXr.out hL1)
        have HAL1 := Aside0.mk (blk_below HAr.out hL1)
        have HBBL1 := Aside0.mk (blk_below HBBr.out hL1)
        have HWL1 := Aside0.mk (below_step HWr.out hL1)
        clear hL1 hx ha1 hb1
        have hx := blk_cell HXL1.out 0
        have ha1 := blk_cell HAL1.out 1
        have hb1 := blk_cell HBBL1.out 1
        simp only [List.getElem?_toArray, List.getElem?_cons_zero, List.getElem?_cons_succ] at hx ha1 hb1
        rw [HG5.out i (by omega) hlt]
        go_wp2_with fail
        go_roundw
        case measure => simp [intOf]; omega
        case rel => exact ⟨i + 1, by omega, by omega, by go_num, HXL1, HAL1, HBBL1, HWL1⟩
      · have hlt1 : ((i : Int) < (g : Int)) = False := eq_false (by omega)
        have hlt2 : decide ((i : Int) < (g : Int)) = false := decide_eq_false (by omega)
        have h2a : decide ((u : Int) ≥ (p : Int)) = false := decide_eq_false (by have := HU2.out; omega)
        have h2b : decide ((u : Int) < 0) = false := decide_eq_false (by omega)
        have h2c : ((p : Int) ≤ (u : Int)) = False := eq_false (by have := HU2.out; omega)
        have h2d : ((u : Int) < 0) = False := eq_false (by omega)
        have hwu : IntKind.i64.wrap ((u : Int) + 1) = (u : Int) + 1 := by have := HL.out; have := HPP.out; have := HU2.out; rw [i64_w, w64 _ (by omega)]
        by_cases hu0 : u = 0
        · have h2e : ((u : Int) != 0) = false := bne_eq_false_iff_eq.mpr (by omega)
          clear hu0
          go_wp2_with fail
          go_loopw [13] (fun v W => ∃ i : Nat, (u + 1) ≤ i ∧ i ≤ p ∧ v = .int .i64 i ∧ Aside0 (W.heap[w.heap.size]? = some (Obj.cells #[Value.slice A T.length c] 22 (0, 0))) ∧ Aside0 (W.heap[w3.heap.size]? = some (Obj.cells #[Value.int .i64 (p : Int), Value.int .i64 (g : Int), Value.int .i64 1] 30 (0, 0))) ∧ Aside0 (W.heap[w5.heap.size]? = some (Obj.cells #[Value.int .i64 (p : Int), Value.int .i64 (u : Int), Value.int .i64 1] 30 (0, 0))) ∧ Aside0 (Below w.heap.size w W)) (fun v _ => p - (intOf v).toNat)
          case atStart => exact ⟨(u + 1), Nat.le_refl _, by have := HU2.out; omega, by go_num, HXr, HAr, HBBr, HWr⟩
          case round =>
            clear hx ha1 hb1 HXr HAr HBBr HWr
            obtain ⟨i, hi1, hi2, rfl, HXr, HAr, HBBr, HWr⟩ := hrel
            have hx := blk_cell HXr.out 0
            have ha1 := blk_cell HAr.out 1
            have hb1 := blk_cell HBBr.out 1
            simp only [List.getElem?_toArray, List.getElem?_cons_zero, List.getElem?_cons_succ] at hx ha1 hb1
            by_cases hlt : i < p
            · have hlt1 : ((i : Int) < (p : Int)) = True := eq_true (by omega)
              have hlt2 : decide ((i : Int) < (p : Int)) = true := decide_eq_true (by omega)
              have hwi : IntKind.i64.wrap ((i : Int) + 1) = (i : Int) + 1 := by have := HL.out; have := HPP.out; rw [i64_w, w64 _ (by omega)]
              go_wp2_with fail
              refine (up_calls A c T ⟨w.heap.size, 0, none⟩ i (by have := HPP.out; omega) HL.out wr (Kd.C_below HR.out HWr.out) hx).mono ?_
              rintro e wL2 ⟨rfl, hL2⟩
              have hL2 := hL2.below
              have HXL2 := Aside0.mk (blk_below HXr.out hL2)
              have HAL2 := Aside0.mk (blk_below HAr.out hL2)
              have HBBL2 := Aside0.mk (blk_below HBBr.out hL2)
              have HWL2 := Aside0.mk (below_step HWr.out hL2)
              clear hL2 hx ha1 hb1
              have hx := blk_cell HXL2.out 0
              have ha1 := blk_cell HAL2.out 1
              have hb1 := blk_cell HBBL2.out 1
              simp only [List.getElem?_toArray, List.getElem?_cons_zero, List.getElem?_cons_succ] at hx ha1 hb1
              rw [HU5.out i (by omega) hlt]
              go_wp2_with fail
              go_roundw
              case measure => simp [intOf]; omega
              case rel => exact ⟨i + 1, by omega, by omega, by go_num, HXL2, HAL2, HBBL2, HWL2⟩
            · have hlt1 : ((i : Int) < (p : Int)) = False := eq_false (by omega)
              have hlt2 : decide ((i : Int) < (p : Int)) = false := decide_eq_false (by omega)
              go_wp2_with fail
              go_ret
              exact ⟨rfl, HWr.out⟩
        · have h2e : ((u : Int) != 0) = true := bne_iff_ne.mpr (by omega)
          go_wp2_with fail
          refine (up_calls A c T ⟨w.heap.size, 0, none⟩ u (by have := HPP.out; have := HU2.out; omega) HL.out wr (Kd.C_below HR.out HWr.out) hx).mono ?_
          rintro e wL3 ⟨rfl, hL3⟩
          have hL3 := hL3.below
          have HXL3 := Aside0.mk (blk_below HXr.out hL3)
          have HAL3 := Aside0.mk (blk_below HAr.out hL3)
          have HBBL3 := Aside0.mk (blk_below HBBr.out hL3)
          have HWL3 := Aside0.mk (below_step HWr.out hL3)
          clear hL3 hx ha1 hb1
          have hx := blk_cell HXL3.out 0
          have ha1 := blk_cell HAL3.out 1
          have hb1 := blk_cell HBBL3.out 1
          simp only [List.getElem?_toArray, List.getElem?_cons_zero, List.getElem?_cons_succ] at hx ha1 hb1
          rw [HU4.out hu0]
          clear hu0
          go_wp2_with fail
          go_loopw [13] (fun v W => ∃ i : Nat, (u + 1) ≤ i ∧ i ≤ p ∧ v = .int .i64 i ∧ Aside0 (W.heap[w.heap.size]? = some (Obj.cells #[Value.slice A T.length c] 22 (0, 0))) ∧ Aside0 (W.heap[w3.heap.size]? = some (Obj.cells #[Value.int .i64 (p : Int), Value.int .i64 (g : Int), Value.int .i64 1] 30 (0, 0))) ∧ Aside0 (W.heap[w5.heap.size]? = some (Obj.cells #[Value.int .i64 (p : Int), Value.int .i64 (u : Int), Value.int .i64 1] 30 (0, 0))) ∧ Aside0 (Below w.heap.size w W)) (fun v _ => p - (intOf v).toNat)
          case atStart => exact ⟨(u + 1), Nat.le_refl _, by have := HU2.out; omega, by go_num, HXL3, HAL3, HBBL3, HWL3⟩
          case round =>
            clear hx ha1 hb1 HXL3 HAL3 HBBL3 HWL3
            obtain ⟨i, hi1, hi2, rfl, HXr, HAr, HBBr, HWr⟩ := hrel
            have hx := blk_cell HXr.out 0
            have ha1 := blk_cell HAr.out 1
            have hb1 := blk_cell HBBr.out 1
            simp only [List.getElem?_toArray, List.getElem?_cons_zero, List.getElem?_cons_succ] at hx ha1 hb1
            by_cases hlt : i < p
            · have hlt1 : ((i : Int) < (p : Int)) = True := eq_true (by omega)
              have hlt2 : decide ((i : Int) < (p : Int)) = true := decide_eq_true (by omega)
              have hwi : IntKind.i64.wrap ((i : Int) + 1) = (i : Int) + 1 := by have := HL.out; have := HPP.out; rw [i64_w, w64 _ (by omega)]
              go_wp2_with fail
              refine (up_calls A c T ⟨w.heap.size, 0, none⟩ i (by have := HPP.out; omega) HL.out wr (Kd.C_below HR.out HWr.out) hx).mono ?_
              rintro e wL4 ⟨rfl, hL4⟩
              have hL4 := hL4.below
              have HXL4 := Aside0.mk (blk_below HXr.out hL4)
              have HAL4 := Aside0.mk (blk_below HAr.out hL4)
              have HBBL4 := Aside0.mk (blk_below HBBr.out hL4)
              have HWL4 := Aside0.mk (below_step HWr.out hL4)
              clear hL4 hx ha1 hb1
              have hx := blk_cell HXL4.out 0
              have ha1 := blk_cell HAL4.out 1
              have hb1 := blk_cell HBBL4.out 1
              simp only [List.getElem?_toArray, List.getElem?_cons_zero, List.getElem?_cons_succ] at hx ha1 hb1
              rw [HU5.out i (by omega) hlt]
              go_wp2_with fail
              go_roundw
              case measure => simp [intOf]; omega
              case rel => exact ⟨i + 1, by omega, by omega, by go_num, HXL4, HAL4, HBBL4, HWL4⟩
            · have hlt1 : ((i : Int) < (p : Int)) = False := eq_false (by omega)
              have hlt2 : decide ((i : Int) < (p : Int)) = false := decide_eq_false (by omega)
              go_wp2_with fail
              go_ret
              exact ⟨rfl, HWr.out⟩
  · have h1e : ((g : Int) != (T.length : Int)) = true := bne_iff_ne.mpr (by omega)
    go_wp2_with fail
    refine (dn_calls A c T ⟨w.heap.size, 0, none⟩ g (HG3.out) HL.out w6 (Kd.C_below HR.out HW.out) hx).mono ?_
    rintro e wL5 ⟨rfl, hL5⟩
    have hL5 := hL5.below
    have HXL5 := Aside0.mk (blk_below HX.out hL5)
    have HAL5 := Aside0.mk (blk_below HA.out hL5)
    have HBBL5 := Aside0.mk (blk_below HBB.out hL5)
    have HWL5 := Aside0.mk (below_step HW.out hL5)
    clear hL5 hx ha1 hb1
    have hx := blk_cell HXL5.out 0
    have ha1 := blk_cell HAL5.out 1
    have hb1 := blk_cell HBBL5.out 1
    simp only [List.getElem?_toArray, List.getElem?_cons_zero, List.getElem?_cons_succ] at hx ha1 hb1
    rw [HG4.out hgN]
    clear hgN
    go_wp2_with fail
    go_loopw [12] (fun v W => ∃ i : Nat, (p + 1) ≤ i ∧ i ≤ g ∧ v = .int .i64 i ∧ Aside0 (W.heap[w.heap.size]? = some (Obj.cells #[Value.slice A T.length c] 22 (0, 0))) ∧ Aside0 (W.heap[w3.heap.size]? = some (Obj.cells #[Value.int .i64 (p : Int), Value.int .i64 (g : Int), Value.int .i64 1] 30 (0, 0))) ∧ Aside0 (W.heap[w5.heap.size]? = some (Obj.cells #[Value.int .i64 (p : Int), Value.int .i64 (u : Int), Value.int .i64 1] 30 (0, 0))) ∧ Aside0 (Below w.heap.size w W)) (fun v _ => g - (intOf v).toNat)
    case atStart => exact ⟨(p + 1), Nat.le_refl _, by have := HG2.out; omega, by go_num, HXL5, HAL5, HBBL5, HWL5⟩
    case round =>
      clear hx ha1 hb1 HXL5 HAL5 HBBL5 HWL5
      obtain ⟨i, hi1, hi2, rfl, HXr, HAr, HBBr, HWr⟩ := hrel
      have hx := blk_cell HXr.out 0
      have ha1 := blk_cell HAr.out 1
      have hb1 := blk_cell HBBr.out 1
      simp only [List.getElem?_toArray, List.getElem?_cons_zero, List.getElem?_cons_succ] at hx ha1 hb1
      by_cases hlt : i < g
      · have hlt1 : ((i : Int) < (g : Int)) = True := eq_true (by omega)
        have hlt2 : decide ((i : Int) < (g : Int)) = true := decide_eq_true (by omega)
        have hwi : IntKind.i64.wrap ((i : Int) + 1) = (i : Int) + 1 := by have := HL.out; have := HPP.out; have := HG3.out; rw [i64_w, w64 _ (by omega)]
        go_wp2_with fail
        refine (dn_calls A c T ⟨w.heap.size, 0, none⟩ i (by have := HPP.out; have := HG3.out; omega) HL.out wr (Kd.C_below HR.out HWr.out) hx).mono ?_
        rintro e wL6 ⟨rfl, hL6⟩
        have hL6 := hL6.below
        have HXL6 := Aside0.mk (blk_below HXr.out hL6)
        have HAL6 := Aside0.mk (blk_below HAr.out hL6)
        have HBBL6 := Aside0.mk (blk_below HBBr.out hL6)
        have HWL6 := Aside0.mk (below_step HWr.out hL6)
        clear hL6 hx ha1 hb1
        have hx := blk_cell HXL6.out 0
        have ha1 := blk_cell HAL6.out 1
        have hb1 := blk_cell HBBL6.out 1
        simp only [List.getElem?_toArray, List.getElem?_cons_zero, List.getElem?_cons_succ] at hx ha1 hb1
        rw [HG5.out i (by omega) hlt]
        go_wp2_with fail
        go_roundw
        case measure => simp [intOf]; omega
        case rel => exact ⟨i + 1, by omega, by omega, by go_num, HXL6, HAL6, HBBL6, HWL6⟩
      · have hlt1 : ((i : Int) < (g : Int)) = False := eq_false (by omega)
        have hlt2 : decide ((i : Int) < (g : Int)) = false := decide_eq_false (by omega)
        have h2a : decide ((u : Int) ≥ (p : Int)) = false := decide_eq_false (by have := HU2.out; omega)
        have h2b : decide ((u : Int) < 0) = false := decide_eq_false (by omega)
        have h2c : ((p : Int) ≤ (u : Int)) = False := eq_false (by have := HU2.out; omega)
        have h2d : ((u : Int) < 0) = False := eq_false (by omega)
        have hwu : IntKind.i64.wrap ((u : Int) + 1) = (u : Int) + 1 := by have := HL.out; have := HPP.out; have := HU2.out; rw [i64_w, w64 _ (by omega)]
        by_cases hu0 : u = 0
        · have h2e : ((u : Int) != 0) = false := bne_eq_false_iff_eq.mpr (by omega)
          clear hu0
          go_wp2_with fail
          go_loopw [13] (fun v W => ∃ i : Nat, (u + 1) ≤ i ∧ i ≤ p ∧ v = .int .i64 i ∧ Aside0 (W.heap[w.heap.size]? = some (Obj.cells #[Value.slice A T.length c] 22 (0, 0))) ∧ Aside0 (W.heap[w3.heap.size]? = some (Obj.cells #[Value.int .i64 (p : Int), Value.int .i64 (g : Int), Value.int .i64 1] 30 (0, 0))) ∧ Aside0 (W.heap[w5.heap.size]? = some (Obj.cells #[Value.int .i64 (p : Int), Value.int .i64 (u : Int), Value.int .i64 1] 30 (0, 0))) ∧ Aside0 (Below w.heap.size w W)) (fun v _ => p - (intOf v).toNat)
          case atStart => exact ⟨(u + 1), Nat.le_refl _, by have := HU2.out; omega, by go_num, HXr, HAr, HBBr, HWr⟩
          case round =>
            clear hx ha1 hb1 HXr HAr HBBr HWr
            obtain ⟨i, hi1, hi2, rfl, HXr, HAr, HBBr, HWr⟩ := hrel
            have hx := blk_cell HXr.out 0
            have ha1 := blk_cell HAr.out 1
            have hb1 := blk_cell HBBr.out 1
            simp only [List.getElem?_toArray, List.getElem?_cons_zero, List.getElem?_cons_succ] at hx ha1 hb1
            by_cases hlt : i < p
            · have hlt1 : ((i : Int) < (p : Int)) = True := eq_true (by omega)
              have hlt2 : decide ((i : Int) < (p : Int)) = true := decide_eq_true (by omega)
              have hwi : IntKind.i64.wrap ((i : Int) + 1) = (i : Int) + 1 := by have := HL.out; have := HPP.out; rw [i64_w, w64 _ (by omega)]
              go_wp2_with fail
              refine (up_calls A c T ⟨w.heap.size, 0, none⟩ i (by have := HPP.out; omega) HL.out wr (Kd.C_below HR.out HWr.out) hx).mono ?_
              rintro e wL7 ⟨rfl, hL7⟩
              have hL7 := hL7.below
              have HXL7 := Aside0.mk (blk_below HXr.out hL7)
              have HAL7 := Aside0.mk (blk_below HAr.out hL7)
              have HBBL7 := Aside0.mk (blk_below HBBr.out hL7)
              have HWL7 := Aside0.mk (below_step HWr.out hL7)
              clear hL7 hx ha1 hb1
              have hx := blk_cell HXL7.out 0
              have ha1 := blk_cell HAL7.out 1
              have hb1 := blk_cell HBBL7.out 1
              simp only [List.getElem?_toArray, List.getElem?_cons_zero, List.getElem?_cons_succ] at hx ha1 hb1
              rw [HU5.out i (by omega) hlt]
              go_wp2_with fail
              go_roundw
              case measure => simp [intOf]; omega
              case rel => exact ⟨i + 1, by omega, by omega, by go_num, HXL7, HAL7, HBBL7, HWL7⟩
            · have hlt1 : ((i : Int) < (p : Int)) = False := eq_false (by omega)
              have hlt2 : decide ((i : Int) < (p : Int)) = false := decide_eq_false (by omega)
              go_wp2_with fail
              go_ret
              exact ⟨rfl, HWr.out⟩
        · have h2e : ((u : Int) != 0) = true := bne_iff_ne.mpr (by omega)
          go_wp2_with fail
          refine (up_calls A c T ⟨w.heap.size, 0, none⟩ u (by have := HPP.out; have := HU2.out; omega) HL.out wr (Kd.C_below HR.out HWr.out) hx).mono ?_
          rintro e wL8 ⟨rfl, hL8⟩
          have hL8 := hL8.below
          have HXL8 := Aside0.mk (blk_below HXr.out hL8)
          have HAL8 := Aside0.mk (blk_below HAr.out hL8)
          have HBBL8 := Aside0.mk (blk_below HBBr.out hL8)
          have HWL8 := Aside0.mk (below_step HWr.out hL8)
          clear hL8 hx ha1 hb1
          have hx := blk_cell HXL8.out 0
          have ha1 := blk_cell HAL8.out 1
          have hb1 := blk_cell HBBL8.out 1
          simp only [List.getElem?_toArray, List.getElem?_cons_zero, List.getElem?_cons_succ] at hx ha1 hb1
          rw [HU4.out hu0]
          clear hu0
          go_wp2_with fail
          go_loopw [13] (fun v W => ∃ i : Nat, (u + 1) ≤ i ∧ i ≤ p ∧ v = .int .i64 i ∧ Aside0 (W.heap[w.heap.size]? = some (Obj.cells #[Value.slice A T.length c] 22 (0, 0))) ∧ Aside0 (W.heap[w3.heap.size]? = some (Obj.cells #[Value.int .i64 (p : Int), Value.int .i64 (g : Int), Value.int .i64 1] 30 (0, 0))) ∧ Aside0 (W.heap[w5.heap.size]? = some (Obj.cells #[Value.int .i64 (p : Int), Value.int .i64 (u : Int), Value.int .i64 1] 30 (0, 0))) ∧ Aside0 (Below w.heap.size w W)) (fun v _ => p - (intOf v).toNat)
          case atStart => exact ⟨(u + 1), Nat.le_refl _, by have := HU2.out; omega, by go_num, HXL8, HAL8, HBBL8, HWL8⟩
          case round =>
            clear hx ha1 hb1 HXL8 HAL8 HBBL8 HWL8
            obtain ⟨i, hi1, hi2, rfl, HXr, HAr, HBBr, HWr⟩ := hrel
            have hx := blk_cell HXr.out 0
            have ha1 := blk_cell HAr.out 1
            have hb1 := blk_cell HBBr.out 1
            simp only [List.getElem?_toArray, List.getElem?_cons_zero, List.getElem?_cons_succ] at hx ha1 hb1
            by_cases hlt : i < p
            · have hlt1 : ((i : Int) < (p : Int)) = True := eq_true (by omega)
              have hlt2 : decide ((i : Int) < (p : Int)) = true := decide_eq_true (by omega)
              have hwi : IntKind.i64.wrap ((i : Int) + 1) = (i : Int) + 1 := by have := HL.out; have := HPP.out; rw [i64_w, w64 _ (by omega)]
              go_wp2_with fail
              refine (up_calls A c T ⟨w.heap.size, 0, none⟩ i (by have := HPP.out; omega) HL.out wr (Kd.C_below HR.out HWr.out) hx).mono ?_
              rintro e wL9 ⟨rfl, hL9⟩
              have hL9 := hL9.below
              have HXL9 := Aside0.mk (blk_below HXr.out hL9)
              have HAL9 := Aside0.mk (blk_below HAr.out hL9)
              have HBBL9 := Aside0.mk (blk_below HBBr.out hL9)
              have HWL9 := Aside0.mk (below_step HWr.out hL9)
              clear hL9 hx ha1 hb1
              have hx := blk_cell HXL9.out 0
              have ha1 := blk_cell HAL9.out 1
              have hb1 := blk_cell HBBL9.out 1
              simp only [List.getElem?_toArray, List.getElem?_cons_zero, List.getElem?_cons_succ] at hx ha1 hb1
              rw [HU5.out i (by omega) hlt]
              go_wp2_with fail
              go_roundw
              case measure => simp [intOf]; omega
              case rel => exact ⟨i + 1, by omega, by omega, by go_num, HXL9, HAL9, HBBL9, HWL9⟩
            · have hlt1 : ((i : Int) < (p : Int)) = False := eq_false (by omega)
              have hlt2 : decide ((i : Int) < (p : Int)) = false := decide_eq_false (by omega)
              go_wp2_with fail
              go_ret
              exact ⟨rfl, HWr.out⟩
set_option maxHeartbeats 2000000 in
set_option maxRecDepth 100000 in
theorem stops_last (A : Option Addr) (c : Nat) (T : List Int) (at_ : Int) (p : Nat) (hp : p ≤ T.length) (hpl : quoinlaw10_place.f at_ ((T.length : Int) + 1) = some (p : Int)) (q1 : p = T.length) (q2 : p ≠ 0) (w : World) (hr : Kd.C (Kd.int .u8) w A T.length T) (hc : T.length ≤ c) (hl : T.length ≤ 1048576) :
    Calls Try.prog 6 #[.slice A T.length c, .int .i64 at_] w fun e w' => e = .returned (.bool true) ∧ Below w.heap.size w w' := by
  have HR := Aside0.mk hr
  have HC := Aside0.mk hc
  have HL := Aside0.mk hl
  have HPL := Aside0.mk hpl
  have HPP := Aside0.mk hp
  have hw : IntKind.i64.wrap ((T.length : Int) + 1) = (T.length : Int) + 1 := by rw [i64_w, w64 _ (by omega)]
  have hwp : IntKind.i64.wrap ((p : Int) + 1) = (p : Int) + 1 := by rw [i64_w, w64 _ (by omega)]
  have f1 : ((p : Int) == (T.length : Int)) = true := by first | exact beq_iff_eq.mpr (by omega) | exact beq_eq_false_iff_ne.mpr (by omega)
  have f2 : ((p : Int) == 0) = false := by first | exact beq_iff_eq.mpr (by omega) | exact beq_eq_false_iff_ne.mpr (by omega)
  have hm1 : block_Move.f 12583200010 T (p : Int) 1 ⟨#[125]⟩ = some (0, 0, 0, 70) := by
    have h := move_dn T hl p 1 12583200010 hp (by omega) (by omega) (by omega)
    rw [runD, if_pos (by omega)] at h
    exact h
  obtain ⟨u, hu1, hu2, hu4, hu5⟩ := prev_spec (UP T) T.length p (by omega) hp
  have hm2 : block_Move.f 12583200010 T (p : Int) 1 ⟨#[123]⟩ = some ((p : Int), (u : Int), 1, 0) := by
    have h := move_up T hl p 1 12583200010 hp (by omega) (by omega) (by omega)
    rw [runU, if_neg (by omega), hu1] at h
    exact h
  have HM1 := Aside0.mk hm1
  have HM2 := Aside0.mk hm2
  clear hr hc hl hpl hm1 hm2 q1 q2 hp hu1
  have HU2 := Aside0.mk hu2
  have HU4 := Aside0.mk hu4
  have HU5 := Aside0.mk hu5
  clear hu2 hu4 hu5
  go_enter Try.func6, Try.ntmps6
  go_upto_region 1 with (fail)
  have hb := blk_new w (Obj.cells #[Value.slice A T.length c] 22)
  have hB := (Below.refl w.heap.size w).alloc (Nat.le_refl _) (Obj.cells #[Value.slice A T.length c] 22)
  generalize w.alloc (Obj.cells #[Value.slice A T.length c] 22) = W0 at hb hB ⊢
  have HX0 := Aside0.mk hb
  have HB0 := Aside0.mk hB
  clear hb hB
  go_wp2_with fail
  refine (awake_calls W0).mono ?_
  rintro e w1 ⟨rfl, h1⟩
  have HX1 := Aside0.mk (blk_below HX0.out h1)
  have HB1 := Aside0.mk (below_step HB0.out h1)
  clear h1 HX0 HB0
  have hx := blk_cell HX1.out 0
  simp only [List.getElem?_toArray, List.getElem?_cons_zero] at hx
  go_wp2_with fail
  refine (quoinlaw10_place.calls at_ ((T.length : Int) + 1) (p : Int) w1 HPL.out).mono ?_
  rintro e w2 ⟨rfl, h2⟩
  have h2 := h2.below
  have HX2 := Aside0.mk (blk_below HX1.out h2)
  have HB2 := Aside0.mk (below_step HB1.out h2)
  clear h2 HX1 HB1 hx
  have hx := blk_cell HX2.out 0
  simp only [List.getElem?_toArray, List.getElem?_cons_zero] at hx
  go_wp2_with fail
  refine (block_Move.calls 12583200010 A c T (p : Int) 1 ⟨#[125]⟩ 0 0 0 70 _ (Kd.C_below HR.out HB2.out) HC.out HM1.out).mono ?_
  rintro e w3 ⟨rfl, h3⟩
  have HX3 := Aside0.mk (blk_below HX2.out h3)
  have HB3 := Aside0.mk (below_step HB2.out h3)
  clear h3 HX2 HB2 hx
  go_upto_region 7 with (fail)
  have ha := blk_new w3 (Obj.cells #[Value.int .i64 0, Value.int .i64 0, Value.int .i64 0] 30)
  have hx4 := blk_alloc HX3.out (Obj.cells #[Value.int .i64 0, Value.int .i64 0, Value.int .i64 0] 30)
  have hB4 := HB3.out.alloc HB3.out.size (Obj.cells #[Value.int .i64 0, Value.int .i64 0, Value.int .i64 0] 30)
  generalize w3.alloc (Obj.cells #[Value.int .i64 0, Value.int .i64 0, Value.int .i64 0] 30) = w4 at ha hx4 hB4 ⊢
  have HA4 := Aside0.mk ha
  have HX4 := Aside0.mk hx4
  have HB4 := Aside0.mk hB4
  clear ha hx4 hB4
  have hx := blk_cell HX4.out 0
  simp only [List.getElem?_toArray, List.getElem?_cons_zero] at hx
  go_wp2_with fail
  refine (block_Move.calls 12583200010 A c T (p : Int) 1 ⟨#[123]⟩ (p : Int) (u : Int) 1 0 _ (Kd.C_below HR.out HB4.out) HC.out HM2.out).mono ?_
  rintro e w5 ⟨rfl, h5⟩
  have HA5 := Aside0.mk (blk_below HA4.out h5)
  have HX5 := Aside0.mk (blk_below HX4.out h5)
  have HB5 := Aside0.mk (below_step HB4.out h5)
  clear h5 HA4 HX4 HB4 hx
  go_upto_region 8 with (fail)
  have hb := blk_new w5 (Obj.cells #[Value.int .i64 (p : Int), Value.int .i64 (u : Int), Value.int .i64 1] 30)
  have ha6 := blk_alloc HA5.out (Obj.cells #[Value.int .i64 (p : Int), Value.int .i64 (u : Int), Value.int .i64 1] 30)
  have hx6 := blk_alloc HX5.out (Obj.cells #[Value.int .i64 (p : Int), Value.int .i64 (u : Int), Value.int .i64 1] 30)
  have hB6 := HB5.out.alloc HB5.out.size (Obj.cells #[Value.int .i64 (p : Int), Value.int .i64 (u : Int), Value.int .i64 1] 30)
  generalize w5.alloc (Obj.cells #[Value.int .i64 (p : Int), Value.int .i64 (u : Int), Value.int .i64 1] 30) = w6 at hb ha6 hx6 hB6 ⊢
  have HA := Aside0.mk ha6
  have HBB := Aside0.mk hb
  have HX := Aside0.mk hx6
  have HW := Aside0.mk hB6
  clear hb ha6 hx6 hB6 HB3 HX3
  have hx := blk_cell HX.out 0
  have ha1 := blk_cell HA.out 1
  have hb1 := blk_cell HBB.out 1
  simp only [List.getElem?_toArray, List.getElem?_cons_zero, List.getElem?_cons_succ] at hx ha1 hb1
  have h2a : decide ((u : Int) ≥ (p : Int)) = false := decide_eq_false (by have := HU2.out; omega)
  have h2b : decide ((u : Int) < 0) = false := decide_eq_false (by omega)
  have h2c : ((p : Int) ≤ (u : Int)) = False := eq_false (by have := HU2.out; omega)
  have h2d : ((u : Int) < 0) = False := eq_false (by omega)
  have hwu : IntKind.i64.wrap ((u : Int) + 1) = (u : Int) + 1 := by have := HL.out; have := HPP.out; have := HU2.out; rw [i64_w, w64 _ (by omega)]
  by_cases hu0 : u = 0
  · have h2e : ((u : Int) != 0) = false := bne_eq_false_iff_eq.mpr (by omega)
    clear hu0
    go_wp2_with fail
    go_loopw [13] (fun v W => ∃ i : Nat, (u + 1) ≤ i ∧ i ≤ p ∧ v = .int .i64 i ∧ Aside0 (W.heap[w.heap.size]? = some (Obj.cells #[Value.slice A T.length c] 22 (0, 0))) ∧ Aside0 (W.heap[w3.heap.size]? = some (Obj.cells #[Value.int .i64 0, Value.int .i64 0, Value.int .i64 0] 30 (0, 0))) ∧ Aside0 (W.heap[w5.heap.size]? = some (Obj.cells #[Value.int .i64 (p : Int), Value.int .i64 (u : Int), Value.int .i64 1] 30 (0, 0))) ∧ Aside0 (Below w.heap.size w W)) (fun v _ => p - (intOf v).toNat)
    case atStart => exact ⟨(u + 1), Nat.le_refl _, by have := HU2.out; omega, by go_num, HX, HA, HBB, HW⟩
    case round =>
      clear hx ha1 hb1 HX HA HBB HW
      obtain ⟨i, hi1, hi2, rfl, HXr, HAr, HBBr, HWr⟩ := hrel
      have hx := blk_cell HXr.out 0
      have ha1 := blk_cell HAr.out 1
      have hb1 := blk_cell HBBr.out 1
      simp only [List.getElem?_toArray, List.getElem?_cons_zero, List.getElem?_cons_succ] at hx ha1 hb1
      by_cases hlt : i < p
      · have hlt1 : ((i : Int) < (p : Int)) = True := eq_true (by omega)
        have hlt2 : decide ((i : Int) < (p : Int)) = true := decide_eq_true (by omega)
        have hwi : IntKind.i64.wrap ((i : Int) + 1) = (i : Int) + 1 := by have := HL.out; have := HPP.out; rw [i64_w, w64 _ (by omega)]
        go_wp2_with fail
        refine (up_calls A c T ⟨w.heap.size, 0, none⟩ i (by have := HPP.out; omega) HL.out wr (Kd.C_below HR.out HWr.out) hx).mono ?_
        rintro e wL1 ⟨rfl, hL1⟩
        have hL1 := hL1.below
        have HXL1 := Aside0.mk (blk_below HXr.out hL1)
        have HAL1 := Aside0.mk (blk_below HAr.out hL1)
        have HBBL1 := Aside0.mk (blk_below HBBr.out hL1)
        have HWL1 := Aside0.mk (below_step HWr.out hL1)
        clear hL1 hx ha1 hb1
        have hx := blk_cell HXL1.out 0
        have ha1 := blk_cell HAL1.out 1
        have hb1 := blk_cell HBBL1.out 1
        simp only [List.getElem?_toArray, List.getElem?_cons_zero, List.getElem?_cons_succ] at hx ha1 hb1
        rw [HU5.out i (by omega) hlt]
        go_wp2_with fail
        go_roundw
        case measure => simp [intOf]; omega
        case rel => exact ⟨i + 1, by omega, by omega, by go_num, HXL1, HAL1, HBBL1, HWL1⟩
      · have hlt1 : ((i : Int) < (p : Int)) = False := eq_false (by omega)
        have hlt2 : decide ((i : Int) < (p : Int)) = false := decide_eq_false (by omega)
        go_wp2_with fail
        go_ret
        exact ⟨rfl, HWr.out⟩
  · have h2e : ((u : Int) != 0) = true := bne_iff_ne.mpr (by omega)
    go_wp2_with fail
    refine (up_calls A c T ⟨w.heap.size, 0, none⟩ u (by have := HPP.out; have := HU2.out; omega) HL.out w6 (Kd.C_below HR.out HW.out) hx).mono ?_
    rintro e wL2 ⟨rfl, hL2⟩
    have hL2 := hL2.below
    have HXL2 := Aside0.mk (blk_below HX.out hL2)
    have HAL2 := Aside0.mk (blk_below HA.out hL2)
    have HBBL2 := Aside0.mk (blk_below HBB.out hL2)
    have HWL2 := Aside0.mk (below_step HW.out hL2)
    clear hL2 hx ha1 hb1
    have hx := blk_cell HXL2.out 0
    have ha1 := blk_cell HAL2.out 1
    have hb1 := blk_cell HBBL2.out 1
    simp only [List.getElem?_toArray, List.getElem?_cons_zero, List.getElem?_cons_succ] at hx ha1 hb1
    rw [HU4.out hu0]
    clear hu0
    go_wp2_with fail
    go_loopw [13] (fun v W => ∃ i : Nat, (u + 1) ≤ i ∧ i ≤ p ∧ v = .int .i64 i ∧ Aside0 (W.heap[w.heap.size]? = some (Obj.cells #[Value.slice A T.length c] 22 (0, 0))) ∧ Aside0 (W.heap[w3.heap.size]? = some (Obj.cells #[Value.int .i64 0, Value.int .i64 0, Value.int .i64 0] 30 (0, 0))) ∧ Aside0 (W.heap[w5.heap.size]? = some (Obj.cells #[Value.int .i64 (p : Int), Value.int .i64 (u : Int), Value.int .i64 1] 30 (0, 0))) ∧ Aside0 (Below w.heap.size w W)) (fun v _ => p - (intOf v).toNat)
    case atStart => exact ⟨(u + 1), Nat.le_refl _, by have := HU2.out; omega, by go_num, HXL2, HAL2, HBBL2, HWL2⟩
    case round =>
      clear hx ha1 hb1 HXL2 HAL2 HBBL2 HWL2
      obtain ⟨i, hi1, hi2, rfl, HXr, HAr, HBBr, HWr⟩ := hrel
      have hx := blk_cell HXr.out 0
      have ha1 := blk_cell HAr.out 1
      have hb1 := blk_cell HBBr.out 1
      simp only [List.getElem?_toArray, List.getElem?_cons_zero, List.getElem?_cons_succ] at hx ha1 hb1
      by_cases hlt : i < p
      · have hlt1 : ((i : Int) < (p : Int)) = True := eq_true (by omega)
        have hlt2 : decide ((i : Int) < (p : Int)) = true := decide_eq_true (by omega)
        have hwi : IntKind.i64.wrap ((i : Int) + 1) = (i : Int) + 1 := by have := HL.out; have := HPP.out; rw [i64_w, w64 _ (by omega)]
        go_wp2_with fail
        refine (up_calls A c T ⟨w.heap.size, 0, none⟩ i (by have := HPP.out; omega) HL.out wr (Kd.C_below HR.out HWr.out) hx).mono ?_
        rintro e wL3 ⟨rfl, hL3⟩
        have hL3 := hL3.below
        have HXL3 := Aside0.mk (blk_below HXr.out hL3)
        have HAL3 := Aside0.mk (blk_below HAr.out hL3)
        have HBBL3 := Aside0.mk (blk_below HBBr.out hL3)
        have HWL3 := Aside0.mk (below_step HWr.out hL3)
        clear hL3 hx ha1 hb1
        have hx := blk_cell HXL3.out 0
        have ha1 := blk_cell HAL3.out 1
        have hb1 := blk_cell HBBL3.out 1
        simp only [List.getElem?_toArray, List.getElem?_cons_zero, List.getElem?_cons_succ] at hx ha1 hb1
        rw [HU5.out i (by omega) hlt]
        go_wp2_with fail
        go_roundw
        case measure => simp [intOf]; omega
        case rel => exact ⟨i + 1, by omega, by omega, by go_num, HXL3, HAL3, HBBL3, HWL3⟩
      · have hlt1 : ((i : Int) < (p : Int)) = False := eq_false (by omega)
        have hlt2 : decide ((i : Int) < (p : Int)) = false := decide_eq_false (by omega)
        go_wp2_with fail
        go_ret
        exact ⟨rfl, HWr.out⟩
set_option maxHeartbeats 2000000 in
set_option maxRecDepth 100000 in
theorem stops_first (A : Option Addr) (c : Nat) (T : List Int) (at_ : Int) (p : Nat) (hp : p ≤ T.length) (hpl : quoinlaw10_place.f at_ ((T.length : Int) + 1) = some (p : Int)) (q1 : p ≠ T.length) (q2 : p = 0) (w : World) (hr : Kd.C (Kd.int .u8) w A T.length T) (hc : T.length ≤ c) (hl : T.length ≤ 1048576) :
    Calls Try.prog 6 #[.slice A T.length c, .int .i64 at_] w fun e w' => e = .returned (.bool true) ∧ Below w.heap.size w w' := by
  have HR := Aside0.mk hr
  have HC := Aside0.mk hc
  have HL := Aside0.mk hl
  have HPL := Aside0.mk hpl
  have HPP := Aside0.mk hp
  have hw : IntKind.i64.wrap ((T.length : Int) + 1) = (T.length : Int) + 1 := by rw [i64_w, w64 _ (by omega)]
  have hwp : IntKind.i64.wrap ((p : Int) + 1) = (p : Int) + 1 := by rw [i64_w, w64 _ (by omega)]
  have f1 : ((p : Int) == (T.length : Int)) = false := by first | exact beq_iff_eq.mpr (by omega) | exact beq_eq_false_iff_ne.mpr (by omega)
  have f2 : ((p : Int) == 0) = true := by first | exact beq_iff_eq.mpr (by omega) | exact beq_eq_false_iff_ne.mpr (by omega)
  obtain ⟨g, hg1, hg2, hg3, hg4, hg5⟩ := next_spec (DN T) T.length p (by omega)
  have hm1 : block_Move.f 12583200010 T (p : Int) 1 ⟨#[125]⟩ = some ((p : Int), (g : Int), 1, 0) := by
    have h := move_dn T hl p 1 12583200010 hp (by omega) (by omega) (by omega)
    rw [runD, if_neg (by omega), hg1] at h
    exact h
  have hm2 : block_Move.f 12583200010 T (p : Int) 1 ⟨#[123]⟩ = some (0, 0, 0, 70) := by
    have h := move_up T hl p 1 12583200010 hp (by omega) (by omega) (by omega)
    rw [runU, if_pos (by omega)] at h
    exact h
  have HM1 := Aside0.mk hm1
  have HM2 := Aside0.mk hm2
  clear hr hc hl hpl hm1 hm2 q1 q2 hp hg1
  have HG2 := Aside0.mk hg2
  have HG3 := Aside0.mk hg3
  have HG4 := Aside0.mk hg4
  have HG5 := Aside0.mk hg5
  clear hg2 hg3 hg4 hg5
  go_enter Try.func6, Try.ntmps6
  go_upto_region 1 with (fail)
  have hb := blk_new w (Obj.cells #[Value.slice A T.length c] 22)
  have hB := (Below.refl w.heap.size w).alloc (Nat.le_refl _) (Obj.cells #[Value.slice A T.length c] 22)
  generalize w.alloc (Obj.cells #[Value.slice A T.length c] 22) = W0 at hb hB ⊢
  have HX0 := Aside0.mk hb
  have HB0 := Aside0.mk hB
  clear hb hB
  go_wp2_with fail
  refine (awake_calls W0).mono ?_
  rintro e w1 ⟨rfl, h1⟩
  have HX1 := Aside0.mk (blk_below HX0.out h1)
  have HB1 := Aside0.mk (below_step HB0.out h1)
  clear h1 HX0 HB0
  have hx := blk_cell HX1.out 0
  simp only [List.getElem?_toArray, List.getElem?_cons_zero] at hx
  go_wp2_with fail
  refine (quoinlaw10_place.calls at_ ((T.length : Int) + 1) (p : Int) w1 HPL.out).mono ?_
  rintro e w2 ⟨rfl, h2⟩
  have h2 := h2.below
  have HX2 := Aside0.mk (blk_below HX1.out h2)
  have HB2 := Aside0.mk (below_step HB1.out h2)
  clear h2 HX1 HB1 hx
  have hx := blk_cell HX2.out 0
  simp only [List.getElem?_toArray, List.getElem?_cons_zero] at hx
  go_wp2_with fail
  refine (block_Move.calls 12583200010 A c T (p : Int) 1 ⟨#[125]⟩ (p : Int) (g : Int) 1 0 _ (Kd.C_below HR.out HB2.out) HC.out HM1.out).mono ?_
  rintro e w3 ⟨rfl, h3⟩
  have HX3 := Aside0.mk (blk_below HX2.out h3)
  have HB3 := Aside0.mk (below_step HB2.out h3)
  clear h3 HX2 HB2 hx
  go_upto_region 7 with (fail)
  have ha := blk_new w3 (Obj.cells #[Value.int .i64 (p : Int), Value.int .i64 (g : Int), Value.int .i64 1] 30)
  have hx4 := blk_alloc HX3.out (Obj.cells #[Value.int .i64 (p : Int), Value.int .i64 (g : Int), Value.int .i64 1] 30)
  have hB4 := HB3.out.alloc HB3.out.size (Obj.cells #[Value.int .i64 (p : Int), Value.int .i64 (g : Int), Value.int .i64 1] 30)
  generalize w3.alloc (Obj.cells #[Value.int .i64 (p : Int), Value.int .i64 (g : Int), Value.int .i64 1] 30) = w4 at ha hx4 hB4 ⊢
  have HA4 := Aside0.mk ha
  have HX4 := Aside0.mk hx4
  have HB4 := Aside0.mk hB4
  clear ha hx4 hB4
  have hx := blk_cell HX4.out 0
  simp only [List.getElem?_toArray, List.getElem?_cons_zero] at hx
  go_wp2_with fail
  refine (block_Move.calls 12583200010 A c T (p : Int) 1 ⟨#[123]⟩ 0 0 0 70 _ (Kd.C_below HR.out HB4.out) HC.out HM2.out).mono ?_
  rintro e w5 ⟨rfl, h5⟩
  have HA5 := Aside0.mk (blk_below HA4.out h5)
  have HX5 := Aside0.mk (blk_below HX4.out h5)
  have HB5 := Aside0.mk (below_step HB4.out h5)
  clear h5 HA4 HX4 HB4 hx
  go_upto_region 8 with (fail)
  have hb := blk_new w5 (Obj.cells #[Value.int .i64 0, Value.int .i64 0, Value.int .i64 0] 30)
  have ha6 := blk_alloc HA5.out (Obj.cells #[Value.int .i64 0, Value.int .i64 0, Value.int .i64 0] 30)
  have hx6 := blk_alloc HX5.out (Obj.cells #[Value.int .i64 0, Value.int .i64 0, Value.int .i64 0] 30)
  have hB6 := HB5.out.alloc HB5.out.size (Obj.cells #[Value.int .i64 0, Value.int .i64 0, Value.int .i64 0] 30)
  generalize w5.alloc (Obj.cells #[Value.int .i64 0, Value.int .i64 0, Value.int .i64 0] 30) = w6 at hb ha6 hx6 hB6 ⊢
  have HA := Aside0.mk ha6
  have HBB := Aside0.mk hb
  have HX := Aside0.mk hx6
  have HW := Aside0.mk hB6
  clear hb ha6 hx6 hB6 HB3 HX3
  have hx := blk_cell HX.out 0
  have ha1 := blk_cell HA.out 1
  have hb1 := blk_cell HBB.out 1
  simp only [List.getElem?_toArray, List.getElem?_cons_zero, List.getElem?_cons_succ] at hx ha1 hb1
  have h1a : decide ((g : Int) ≤ (p : Int)) = false := decide_eq_false (by have := HG2.out; omega)
  have h1b : decide ((g : Int) > (T.length : Int)) = false := decide_eq_false (by have := HG3.out; omega)
  have h1c : ((g : Int) ≤ (p : Int)) = False := eq_false (by have := HG2.out; omega)
  have h1d : ((T.length : Int) < (g : Int)) = False := eq_false (by have := HG3.out; omega)
  by_cases hgN : g = T.length
  · have h1e : ((g : Int) != (T.length : Int)) = false := bne_eq_false_iff_eq.mpr (by omega)
    clear hgN
    go_wp2_with fail
    go_loopw [12] (fun v W => ∃ i : Nat, (p + 1) ≤ i ∧ i ≤ g ∧ v = .int .i64 i ∧ Aside0 (W.heap[w.heap.size]? = some (Obj.cells #[Value.slice A T.length c] 22 (0, 0))) ∧ Aside0 (W.heap[w3.heap.size]? = some (Obj.cells #[Value.int .i64 (p : Int), Value.int .i64 (g : Int), Value.int .i64 1] 30 (0, 0))) ∧ Aside0 (W.heap[w5.heap.size]? = some (Obj.cells #[Value.int .i64 0, Value.int .i64 0, Value.int .i64 0] 30 (0, 0))) ∧ Aside0 (Below w.heap.size w W)) (fun v _ => g - (intOf v).toNat)
    case atStart => exact ⟨(p + 1), Nat.le_refl _, by have := HG2.out; omega, by go_num, HX, HA, HBB, HW⟩
    case round =>
      clear hx ha1 hb1 HX HA HBB HW
      obtain ⟨i, hi1, hi2, rfl, HXr, HAr, HBBr, HWr⟩ := hrel
      have hx := blk_cell HXr.out 0
      have ha1 := blk_cell HAr.out 1
      have hb1 := blk_cell HBBr.out 1
      simp only [List.getElem?_toArray, List.getElem?_cons_zero, List.getElem?_cons_succ] at hx ha1 hb1
      by_cases hlt : i < g
      · have hlt1 : ((i : Int) < (g : Int)) = True := eq_true (by omega)
        have hlt2 : decide ((i : Int) < (g : Int)) = true := decide_eq_true (by omega)
        have hwi : IntKind.i64.wrap ((i : Int) + 1) = (i : Int) + 1 := by have := HL.out; have := HPP.out; have := HG3.out; rw [i64_w, w64 _ (by omega)]
        go_wp2_with fail
        refine (dn_calls A c T ⟨w.heap.size, 0, none⟩ i (by have := HPP.out; have := HG3.out; omega) HL.out wr (Kd.C_below HR.out HWr.out) hx).mono ?_
        rintro e wL1 ⟨rfl, hL1⟩
        have hL1 := hL1.below
        have HXL1 := Aside0.mk (blk_below HXr.out hL1)
        have HAL1 := Aside0.mk (blk_below HAr.out hL1)
        have HBBL1 := Aside0.mk (blk_below HBBr.out hL1)
        have HWL1 := Aside0.mk (below_step HWr.out hL1)
        clear hL1 hx ha1 hb1
        have hx := blk_cell HXL1.out 0
        have ha1 := blk_cell HAL1.out 1
        have hb1 := blk_cell HBBL1.out 1
        simp only [List.getElem?_toArray, List.getElem?_cons_zero, List.getElem?_cons_succ] at hx ha1 hb1
        rw [HG5.out i (by omega) hlt]
        go_wp2_with fail
        go_roundw
        case measure => simp [intOf]; omega
        case rel => exact ⟨i + 1, by omega, by omega, by go_num, HXL1, HAL1, HBBL1, HWL1⟩
      · have hlt1 : ((i : Int) < (g : Int)) = False := eq_false (by omega)
        have hlt2 : decide ((i : Int) < (g : Int)) = false := decide_eq_false (by omega)
        go_wp2_with fail
        go_ret
        exact ⟨rfl, HWr.out⟩
  · have h1e : ((g : Int) != (T.length : Int)) = true := bne_iff_ne.mpr (by omega)
    go_wp2_with fail
    refine (dn_calls A c T ⟨w.heap.size, 0, none⟩ g (HG3.out) HL.out w6 (Kd.C_below HR.out HW.out) hx).mono ?_
    rintro e wL2 ⟨rfl, hL2⟩
    have hL2 := hL2.below
    have HXL2 := Aside0.mk (blk_below HX.out hL2)
    have HAL2 := Aside0.mk (blk_below HA.out hL2)
    have HBBL2 := Aside0.mk (blk_below HBB.out hL2)
    have HWL2 := Aside0.mk (below_step HW.out hL2)
    clear hL2 hx ha1 hb1
    have hx := blk_cell HXL2.out 0
    have ha1 := blk_cell HAL2.out 1
    have hb1 := blk_cell HBBL2.out 1
    simp only [List.getElem?_toArray, List.getElem?_cons_zero, List.getElem?_cons_succ] at hx ha1 hb1
    rw [HG4.out hgN]
    clear hgN
    go_wp2_with fail
    go_loopw [12] (fun v W => ∃ i : Nat, (p + 1) ≤ i ∧ i ≤ g ∧ v = .int .i64 i ∧ Aside0 (W.heap[w.heap.size]? = some (Obj.cells #[Value.slice A T.length c] 22 (0, 0))) ∧ Aside0 (W.heap[w3.heap.size]? = some (Obj.cells #[Value.int .i64 (p : Int), Value.int .i64 (g : Int), Value.int .i64 1] 30 (0, 0))) ∧ Aside0 (W.heap[w5.heap.size]? = some (Obj.cells #[Value.int .i64 0, Value.int .i64 0, Value.int .i64 0] 30 (0, 0))) ∧ Aside0 (Below w.heap.size w W)) (fun v _ => g - (intOf v).toNat)
    case atStart => exact ⟨(p + 1), Nat.le_refl _, by have := HG2.out; omega, by go_num, HXL2, HAL2, HBBL2, HWL2⟩
    case round =>
      clear hx ha1 hb1 HXL2 HAL2 HBBL2 HWL2
      obtain ⟨i, hi1, hi2, rfl, HXr, HAr, HBBr, HWr⟩ := hrel
      have hx := blk_cell HXr.out 0
      have ha1 := blk_cell HAr.out 1
      have hb1 := blk_cell HBBr.out 1
      simp only [List.getElem?_toArray, List.getElem?_cons_zero, List.getElem?_cons_succ] at hx ha1 hb1
      by_cases hlt : i < g
      · have hlt1 : ((i : Int) < (g : Int)) = True := eq_true (by omega)
        have hlt2 : decide ((i : Int) < (g : Int)) = true := decide_eq_true (by omega)
        have hwi : IntKind.i64.wrap ((i : Int) + 1) = (i : Int) + 1 := by have := HL.out; have := HPP.out; have := HG3.out; rw [i64_w, w64 _ (by omega)]
        go_wp2_with fail
        refine (dn_calls A c T ⟨w.heap.size, 0, none⟩ i (by have := HPP.out; have := HG3.out; omega) HL.out wr (Kd.C_below HR.out HWr.out) hx).mono ?_
        rintro e wL3 ⟨rfl, hL3⟩
        have hL3 := hL3.below
        have HXL3 := Aside0.mk (blk_below HXr.out hL3)
        have HAL3 := Aside0.mk (blk_below HAr.out hL3)
        have HBBL3 := Aside0.mk (blk_below HBBr.out hL3)
        have HWL3 := Aside0.mk (below_step HWr.out hL3)
        clear hL3 hx ha1 hb1
        have hx := blk_cell HXL3.out 0
        have ha1 := blk_cell HAL3.out 1
        have hb1 := blk_cell HBBL3.out 1
        simp only [List.getElem?_toArray, List.getElem?_cons_zero, List.getElem?_cons_succ] at hx ha1 hb1
        rw [HG5.out i (by omega) hlt]
        go_wp2_with fail
        go_roundw
        case measure => simp [intOf]; omega
        case rel => exact ⟨i + 1, by omega, by omega, by go_num, HXL3, HAL3, HBBL3, HWL3⟩
      · have hlt1 : ((i : Int) < (g : Int)) = False := eq_false (by omega)
        have hlt2 : decide ((i : Int) < (g : Int)) = false := decide_eq_false (by omega)
        go_wp2_with fail
        go_ret
        exact ⟨rfl, HWr.out⟩
set_option maxHeartbeats 2000000 in
set_option maxRecDepth 100000 in
theorem stops_none (A : Option Addr) (c : Nat) (T : List Int) (at_ : Int) (p : Nat) (hp : p ≤ T.length) (hpl : quoinlaw10_place.f at_ ((T.length : Int) + 1) = some (p : Int)) (q1 : p = T.length) (q2 : p = 0) (w : World) (hr : Kd.C (Kd.int .u8) w A T.length T) (hc : T.length ≤ c) (hl : T.length ≤ 1048576) :
    Calls Try.prog 6 #[.slice A T.length c, .int .i64 at_] w fun e w' => e = .returned (.bool true) ∧ Below w.heap.size w w' := by
  have HR := Aside0.mk hr
  have HC := Aside0.mk hc
  have HL := Aside0.mk hl
  have HPL := Aside0.mk hpl
  have HPP := Aside0.mk hp
  have hw : IntKind.i64.wrap ((T.length : Int) + 1) = (T.length : Int) + 1 := by rw [i64_w, w64 _ (by omega)]
  have hwp : IntKind.i64.wrap ((p : Int) + 1) = (p : Int) + 1 := by rw [i64_w, w64 _ (by omega)]
  have f1 : ((p : Int) == (T.length : Int)) = true := by first | exact beq_iff_eq.mpr (by omega) | exact beq_eq_false_iff_ne.mpr (by omega)
  have f2 : ((p : Int) == 0) = true := by first | exact beq_iff_eq.mpr (by omega) | exact beq_eq_false_iff_ne.mpr (by omega)
  have hm1 : block_Move.f 12583200010 T (p : Int) 1 ⟨#[125]⟩ = some (0, 0, 0, 70) := by
    have h := move_dn T hl p 1 12583200010 hp (by omega) (by omega) (by omega)
    rw [runD, if_pos (by omega)] at h
    exact h
  have hm2 : block_Move.f 12583200010 T (p : Int) 1 ⟨#[123]⟩ = some (0, 0, 0, 70) := by
    have h := move_up T hl p 1 12583200010 hp (by omega) (by omega) (by omega)
    rw [runU, if_pos (by omega)] at h
    exact h
  have HM1 := Aside0.mk hm1
  have HM2 := Aside0.mk hm2
  clear hr hc hl hpl hm1 hm2 q1 q2 hp
  go_enter Try.func6, Try.ntmps6
  go_upto_region 1 with (fail)
  have hb := blk_new w (Obj.cells #[Value.slice A T.length c] 22)
  have hB := (Below.refl w.heap.size w).alloc (Nat.le_refl _) (Obj.cells #[Value.slice A T.length c] 22)
  generalize w.alloc (Obj.cells #[Value.slice A T.length c] 22) = W0 at hb hB ⊢
  have HX0 := Aside0.mk hb
  have HB0 := Aside0.mk hB
  clear hb hB
  go_wp2_with fail
  refine (awake_calls W0).mono ?_
  rintro e w1 ⟨rfl, h1⟩
  have HX1 := Aside0.mk (blk_below HX0.out h1)
  have HB1 := Aside0.mk (below_step HB0.out h1)
  clear h1 HX0 HB0
  have hx := blk_cell HX1.out 0
  simp only [List.getElem?_toArray, List.getElem?_cons_zero] at hx
  go_wp2_with fail
  refine (quoinlaw10_place.calls at_ ((T.length : Int) + 1) (p : Int) w1 HPL.out).mono ?_
  rintro e w2 ⟨rfl, h2⟩
  have h2 := h2.below
  have HX2 := Aside0.mk (blk_below HX1.out h2)
  have HB2 := Aside0.mk (below_step HB1.out h2)
  clear h2 HX1 HB1 hx
  have hx := blk_cell HX2.out 0
  simp only [List.getElem?_toArray, List.getElem?_cons_zero] at hx
  go_wp2_with fail
  refine (block_Move.calls 12583200010 A c T (p : Int) 1 ⟨#[125]⟩ 0 0 0 70 _ (Kd.C_below HR.out HB2.out) HC.out HM1.out).mono ?_
  rintro e w3 ⟨rfl, h3⟩
  have HX3 := Aside0.mk (blk_below HX2.out h3)
  have HB3 := Aside0.mk (below_step HB2.out h3)
  clear h3 HX2 HB2 hx
  go_upto_region 7 with (fail)
  have ha := blk_new w3 (Obj.cells #[Value.int .i64 0, Value.int .i64 0, Value.int .i64 0] 30)
  have hx4 := blk_alloc HX3.out (Obj.cells #[Value.int .i64 0, Value.int .i64 0, Value.int .i64 0] 30)
  have hB4 := HB3.out.alloc HB3.out.size (Obj.cells #[Value.int .i64 0, Value.int .i64 0, Value.int .i64 0] 30)
  generalize w3.alloc (Obj.cells #[Value.int .i64 0, Value.int .i64 0, Value.int .i64 0] 30) = w4 at ha hx4 hB4 ⊢
  have HA4 := Aside0.mk ha
  have HX4 := Aside0.mk hx4
  have HB4 := Aside0.mk hB4
  clear ha hx4 hB4
  have hx := blk_cell HX4.out 0
  simp only [List.getElem?_toArray, List.getElem?_cons_zero] at hx
  go_wp2_with fail
  refine (block_Move.calls 12583200010 A c T (p : Int) 1 ⟨#[123]⟩ 0 0 0 70 _ (Kd.C_below HR.out HB4.out) HC.out HM2.out).mono ?_
  rintro e w5 ⟨rfl, h5⟩
  have HA5 := Aside0.mk (blk_below HA4.out h5)
  have HX5 := Aside0.mk (blk_below HX4.out h5)
  have HB5 := Aside0.mk (below_step HB4.out h5)
  clear h5 HA4 HX4 HB4 hx
  go_upto_region 8 with (fail)
  have hb := blk_new w5 (Obj.cells #[Value.int .i64 0, Value.int .i64 0, Value.int .i64 0] 30)
  have ha6 := blk_alloc HA5.out (Obj.cells #[Value.int .i64 0, Value.int .i64 0, Value.int .i64 0] 30)
  have hx6 := blk_alloc HX5.out (Obj.cells #[Value.int .i64 0, Value.int .i64 0, Value.int .i64 0] 30)
  have hB6 := HB5.out.alloc HB5.out.size (Obj.cells #[Value.int .i64 0, Value.int .i64 0, Value.int .i64 0] 30)
  generalize w5.alloc (Obj.cells #[Value.int .i64 0, Value.int .i64 0, Value.int .i64 0] 30) = w6 at hb ha6 hx6 hB6 ⊢
  have HA := Aside0.mk ha6
  have HBB := Aside0.mk hb
  have HX := Aside0.mk hx6
  have HW := Aside0.mk hB6
  clear hb ha6 hx6 hB6 HB3 HX3
  have hx := blk_cell HX.out 0
  have ha1 := blk_cell HA.out 1
  have hb1 := blk_cell HBB.out 1
  simp only [List.getElem?_toArray, List.getElem?_cons_zero, List.getElem?_cons_succ] at hx ha1 hb1
  go_wp2_with fail
  go_ret
  exact ⟨rfl, HW.out⟩
theorem stops_row (A : Option Addr) (c : Nat) (T : List Int) (at_ : Int) (w : World) (hr : Kd.C (Kd.int .u8) w A T.length T) (hc : T.length ≤ c) {G : Prop} (_ : G) (g1 : (Lit.int .i64 at_).wf = true) (hl : T.length ≤ 1048576) :
    Calls Try.prog 6 #[.slice A T.length c, .int .i64 at_] w fun e w' => e = .returned (.bool true) ∧ Below w.heap.size w w' := by
  have hb : -9223372036854775808 ≤ at_ ∧ at_ ≤ 9223372036854775807 := by
    simp only [Lit.wf, Bool.and_eq_true, decide_eq_true_eq] at g1
    have e1 : IntKind.i64.min = -9223372036854775808 := by decide
    have e2 : IntKind.i64.max = 9223372036854775807 := by decide
    omega
  obtain ⟨p, hp, hpl⟩ := place_f at_ (T.length + 1) hb (by omega)
  rw [show ((T.length + 1 : Nat) : Int) = (T.length : Int) + 1 by omega] at hpl
  by_cases q1 : p = T.length
  · by_cases q2 : p = 0
    · exact stops_none A c T at_ p (by omega) hpl q1 q2 w hr hc hl
    · exact stops_last A c T at_ p (by omega) hpl q1 q2 w hr hc hl
  · by_cases q2 : p = 0
    · exact stops_first A c T at_ p (by omega) hpl q1 q2 w hr hc hl
    · exact stops_mid A c T at_ p (by omega) hpl q1 q2 w hr hc hl
end Go.Proofs.Ytbklmdgmgffjeaa.Hand
