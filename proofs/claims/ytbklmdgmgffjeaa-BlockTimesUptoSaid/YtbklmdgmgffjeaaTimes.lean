/- The law BlockTimes by hand. Condition: the text's length is at most 1048576. -/
import Derived.Test.YtbklmdgmgffjeaaTmP
import Derived.Test.YtbklmdgmgffjeaaAwake
namespace Go.Proofs.Ytbklmdgmgffjeaa.Hand
open Go.RowKit Go.Proofs.Ytbklmdgmgffjeaa.PBl Go.Proofs.Ytbklmdgmgffjeaa.Aggs Go.Proofs.YtbklmdgmgffjeaaW.PrintWords Go.Proofs.YtbklmdgmgffjeaaW.PrintLast Go.Proofs.YtbklmdgmgffjeaaW.PrintMore
set_option linter.unusedVariables false
set_option linter.unusedSimpArgs false
attribute [local go_sem high] PBl.eqA30
set_option maxHeartbeats 2000000 in
set_option maxRecDepth 100000 in
theorem times_bd (A : Option Addr) (c : Nat) (T : List Int) (a0 a1 : Int) (p m : Nat) (hp : p ≤ T.length) (hm : m < 12) (hpl : quoinlaw10_place.f a0 ((T.length : Int) + 1) = some (p : Int)) (hpm : quoinlaw10_place.f a1 12 = some (m : Int)) (nx : Nat → Nat) (st : Nat → Bool) (W1 : Way T 12583200010 ⟨#[125]⟩ true nx st) (g0 g1 g2 ge : Int) (hg : mvR (p : Int) (runG nx st (m + 1) p) = (g0, g1, g2, ge)) (w : World) (hr : Kd.C (Kd.int .u8) w A T.length T) (hc : T.length ≤ c) (hl : T.length ≤ 1048576) :
    Calls Try.prog 4 #[.slice A T.length c, .agg #[.int .i64 a0, .int .i64 a1, .string ⟨#[125]⟩]] w fun e w' => e = .returned (.bool true) ∧ Below w.heap.size w w' := by
  have HR := Aside0.mk hr
  have HC := Aside0.mk hc
  have HL := Aside0.mk hl
  have HPL := Aside0.mk hpl
  have HPM := Aside0.mk hpm
  have HPP := Aside0.mk hp
  have HMM := Aside0.mk hm
  have HWY := Aside0.mk W1
  have HG := Aside0.mk hg
  have hw : IntKind.i64.wrap ((T.length : Int) + 1) = (T.length : Int) + 1 := by rw [i64_w, w64 _ (by omega)]
  have hw' : Go.RowKit.wrap64 ((T.length : Int) + 1) = (T.length : Int) + 1 := w64 _ (by omega)
  have hwm : IntKind.i64.wrap ((m : Int) + 1) = (m : Int) + 1 := by rw [i64_w, w64 _ (by omega)]
  have hwm' : Go.RowKit.wrap64 ((m : Int) + 1) = (m : Int) + 1 := w64 _ (by omega)
  have HM := Aside0.mk (show block_Move.f 12583200010 T (p : Int) ((m : Int) + 1) ⟨#[125]⟩ = some (g0, g1, g2, ge) from by have h := W1.mv p (m + 1) hp (by omega) (by omega); rw [hg] at h; exact h)
  clear hr hc hl hpl hpm hp W1 hg hm
  go_enter Try.func4, Try.ntmps4
  go_upto_region 1 with (fail)
  have hb := blk_new w (Obj.cells #[Value.int .i64 a0, Value.int .i64 a1, Value.string { data := #[125] }] 28)
  have hB := (Below.refl w.heap.size w).alloc (Nat.le_refl _) (Obj.cells #[Value.int .i64 a0, Value.int .i64 a1, Value.string { data := #[125] }] 28)
  generalize w.alloc (Obj.cells #[Value.int .i64 a0, Value.int .i64 a1, Value.string { data := #[125] }] 28) = W0 at hb hB ⊢
  have HX0 := Aside0.mk hb
  have HB0 := Aside0.mk hB
  clear hb hB
  go_wp2_with fail
  refine (awake_calls W0).mono ?_
  rintro e w1 ⟨rfl, h1⟩
  have HX1 := Aside0.mk (blk_below HX0.out h1)
  have HB1 := Aside0.mk (below_step HB0.out h1)
  clear h1 HX0 HB0
  have hx0 := blk_cell HX1.out 0
  have hx1 := blk_cell HX1.out 1
  have hx2 := blk_cell HX1.out 2
  simp only [List.getElem?_toArray, List.getElem?_cons_zero, List.getElem?_cons_succ] at hx0 hx1 hx2
  go_upto_region 9 with (fail)
  refine start_ (n := 12) (S := fun w' => w'.heap[w.heap.size]? = some (Obj.cells #[Value.int .i64 a0, Value.int .i64 a1, Value.string { data := #[125] }] 28 (0, 0)) ∧ Below w.heap.size w w') (ds := []) #[false, false, false, false, false, false, false, false, false, false, false, false] (by kernel_rfl) rfl rfl ⟨blk_drew HX1.out, HB1.out.drew⟩ (fun hHeld => ?_)
  refine pure_ (i := 0) (N := some 22) (v := ?_) (a' := ?_) #[true, false, false, false, false, false, false, false, false, false, false, false] rfl rfl (by kernel_rfl) (fun _ _ _ h => h) (Or.inl ⟨by rfl, ?_⟩) ?_ ?_
  rotate_left
  · intro w'
    go_simp
    with_reducible rfl
  rotate_left
  · simp only [Act.put, List.setIfInBounds_toArray, List.set_cons_zero, List.set_cons_succ, i64_w, i32_w]
    rfl
  refine take_ (i := 1) (N := some 23) (v := (.int .i64 a0)) (a' := ?_) #[true, true, false, false, false, false, false, false, false, false, false, false] rfl rfl (by kernel_rfl) (fun _ _ _ h => h) (Or.inl ⟨by rfl, by rintro w' ⟨s0, s1⟩; have hz := blk_cell s0 0; simp only [List.getElem?_toArray, List.getElem?_cons_zero, List.getElem?_cons_succ] at hz; go_simp⟩) hHeld ?_ ?_
  rotate_left
  · simp only [Act.put, List.setIfInBounds_toArray, List.set_cons_zero, List.set_cons_succ, i64_w, i32_w]
    rfl
  refine pure_ (i := 2) (N := some 24) (v := ?_) (a' := ?_) #[true, true, true, false, false, false, false, false, false, false, false, false] rfl rfl (by kernel_rfl) (fun _ _ _ h => h) (Or.inl ⟨by rfl, ?_⟩) ?_ ?_
  rotate_left
  · intro w'
    go_simp
    with_reducible rfl
  rotate_left
  · simp only [Act.put, List.setIfInBounds_toArray, List.set_cons_zero, List.set_cons_succ, i64_w, i32_w]
    rfl
  refine pure_ (i := 3) (N := some 25) (v := ?_) (a' := ?_) #[true, true, true, true, false, false, false, false, false, false, false, false] rfl rfl (by kernel_rfl) (fun _ _ _ h => h) (Or.inl ⟨by rfl, ?_⟩) ?_ ?_
  rotate_left
  · intro w'
    go_simp
    with_reducible rfl
  rotate_left
  · simp only [Act.put, List.setIfInBounds_toArray, List.set_cons_zero, List.set_cons_succ, i64_w, i32_w]
    rfl
  refine pure_ (i := 4) (N := some 26) (v := ?_) (a' := ?_) #[true, true, true, true, true, false, false, false, false, false, false, false] rfl rfl (by kernel_rfl) (fun _ _ _ h => h) (Or.inl ⟨by rfl, ?_⟩) ?_ ?_
  rotate_left
  · intro w'
    go_simp
    with_reducible rfl
  rotate_left
  · simp only [Act.put, List.setIfInBounds_toArray, List.set_cons_zero, List.set_cons_succ, i64_w, i32_w]
    rfl
  refine pure_ (i := 6) (N := some 28) (v := ?_) (a' := ?_) #[true, true, true, true, true, false, true, false, false, false, false, false] rfl rfl (by kernel_rfl) (fun _ _ _ h => h) (Or.inl ⟨by rfl, ?_⟩) ?_ ?_
  rotate_left
  · intro w'
    go_simp
    with_reducible rfl
  rotate_left
  · simp only [Act.put, List.setIfInBounds_toArray, List.set_cons_zero, List.set_cons_succ, i64_w, i32_w]
    rfl
  refine take_ (i := 7) (N := some 29) (v := (.int .i64 a1)) (a' := ?_) #[true, true, true, true, true, false, true, true, false, false, false, false] rfl rfl (by kernel_rfl) (fun _ _ _ h => h) (Or.inl ⟨by rfl, by rintro w' ⟨s0, s1⟩; have hz := blk_cell s0 1; simp only [List.getElem?_toArray, List.getElem?_cons_zero, List.getElem?_cons_succ] at hz; go_simp⟩) hHeld ?_ ?_
  rotate_left
  · simp only [Act.put, List.setIfInBounds_toArray, List.set_cons_zero, List.set_cons_succ, i64_w, i32_w]
    rfl
  refine one_ (i := 5) (N := some 27) #[true, true, true, true, true, true, true, true, false, false, false, false] rfl rfl (by kernel_rfl) (by decide) (fun K hK => ?_)
  refine goes_ Try.func13 (by kernel_rfl) rfl #[.int .i64 a0, .int .i64 ((T.length : Int) + 1)] (by rfl) rfl rfl (by simp [Act.eval]) ?_
  refine (quoinlaw10_place.calls a0 ((T.length : Int) + 1) (p : Int) _ HPL.out).mono ?_
  rintro e w2 ⟨rfl, h2⟩
  have h2 := h2.below
  refine ⟨_, rfl, ?_⟩
  refine hK.out _ _ ⟨blk_below hHeld.1 h2, below_step hHeld.2 h2⟩ (fun hHeld => ?_)
  clear hK K
  refine norm_ (a' := ?_) ?_ ?_
  rotate_left
  · show Act.put _ (some 27) _ = _
    simp only [Act.put, List.setIfInBounds_toArray, List.set_cons_zero, List.set_cons_succ, i64_w, i32_w]
    rfl
  refine one_ (i := 8) (N := some 30) #[true, true, true, true, true, true, true, true, true, false, false, false] rfl rfl (by kernel_rfl) (by decide) (fun K hK => ?_)
  refine goes_ Try.func13 (by kernel_rfl) rfl #[.int .i64 a1, .int .i64 12] (by rfl) rfl rfl (by simp [Act.eval]) ?_
  refine (quoinlaw10_place.calls a1 12 (m : Int) _ HPM.out).mono ?_
  rintro e w2 ⟨rfl, h2⟩
  have h2 := h2.below
  refine ⟨_, rfl, ?_⟩
  refine hK.out _ _ ⟨blk_below hHeld.1 h2, below_step hHeld.2 h2⟩ (fun hHeld => ?_)
  clear hK K
  refine norm_ (a' := ?_) ?_ ?_
  rotate_left
  · show Act.put _ (some 30) _ = _
    simp only [Act.put, List.setIfInBounds_toArray, List.set_cons_zero, List.set_cons_succ, i64_w, i32_w]
    rfl
  refine pure_ (i := 10) (N := some 5) (v := ?_) (a' := ?_) #[true, true, true, true, true, true, true, true, true, false, true, false] rfl rfl (by kernel_rfl) (fun _ _ _ h => h) (Or.inl ⟨by rfl, ?_⟩) ?_ ?_
  rotate_left
  · intro w'
    go_simp
    with_reducible rfl
  rotate_left
  · simp only [Act.put, List.setIfInBounds_toArray, List.set_cons_zero, List.set_cons_succ, i64_w, i32_w]
    rfl
  refine pure_ (i := 9) (N := some 31) (v := ?_) (a' := ?_) #[true, true, true, true, true, true, true, true, true, true, true, false] rfl rfl (by kernel_rfl) (fun _ _ _ h => h) (Or.inl ⟨by rfl, ?_⟩) ?_ ?_
  rotate_left
  · intro w'
    go_simp
    with_reducible rfl
  rotate_left
  · simp only [Act.put, List.setIfInBounds_toArray, List.set_cons_zero, List.set_cons_succ, i64_w, i32_w]
    rfl
  refine pure_ (i := 11) (N := some 6) (v := ?_) (a' := ?_) #[true, true, true, true, true, true, true, true, true, true, true, true] rfl rfl (by kernel_rfl) (fun _ _ _ h => h) (Or.inl ⟨by rfl, ?_⟩) ?_ ?_
  rotate_left
  · intro w'
    go_simp
    with_reducible rfl
  rotate_left
  · simp only [Act.put, List.setIfInBounds_toArray, List.set_cons_zero, List.set_cons_succ, i64_w, i32_w]
    rfl
  refine done_ (by kernel_rfl) ?_
  obtain ⟨hX2, hB2⟩ := hHeld
  have HX2 := Aside0.mk hX2
  have HB2 := Aside0.mk hB2
  clear hX2 hB2 HX1 HB1 hx0 hx1 hx2
  have hx0 := blk_cell HX2.out 0
  have hx1 := blk_cell HX2.out 1
  have hx2 := blk_cell HX2.out 2
  simp only [List.getElem?_toArray, List.getElem?_cons_zero, List.getElem?_cons_succ] at hx0 hx1 hx2
  go_wp2_with fail
  refine (block_Move.calls 12583200010 A c T (p : Int) ((m : Int) + 1) ⟨#[125]⟩ g0 g1 g2 ge _ (Kd.C_below HR.out HB2.out) HC.out HM.out).mono ?_
  rintro e w3 ⟨rfl, h3⟩
  have HX3 := Aside0.mk (blk_below HX2.out h3)
  have HB3 := Aside0.mk (below_step HB2.out h3)
  clear h3 HX2 HB2 hx0 hx1 hx2
  go_upto_region 11 with (fail)
  have ha := blk_new w3 (Obj.cells #[Value.int .i64 g0, Value.int .i64 g1, Value.int .i64 g2] 30)
  have hx4 := blk_alloc HX3.out (Obj.cells #[Value.int .i64 g0, Value.int .i64 g1, Value.int .i64 g2] 30)
  have hB4 := HB3.out.alloc HB3.out.size (Obj.cells #[Value.int .i64 g0, Value.int .i64 g1, Value.int .i64 g2] 30)
  generalize w3.alloc (Obj.cells #[Value.int .i64 g0, Value.int .i64 g1, Value.int .i64 g2] 30) = w4 at ha hx4 hB4 ⊢
  have HA4 := Aside0.mk ha
  have HX4 := Aside0.mk hx4
  have HB4 := Aside0.mk hB4
  clear ha hx4 hB4 HX3 HB3
  go_wp2_with fail
  go_loopw [9, 43] (fun v9 v43 W => ∃ i q : Nat, i ≤ m + 1 ∧ q ≤ T.length ∧ v43 = .int .i64 i ∧ v9 = .int .i64 q ∧ Aside0 (runG nx st (m + 1 - i) q = runG nx st (m + 1) p) ∧ Aside0 (W.heap[w.heap.size]? = some (Obj.cells #[Value.int .i64 a0, Value.int .i64 a1, Value.string { data := #[125] }] 28 (0, 0))) ∧ Aside0 (W.heap[w3.heap.size]? = some (Obj.cells #[Value.int .i64 g0, Value.int .i64 g1, Value.int .i64 g2] 30 (0, 0))) ∧ Aside0 (Below w.heap.size w W)) (fun _ v43 _ => m + 1 - (intOf v43).toNat)
  case atStart => exact ⟨0, p, by omega, HPP.out, rfl, rfl, ⟨rfl⟩, HX4, HA4, HB4⟩
  case round =>
    clear HX4 HA4 HB4
    obtain ⟨i, q, hi, hq, rfl, rfl, HRun, HX, HA, HB⟩ := hrel
    have HQ := Aside0.mk hq
    have hx0 := blk_cell HX.out 0
    have hx1 := blk_cell HX.out 1
    have hx2 := blk_cell HX.out 2
    simp only [List.getElem?_toArray, List.getElem?_cons_zero, List.getElem?_cons_succ] at hx0 hx1 hx2
    by_cases hlt : i < m + 1
    · have hlt1 : ((i : Int) < (m : Int) + 1) = True := eq_true (by omega)
      have hlt2 : decide ((i : Int) < (m : Int) + 1) = true := decide_eq_true (by omega)
      have hwi : IntKind.i64.wrap ((i : Int) + 1) = (i : Int) + 1 := by have := HMM.out; rw [i64_w, w64 _ (by omega)]
      obtain ⟨d, hd⟩ : ∃ d, m + 1 - i = d + 1 := ⟨m - i, by omega⟩
      have hrun := HRun.out
      rw [hd, runG] at hrun
      cases hst : st q
      case false =>
        rw [hst, if_neg (by simp)] at hrun
        have HRun2 := Aside0.mk hrun
        have hmq : block_Move.f 12583200010 T (q : Int) 1 ⟨#[125]⟩ = some ((q : Int), (nx q : Int), 1, 0) := by
          have h := HWY.out.mv q 1 hq (by omega) (by omega)
          simp only [runG, hst] at h
          exact h
        have HNX := Aside0.mk (HWY.out.le q hq hst)
        have hfw := HWY.out.fw q hq hst rfl
        have t1 : decide ((nx q : Int) ≤ (q : Int)) = false := decide_eq_false (by omega)
        have t1b : ((nx q : Int) ≤ (q : Int)) = False := eq_false (by omega)
        have t2 : decide ((nx q : Int) < 0) = false := decide_eq_false (by omega)
        have t2b : ((nx q : Int) < 0) = False := eq_false (by omega)
        have t3 : decide ((nx q : Int) > (T.length : Int)) = false := decide_eq_false (by have := HNX.out; omega)
        have t3b : ((T.length : Int) < (nx q : Int)) = False := eq_false (by have := HNX.out; omega)
        clear hfw hst hrun HRun hq
        go_wp2_with fail
        refine (block_Move.calls 12583200010 A c T (q : Int) 1 ⟨#[125]⟩ (q : Int) (nx q : Int) 1 0 _ (Kd.C_below HR.out HB.out) HC.out hmq).mono ?_
        rintro e w5 ⟨rfl, h5⟩
        have HX5 := Aside0.mk (blk_below HX.out h5)
        have HA5 := Aside0.mk (blk_below HA.out h5)
        have HB5 := Aside0.mk (below_step HB.out h5)
        clear h5 hx0 hx1 hx2 hmq
        go_upto_region 15 with (fail)
        have hb := blk_new w5 (Obj.cells #[Value.int .i64 (q : Int), Value.int .i64 (nx q : Int), Value.int .i64 1] 30)
        have hx6 := blk_alloc HX5.out (Obj.cells #[Value.int .i64 (q : Int), Value.int .i64 (nx q : Int), Value.int .i64 1] 30)
        have ha6 := blk_alloc HA5.out (Obj.cells #[Value.int .i64 (q : Int), Value.int .i64 (nx q : Int), Value.int .i64 1] 30)
        have hB6 := HB5.out.alloc HB5.out.size (Obj.cells #[Value.int .i64 (q : Int), Value.int .i64 (nx q : Int), Value.int .i64 1] 30)
        generalize w5.alloc (Obj.cells #[Value.int .i64 (q : Int), Value.int .i64 (nx q : Int), Value.int .i64 1] 30) = w6 at hb hx6 ha6 hB6 ⊢
        have HT6 := Aside0.mk hb
        have HX6 := Aside0.mk hx6
        have HA6 := Aside0.mk ha6
        have HB6 := Aside0.mk hB6
        clear hb hx6 ha6 hB6 HX5 HA5 HB5 HX HA HB
        have hx0 := blk_cell HX6.out 0
        have hx1 := blk_cell HX6.out 1
        have hx2 := blk_cell HX6.out 2
        simp only [List.getElem?_toArray, List.getElem?_cons_zero, List.getElem?_cons_succ] at hx0 hx1 hx2
        have ha0 := blk_cell HA6.out 0
        have ha1 := blk_cell HA6.out 1
        have ha2 := blk_cell HA6.out 2
        simp only [List.getElem?_toArray, List.getElem?_cons_zero, List.getElem?_cons_succ] at ha0 ha1 ha2
        have hb0 := blk_cell HT6.out 0
        have hb1 := blk_cell HT6.out 1
        have hb2 := blk_cell HT6.out 2
        simp only [List.getElem?_toArray, List.getElem?_cons_zero, List.getElem?_cons_succ] at hb0 hb1 hb2
        go_wp2_with fail
        go_roundw
        case measure => simp [intOf]; omega
        case rel => exact ⟨i + 1, nx q, by omega, HNX.out, by go_num, rfl, ⟨by rw [← HRun2.out]; congr 1; omega⟩, HX6, HA6, HB6⟩
      case true =>
        rw [hst, if_pos rfl] at hrun
        have hg := HG.out
        rw [← hrun] at hg
        simp only [mvR] at hg
        rw [if_neg (by decide)] at hg
        simp only [Prod.mk.injEq] at hg
        obtain ⟨rfl, rfl, rfl, rfl⟩ := hg
        have hmq : block_Move.f 12583200010 T (q : Int) 1 ⟨#[125]⟩ = some (0, 0, 0, 70) := by
          have h := HWY.out.mv q 1 hq (by omega) (by omega)
          simp only [runG, hst] at h
          exact h
        clear hst hrun HRun hq
        go_wp2_with fail
        refine (block_Move.calls 12583200010 A c T (q : Int) 1 ⟨#[125]⟩ 0 0 0 70 _ (Kd.C_below HR.out HB.out) HC.out hmq).mono ?_
        rintro e w5 ⟨rfl, h5⟩
        have HX5 := Aside0.mk (blk_below HX.out h5)
        have HA5 := Aside0.mk (blk_below HA.out h5)
        have HB5 := Aside0.mk (below_step HB.out h5)
        clear h5 hx0 hx1 hx2 hmq
        go_upto_region 15 with (fail)
        have hb := blk_new w5 (Obj.cells #[Value.int .i64 0, Value.int .i64 0, Value.int .i64 0] 30)
        have hx6 := blk_alloc HX5.out (Obj.cells #[Value.int .i64 0, Value.int .i64 0, Value.int .i64 0] 30)
        have ha6 := blk_alloc HA5.out (Obj.cells #[Value.int .i64 0, Value.int .i64 0, Value.int .i64 0] 30)
        have hB6 := HB5.out.alloc HB5.out.size (Obj.cells #[Value.int .i64 0, Value.int .i64 0, Value.int .i64 0] 30)
        generalize w5.alloc (Obj.cells #[Value.int .i64 0, Value.int .i64 0, Value.int .i64 0] 30) = w6 at hb hx6 ha6 hB6 ⊢
        have HT6 := Aside0.mk hb
        have HX6 := Aside0.mk hx6
        have HA6 := Aside0.mk ha6
        have HB6 := Aside0.mk hB6
        clear hb hx6 ha6 hB6 HX5 HA5 HB5 HX HA HB
        have hx0 := blk_cell HX6.out 0
        have hx1 := blk_cell HX6.out 1
        have hx2 := blk_cell HX6.out 2
        simp only [List.getElem?_toArray, List.getElem?_cons_zero, List.getElem?_cons_succ] at hx0 hx1 hx2
        have ha0 := blk_cell HA6.out 0
        have ha1 := blk_cell HA6.out 1
        have ha2 := blk_cell HA6.out 2
        simp only [List.getElem?_toArray, List.getElem?_cons_zero, List.getElem?_cons_succ] at ha0 ha1 ha2
        have hb0 := blk_cell HT6.out 0
        have hb1 := blk_cell HT6.out 1
        have hb2 := blk_cell HT6.out 2
        simp only [List.getElem?_toArray, List.getElem?_cons_zero, List.getElem?_cons_succ] at hb0 hb1 hb2
        go_wp2_with fail
        go_ret
        exact ⟨rfl, HB6.out⟩
    · have hlt1 : ((i : Int) < (m : Int) + 1) = False := eq_false (by omega)
      have hlt2 : decide ((i : Int) < (m : Int) + 1) = false := decide_eq_false (by omega)
      have hrun := HRun.out
      rw [show m + 1 - i = 0 by omega, runG] at hrun
      have hg := HG.out
      rw [← hrun] at hg
      simp only [mvR, if_true] at hg
      simp only [Prod.mk.injEq] at hg
      obtain ⟨rfl, rfl, rfl, rfl⟩ := hg
      clear hrun HRun
      have ha0 := blk_cell HA.out 0
      have ha1 := blk_cell HA.out 1
      have ha2 := blk_cell HA.out 2
      simp only [List.getElem?_toArray, List.getElem?_cons_zero, List.getElem?_cons_succ] at ha0 ha1 ha2
      go_wp2_with fail
      go_ret
      exact ⟨by simp, HB.out⟩
set_option maxHeartbeats 2000000 in
set_option maxRecDepth 100000 in
theorem times_bu (A : Option Addr) (c : Nat) (T : List Int) (a0 a1 : Int) (p m : Nat) (hp : p ≤ T.length) (hm : m < 12) (hpl : quoinlaw10_place.f a0 ((T.length : Int) + 1) = some (p : Int)) (hpm : quoinlaw10_place.f a1 12 = some (m : Int)) (nx : Nat → Nat) (st : Nat → Bool) (W1 : Way T 12583200010 ⟨#[123]⟩ false nx st) (g0 g1 g2 ge : Int) (hg : mvR (p : Int) (runG nx st (m + 1) p) = (g0, g1, g2, ge)) (w : World) (hr : Kd.C (Kd.int .u8) w A T.length T) (hc : T.length ≤ c) (hl : T.length ≤ 1048576) :
    Calls Try.prog 4 #[.slice A T.length c, .agg #[.int .i64 a0, .int .i64 a1, .string ⟨#[123]⟩]] w fun e w' => e = .returned (.bool true) ∧ Below w.heap.size w w' := by
  have HR := Aside0.mk hr
  have HC := Aside0.mk hc
  have HL := Aside0.mk hl
  have HPL := Aside0.mk hpl
  have HPM := Aside0.mk hpm
  have HPP := Aside0.mk hp
  have HMM := Aside0.mk hm
  have HWY := Aside0.mk W1
  have HG := Aside0.mk hg
  have hw : IntKind.i64.wrap ((T.length : Int) + 1) = (T.length : Int) + 1 := by rw [i64_w, w64 _ (by omega)]
  have hw' : Go.RowKit.wrap64 ((T.length : Int) + 1) = (T.length : Int) + 1 := w64 _ (by omega)
  have hwm : IntKind.i64.wrap ((m : Int) + 1) = (m : Int) + 1 := by rw [i64_w, w64 _ (by omega)]
  have hwm' : Go.RowKit.wrap64 ((m : Int) + 1) = (m : Int) + 1 := w64 _ (by omega)
  have HM := Aside0.mk (show block_Move.f 12583200010 T (p : Int) ((m : Int) + 1) ⟨#[123]⟩ = some (g0, g1, g2, ge) from by have h := W1.mv p (m + 1) hp (by omega) (by omega); rw [hg] at h; exact h)
  clear hr hc hl hpl hpm hp W1 hg hm
  go_enter Try.func4, Try.ntmps4
  go_upto_region 1 with (fail)
  have hb := blk_new w (Obj.cells #[Value.int .i64 a0, Value.int .i64 a1, Value.string { data := #[123] }] 28)
  have hB := (Below.refl w.heap.size w).alloc (Nat.le_refl _) (Obj.cells #[Value.int .i64 a0, Value.int .i64 a1, Value.string { data := #[123] }] 28)
  generalize w.alloc (Obj.cells #[Value.int .i64 a0, Value.int .i64 a1, Value.string { data := #[123] }] 28) = W0 at hb hB ⊢
  have HX0 := Aside0.mk hb
  have HB0 := Aside0.mk hB
  clear hb hB
  go_wp2_with fail
  refine (awake_calls W0).mono ?_
  rintro e w1 ⟨rfl, h1⟩
  have HX1 := Aside0.mk (blk_below HX0.out h1)
  have HB1 := Aside0.mk (below_step HB0.out h1)
  clear h1 HX0 HB0
  have hx0 := blk_cell HX1.out 0
  have hx1 := blk_cell HX1.out 1
  have hx2 := blk_cell HX1.out 2
  simp only [List.getElem?_toArray, List.getElem?_cons_zero, List.getElem?_cons_succ] at hx0 hx1 hx2
  go_upto_region 9 with (fail)
  refine start_ (n := 12) (S := fun w' => w'.heap[w.heap.size]? = some (Obj.cells #[Value.int .i64 a0, Value.int .i64 a1, Value.string { data := #[123] }] 28 (0, 0)) ∧ Below w.heap.size w w') (ds := []) #[false, false, false, false, false, false, false, false, false, false, false, false] (by kernel_rfl) rfl rfl ⟨blk_drew HX1.out, HB1.out.drew⟩ (fun hHeld => ?_)
  refine pure_ (i := 0) (N := some 22) (v := ?_) (a' := ?_) #[true, false, false, false, false, false, false, false, false, false, false, false] rfl rfl (by kernel_rfl) (fun _ _ _ h => h) (Or.inl ⟨by rfl, ?_⟩) ?_ ?_
  rotate_left
  · intro w'
    go_simp
    with_reducible rfl
  rotate_left
  · simp only [Act.put, List.setIfInBounds_toArray, List.set_cons_zero, List.set_cons_succ, i64_w, i32_w]
    rfl
  refine take_ (i := 1) (N := some 23) (v := (.int .i64 a0)) (a' := ?_) #[true, true, false, false, false, false, false, false, false, false, false, false] rfl rfl (by kernel_rfl) (fun _ _ _ h => h) (Or.inl ⟨by rfl, by rintro w' ⟨s0, s1⟩; have hz := blk_cell s0 0; simp only [List.getElem?_toArray, List.getElem?_cons_zero, List.getElem?_cons_succ] at hz; go_simp⟩) hHeld ?_ ?_
  rotate_left
  · simp only [Act.put, List.setIfInBounds_toArray, List.set_cons_zero, List.set_cons_succ, i64_w, i32_w]
    rfl
  refine pure_ (i := 2) (N := some 24) (v := ?_) (a' := ?_) #[true, true, true, false, false, false, false, false, false, false, false, false] rfl rfl (by kernel_rfl) (fun _ _ _ h => h) (Or.inl ⟨by rfl, ?_⟩) ?_ ?_
  rotate_left
  · intro w'
    go_simp
    with_reducible rfl
  rotate_left
  · simp only [Act.put, List.setIfInBounds_toArray, List.set_cons_zero, List.set_cons_succ, i64_w, i32_w]
    rfl
  refine pure_ (i := 3) (N := some 25) (v := ?_) (a' := ?_) #[true, true, true, true, false, false, false, false, false, false, false, false] rfl rfl (by kernel_rfl) (fun _ _ _ h => h) (Or.inl ⟨by rfl, ?_⟩) ?_ ?_
  rotate_left
  · intro w'
    go_simp
    with_reducible rfl
  rotate_left
  · simp only [Act.put, List.setIfInBounds_toArray, List.set_cons_zero, List.set_cons_succ, i64_w, i32_w]
    rfl
  refine pure_ (i := 4) (N := some 26) (v := ?_) (a' := ?_) #[true, true, true, true, true, false, false, false, false, false, false, false] rfl rfl (by kernel_rfl) (fun _ _ _ h => h) (Or.inl ⟨by rfl, ?_⟩) ?_ ?_
  rotate_left
  · intro w'
    go_simp
    with_reducible rfl
  rotate_left
  · simp only [Act.put, List.setIfInBounds_toArray, List.set_cons_zero, List.set_cons_succ, i64_w, i32_w]
    rfl
  refine pure_ (i := 6) (N := some 28) (v := ?_) (a' := ?_) #[true, true, true, true, true, false, true, false, false, false, false, false] rfl rfl (by kernel_rfl) (fun _ _ _ h => h) (Or.inl ⟨by rfl, ?_⟩) ?_ ?_
  rotate_left
  · intro w'
    go_simp
    with_reducible rfl
  rotate_left
  · simp only [Act.put, List.setIfInBounds_toArray, List.set_cons_zero, List.set_cons_succ, i64_w, i32_w]
    rfl
  refine take_ (i := 7) (N := some 29) (v := (.int .i64 a1)) (a' := ?_) #[true, true, true, true, true, false, true, true, false, false, false, false] rfl rfl (by kernel_rfl) (fun _ _ _ h => h) (Or.inl ⟨by rfl, by rintro w' ⟨s0, s1⟩; have hz := blk_cell s0 1; simp only [List.getElem?_toArray, List.getElem?_cons_zero, List.getElem?_cons_succ] at hz; go_simp⟩) hHeld ?_ ?_
  rotate_left
  · simp only [Act.put, List.setIfInBounds_toArray, List.set_cons_zero, List.set_cons_succ, i64_w, i32_w]
    rfl
  refine one_ (i := 5) (N := some 27) #[true, true, true, true, true, true, true, true, false, false, false, false] rfl rfl (by kernel_rfl) (by decide) (fun K hK => ?_)
  refine goes_ Try.func13 (by kernel_rfl) rfl #[.int .i64 a0, .int .i64 ((T.length : Int) + 1)] (by rfl) rfl rfl (by simp [Act.eval]) ?_
  refine (quoinlaw10_place.calls a0 ((T.length : Int) + 1) (p : Int) _ HPL.out).mono ?_
  rintro e w2 ⟨rfl, h2⟩
  have h2 := h2.below
  refine ⟨_, rfl, ?_⟩
  refine hK.out _ _ ⟨blk_below hHeld.1 h2, below_step hHeld.2 h2⟩ (fun hHeld => ?_)
  clear hK K
  refine norm_ (a' := ?_) ?_ ?_
  rotate_left
  · show Act.put _ (some 27) _ = _
    simp only [Act.put, List.setIfInBounds_toArray, List.set_cons_zero, List.set_cons_succ, i64_w, i32_w]
    rfl
  refine one_ (i := 8) (N := some 30) #[true, true, true, true, true, true, true, true, true, false, false, false] rfl rfl (by kernel_rfl) (by decide) (fun K hK => ?_)
  refine goes_ Try.func13 (by kernel_rfl) rfl #[.int .i64 a1, .int .i64 12] (by rfl) rfl rfl (by simp [Act.eval]) ?_
  refine (quoinlaw10_place.calls a1 12 (m : Int) _ HPM.out).mono ?_
  rintro e w2 ⟨rfl, h2⟩
  have h2 := h2.below
  refine ⟨_, rfl, ?_⟩
  refine hK.out _ _ ⟨blk_below hHeld.1 h2, below_step hHeld.2 h2⟩ (fun hHeld => ?_)
  clear hK K
  refine norm_ (a' := ?_) ?_ ?_
  rotate_left
  · show Act.put _ (some 30) _ = _
    simp only [Act.put, List.setIfInBounds_toArray, List.set_cons_zero, List.set_cons_succ, i64_w, i32_w]
    rfl
  refine pure_ (i := 10) (N := some 5) (v := ?_) (a' := ?_) #[true, true, true, true, true, true, true, true, true, false, true, false] rfl rfl (by kernel_rfl) (fun _ _ _ h => h) (Or.inl ⟨by rfl, ?_⟩) ?_ ?_
  rotate_left
  · intro w'
    go_simp
    with_reducible rfl
  rotate_left
  · simp only [Act.put, List.setIfInBounds_toArray, List.set_cons_zero, List.set_cons_succ, i64_w, i32_w]
    rfl
  refine pure_ (i := 9) (N := some 31) (v := ?_) (a' := ?_) #[true, true, true, true, true, true, true, true, true, true, true, false] rfl rfl (by kernel_rfl) (fun _ _ _ h => h) (Or.inl ⟨by rfl, ?_⟩) ?_ ?_
  rotate_left
  · intro w'
    go_simp
    with_reducible rfl
  rotate_left
  · simp only [Act.put, List.setIfInBounds_toArray, List.set_cons_zero, List.set_cons_succ, i64_w, i32_w]
    rfl
  refine pure_ (i := 11) (N := some 6) (v := ?_) (a' := ?_) #[true, true, true, true, true, true, true, true, true, true, true, true] rfl rfl (by kernel_rfl) (fun _ _ _ h => h) (Or.inl ⟨by rfl, ?_⟩) ?_ ?_
  rotate_left
  · intro w'
    go_simp
    with_reducible rfl
  rotate_left
  · simp only [Act.put, List.setIfInBounds_toArray, List.set_cons_zero, List.set_cons_succ, i64_w, i32_w]
    rfl
  refine done_ (by kernel_rfl) ?_
  obtain ⟨hX2, hB2⟩ := hHeld
  have HX2 := Aside0.mk hX2
  have HB2 := Aside0.mk hB2
  clear hX2 hB2 HX1 HB1 hx0 hx1 hx2
  have hx0 := blk_cell HX2.out 0
  have hx1 := blk_cell HX2.out 1
  have hx2 := blk_cell HX2.out 2
  simp only [List.getElem?_toArray, List.getElem?_cons_zero, List.getElem?_cons_succ] at hx0 hx1 hx2
  go_wp2_with fail
  refine (block_Move.calls 12583200010 A c T (p : Int) ((m : Int) + 1) ⟨#[123]⟩ g0 g1 g2 ge _ (Kd.C_below HR.out HB2.out) HC.out HM.out).mono ?_
  rintro e w3 ⟨rfl, h3⟩
  have HX3 := Aside0.mk (blk_below HX2.out h3)
  have HB3 := Aside0.mk (below_step HB2.out h3)
  clear h3 HX2 HB2 hx0 hx1 hx2
  go_upto_region 11 with (fail)
  have ha := blk_new w3 (Obj.cells #[Value.int .i64 g0, Value.int .i64 g1, Value.int .i64 g2] 30)
  have hx4 := blk_alloc HX3.out (Obj.cells #[Value.int .i64 g0, Value.int .i64 g1, Value.int .i64 g2] 30)
  have hB4 := HB3.out.alloc HB3.out.size (Obj.cells #[Value.int .i64 g0, Value.int .i64 g1, Value.int .i64 g2] 30)
  generalize w3.alloc (Obj.cells #[Value.int .i64 g0, Value.int .i64 g1, Value.int .i64 g2] 30) = w4 at ha hx4 hB4 ⊢
  have HA4 := Aside0.mk ha
  have HX4 := Aside0.mk hx4
  have HB4 := Aside0.mk hB4
  clear ha hx4 hB4 HX3 HB3
  go_wp2_with fail
  go_loopw [9, 43] (fun v9 v43 W => ∃ i q : Nat, i ≤ m + 1 ∧ q ≤ T.length ∧ v43 = .int .i64 i ∧ v9 = .int .i64 q ∧ Aside0 (runG nx st (m + 1 - i) q = runG nx st (m + 1) p) ∧ Aside0 (W.heap[w.heap.size]? = some (Obj.cells #[Value.int .i64 a0, Value.int .i64 a1, Value.string { data := #[123] }] 28 (0, 0))) ∧ Aside0 (W.heap[w3.heap.size]? = some (Obj.cells #[Value.int .i64 g0, Value.int .i64 g1, Value.int .i64 g2] 30 (0, 0))) ∧ Aside0 (Below w.heap.size w W)) (fun _ v43 _ => m + 1 - (intOf v43).toNat)
  case atStart => exact ⟨0, p, by omega, HPP.out, rfl, rfl, ⟨rfl⟩, HX4, HA4, HB4⟩
  case round =>
    clear HX4 HA4 HB4
    obtain ⟨i, q, hi, hq, rfl, rfl, HRun, HX, HA, HB⟩ := hrel
    have HQ := Aside0.mk hq
    have hx0 := blk_cell HX.out 0
    have hx1 := blk_cell HX.out 1
    have hx2 := blk_cell HX.out 2
    simp only [List.getElem?_toArray, List.getElem?_cons_zero, List.getElem?_cons_succ] at hx0 hx1 hx2
    by_cases hlt : i < m + 1
    · have hlt1 : ((i : Int) < (m : Int) + 1) = True := eq_true (by omega)
      have hlt2 : decide ((i : Int) < (m : Int) + 1) = true := decide_eq_true (by omega)
      have hwi : IntKind.i64.wrap ((i : Int) + 1) = (i : Int) + 1 := by have := HMM.out; rw [i64_w, w64 _ (by omega)]
      obtain ⟨d, hd⟩ : ∃ d, m + 1 - i = d + 1 := ⟨m - i, by omega⟩
      have hrun := HRun.out
      rw [hd, runG] at hrun
      cases hst : st q
      case false =>
        rw [hst, if_neg (by simp)] at hrun
        have HRun2 := Aside0.mk hrun
        have hmq : block_Move.f 12583200010 T (q : Int) 1 ⟨#[123]⟩ = some ((q : Int), (nx q : Int), 1, 0) := by
          have h := HWY.out.mv q 1 hq (by omega) (by omega)
          simp only [runG, hst] at h
          exact h
        have HNX := Aside0.mk (HWY.out.le q hq hst)
        have hfw := HWY.out.bw q hq hst rfl
        have t1 : decide ((nx q : Int) ≥ (q : Int)) = false := decide_eq_false (by omega)
        have t1b : ((q : Int) ≤ (nx q : Int)) = False := eq_false (by omega)
        have t2 : decide ((nx q : Int) < 0) = false := decide_eq_false (by omega)
        have t2b : ((nx q : Int) < 0) = False := eq_false (by omega)
        have t3 : decide ((nx q : Int) > (T.length : Int)) = false := decide_eq_false (by have := HNX.out; omega)
        have t3b : ((T.length : Int) < (nx q : Int)) = False := eq_false (by have := HNX.out; omega)
        clear hfw hst hrun HRun hq
        go_wp2_with fail
        refine (block_Move.calls 12583200010 A c T (q : Int) 1 ⟨#[123]⟩ (q : Int) (nx q : Int) 1 0 _ (Kd.C_below HR.out HB.out) HC.out hmq).mono ?_
        rintro e w5 ⟨rfl, h5⟩
        have HX5 := Aside0.mk (blk_below HX.out h5)
        have HA5 := Aside0.mk (blk_below HA.out h5)
        have HB5 := Aside0.mk (below_step HB.out h5)
        clear h5 hx0 hx1 hx2 hmq
        go_upto_region 15 with (fail)
        have hb := blk_new w5 (Obj.cells #[Value.int .i64 (q : Int), Value.int .i64 (nx q : Int), Value.int .i64 1] 30)
        have hx6 := blk_alloc HX5.out (Obj.cells #[Value.int .i64 (q : Int), Value.int .i64 (nx q : Int), Value.int .i64 1] 30)
        have ha6 := blk_alloc HA5.out (Obj.cells #[Value.int .i64 (q : Int), Value.int .i64 (nx q : Int), Value.int .i64 1] 30)
        have hB6 := HB5.out.alloc HB5.out.size (Obj.cells #[Value.int .i64 (q : Int), Value.int .i64 (nx q : Int), Value.int .i64 1] 30)
        generalize w5.alloc (Obj.cells #[Value.int .i64 (q : Int), Value.int .i64 (nx q : Int), Value.int .i64 1] 30) = w6 at hb hx6 ha6 hB6 ⊢
        have HT6 := Aside0.mk hb
        have HX6 := Aside0.mk hx6
        have HA6 := Aside0.mk ha6
        have HB6 := Aside0.mk hB6
        clear hb hx6 ha6 hB6 HX5 HA5 HB5 HX HA HB
        have hx0 := blk_cell HX6.out 0
        have hx1 := blk_cell HX6.out 1
        have hx2 := blk_cell HX6.out 2
        simp only [List.getElem?_toArray, List.getElem?_cons_zero, List.getElem?_cons_succ] at hx0 hx1 hx2
        have ha0 := blk_cell HA6.out 0
        have ha1 := blk_cell HA6.out 1
        have ha2 := blk_cell HA6.out 2
        simp only [List.getElem?_toArray, List.getElem?_cons_zero, List.getElem?_cons_succ] at ha0 ha1 ha2
        have hb0 := blk_cell HT6.out 0
        have hb1 := blk_cell HT6.out 1
        have hb2 := blk_cell HT6.out 2
        simp only [List.getElem?_toArray, List.getElem?_cons_zero, List.getElem?_cons_succ] at hb0 hb1 hb2
        go_wp2_with fail
        go_roundw
        case measure => simp [intOf]; omega
        case rel => exact ⟨i + 1, nx q, by omega, HNX.out, by go_num, rfl, ⟨by rw [← HRun2.out]; congr 1; omega⟩, HX6, HA6, HB6⟩
      case true =>
        rw [hst, if_pos rfl] at hrun
        have hg := HG.out
        rw [← hrun] at hg
        simp only [mvR] at hg
        rw [if_neg (by decide)] at hg
        simp only [Prod.mk.injEq] at hg
        obtain ⟨rfl, rfl, rfl, rfl⟩ := hg
        have hmq : block_Move.f 12583200010 T (q : Int) 1 ⟨#[123]⟩ = some (0, 0, 0, 70) := by
          have h := HWY.out.mv q 1 hq (by omega) (by omega)
          simp only [runG, hst] at h
          exact h
        clear hst hrun HRun hq
        go_wp2_with fail
        refine (block_Move.calls 12583200010 A c T (q : Int) 1 ⟨#[123]⟩ 0 0 0 70 _ (Kd.C_below HR.out HB.out) HC.out hmq).mono ?_
        rintro e w5 ⟨rfl, h5⟩
        have HX5 := Aside0.mk (blk_below HX.out h5)
        have HA5 := Aside0.mk (blk_below HA.out h5)
        have HB5 := Aside0.mk (below_step HB.out h5)
        clear h5 hx0 hx1 hx2 hmq
        go_upto_region 15 with (fail)
        have hb := blk_new w5 (Obj.cells #[Value.int .i64 0, Value.int .i64 0, Value.int .i64 0] 30)
        have hx6 := blk_alloc HX5.out (Obj.cells #[Value.int .i64 0, Value.int .i64 0, Value.int .i64 0] 30)
        have ha6 := blk_alloc HA5.out (Obj.cells #[Value.int .i64 0, Value.int .i64 0, Value.int .i64 0] 30)
        have hB6 := HB5.out.alloc HB5.out.size (Obj.cells #[Value.int .i64 0, Value.int .i64 0, Value.int .i64 0] 30)
        generalize w5.alloc (Obj.cells #[Value.int .i64 0, Value.int .i64 0, Value.int .i64 0] 30) = w6 at hb hx6 ha6 hB6 ⊢
        have HT6 := Aside0.mk hb
        have HX6 := Aside0.mk hx6
        have HA6 := Aside0.mk ha6
        have HB6 := Aside0.mk hB6
        clear hb hx6 ha6 hB6 HX5 HA5 HB5 HX HA HB
        have hx0 := blk_cell HX6.out 0
        have hx1 := blk_cell HX6.out 1
        have hx2 := blk_cell HX6.out 2
        simp only [List.getElem?_toArray, List.getElem?_cons_zero, List.getElem?_cons_succ] at hx0 hx1 hx2
        have ha0 := blk_cell HA6.out 0
        have ha1 := blk_cell HA6.out 1
        have ha2 := blk_cell HA6.out 2
        simp only [List.getElem?_toArray, List.getElem?_cons_zero, List.getElem?_cons_succ] at ha0 ha1 ha2
        have hb0 := blk_cell HT6.out 0
        have hb1 := blk_cell HT6.out 1
        have hb2 := blk_cell HT6.out 2
        simp only [List.getElem?_toArray, List.getElem?_cons_zero, List.getElem?_cons_succ] at hb0 hb1 hb2
        go_wp2_with fail
        go_ret
        exact ⟨rfl, HB6.out⟩
    · have hlt1 : ((i : Int) < (m : Int) + 1) = False := eq_false (by omega)
      have hlt2 : decide ((i : Int) < (m : Int) + 1) = false := decide_eq_false (by omega)
      have hrun := HRun.out
      rw [show m + 1 - i = 0 by omega, runG] at hrun
      have hg := HG.out
      rw [← hrun] at hg
      simp only [mvR, if_true] at hg
      simp only [Prod.mk.injEq] at hg
      obtain ⟨rfl, rfl, rfl, rfl⟩ := hg
      clear hrun HRun
      have ha0 := blk_cell HA.out 0
      have ha1 := blk_cell HA.out 1
      have ha2 := blk_cell HA.out 2
      simp only [List.getElem?_toArray, List.getElem?_cons_zero, List.getElem?_cons_succ] at ha0 ha1 ha2
      go_wp2_with fail
      go_ret
      exact ⟨by simp, HB.out⟩
set_option maxHeartbeats 2000000 in
set_option maxRecDepth 100000 in
theorem times_pd (A : Option Addr) (c : Nat) (T : List Int) (a0 a1 : Int) (p m : Nat) (hp : p ≤ T.length) (hm : m < 12) (hpl : quoinlaw10_place.f a0 ((T.length : Int) + 1) = some (p : Int)) (hpm : quoinlaw10_place.f a1 12 = some (m : Int)) (nx : Nat → Nat) (st : Nat → Bool) (W1 : Way T 12583200010 ⟨#[41]⟩ true nx st) (g0 g1 g2 ge : Int) (hg : mvR (p : Int) (runG nx st (m + 1) p) = (g0, g1, g2, ge)) (w : World) (hr : Kd.C (Kd.int .u8) w A T.length T) (hc : T.length ≤ c) (hl : T.length ≤ 1048576) :
    Calls Try.prog 4 #[.slice A T.length c, .agg #[.int .i64 a0, .int .i64 a1, .string ⟨#[41]⟩]] w fun e w' => e = .returned (.bool true) ∧ Below w.heap.size w w' := by
  have HR := Aside0.mk hr
  have HC := Aside0.mk hc
  have HL := Aside0.mk hl
  have HPL := Aside0.mk hpl
  have HPM := Aside0.mk hpm
  have HPP := Aside0.mk hp
  have HMM := Aside0.mk hm
  have HWY := Aside0.mk W1
  have HG := Aside0.mk hg
  have hw : IntKind.i64.wrap ((T.length : Int) + 1) = (T.length : Int) + 1 := by rw [i64_w, w64 _ (by omega)]
  have hw' : Go.RowKit.wrap64 ((T.length : Int) + 1) = (T.length : Int) + 1 := w64 _ (by omega)
  have hwm : IntKind.i64.wrap ((m : Int) + 1) = (m : Int) + 1 := by rw [i64_w, w64 _ (by omega)]
  have hwm' : Go.RowKit.wrap64 ((m : Int) + 1) = (m : Int) + 1 := w64 _ (by omega)
  have HM := Aside0.mk (show block_Move.f 12583200010 T (p : Int) ((m : Int) + 1) ⟨#[41]⟩ = some (g0, g1, g2, ge) from by have h := W1.mv p (m + 1) hp (by omega) (by omega); rw [hg] at h; exact h)
  clear hr hc hl hpl hpm hp W1 hg hm
  go_enter Try.func4, Try.ntmps4
  go_upto_region 1 with (fail)
  have hb := blk_new w (Obj.cells #[Value.int .i64 a0, Value.int .i64 a1, Value.string { data := #[41] }] 28)
  have hB := (Below.refl w.heap.size w).alloc (Nat.le_refl _) (Obj.cells #[Value.int .i64 a0, Value.int .i64 a1, Value.string { data := #[41] }] 28)
  generalize w.alloc (Obj.cells #[Value.int .i64 a0, Value.int .i64 a1, Value.string { data := #[41] }] 28) = W0 at hb hB ⊢
  have HX0 := Aside0.mk hb
  have HB0 := Aside0.mk hB
  clear hb hB
  go_wp2_with fail
  refine (awake_calls W0).mono ?_
  rintro e w1 ⟨rfl, h1⟩
  have HX1 := Aside0.mk (blk_below HX0.out h1)
  have HB1 := Aside0.mk (below_step HB0.out h1)
  clear h1 HX0 HB0
  have hx0 := blk_cell HX1.out 0
  have hx1 := blk_cell HX1.out 1
  have hx2 := blk_cell HX1.out 2
  simp only [List.getElem?_toArray, List.getElem?_cons_zero, List.getElem?_cons_succ] at hx0 hx1 hx2
  go_upto_region 9 with (fail)
  refine start_ (n := 12) (S := fun w' => w'.heap[w.heap.size]? = some (Obj.cells #[Value.int .i64 a0, Value.int .i64 a1, Value.string { data := #[41] }] 28 (0, 0)) ∧ Below w.heap.size w w') (ds := []) #[false, false, false, false, false, false, false, false, false, false, false, false] (by kernel_rfl) rfl rfl ⟨blk_drew HX1.out, HB1.out.drew⟩ (fun hHeld => ?_)
  refine pure_ (i := 0) (N := some 22) (v := ?_) (a' := ?_) #[true, false, false, false, false, false, false, false, false, false, false, false] rfl rfl (by kernel_rfl) (fun _ _ _ h => h) (Or.inl ⟨by rfl, ?_⟩) ?_ ?_
  rotate_left
  · intro w'
    go_simp
    with_reducible rfl
  rotate_left
  · simp only [Act.put, List.setIfInBounds_toArray, List.set_cons_zero, List.set_cons_succ, i64_w, i32_w]
    rfl
  refine take_ (i := 1) (N := some 23) (v := (.int .i64 a0)) (a' := ?_) #[true, true, false, false, false, false, false, false, false, false, false, false] rfl rfl (by kernel_rfl) (fun _ _ _ h => h) (Or.inl ⟨by rfl, by rintro w' ⟨s0, s1⟩; have hz := blk_cell s0 0; simp only [List.getElem?_toArray, List.getElem?_cons_zero, List.getElem?_cons_succ] at hz; go_simp⟩) hHeld ?_ ?_
  rotate_left
  · simp only [Act.put, List.setIfInBounds_toArray, List.set_cons_zero, List.set_cons_succ, i64_w, i32_w]
    rfl
  refine pure_ (i := 2) (N := some 24) (v := ?_) (a' := ?_) #[true, true, true, false, false, false, false, false, false, false, false, false] rfl rfl (by kernel_rfl) (fun _ _ _ h => h) (Or.inl ⟨by rfl, ?_⟩) ?_ ?_
  rotate_left
  · intro w'
    go_simp
    with_reducible rfl
  rotate_left
  · simp only [Act.put, List.setIfInBounds_toArray, List.set_cons_zero, List.set_cons_succ, i64_w, i32_w]
    rfl
  refine pure_ (i := 3) (N := some 25) (v := ?_) (a' := ?_) #[true, true, true, true, false, false, false, false, false, false, false, false] rfl rfl (by kernel_rfl) (fun _ _ _ h => h) (Or.inl ⟨by rfl, ?_⟩) ?_ ?_
  rotate_left
  · intro w'
    go_simp
    with_reducible rfl
  rotate_left
  · simp only [Act.put, List.setIfInBounds_toArray, List.set_cons_zero, List.set_cons_succ, i64_w, i32_w]
    rfl
  refine pure_ (i := 4) (N := some 26) (v := ?_) (a' := ?_) #[true, true, true, true, true, false, false, false, false, false, false, false] rfl rfl (by kernel_rfl) (fun _ _ _ h => h) (Or.inl ⟨by rfl, ?_⟩) ?_ ?_
  rotate_left
  · intro w'
    go_simp
    with_reducible rfl
  rotate_left
  · simp only [Act.put, List.setIfInBounds_toArray, List.set_cons_zero, List.set_cons_succ, i64_w, i32_w]
    rfl
  refine pure_ (i := 6) (N := some 28) (v := ?_) (a' := ?_) #[true, true, true, true, true, false, true, false, false, false, false, false] rfl rfl (by kernel_rfl) (fun _ _ _ h => h) (Or.inl ⟨by rfl, ?_⟩) ?_ ?_
  rotate_left
  · intro w'
    go_simp
    with_reducible rfl
  rotate_left
  · simp only [Act.put, List.setIfInBounds_toArray, List.set_cons_zero, List.set_cons_succ, i64_w, i32_w]
    rfl
  refine take_ (i := 7) (N := some 29) (v := (.int .i64 a1)) (a' := ?_) #[true, true, true, true, true, false, true, true, false, false, false, false] rfl rfl (by kernel_rfl) (fun _ _ _ h => h) (Or.inl ⟨by rfl, by rintro w' ⟨s0, s1⟩; have hz := blk_cell s0 1; simp only [List.getElem?_toArray, List.getElem?_cons_zero, List.getElem?_cons_succ] at hz; go_simp⟩) hHeld ?_ ?_
  rotate_left
  · simp only [Act.put, List.setIfInBounds_toArray, List.set_cons_zero, List.set_cons_succ, i64_w, i32_w]
    rfl
  refine one_ (i := 5) (N := some 27) #[true, true, true, true, true, true, true, true, false, false, false, false] rfl rfl (by kernel_rfl) (by decide) (fun K hK => ?_)
  refine goes_ Try.func13 (by kernel_rfl) rfl #[.int .i64 a0, .int .i64 ((T.length : Int) + 1)] (by rfl) rfl rfl (by simp [Act.eval]) ?_
  refine (quoinlaw10_place.calls a0 ((T.length : Int) + 1) (p : Int) _ HPL.out).mono ?_
  rintro e w2 ⟨rfl, h2⟩
  have h2 := h2.below
  refine ⟨_, rfl, ?_⟩
  refine hK.out _ _ ⟨blk_below hHeld.1 h2, below_step hHeld.2 h2⟩ (fun hHeld => ?_)
  clear hK K
  refine norm_ (a' := ?_) ?_ ?_
  rotate_left
  · show Act.put _ (some 27) _ = _
    simp only [Act.put, List.setIfInBounds_toArray, List.set_cons_zero, List.set_cons_succ, i64_w, i32_w]
    rfl
  refine one_ (i := 8) (N := some 30) #[true, true, true, true, true, true, true, true, true, false, false, false] rfl rfl (by kernel_rfl) (by decide) (fun K hK => ?_)
  refine goes_ Try.func13 (by kernel_rfl) rfl #[.int .i64 a1, .int .i64 12] (by rfl) rfl rfl (by simp [Act.eval]) ?_
  refine (quoinlaw10_place.calls a1 12 (m : Int) _ HPM.out).mono ?_
  rintro e w2 ⟨rfl, h2⟩
  have h2 := h2.below
  refine ⟨_, rfl, ?_⟩
  refine hK.out _ _ ⟨blk_below hHeld.1 h2, below_step hHeld.2 h2⟩ (fun hHeld => ?_)
  clear hK K
  refine norm_ (a' := ?_) ?_ ?_
  rotate_left
  · show Act.put _ (some 30) _ = _
    simp only [Act.put, List.setIfInBounds_toArray, List.set_cons_zero, List.set_cons_succ, i64_w, i32_w]
    rfl
  refine pure_ (i := 10) (N := some 5) (v := ?_) (a' := ?_) #[true, true, true, true, true, true, true, true, true, false, true, false] rfl rfl (by kernel_rfl) (fun _ _ _ h => h) (Or.inl ⟨by rfl, ?_⟩) ?_ ?_
  rotate_left
  · intro w'
    go_simp
    with_reducible rfl
  rotate_left
  · simp only [Act.put, List.setIfInBounds_toArray, List.set_cons_zero, List.set_cons_succ, i64_w, i32_w]
    rfl
  refine pure_ (i := 9) (N := some 31) (v := ?_) (a' := ?_) #[true, true, true, true, true, true, true, true, true, true, true, false] rfl rfl (by kernel_rfl) (fun _ _ _ h => h) (Or.inl ⟨by rfl, ?_⟩) ?_ ?_
  rotate_left
  · intro w'
    go_simp
    with_reducible rfl
  rotate_left
  · simp only [Act.put, List.setIfInBounds_toArray, List.set_cons_zero, List.set_cons_succ, i64_w, i32_w]
    rfl
  refine pure_ (i := 11) (N := some 6) (v := ?_) (a' := ?_) #[true, true, true, true, true, true, true, true, true, true, true, true] rfl rfl (by kernel_rfl) (fun _ _ _ h => h) (Or.inl ⟨by rfl, ?_⟩) ?_ ?_
  rotate_left
  · intro w'
    go_simp
    with_reducible rfl
  rotate_left
  · simp only [Act.put, List.setIfInBounds_toArray, List.set_cons_zero, List.set_cons_succ, i64_w, i32_w]
    rfl
  refine done_ (by kernel_rfl) ?_
  obtain ⟨hX2, hB2⟩ := hHeld
  have HX2 := Aside0.mk hX2
  have HB2 := Aside0.mk hB2
  clear hX2 hB2 HX1 HB1 hx0 hx1 hx2
  have hx0 := blk_cell HX2.out 0
  have hx1 := blk_cell HX2.out 1
  have hx2 := blk_cell HX2.out 2
  simp only [List.getElem?_toArray, List.getElem?_cons_zero, List.getElem?_cons_succ] at hx0 hx1 hx2
  go_wp2_with fail
  refine (block_Move.calls 12583200010 A c T (p : Int) ((m : Int) + 1) ⟨#[41]⟩ g0 g1 g2 ge _ (Kd.C_below HR.out HB2.out) HC.out HM.out).mono ?_
  rintro e w3 ⟨rfl, h3⟩
  have HX3 := Aside0.mk (blk_below HX2.out h3)
  have HB3 := Aside0.mk (below_step HB2.out h3)
  clear h3 HX2 HB2 hx0 hx1 hx2
  go_upto_region 11 with (fail)
  have ha := blk_new w3 (Obj.cells #[Value.int .i64 g0, Value.int .i64 g1, Value.int .i64 g2] 30)
  have hx4 := blk_alloc HX3.out (Obj.cells #[Value.int .i64 g0, Value.int .i64 g1, Value.int .i64 g2] 30)
  have hB4 := HB3.out.alloc HB3.out.size (Obj.cells #[Value.int .i64 g0, Value.int .i64 g1, Value.int .i64 g2] 30)
  generalize w3.alloc (Obj.cells #[Value.int .i64 g0, Value.int .i64 g1, Value.int .i64 g2] 30) = w4 at ha hx4 hB4 ⊢
  have HA4 := Aside0.mk ha
  have HX4 := Aside0.mk hx4
  have HB4 := Aside0.mk hB4
  clear ha hx4 hB4 HX3 HB3
  go_wp2_with fail
  go_loopw [9, 43] (fun v9 v43 W => ∃ i q : Nat, i ≤ m + 1 ∧ q ≤ T.length ∧ v43 = .int .i64 i ∧ v9 = .int .i64 q ∧ Aside0 (runG nx st (m + 1 - i) q = runG nx st (m + 1) p) ∧ Aside0 (W.heap[w.heap.size]? = some (Obj.cells #[Value.int .i64 a0, Value.int .i64 a1, Value.string { data := #[41] }] 28 (0, 0))) ∧ Aside0 (W.heap[w3.heap.size]? = some (Obj.cells #[Value.int .i64 g0, Value.int .i64 g1, Value.int .i64 g2] 30 (0, 0))) ∧ Aside0 (Below w.heap.size w W)) (fun _ v43 _ => m + 1 - (intOf v43).toNat)
  case atStart => exact ⟨0, p, by omega, HPP.out, rfl, rfl, ⟨rfl⟩, HX4, HA4, HB4⟩
  case round =>
    clear HX4 HA4 HB4
    obtain ⟨i, q, hi, hq, rfl, rfl, HRun, HX, HA, HB⟩ := hrel
    have HQ := Aside0.mk hq
    have hx0 := blk_cell HX.out 0
    have hx1 := blk_cell HX.out 1
    have hx2 := blk_cell HX.out 2
    simp only [List.getElem?_toArray, List.getElem?_cons_zero, List.getElem?_cons_succ] at hx0 hx1 hx2
    by_cases hlt : i < m + 1
    · have hlt1 : ((i : Int) < (m : Int) + 1) = True := eq_true (by omega)
      have hlt2 : decide ((i : Int) < (m : Int) + 1) = true := decide_eq_true (by omega)
      have hwi : IntKind.i64.wrap ((i : Int) + 1) = (i : Int) + 1 := by have := HMM.out; rw [i64_w, w64 _ (by omega)]
      obtain ⟨d, hd⟩ : ∃ d, m + 1 - i = d + 1 := ⟨m - i, by omega⟩
      have hrun := HRun.out
      rw [hd, runG] at hrun
      cases hst : st q
      case false =>
        rw [hst, if_neg (by simp)] at hrun
        have HRun2 := Aside0.mk hrun
        have hmq : block_Move.f 12583200010 T (q : Int) 1 ⟨#[41]⟩ = some ((q : Int), (nx q : Int), 1, 0) := by
          have h := HWY.out.mv q 1 hq (by omega) (by omega)
          simp only [runG, hst] at h
          exact h
        have HNX := Aside0.mk (HWY.out.le q hq hst)
        have hfw := HWY.out.fw q hq hst rfl
        have t1 : decide ((nx q : Int) ≤ (q : Int)) = false := decide_eq_false (by omega)
        have t1b : ((nx q : Int) ≤ (q : Int)) = False := eq_false (by omega)
        have t2 : decide ((nx q : Int) < 0) = false := decide_eq_false (by omega)
        have t2b : ((nx q : Int) < 0) = False := eq_false (by omega)
        have t3 : decide ((nx q : Int) > (T.length : Int)) = false := decide_eq_false (by have := HNX.out; omega)
        have t3b : ((T.length : Int) < (nx q : Int)) = False := eq_false (by have := HNX.out; omega)
        clear hfw hst hrun HRun hq
        go_wp2_with fail
        refine (block_Move.calls 12583200010 A c T (q : Int) 1 ⟨#[41]⟩ (q : Int) (nx q : Int) 1 0 _ (Kd.C_below HR.out HB.out) HC.out hmq).mono ?_
        rintro e w5 ⟨rfl, h5⟩
        have HX5 := Aside0.mk (blk_below HX.out h5)
        have HA5 := Aside0.mk (blk_below HA.out h5)
        have HB5 := Aside0.mk (below_step HB.out h5)
        clear h5 hx0 hx1 hx2 hmq
        go_upto_region 15 with (fail)
        have hb := blk_new w5 (Obj.cells #[Value.int .i64 (q : Int), Value.int .i64 (nx q : Int), Value.int .i64 1] 30)
        have hx6 := blk_alloc HX5.out (Obj.cells #[Value.int .i64 (q : Int), Value.int .i64 (nx q : Int), Value.int .i64 1] 30)
        have ha6 := blk_alloc HA5.out (Obj.cells #[Value.int .i64 (q : Int), Value.int .i64 (nx q : Int), Value.int .i64 1] 30)
        have hB6 := HB5.out.alloc HB5.out.size (Obj.cells #[Value.int .i64 (q : Int), Value.int .i64 (nx q : Int), Value.int .i64 1] 30)
        generalize w5.alloc (Obj.cells #[Value.int .i64 (q : Int), Value.int .i64 (nx q : Int), Value.int .i64 1] 30) = w6 at hb hx6 ha6 hB6 ⊢
        have HT6 := Aside0.mk hb
        have HX6 := Aside0.mk hx6
        have HA6 := Aside0.mk ha6
        have HB6 := Aside0.mk hB6
        clear hb hx6 ha6 hB6 HX5 HA5 HB5 HX HA HB
        have hx0 := blk_cell HX6.out 0
        have hx1 := blk_cell HX6.out 1
        have hx2 := blk_cell HX6.out 2
        simp only [List.getElem?_toArray, List.getElem?_cons_zero, List.getElem?_cons_succ] at hx0 hx1 hx2
        have ha0 := blk_cell HA6.out 0
        have ha1 := blk_cell HA6.out 1
        have ha2 := blk_cell HA6.out 2
        simp only [List.getElem?_toArray, List.getElem?_cons_zero, List.getElem?_cons_succ] at ha0 ha1 ha2
        have hb0 := blk_cell HT6.out 0
        have hb1 := blk_cell HT6.out 1
        have hb2 := blk_cell HT6.out 2
        simp only [List.getElem?_toArray, List.getElem?_cons_zero, List.getElem?_cons_succ] at hb0 hb1 hb2
        go_wp2_with fail
        go_roundw
        case measure => simp [intOf]; omega
        case rel => exact ⟨i + 1, nx q, by omega, HNX.out, by go_num, rfl, ⟨by rw [← HRun2.out]; congr 1; omega⟩, HX6, HA6, HB6⟩
      case true =>
        rw [hst, if_pos rfl] at hrun
        have hg := HG.out
        rw [← hrun] at hg
        simp only [mvR] at hg
        rw [if_neg (by decide)] at hg
        simp only [Prod.mk.injEq] at hg
        obtain ⟨rfl, rfl, rfl, rfl⟩ := hg
        have hmq : block_Move.f 12583200010 T (q : Int) 1 ⟨#[41]⟩ = some (0, 0, 0, 70) := by
          have h := HWY.out.mv q 1 hq (by omega) (by omega)
          simp only [runG, hst] at h
          exact h
        clear hst hrun HRun hq
        go_wp2_with fail
        refine (block_Move.calls 12583200010 A c T (q : Int) 1 ⟨#[41]⟩ 0 0 0 70 _ (Kd.C_below HR.out HB.out) HC.out hmq).mono ?_
        rintro e w5 ⟨rfl, h5⟩
        have HX5 := Aside0.mk (blk_below HX.out h5)
        have HA5 := Aside0.mk (blk_below HA.out h5)
        have HB5 := Aside0.mk (below_step HB.out h5)
        clear h5 hx0 hx1 hx2 hmq
        go_upto_region 15 with (fail)
        have hb := blk_new w5 (Obj.cells #[Value.int .i64 0, Value.int .i64 0, Value.int .i64 0] 30)
        have hx6 := blk_alloc HX5.out (Obj.cells #[Value.int .i64 0, Value.int .i64 0, Value.int .i64 0] 30)
        have ha6 := blk_alloc HA5.out (Obj.cells #[Value.int .i64 0, Value.int .i64 0, Value.int .i64 0] 30)
        have hB6 := HB5.out.alloc HB5.out.size (Obj.cells #[Value.int .i64 0, Value.int .i64 0, Value.int .i64 0] 30)
        generalize w5.alloc (Obj.cells #[Value.int .i64 0, Value.int .i64 0, Value.int .i64 0] 30) = w6 at hb hx6 ha6 hB6 ⊢
        have HT6 := Aside0.mk hb
        have HX6 := Aside0.mk hx6
        have HA6 := Aside0.mk ha6
        have HB6 := Aside0.mk hB6
        clear hb hx6 ha6 hB6 HX5 HA5 HB5 HX HA HB
        have hx0 := blk_cell HX6.out 0
        have hx1 := blk_cell HX6.out 1
        have hx2 := blk_cell HX6.out 2
        simp only [List.getElem?_toArray, List.getElem?_cons_zero, List.getElem?_cons_succ] at hx0 hx1 hx2
        have ha0 := blk_cell HA6.out 0
        have ha1 := blk_cell HA6.out 1
        have ha2 := blk_cell HA6.out 2
        simp only [List.getElem?_toArray, List.getElem?_cons_zero, List.getElem?_cons_succ] at ha0 ha1 ha2
        have hb0 := blk_cell HT6.out 0
        have hb1 := blk_cell HT6.out 1
        have hb2 := blk_cell HT6.out 2
        simp only [List.getElem?_toArray, List.getElem?_cons_zero, List.getElem?_cons_succ] at hb0 hb1 hb2
        go_wp2_with fail
        go_ret
        exact ⟨rfl, HB6.out⟩
    · have hlt1 : ((i : Int) < (m : Int) + 1) = False := eq_false (by omega)
      have hlt2 : decide ((i : Int) < (m : Int) + 1) = false := decide_eq_false (by omega)
      have hrun := HRun.out
      rw [show m + 1 - i = 0 by omega, runG] at hrun
      have hg := HG.out
      rw [← hrun] at hg
      simp only [mvR, if_true] at hg
      simp only [Prod.mk.injEq] at hg
      obtain ⟨rfl, rfl, rfl, rfl⟩ := hg
      clear hrun HRun
      have ha0 := blk_cell HA.out 0
      have ha1 := blk_cell HA.out 1
      have ha2 := blk_cell HA.out 2
      simp only [List.getElem?_toArray, List.getElem?_cons_zero, List.getElem?_cons_succ] at ha0 ha1 ha2
      go_wp2_with fail
      go_ret
      exact ⟨by simp, HB.out⟩
set_option maxHeartbeats 2000000 in
set_option maxRecDepth 100000 in
theorem times_pu (A : Option Addr) (c : Nat) (T : List Int) (a0 a1 : Int) (p m : Nat) (hp : p ≤ T.length) (hm : m < 12) (hpl : quoinlaw10_place.f a0 ((T.length : Int) + 1) = some (p : Int)) (hpm : quoinlaw10_place.f a1 12 = some (m : Int)) (nx : Nat → Nat) (st : Nat → Bool) (W1 : Way T 12583200010 ⟨#[40]⟩ false nx st) (g0 g1 g2 ge : Int) (hg : mvR (p : Int) (runG nx st (m + 1) p) = (g0, g1, g2, ge)) (w : World) (hr : Kd.C (Kd.int .u8) w A T.length T) (hc : T.length ≤ c) (hl : T.length ≤ 1048576) :
    Calls Try.prog 4 #[.slice A T.length c, .agg #[.int .i64 a0, .int .i64 a1, .string ⟨#[40]⟩]] w fun e w' => e = .returned (.bool true) ∧ Below w.heap.size w w' := by
  have HR := Aside0.mk hr
  have HC := Aside0.mk hc
  have HL := Aside0.mk hl
  have HPL := Aside0.mk hpl
  have HPM := Aside0.mk hpm
  have HPP := Aside0.mk hp
  have HMM := Aside0.mk hm
  have HWY := Aside0.mk W1
  have HG := Aside0.mk hg
  have hw : IntKind.i64.wrap ((T.length : Int) + 1) = (T.length : Int) + 1 := by rw [i64_w, w64 _ (by omega)]
  have hw' : Go.RowKit.wrap64 ((T.length : Int) + 1) = (T.length : Int) + 1 := w64 _ (by omega)
  have hwm : IntKind.i64.wrap ((m : Int) + 1) = (m : Int) + 1 := by rw [i64_w, w64 _ (by omega)]
  have hwm' : Go.RowKit.wrap64 ((m : Int) + 1) = (m : Int) + 1 := w64 _ (by omega)
  have HM := Aside0.mk (show block_Move.f 12583200010 T (p : Int) ((m : Int) + 1) ⟨#[40]⟩ = some (g0, g1, g2, ge) from by have h := W1.mv p (m + 1) hp (by omega) (by omega); rw [hg] at h; exact h)
  clear hr hc hl hpl hpm hp W1 hg hm
  go_enter Try.func4, Try.ntmps4
  go_upto_region 1 with (fail)
  have hb := blk_new w (Obj.cells #[Value.int .i64 a0, Value.int .i64 a1, Value.string { data := #[40] }] 28)
  have hB := (Below.refl w.heap.size w).alloc (Nat.le_refl _) (Obj.cells #[Value.int .i64 a0, Value.int .i64 a1, Value.string { data := #[40] }] 28)
  generalize w.alloc (Obj.cells #[Value.int .i64 a0, Value.int .i64 a1, Value.string { data := #[40] }] 28) = W0 at hb hB ⊢
  have HX0 := Aside0.mk hb
  have HB0 := Aside0.mk hB
  clear hb hB
  go_wp2_with fail
  refine (awake_calls W0).mono ?_
  rintro e w1 ⟨rfl, h1⟩
  have HX1 := Aside0.mk (blk_below HX0.out h1)
  have HB1 := Aside0.mk (below_step HB0.out h1)
  clear h1 HX0 HB0
  have hx0 := blk_cell HX1.out 0
  have hx1 := blk_cell HX1.out 1
  have hx2 := blk_cell HX1.out 2
  simp only [List.getElem?_toArray, List.getElem?_cons_zero, List.getElem?_cons_succ] at hx0 hx1 hx2
  go_upto_region 9 with (fail)
  refine start_ (n := 12) (S := fun w' => w'.heap[w.heap.size]? = some (Obj.cells #[Value.int .i64 a0, Value.int .i64 a1, Value.string { data := #[40] }] 28 (0, 0)) ∧ Below w.heap.size w w') (ds := []) #[false, false, false, false, false, false, false, false, false, false, false, false] (by kernel_rfl) rfl rfl ⟨blk_drew HX1.out, HB1.out.drew⟩ (fun hHeld => ?_)
  refine pure_ (i := 0) (N := some 22) (v := ?_) (a' := ?_) #[true, false, false, false, false, false, false, false, false, false, false, false] rfl rfl (by kernel_rfl) (fun _ _ _ h => h) (Or.inl ⟨by rfl, ?_⟩) ?_ ?_
  rotate_left
  · intro w'
    go_simp
    with_reducible rfl
  rotate_left
  · simp only [Act.put, List.setIfInBounds_toArray, List.set_cons_zero, List.set_cons_succ, i64_w, i32_w]
    rfl
  refine take_ (i := 1) (N := some 23) (v := (.int .i64 a0)) (a' := ?_) #[true, true, false, false, false, false, false, false, false, false, false, false] rfl rfl (by kernel_rfl) (fun _ _ _ h => h) (Or.inl ⟨by rfl, by rintro w' ⟨s0, s1⟩; have hz := blk_cell s0 0; simp only [List.getElem?_toArray, List.getElem?_cons_zero, List.getElem?_cons_succ] at hz; go_simp⟩) hHeld ?_ ?_
  rotate_left
  · simp only [Act.put, List.setIfInBounds_toArray, List.set_cons_zero, List.set_cons_succ, i64_w, i32_w]
    rfl
  refine pure_ (i := 2) (N := some 24) (v := ?_) (a' := ?_) #[true, true, true, false, false, false, false, false, false, false, false, false] rfl rfl (by kernel_rfl) (fun _ _ _ h => h) (Or.inl ⟨by rfl, ?_⟩) ?_ ?_
  rotate_left
  · intro w'
    go_simp
    with_reducible rfl
  rotate_left
  · simp only [Act.put, List.setIfInBounds_toArray, List.set_cons_zero, List.set_cons_succ, i64_w, i32_w]
    rfl
  refine pure_ (i := 3) (N := some 25) (v := ?_) (a' := ?_) #[true, true, true, true, false, false, false, false, false, false, false, false] rfl rfl (by kernel_rfl) (fun _ _ _ h => h) (Or.inl ⟨by rfl, ?_⟩) ?_ ?_
  rotate_left
  · intro w'
    go_simp
    with_reducible rfl
  rotate_left
  · simp only [Act.put, List.setIfInBounds_toArray, List.set_cons_zero, List.set_cons_succ, i64_w, i32_w]
    rfl
  refine pure_ (i := 4) (N := some 26) (v := ?_) (a' := ?_) #[true, true, true, true, true, false, false, false, false, false, false, false] rfl rfl (by kernel_rfl) (fun _ _ _ h => h) (Or.inl ⟨by rfl, ?_⟩) ?_ ?_
  rotate_left
  · intro w'
    go_simp
    with_reducible rfl
  rotate_left
  · simp only [Act.put, List.setIfInBounds_toArray, List.set_cons_zero, List.set_cons_succ, i64_w, i32_w]
    rfl
  refine pure_ (i := 6) (N := some 28) (v := ?_) (a' := ?_) #[true, true, true, true, true, false, true, false, false, false, false, false] rfl rfl (by kernel_rfl) (fun _ _ _ h => h) (Or.inl ⟨by rfl, ?_⟩) ?_ ?_
  rotate_left
  · intro w'
    go_simp
    with_reducible rfl
  rotate_left
  · simp only [Act.put, List.setIfInBounds_toArray, List.set_cons_zero, List.set_cons_succ, i64_w, i32_w]
    rfl
  refine take_ (i := 7) (N := some 29) (v := (.int .i64 a1)) (a' := ?_) #[true, true, true, true, true, false, true, true, false, false, false, false] rfl rfl (by kernel_rfl) (fun _ _ _ h => h) (Or.inl ⟨by rfl, by rintro w' ⟨s0, s1⟩; have hz := blk_cell s0 1; simp only [List.getElem?_toArray, List.getElem?_cons_zero, List.getElem?_cons_succ] at hz; go_simp⟩) hHeld ?_ ?_
  rotate_left
  · simp only [Act.put, List.setIfInBounds_toArray, List.set_cons_zero, List.set_cons_succ, i64_w, i32_w]
    rfl
  refine one_ (i := 5) (N := some 27) #[true, true, true, true, true, true, true, true, false, false, false, false] rfl rfl (by kernel_rfl) (by decide) (fun K hK => ?_)
  refine goes_ Try.func13 (by kernel_rfl) rfl #[.int .i64 a0, .int .i64 ((T.length : Int) + 1)] (by rfl) rfl rfl (by simp [Act.eval]) ?_
  refine (quoinlaw10_place.calls a0 ((T.length : Int) + 1) (p : Int) _ HPL.out).mono ?_
  rintro e w2 ⟨rfl, h2⟩
  have h2 := h2.below
  refine ⟨_, rfl, ?_⟩
  refine hK.out _ _ ⟨blk_below hHeld.1 h2, below_step hHeld.2 h2⟩ (fun hHeld => ?_)
  clear hK K
  refine norm_ (a' := ?_) ?_ ?_
  rotate_left
  · show Act.put _ (some 27) _ = _
    simp only [Act.put, List.setIfInBounds_toArray, List.set_cons_zero, List.set_cons_succ, i64_w, i32_w]
    rfl
  refine one_ (i := 8) (N := some 30) #[true, true, true, true, true, true, true, true, true, false, false, false] rfl rfl (by kernel_rfl) (by decide) (fun K hK => ?_)
  refine goes_ Try.func13 (by kernel_rfl) rfl #[.int .i64 a1, .int .i64 12] (by rfl) rfl rfl (by simp [Act.eval]) ?_
  refine (quoinlaw10_place.calls a1 12 (m : Int) _ HPM.out).mono ?_
  rintro e w2 ⟨rfl, h2⟩
  have h2 := h2.below
  refine ⟨_, rfl, ?_⟩
  refine hK.out _ _ ⟨blk_below hHeld.1 h2, below_step hHeld.2 h2⟩ (fun hHeld => ?_)
  clear hK K
  refine norm_ (a' := ?_) ?_ ?_
  rotate_left
  · show Act.put _ (some 30) _ = _
    simp only [Act.put, List.setIfInBounds_toArray, List.set_cons_zero, List.set_cons_succ, i64_w, i32_w]
    rfl
  refine pure_ (i := 10) (N := some 5) (v := ?_) (a' := ?_) #[true, true, true, true, true, true, true, true, true, false, true, false] rfl rfl (by kernel_rfl) (fun _ _ _ h => h) (Or.inl ⟨by rfl, ?_⟩) ?_ ?_
  rotate_left
  · intro w'
    go_simp
    with_reducible rfl
  rotate_left
  · simp only [Act.put, List.setIfInBounds_toArray, List.set_cons_zero, List.set_cons_succ, i64_w, i32_w]
    rfl
  refine pure_ (i := 9) (N := some 31) (v := ?_) (a' := ?_) #[true, true, true, true, true, true, true, true, true, true, true, false] rfl rfl (by kernel_rfl) (fun _ _ _ h => h) (Or.inl ⟨by rfl, ?_⟩) ?_ ?_
  rotate_left
  · intro w'
    go_simp
    with_reducible rfl
  rotate_left
  · simp only [Act.put, List.setIfInBounds_toArray, List.set_cons_zero, List.set_cons_succ, i64_w, i32_w]
    rfl
  refine pure_ (i := 11) (N := some 6) (v := ?_) (a' := ?_) #[true, true, true, true, true, true, true, true, true, true, true, true] rfl rfl (by kernel_rfl) (fun _ _ _ h => h) (Or.inl ⟨by rfl, ?_⟩) ?_ ?_
  rotate_left
  · intro w'
    go_simp
    with_reducible rfl
  rotate_left
  · simp only [Act.put, List.setIfInBounds_toArray, List.set_cons_zero, List.set_cons_succ, i64_w, i32_w]
    rfl
  refine done_ (by kernel_rfl) ?_
  obtain ⟨hX2, hB2⟩ := hHeld
  have HX2 := Aside0.mk hX2
  have HB2 := Aside0.mk hB2
  clear hX2 hB2 HX1 HB1 hx0 hx1 hx2
  have hx0 := blk_cell HX2.out 0
  have hx1 := blk_cell HX2.out 1
  have hx2 := blk_cell HX2.out 2
  simp only [List.getElem?_toArray, List.getElem?_cons_zero, List.getElem?_cons_succ] at hx0 hx1 hx2
  go_wp2_with fail
  refine (block_Move.calls 12583200010 A c T (p : Int) ((m : Int) + 1) ⟨#[40]⟩ g0 g1 g2 ge _ (Kd.C_below HR.out HB2.out) HC.out HM.out).mono ?_
  rintro e w3 ⟨rfl, h3⟩
  have HX3 := Aside0.mk (blk_below HX2.out h3)
  have HB3 := Aside0.mk (below_step HB2.out h3)
  clear h3 HX2 HB2 hx0 hx1 hx2
  go_upto_region 11 with (fail)
  have ha := blk_new w3 (Obj.cells #[Value.int .i64 g0, Value.int .i64 g1, Value.int .i64 g2] 30)
  have hx4 := blk_alloc HX3.out (Obj.cells #[Value.int .i64 g0, Value.int .i64 g1, Value.int .i64 g2] 30)
  have hB4 := HB3.out.alloc HB3.out.size (Obj.cells #[Value.int .i64 g0, Value.int .i64 g1, Value.int .i64 g2] 30)
  generalize w3.alloc (Obj.cells #[Value.int .i64 g0, Value.int .i64 g1, Value.int .i64 g2] 30) = w4 at ha hx4 hB4 ⊢
  have HA4 := Aside0.mk ha
  have HX4 := Aside0.mk hx4
  have HB4 := Aside0.mk hB4
  clear ha hx4 hB4 HX3 HB3
  go_wp2_with fail
  go_loopw [9, 43] (fun v9 v43 W => ∃ i q : Nat, i ≤ m + 1 ∧ q ≤ T.length ∧ v43 = .int .i64 i ∧ v9 = .int .i64 q ∧ Aside0 (runG nx st (m + 1 - i) q = runG nx st (m + 1) p) ∧ Aside0 (W.heap[w.heap.size]? = some (Obj.cells #[Value.int .i64 a0, Value.int .i64 a1, Value.string { data := #[40] }] 28 (0, 0))) ∧ Aside0 (W.heap[w3.heap.size]? = some (Obj.cells #[Value.int .i64 g0, Value.int .i64 g1, Value.int .i64 g2] 30 (0, 0))) ∧ Aside0 (Below w.heap.size w W)) (fun _ v43 _ => m + 1 - (intOf v43).toNat)
  case atStart => exact ⟨0, p, by omega, HPP.out, rfl, rfl, ⟨rfl⟩, HX4, HA4, HB4⟩
  case round =>
    clear HX4 HA4 HB4
    obtain ⟨i, q, hi, hq, rfl, rfl, HRun, HX, HA, HB⟩ := hrel
    have HQ := Aside0.mk hq
    have hx0 := blk_cell HX.out 0
    have hx1 := blk_cell HX.out 1
    have hx2 := blk_cell HX.out 2
    simp only [List.getElem?_toArray, List.getElem?_cons_zero, List.getElem?_cons_succ] at hx0 hx1 hx2
    by_cases hlt : i < m + 1
    · have hlt1 : ((i : Int) < (m : Int) + 1) = True := eq_true (by omega)
      have hlt2 : decide ((i : Int) < (m : Int) + 1) = true := decide_eq_true (by omega)
      have hwi : IntKind.i64.wrap ((i : Int) + 1) = (i : Int) + 1 := by have := HMM.out; rw [i64_w, w64 _ (by omega)]
      obtain ⟨d, hd⟩ : ∃ d, m + 1 - i = d + 1 := ⟨m - i, by omega⟩
      have hrun := HRun.out
      rw [hd, runG] at hrun
      cases hst : st q
      case false =>
        rw [hst, if_neg (by simp)] at hrun
        have HRun2 := Aside0.mk hrun
        have hmq : block_Move.f 12583200010 T (q : Int) 1 ⟨#[40]⟩ = some ((q : Int), (nx q : Int), 1, 0) := by
          have h := HWY.out.mv q 1 hq (by omega) (by omega)
          simp only [runG, hst] at h
          exact h
        have HNX := Aside0.mk (HWY.out.le q hq hst)
        have hfw := HWY.out.bw q hq hst rfl
        have t1 : decide ((nx q : Int) ≥ (q : Int)) = false := decide_eq_false (by omega)
        have t1b : ((q : Int) ≤ (nx q : Int)) = False := eq_false (by omega)
        have t2 : decide ((nx q : Int) < 0) = false := decide_eq_false (by omega)
        have t2b : ((nx q : Int) < 0) = False := eq_false (by omega)
        have t3 : decide ((nx q : Int) > (T.length : Int)) = false := decide_eq_false (by have := HNX.out; omega)
        have t3b : ((T.length : Int) < (nx q : Int)) = False := eq_false (by have := HNX.out; omega)
        clear hfw hst hrun HRun hq
        go_wp2_with fail
        refine (block_Move.calls 12583200010 A c T (q : Int) 1 ⟨#[40]⟩ (q : Int) (nx q : Int) 1 0 _ (Kd.C_below HR.out HB.out) HC.out hmq).mono ?_
        rintro e w5 ⟨rfl, h5⟩
        have HX5 := Aside0.mk (blk_below HX.out h5)
        have HA5 := Aside0.mk (blk_below HA.out h5)
        have HB5 := Aside0.mk (below_step HB.out h5)
        clear h5 hx0 hx1 hx2 hmq
        go_upto_region 15 with (fail)
        have hb := blk_new w5 (Obj.cells #[Value.int .i64 (q : Int), Value.int .i64 (nx q : Int), Value.int .i64 1] 30)
        have hx6 := blk_alloc HX5.out (Obj.cells #[Value.int .i64 (q : Int), Value.int .i64 (nx q : Int), Value.int .i64 1] 30)
        have ha6 := blk_alloc HA5.out (Obj.cells #[Value.int .i64 (q : Int), Value.int .i64 (nx q : Int), Value.int .i64 1] 30)
        have hB6 := HB5.out.alloc HB5.out.size (Obj.cells #[Value.int .i64 (q : Int), Value.int .i64 (nx q : Int), Value.int .i64 1] 30)
        generalize w5.alloc (Obj.cells #[Value.int .i64 (q : Int), Value.int .i64 (nx q : Int), Value.int .i64 1] 30) = w6 at hb hx6 ha6 hB6 ⊢
        have HT6 := Aside0.mk hb
        have HX6 := Aside0.mk hx6
        have HA6 := Aside0.mk ha6
        have HB6 := Aside0.mk hB6
        clear hb hx6 ha6 hB6 HX5 HA5 HB5 HX HA HB
        have hx0 := blk_cell HX6.out 0
        have hx1 := blk_cell HX6.out 1
        have hx2 := blk_cell HX6.out 2
        simp only [List.getElem?_toArray, List.getElem?_cons_zero, List.getElem?_cons_succ] at hx0 hx1 hx2
        have ha0 := blk_cell HA6.out 0
        have ha1 := blk_cell HA6.out 1
        have ha2 := blk_cell HA6.out 2
        simp only [List.getElem?_toArray, List.getElem?_cons_zero, List.getElem?_cons_succ] at ha0 ha1 ha2
        have hb0 := blk_cell HT6.out 0
        have hb1 := blk_cell HT6.out 1
        have hb2 := blk_cell HT6.out 2
        simp only [List.getElem?_toArray, List.getElem?_cons_zero, List.getElem?_cons_succ] at hb0 hb1 hb2
        go_wp2_with fail
        go_roundw
        case measure => simp [intOf]; omega
        case rel => exact ⟨i + 1, nx q, by omega, HNX.out, by go_num, rfl, ⟨by rw [← HRun2.out]; congr 1; omega⟩, HX6, HA6, HB6⟩
      case true =>
        rw [hst, if_pos rfl] at hrun
        have hg := HG.out
        rw [← hrun] at hg
        simp only [mvR] at hg
        rw [if_neg (by decide)] at hg
        simp only [Prod.mk.injEq] at hg
        obtain ⟨rfl, rfl, rfl, rfl⟩ := hg
        have hmq : block_Move.f 12583200010 T (q : Int) 1 ⟨#[40]⟩ = some (0, 0, 0, 70) := by
          have h := HWY.out.mv q 1 hq (by omega) (by omega)
          simp only [runG, hst] at h
          exact h
        clear hst hrun HRun hq
        go_wp2_with fail
        refine (block_Move.calls 12583200010 A c T (q : Int) 1 ⟨#[40]⟩ 0 0 0 70 _ (Kd.C_below HR.out HB.out) HC.out hmq).mono ?_
        rintro e w5 ⟨rfl, h5⟩
        have HX5 := Aside0.mk (blk_below HX.out h5)
        have HA5 := Aside0.mk (blk_below HA.out h5)
        have HB5 := Aside0.mk (below_step HB.out h5)
        clear h5 hx0 hx1 hx2 hmq
        go_upto_region 15 with (fail)
        have hb := blk_new w5 (Obj.cells #[Value.int .i64 0, Value.int .i64 0, Value.int .i64 0] 30)
        have hx6 := blk_alloc HX5.out (Obj.cells #[Value.int .i64 0, Value.int .i64 0, Value.int .i64 0] 30)
        have ha6 := blk_alloc HA5.out (Obj.cells #[Value.int .i64 0, Value.int .i64 0, Value.int .i64 0] 30)
        have hB6 := HB5.out.alloc HB5.out.size (Obj.cells #[Value.int .i64 0, Value.int .i64 0, Value.int .i64 0] 30)
        generalize w5.alloc (Obj.cells #[Value.int .i64 0, Value.int .i64 0, Value.int .i64 0] 30) = w6 at hb hx6 ha6 hB6 ⊢
        have HT6 := Aside0.mk hb
        have HX6 := Aside0.mk hx6
        have HA6 := Aside0.mk ha6
        have HB6 := Aside0.mk hB6
        clear hb hx6 ha6 hB6 HX5 HA5 HB5 HX HA HB
        have hx0 := blk_cell HX6.out 0
        have hx1 := blk_cell HX6.out 1
        have hx2 := blk_cell HX6.out 2
        simp only [List.getElem?_toArray, List.getElem?_cons_zero, List.getElem?_cons_succ] at hx0 hx1 hx2
        have ha0 := blk_cell HA6.out 0
        have ha1 := blk_cell HA6.out 1
        have ha2 := blk_cell HA6.out 2
        simp only [List.getElem?_toArray, List.getElem?_cons_zero, List.getElem?_cons_succ] at ha0 ha1 ha2
        have hb0 := blk_cell HT6.out 0
        have hb1 := blk_cell HT6.out 1
        have hb2 := blk_cell HT6.out 2
        simp only [List.getElem?_toArray, List.getElem?_cons_zero, List.getElem?_cons_succ] at hb0 hb1 hb2
        go_wp2_with fail
        go_ret
        exact ⟨rfl, HB6.out⟩
    · have hlt1 : ((i : Int) < (m : Int) + 1) = False := eq_false (by omega)
      have hlt2 : decide ((i : Int) < (m : Int) + 1) = false := decide_eq_false (by omega)
      have hrun := HRun.out
      rw [show m + 1 - i = 0 by omega, runG] at hrun
      have hg := HG.out
      rw [← hrun] at hg
      simp only [mvR, if_true] at hg
      simp only [Prod.mk.injEq] at hg
      obtain ⟨rfl, rfl, rfl, rfl⟩ := hg
      clear hrun HRun
      have ha0 := blk_cell HA.out 0
      have ha1 := blk_cell HA.out 1
      have ha2 := blk_cell HA.out 2
      simp only [List.getElem?_toArray, List.getElem?_cons_zero, List.getElem?_cons_succ] at ha0 ha1 ha2
      go_wp2_with fail
      go_ret
      exact ⟨by simp, HB.out⟩
set_option maxHeartbeats 1000000 in
set_option maxRecDepth 100000 in
theorem times_other (A : Option Addr) (c : Nat) (T : List Int) (a0 a1 : Int) (key : ByteArray) (k125 : key.toList ≠ ([125] : List UInt8)) (k123 : key.toList ≠ ([123] : List UInt8)) (k41 : key.toList ≠ ([41] : List UInt8)) (k40 : key.toList ≠ ([40] : List UInt8)) (w : World) :
    Calls Try.prog 4 #[.slice A T.length c, .agg #[.int .i64 a0, .int .i64 a1, .string key]] w fun e w' => e = .returned (.bool true) ∧ Below w.heap.size w w' := by
  have q125 : (key.toList == ([125] : List UInt8)) = false := beq_eq_false_iff_ne.mpr k125
  have q123 : (key.toList == ([123] : List UInt8)) = false := beq_eq_false_iff_ne.mpr k123
  have q41 : (key.toList == ([41] : List UInt8)) = false := beq_eq_false_iff_ne.mpr k41
  have q40 : (key.toList == ([40] : List UInt8)) = false := beq_eq_false_iff_ne.mpr k40
  clear k125 k123 k41 k40
  go_enter Try.func4, Try.ntmps4
  go_upto_region 1 with (fail)
  have hb := blk_new w (Obj.cells #[Value.int .i64 a0, Value.int .i64 a1, Value.string key] 28)
  have hB := (Below.refl w.heap.size w).alloc (Nat.le_refl _) (Obj.cells #[Value.int .i64 a0, Value.int .i64 a1, Value.string key] 28)
  generalize w.alloc (Obj.cells #[Value.int .i64 a0, Value.int .i64 a1, Value.string key] 28) = W0 at hb hB ⊢
  have HX0 := Aside0.mk hb
  have HB0 := Aside0.mk hB
  clear hb hB
  go_wp2_with fail
  refine (awake_calls W0).mono ?_
  rintro e w1 ⟨rfl, h1⟩
  have HX1 := Aside0.mk (blk_below HX0.out h1)
  have HB1 := Aside0.mk (below_step HB0.out h1)
  clear h1 HX0 HB0
  have hx2 := blk_cell HX1.out 2
  simp only [List.getElem?_toArray, List.getElem?_cons_zero, List.getElem?_cons_succ] at hx2
  go_wp2_with fail
  go_ret
  exact ⟨rfl, HB1.out⟩
theorem eq_of_toList {s : ByteArray} {l : List UInt8} (h : s.toList = l) : s = ⟨l.toArray⟩ := by
  subst h
  exact ByteArray.ext (by rw [ByteArray.toList_eq])
theorem times_row (A : Option Addr) (c : Nat) (T : List Int) (a0 a1 : Int) (key : ByteArray) (w : World) (hr : Kd.C (Kd.int .u8) w A T.length T) (hc : T.length ≤ c) {G R : Prop} (_ : G) (g1 : (Lit.int .i64 a0).wf = true ∧ (Lit.int .i64 a1).wf = true ∧ R) (hl : T.length ≤ 1048576) :
    Calls Try.prog 4 #[.slice A T.length c, .agg #[.int .i64 a0, .int .i64 a1, .string key]] w fun e w' => e = .returned (.bool true) ∧ Below w.heap.size w w' := by
  have wf : ∀ x : Int, (Lit.int .i64 x).wf = true → -9223372036854775808 ≤ x ∧ x ≤ 9223372036854775807 := fun x h => by
    simp only [Lit.wf, Bool.and_eq_true, decide_eq_true_eq] at h
    have e1 : IntKind.i64.min = -9223372036854775808 := by decide
    have e2 : IntKind.i64.max = 9223372036854775807 := by decide
    omega
  obtain ⟨p, hp, hpl⟩ := place_f a0 (T.length + 1) (wf _ g1.1) (by omega)
  rw [show ((T.length + 1 : Nat) : Int) = (T.length : Int) + 1 by omega] at hpl
  obtain ⟨m, hm, hpm⟩ := place_f a1 12 (wf _ g1.2.1) (by omega)
  by_cases k125 : key.toList = ([125] : List UInt8)
  · obtain rfl := eq_of_toList k125
    obtain ⟨nx, st, W1⟩ := way_dn T hl 125 (by decide) 12583200010 (by omega)
    obtain ⟨g0, g1', g2, ge, hg⟩ : ∃ a b c d, mvR (p : Int) (runG nx st (m + 1) p) = (a, b, c, d) := ⟨_, _, _, _, rfl⟩
    exact times_bd A c T a0 a1 p m (by omega) hm hpl hpm nx st W1 g0 g1' g2 ge hg w hr hc hl
  by_cases k123 : key.toList = ([123] : List UInt8)
  · obtain rfl := eq_of_toList k123
    obtain ⟨nx, st, W1⟩ := way_up T hl 123 (by decide) 12583200010 (by omega)
    obtain ⟨g0, g1', g2, ge, hg⟩ : ∃ a b c d, mvR (p : Int) (runG nx st (m + 1) p) = (a, b, c, d) := ⟨_, _, _, _, rfl⟩
    exact times_bu A c T a0 a1 p m (by omega) hm hpl hpm nx st W1 g0 g1' g2 ge hg w hr hc hl
  by_cases k41 : key.toList = ([41] : List UInt8)
  · obtain rfl := eq_of_toList k41
    obtain ⟨nx, st, W1⟩ := way_dn T hl 41 (by decide) 12583200010 (by omega)
    obtain ⟨g0, g1', g2, ge, hg⟩ : ∃ a b c d, mvR (p : Int) (runG nx st (m + 1) p) = (a, b, c, d) := ⟨_, _, _, _, rfl⟩
    exact times_pd A c T a0 a1 p m (by omega) hm hpl hpm nx st W1 g0 g1' g2 ge hg w hr hc hl
  by_cases k40 : key.toList = ([40] : List UInt8)
  · obtain rfl := eq_of_toList k40
    obtain ⟨nx, st, W1⟩ := way_up T hl 40 (by decide) 12583200010 (by omega)
    obtain ⟨g0, g1', g2, ge, hg⟩ : ∃ a b c d, mvR (p : Int) (runG nx st (m + 1) p) = (a, b, c, d) := ⟨_, _, _, _, rfl⟩
    exact times_pu A c T a0 a1 p m (by omega) hm hpl hpm nx st W1 g0 g1' g2 ge hg w hr hc hl
  exact times_other A c T a0 a1 key k125 k123 k41 k40 w
end Go.Proofs.Ytbklmdgmgffjeaa.Hand
