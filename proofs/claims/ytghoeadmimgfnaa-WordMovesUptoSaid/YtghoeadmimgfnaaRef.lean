/- quoinref08.Move answers what word.Move answers. No condition but the sizes. -/
import Derived.Test.YtghoeadmimgfnaaMw
import Derived.Test.YtghoeadmimgfnaaRefP
namespace Go.Proofs.Ytghoeadmimgfnaa.Hand
open Go.RowKit Go.Proofs.Ytghoeadmimgfnaa.PWa Go.Proofs.Ytghoeadmimgfnaa.Aggs Go.Proofs.YtghoeadmimgfnaaW.PrintWords Go.Proofs.YtghoeadmimgfnaaW.PrintLast Go.Proofs.YtghoeadmimgfnaaW.PrintMore
set_option linter.unusedVariables false
set_option linter.unusedSimpArgs false
attribute [local go_sem] max2_mx max_two
set_option maxHeartbeats 1000000 in
set_option maxRecDepth 100000 in
theorem Ref0_ok (A : Option Addr) (c : Nat) (l : List Int) (at_ count : Nat) (w : World) (hr : Kd.C (Kd.int .u8) w A l.length l) (hc : l.length ≤ c) (hl : l.length ≤ 1048576) (ha : at_ ≤ l.length) (hn2 : count ≤ 9999) :
    Calls Try.prog 9 #[.slice A l.length c, .int .i64 at_, .int .i64 count, .string ⟨#[119]⟩] w fun e w' => e = .returned (mvV (mvF l false at_ (max count 1) 0)) ∧ Below w.heap.size w w' := by
  have HR := Aside0.mk hr
  have HC := Aside0.mk hc
  have HLn := Aside0.mk hl
  have f1 : decide ((at_ : Int) < 0) = false := decide_eq_false (by omega)
  have f2 : decide ((at_ : Int) > (l.length : Int)) = false := decide_eq_false (by omega)
  have f3 : decide ((count : Int) < 0) = false := decide_eq_false (by omega)
  have f4 : decide ((count : Int) > 9999) = false := decide_eq_false (by omega)
  have f5 : ((l.length : Int) < (at_ : Int)) = False := eq_false (by omega)
  have f6 : ((9999 : Int) < (count : Int)) = False := eq_false (by omega)
  have HON := Aside0.mk (ronward_eq l false at_ (max count 1) 4194304 hl ha (by omega) (by omega) (by omega))
  have Ha := Aside0.mk ha
  have Hn := Aside0.mk hn2
  clear hr hl ha hn2 hc
  by_cases hz : at_ = l.length
  · have hzb : ((at_ : Int) == (l.length : Int)) = true := beq_iff_eq.mpr (by omega)
    have hres : mvF l false at_ (max count 1) 0 = no70 := by simp [mvF, hz]
    clear hz HON
    go_enter Try.func9, Try.ntmps9
    go_upto_region 11 with (fail)
    have hr1 := blk_alloc (blk_new w (Obj.cells #[Value.int .i64 0, Value.int .i64 0, Value.int .i64 0] 27)) (Obj.cells #[Value.int .i64 at_, Value.int .i64 0, Value.int .i64 1] 27)
    have hg := heap_alloc2_new w (Obj.cells #[Value.int .i64 0, Value.int .i64 0, Value.int .i64 0] 27) (Obj.cells #[Value.int .i64 at_, Value.int .i64 0, Value.int .i64 1] 27)
    have hB := ((Below.refl w.heap.size w).alloc (Nat.le_refl _) (Obj.cells #[Value.int .i64 0, Value.int .i64 0, Value.int .i64 0] 27)).alloc (by simp) (Obj.cells #[Value.int .i64 at_, Value.int .i64 0, Value.int .i64 1] 27)
    generalize (w.alloc (Obj.cells #[Value.int .i64 0, Value.int .i64 0, Value.int .i64 0] 27)).alloc (Obj.cells #[Value.int .i64 at_, Value.int .i64 0, Value.int .i64 1] 27) = W at hr1 hg hB ⊢
    have HRr := Aside0.mk hr1
    have HB := Aside0.mk hB
    clear hr1 hB hg
    go_wp2_with (first | (refine wpList_store_agg rfl 27 (.tmp 8) (.tmp 58) rfl w.heap.size 0 ?ye [.int .i64 0, .int .i64 0, .int .i64 0] ?yf _ 27 HRr.out ?yh ?yi ?yj ?yk))
    case ye => rfl
    case yf => rfl
    case yh => exact Nat.le_refl _
    case yi => simp [Value.oneCell']
    case yj => kernel_rfl
    · skip
      have hW := putCells_block [.int .i64 0, .int .i64 0, .int .i64 0] W w.heap.size 0 _ 27 (HRr.out)
      rw [splice_whole _ [.int .i64 0, .int .i64 0, .int .i64 0] (by rfl)] at hW
      refine bodyPost_ret (results_ct rfl _ _ w.heap.size 27 _ (0, 0) _ rfl hW Try.underlying27 rfl (by kernel_rfl)) rfl ⟨by rw [hres]; rfl, putCells_below _ _ _ _ _ _ (Nat.le_refl _) (HB.out)⟩
  · have hzb : ((at_ : Int) == (l.length : Int)) = false := beq_eq_false_iff_ne.mpr (by omega)
    have hres : mvF l false at_ (max count 1) 0 = ((at_ : Int), (up (begK l false) (at_ + 1) (l.length - at_))[max count 1 - 1]?.getD (l.length : Int), 1, 0) := by simp [mvF, hz]
    generalize (up (begK l false) (at_ + 1) (l.length - at_))[max count 1 - 1]?.getD (l.length : Int) = r at HON hres
    clear hz
    go_enter Try.func9, Try.ntmps9
    go_wp2_with fail
    rw [show mx (count : Int) 1 = ((max count 1 : Nat) : Int) by unfold mx; split <;> omega]
    refine (quoinref08_onward.calls 4194304 A c l at_ ((max count 1 : Nat) : Int) false r _ (Kd.C_alloc (Kd.C_alloc HR.out _) _) HC.out HON.out).mono ?_
    rintro e w1 ⟨rfl, ⟨nd, rfl⟩⟩
    have hr1 := blk_alloc (blk_new w (Obj.cells #[Value.int .i64 0, Value.int .i64 0, Value.int .i64 0] 27)) (Obj.cells #[Value.int .i64 at_, Value.int .i64 0, Value.int .i64 1] 27)
    have hg := heap_alloc2_new w (Obj.cells #[Value.int .i64 0, Value.int .i64 0, Value.int .i64 0] 27) (Obj.cells #[Value.int .i64 at_, Value.int .i64 0, Value.int .i64 1] 27)
    have hB := ((Below.refl w.heap.size w).alloc (Nat.le_refl _) (Obj.cells #[Value.int .i64 0, Value.int .i64 0, Value.int .i64 0] 27)).alloc (by simp) (Obj.cells #[Value.int .i64 at_, Value.int .i64 0, Value.int .i64 1] 27)
    have hr1 := blk_drewN hr1 nd
    have hg := blk_drewN hg nd
    have hB := pw_below_drewN hB nd
    generalize (((w.alloc (Obj.cells #[Value.int .i64 0, Value.int .i64 0, Value.int .i64 0] 27)).alloc (Obj.cells #[Value.int .i64 at_, Value.int .i64 0, Value.int .i64 1] 27)).drewN nd) = W at hr1 hg hB ⊢
    have hg1 := blk_cell hg 1
    have hf1 := blk_frozen hg 1
    have hf2 := blk_frozen hg 2
    have hg2 := blk_cell hg 2
    simp only [List.getElem?_toArray, List.getElem?_cons_zero, List.getElem?_cons_succ] at hg1 hg2
    have hg := blk_put hg 1 (.int .i64 r) (cs' := #[.int .i64 at_, .int .i64 r, .int .i64 1]) rfl
    have hr1 := blk_far hr1 (p := ⟨w.heap.size + 1, 1, none⟩) (by show w.heap.size ≠ w.heap.size + 1; omega) (.int .i64 r)
    have hB := hB.setCell (p := ⟨w.heap.size + 1, 1, none⟩) (by show w.heap.size ≤ w.heap.size + 1; omega) (.int .i64 r)
    go_wp2_with (first | (refine wpList_load_agg rfl 27 (.tmp 11) rfl ⟨w.heap.size + 1, 0, none⟩ ?xa [.int .i64 at_, .int .i64 r, .int .i64 1] _ ?xb Try.underlying27 rfl ?xc ?xd) | (refine wpList_store_agg rfl 27 (.tmp 8) (.tmp 102) rfl w.heap.size 0 ?xe [.int .i64 at_, .int .i64 r, .int .i64 1] ?xf _ 27 hr1 ?xh ?xi ?xj ?xk))
    case xa => rfl
    case xb =>
      intro j v hj
      rw [add_plain', Nat.zero_add, blk_cell hg]
      simpa using hj
    case xc => kernel_rfl
    case xh => exact Nat.le_refl _
    case xi => simp [Value.oneCell']
    case xj => kernel_rfl
    · skip
      have hW := putCells_block [.int .i64 at_, .int .i64 r, .int .i64 1] (W.setCell ⟨w.heap.size + 1, 1, none⟩ (.int .i64 r)) w.heap.size 0 _ 27 (hr1)
      rw [splice_whole _ [.int .i64 at_, .int .i64 r, .int .i64 1] (by rfl)] at hW
      refine bodyPost_ret (results_ct rfl _ _ w.heap.size 27 _ (0, 0) _ rfl hW Try.underlying27 rfl (by kernel_rfl)) rfl ⟨by rw [hres]; rfl, putCells_below _ _ _ _ _ _ (Nat.le_refl _) (hB)⟩
set_option maxHeartbeats 1000000 in
set_option maxRecDepth 100000 in
theorem Ref1_ok (A : Option Addr) (c : Nat) (l : List Int) (at_ count : Nat) (w : World) (hr : Kd.C (Kd.int .u8) w A l.length l) (hc : l.length ≤ c) (hl : l.length ≤ 1048576) (ha : at_ ≤ l.length) (hn2 : count ≤ 9999) :
    Calls Try.prog 9 #[.slice A l.length c, .int .i64 at_, .int .i64 count, .string ⟨#[98]⟩] w fun e w' => e = .returned (mvV (mvF l false at_ (max count 1) 1)) ∧ Below w.heap.size w w' := by
  have HR := Aside0.mk hr
  have HC := Aside0.mk hc
  have HLn := Aside0.mk hl
  have f1 : decide ((at_ : Int) < 0) = false := decide_eq_false (by omega)
  have f2 : decide ((at_ : Int) > (l.length : Int)) = false := decide_eq_false (by omega)
  have f3 : decide ((count : Int) < 0) = false := decide_eq_false (by omega)
  have f4 : decide ((count : Int) > 9999) = false := decide_eq_false (by omega)
  have f5 : ((l.length : Int) < (at_ : Int)) = False := eq_false (by omega)
  have f6 : ((9999 : Int) < (count : Int)) = False := eq_false (by omega)
  have Ha := Aside0.mk ha
  have Hn := Aside0.mk hn2
  clear hr hl ha hn2 hc
  by_cases hz : at_ = 0
  · have hzb : ((at_ : Int) == 0) = true := beq_iff_eq.mpr (by omega)
    have hres : mvF l false at_ (max count 1) 1 = no70 := by simp [mvF, hz]
    clear hz
    go_enter Try.func9, Try.ntmps9
    go_upto_region 18 with (fail)
    have hr1 := blk_alloc (blk_new w (Obj.cells #[Value.int .i64 0, Value.int .i64 0, Value.int .i64 0] 27)) (Obj.cells #[Value.int .i64 at_, Value.int .i64 0, Value.int .i64 1] 27)
    have hg := heap_alloc2_new w (Obj.cells #[Value.int .i64 0, Value.int .i64 0, Value.int .i64 0] 27) (Obj.cells #[Value.int .i64 at_, Value.int .i64 0, Value.int .i64 1] 27)
    have hB := ((Below.refl w.heap.size w).alloc (Nat.le_refl _) (Obj.cells #[Value.int .i64 0, Value.int .i64 0, Value.int .i64 0] 27)).alloc (by simp) (Obj.cells #[Value.int .i64 at_, Value.int .i64 0, Value.int .i64 1] 27)
    generalize (w.alloc (Obj.cells #[Value.int .i64 0, Value.int .i64 0, Value.int .i64 0] 27)).alloc (Obj.cells #[Value.int .i64 at_, Value.int .i64 0, Value.int .i64 1] 27) = W at hr1 hg hB ⊢
    have HRr := Aside0.mk hr1
    have HB := Aside0.mk hB
    clear hr1 hB hg
    go_wp2_with (first | (refine wpList_store_agg rfl 27 (.tmp 8) (.tmp 72) rfl w.heap.size 0 ?ye [.int .i64 0, .int .i64 0, .int .i64 0] ?yf _ 27 HRr.out ?yh ?yi ?yj ?yk))
    case ye => rfl
    case yf => rfl
    case yh => exact Nat.le_refl _
    case yi => simp [Value.oneCell']
    case yj => kernel_rfl
    · skip
      have hW := putCells_block [.int .i64 0, .int .i64 0, .int .i64 0] W w.heap.size 0 _ 27 (HRr.out)
      rw [splice_whole _ [.int .i64 0, .int .i64 0, .int .i64 0] (by rfl)] at hW
      refine bodyPost_ret (results_ct rfl _ _ w.heap.size 27 _ (0, 0) _ rfl hW Try.underlying27 rfl (by kernel_rfl)) rfl ⟨by rw [hres]; rfl, putCells_below _ _ _ _ _ _ (Nat.le_refl _) (HB.out)⟩
  · have hzb : ((at_ : Int) == 0) = false := beq_eq_false_iff_ne.mpr (by omega)
    have HON := Aside0.mk (rback_eq l false false at_ (max count 1) 4194304 HLn.out Ha.out hz (by have := HLn.out; omega) (by omega) (by have := Hn.out; omega))
    simp only [if_true, Bool.false_eq_true, if_false] at HON
    have hres : mvF l false at_ (max count 1) 1 = ((at_ : Int), (lst (begK l false) at_).reverse[max count 1 - 1]?.getD 0, 1, 0) := by simp [mvF, hz]
    generalize (lst (begK l false) at_).reverse[max count 1 - 1]?.getD 0 = r at HON hres
    clear hz
    go_enter Try.func9, Try.ntmps9
    go_wp2_with fail
    rw [show mx (count : Int) 1 = ((max count 1 : Nat) : Int) by unfold mx; split <;> omega]
    refine (quoinref08_back.calls 4194304 A c l at_ ((max count 1 : Nat) : Int) false false r _ (Kd.C_alloc (Kd.C_alloc HR.out _) _) HC.out HON.out).mono ?_
    rintro e w1 ⟨rfl, ⟨nd, rfl⟩⟩
    have hr1 := blk_alloc (blk_new w (Obj.cells #[Value.int .i64 0, Value.int .i64 0, Value.int .i64 0] 27)) (Obj.cells #[Value.int .i64 at_, Value.int .i64 0, Value.int .i64 1] 27)
    have hg := heap_alloc2_new w (Obj.cells #[Value.int .i64 0, Value.int .i64 0, Value.int .i64 0] 27) (Obj.cells #[Value.int .i64 at_, Value.int .i64 0, Value.int .i64 1] 27)
    have hB := ((Below.refl w.heap.size w).alloc (Nat.le_refl _) (Obj.cells #[Value.int .i64 0, Value.int .i64 0, Value.int .i64 0] 27)).alloc (by simp) (Obj.cells #[Value.int .i64 at_, Value.int .i64 0, Value.int .i64 1] 27)
    have hr1 := blk_drewN hr1 nd
    have hg := blk_drewN hg nd
    have hB := pw_below_drewN hB nd
    generalize (((w.alloc (Obj.cells #[Value.int .i64 0, Value.int .i64 0, Value.int .i64 0] 27)).alloc (Obj.cells #[Value.int .i64 at_, Value.int .i64 0, Value.int .i64 1] 27)).drewN nd) = W at hr1 hg hB ⊢
    have hg1 := blk_cell hg 1
    have hf1 := blk_frozen hg 1
    have hf2 := blk_frozen hg 2
    have hg2 := blk_cell hg 2
    simp only [List.getElem?_toArray, List.getElem?_cons_zero, List.getElem?_cons_succ] at hg1 hg2
    have hg := blk_put hg 1 (.int .i64 r) (cs' := #[.int .i64 at_, .int .i64 r, .int .i64 1]) rfl
    have hr1 := blk_far hr1 (p := ⟨w.heap.size + 1, 1, none⟩) (by show w.heap.size ≠ w.heap.size + 1; omega) (.int .i64 r)
    have hB := hB.setCell (p := ⟨w.heap.size + 1, 1, none⟩) (by show w.heap.size ≤ w.heap.size + 1; omega) (.int .i64 r)
    go_wp2_with (first | (refine wpList_load_agg rfl 27 (.tmp 11) rfl ⟨w.heap.size + 1, 0, none⟩ ?xa [.int .i64 at_, .int .i64 r, .int .i64 1] _ ?xb Try.underlying27 rfl ?xc ?xd) | (refine wpList_store_agg rfl 27 (.tmp 8) (.tmp 102) rfl w.heap.size 0 ?xe [.int .i64 at_, .int .i64 r, .int .i64 1] ?xf _ 27 hr1 ?xh ?xi ?xj ?xk))
    case xa => rfl
    case xb =>
      intro j v hj
      rw [add_plain', Nat.zero_add, blk_cell hg]
      simpa using hj
    case xc => kernel_rfl
    case xh => exact Nat.le_refl _
    case xi => simp [Value.oneCell']
    case xj => kernel_rfl
    · skip
      have hW := putCells_block [.int .i64 at_, .int .i64 r, .int .i64 1] (W.setCell ⟨w.heap.size + 1, 1, none⟩ (.int .i64 r)) w.heap.size 0 _ 27 (hr1)
      rw [splice_whole _ [.int .i64 at_, .int .i64 r, .int .i64 1] (by rfl)] at hW
      refine bodyPost_ret (results_ct rfl _ _ w.heap.size 27 _ (0, 0) _ rfl hW Try.underlying27 rfl (by kernel_rfl)) rfl ⟨by rw [hres]; rfl, putCells_below _ _ _ _ _ _ (Nat.le_refl _) (hB)⟩
set_option maxHeartbeats 1000000 in
set_option maxRecDepth 100000 in
theorem Ref2_ok (A : Option Addr) (c : Nat) (l : List Int) (at_ count : Nat) (w : World) (hr : Kd.C (Kd.int .u8) w A l.length l) (hc : l.length ≤ c) (hl : l.length ≤ 1048576) (ha : at_ ≤ l.length) (hn2 : count ≤ 9999) :
    Calls Try.prog 9 #[.slice A l.length c, .int .i64 at_, .int .i64 count, .string ⟨#[101]⟩] w fun e w' => e = .returned (mvV (mvF l false at_ (max count 1) 2)) ∧ Below w.heap.size w w' := by
  have HR := Aside0.mk hr
  have HC := Aside0.mk hc
  have HLn := Aside0.mk hl
  have f1 : decide ((at_ : Int) < 0) = false := decide_eq_false (by omega)
  have f2 : decide ((at_ : Int) > (l.length : Int)) = false := decide_eq_false (by omega)
  have f3 : decide ((count : Int) < 0) = false := decide_eq_false (by omega)
  have f4 : decide ((count : Int) > 9999) = false := decide_eq_false (by omega)
  have f5 : ((l.length : Int) < (at_ : Int)) = False := eq_false (by omega)
  have f6 : ((9999 : Int) < (count : Int)) = False := eq_false (by omega)
  have HON := Aside0.mk (rlast_eq l false at_ (max count 1) 4194304 hl ha (by omega) (by omega) (by omega))
  have hge : ∀ x ∈ (up (endK l false) (at_ + 1) (l.length - at_)), 0 ≤ x := fun x hx => by have := up_ge _ _ _ _ hx; omega
  have hres0 : mvF l false at_ (max count 1) 2 = match (up (endK l false) (at_ + 1) (l.length - at_)).getLast? with | none => no70 | some z => ((at_ : Int), (up (endK l false) (at_ + 1) (l.length - at_))[max count 1 - 1]?.getD z, 2, 0) := rfl
  generalize (up (endK l false) (at_ + 1) (l.length - at_)) = U at HON hge hres0
  have Ha := Aside0.mk ha
  have Hn := Aside0.mk hn2
  clear hr hl ha hn2 hc
  have hun : U.getLast? = none → U[max count 1 - 1]?.getD (U.getLast?.getD (-1)) = -1 := fun h => by
    obtain rfl : U = [] := by simpa using h
    simp
  have hus : ∀ z, U.getLast? = some z → U[max count 1 - 1]?.getD (U.getLast?.getD (-1)) = U[max count 1 - 1]?.getD z ∧ 0 ≤ U[max count 1 - 1]?.getD z := fun z h => by
    rw [h]
    refine ⟨rfl, ?_⟩
    cases hq : U[max count 1 - 1]? with
    | none => exact hge z (List.mem_of_getLast? h)
    | some y => exact hge y (List.mem_of_getElem? hq)
  generalize U[max count 1 - 1]?.getD (U.getLast?.getD (-1)) = r at HON hun hus
  have HUN := Aside0.mk hun
  have HUS := Aside0.mk hus
  have HR0 := Aside0.mk hres0
  clear hun hus hres0 hge
  go_enter Try.func9, Try.ntmps9
  go_wp2_with fail
  rw [show mx (count : Int) 1 = ((max count 1 : Nat) : Int) by unfold mx; split <;> omega]
  refine (quoinref08_last.calls 4194304 A c l at_ ((max count 1 : Nat) : Int) false r _ (Kd.C_alloc (Kd.C_alloc HR.out _) _) HC.out HON.out).mono ?_
  rintro e w1 ⟨rfl, ⟨nd, rfl⟩⟩
  have hr1 := blk_alloc (blk_new w (Obj.cells #[Value.int .i64 0, Value.int .i64 0, Value.int .i64 0] 27)) (Obj.cells #[Value.int .i64 at_, Value.int .i64 0, Value.int .i64 1] 27)
  have hg := heap_alloc2_new w (Obj.cells #[Value.int .i64 0, Value.int .i64 0, Value.int .i64 0] 27) (Obj.cells #[Value.int .i64 at_, Value.int .i64 0, Value.int .i64 1] 27)
  have hB := ((Below.refl w.heap.size w).alloc (Nat.le_refl _) (Obj.cells #[Value.int .i64 0, Value.int .i64 0, Value.int .i64 0] 27)).alloc (by simp) (Obj.cells #[Value.int .i64 at_, Value.int .i64 0, Value.int .i64 1] 27)
  have hr1 := blk_drewN hr1 nd
  have hg := blk_drewN hg nd
  have hB := pw_below_drewN hB nd
  generalize (((w.alloc (Obj.cells #[Value.int .i64 0, Value.int .i64 0, Value.int .i64 0] 27)).alloc (Obj.cells #[Value.int .i64 at_, Value.int .i64 0, Value.int .i64 1] 27)).drewN nd) = W at hr1 hg hB ⊢
  have hg1 := blk_cell hg 1
  have hf1 := blk_frozen hg 1
  simp only [List.getElem?_toArray, List.getElem?_cons_zero, List.getElem?_cons_succ] at hg1
  have hg := blk_put hg 1 (.int .i64 r) (cs' := #[.int .i64 at_, .int .i64 r, .int .i64 1]) rfl
  have hr1 := blk_far hr1 (p := ⟨w.heap.size + 1, 1, none⟩) (by show w.heap.size ≠ w.heap.size + 1; omega) (.int .i64 r)
  have hB := hB.setCell (p := ⟨w.heap.size + 1, 1, none⟩) (by show w.heap.size ≤ w.heap.size + 1; omega) (.int .i64 r)
  have hg3 := blk_cell hg 1
  simp only [List.getElem?_toArray, List.getElem?_cons_zero, List.getElem?_cons_succ] at hg3
  cases hu : U.getLast? with
  | none =>
    have hrr := HUN.out hu
    have hres : mvF l false at_ (max count 1) 2 = no70 := by rw [HR0.out, hu]
    clear hu
    have HRr := Aside0.mk hr1
    have HB := Aside0.mk hB
    clear hr1 hB hg
    have hrl : decide (r < 0) = true := by rw [hrr]; rfl
    clear hrr
    go_upto_region 27 with (fail)
    go_wp2_with (first | (refine wpList_store_agg rfl 27 (.tmp 8) (.tmp 100) rfl w.heap.size 0 ?ye [.int .i64 0, .int .i64 0, .int .i64 0] ?yf _ 27 HRr.out ?yh ?yi ?yj ?yk))
    case ye => rfl
    case yf => rfl
    case yh => exact Nat.le_refl _
    case yi => simp [Value.oneCell']
    case yj => kernel_rfl
    · skip
      have hW := putCells_block [.int .i64 0, .int .i64 0, .int .i64 0] (W.setCell ⟨w.heap.size + 1, 1, none⟩ (.int .i64 r)) w.heap.size 0 _ 27 (HRr.out)
      rw [splice_whole _ [.int .i64 0, .int .i64 0, .int .i64 0] (by rfl)] at hW
      refine bodyPost_ret (results_ct rfl _ _ w.heap.size 27 _ (0, 0) _ rfl hW Try.underlying27 rfl (by kernel_rfl)) rfl ⟨by rw [hres]; rfl, putCells_below _ _ _ _ _ _ (Nat.le_refl _) (HB.out)⟩
  | some z =>
    obtain ⟨hrr, hr0⟩ := HUS.out z hu
    have hres : mvF l false at_ (max count 1) 2 = ((at_ : Int), r, 2, 0) := by rw [HR0.out, hu, hrr]
    clear hu
    have hrl : decide (r < 0) = false := decide_eq_false (by omega)
    have hrq : (r < 0) = False := eq_false (by omega)
    clear hrr hr0
    have hf2 := blk_frozen hg 2
    have hg2 := blk_cell hg 2
    simp only [List.getElem?_toArray, List.getElem?_cons_zero, List.getElem?_cons_succ] at hg2
    have hg := blk_put hg 2 (.int .i64 2) (cs' := #[.int .i64 at_, .int .i64 r, .int .i64 2]) rfl
    have hr1 := blk_far hr1 (p := ⟨w.heap.size + 1, 2, none⟩) (by show w.heap.size ≠ w.heap.size + 1; omega) (.int .i64 2)
    have hB := hB.setCell (p := ⟨w.heap.size + 1, 2, none⟩) (by show w.heap.size ≤ w.heap.size + 1; omega) (.int .i64 2)
    go_wp2_with (first | (refine wpList_load_agg rfl 27 (.tmp 11) rfl ⟨w.heap.size + 1, 0, none⟩ ?xa [.int .i64 at_, .int .i64 r, .int .i64 2] _ ?xb Try.underlying27 rfl ?xc ?xd) | (refine wpList_store_agg rfl 27 (.tmp 8) (.tmp 102) rfl w.heap.size 0 ?xe [.int .i64 at_, .int .i64 r, .int .i64 2] ?xf _ 27 hr1 ?xh ?xi ?xj ?xk))
    case xa => rfl
    case xb =>
      intro j v hj
      rw [add_plain', Nat.zero_add, blk_cell hg]
      simpa using hj
    case xc => kernel_rfl
    case xh => exact Nat.le_refl _
    case xi => simp [Value.oneCell']
    case xj => kernel_rfl
    · skip
      have hW := putCells_block [.int .i64 at_, .int .i64 r, .int .i64 2] ((W.setCell ⟨w.heap.size + 1, 1, none⟩ (.int .i64 r)).setCell ⟨w.heap.size + 1, 2, none⟩ (.int .i64 2)) w.heap.size 0 _ 27 (hr1)
      rw [splice_whole _ [.int .i64 at_, .int .i64 r, .int .i64 2] (by rfl)] at hW
      refine bodyPost_ret (results_ct rfl _ _ w.heap.size 27 _ (0, 0) _ rfl hW Try.underlying27 rfl (by kernel_rfl)) rfl ⟨by rw [hres]; rfl, putCells_below _ _ _ _ _ _ (Nat.le_refl _) (hB)⟩
set_option maxHeartbeats 1000000 in
set_option maxRecDepth 100000 in
theorem Ref3_ok (A : Option Addr) (c : Nat) (l : List Int) (at_ count : Nat) (w : World) (hr : Kd.C (Kd.int .u8) w A l.length l) (hc : l.length ≤ c) (hl : l.length ≤ 1048576) (ha : at_ ≤ l.length) (hn2 : count ≤ 9999) :
    Calls Try.prog 9 #[.slice A l.length c, .int .i64 at_, .int .i64 count, .string ⟨#[103, 101]⟩] w fun e w' => e = .returned (mvV (mvF l false at_ (max count 1) 3)) ∧ Below w.heap.size w w' := by
  have HR := Aside0.mk hr
  have HC := Aside0.mk hc
  have HLn := Aside0.mk hl
  have f1 : decide ((at_ : Int) < 0) = false := decide_eq_false (by omega)
  have f2 : decide ((at_ : Int) > (l.length : Int)) = false := decide_eq_false (by omega)
  have f3 : decide ((count : Int) < 0) = false := decide_eq_false (by omega)
  have f4 : decide ((count : Int) > 9999) = false := decide_eq_false (by omega)
  have f5 : ((l.length : Int) < (at_ : Int)) = False := eq_false (by omega)
  have f6 : ((9999 : Int) < (count : Int)) = False := eq_false (by omega)
  have Ha := Aside0.mk ha
  have Hn := Aside0.mk hn2
  clear hr hl ha hn2 hc
  by_cases hz : at_ = 0
  · have hzb : ((at_ : Int) == 0) = true := beq_iff_eq.mpr (by omega)
    have hres : mvF l false at_ (max count 1) 3 = no70 := by simp [mvF, hz]
    clear hz
    go_enter Try.func9, Try.ntmps9
    go_upto_region 18 with (fail)
    have hr1 := blk_alloc (blk_new w (Obj.cells #[Value.int .i64 0, Value.int .i64 0, Value.int .i64 0] 27)) (Obj.cells #[Value.int .i64 at_, Value.int .i64 0, Value.int .i64 1] 27)
    have hg := heap_alloc2_new w (Obj.cells #[Value.int .i64 0, Value.int .i64 0, Value.int .i64 0] 27) (Obj.cells #[Value.int .i64 at_, Value.int .i64 0, Value.int .i64 1] 27)
    have hB := ((Below.refl w.heap.size w).alloc (Nat.le_refl _) (Obj.cells #[Value.int .i64 0, Value.int .i64 0, Value.int .i64 0] 27)).alloc (by simp) (Obj.cells #[Value.int .i64 at_, Value.int .i64 0, Value.int .i64 1] 27)
    generalize (w.alloc (Obj.cells #[Value.int .i64 0, Value.int .i64 0, Value.int .i64 0] 27)).alloc (Obj.cells #[Value.int .i64 at_, Value.int .i64 0, Value.int .i64 1] 27) = W at hr1 hg hB ⊢
    have HRr := Aside0.mk hr1
    have HB := Aside0.mk hB
    clear hr1 hB hg
    go_wp2_with (first | (refine wpList_store_agg rfl 27 (.tmp 8) (.tmp 72) rfl w.heap.size 0 ?ye [.int .i64 0, .int .i64 0, .int .i64 0] ?yf _ 27 HRr.out ?yh ?yi ?yj ?yk))
    case ye => rfl
    case yf => rfl
    case yh => exact Nat.le_refl _
    case yi => simp [Value.oneCell']
    case yj => kernel_rfl
    · skip
      have hW := putCells_block [.int .i64 0, .int .i64 0, .int .i64 0] W w.heap.size 0 _ 27 (HRr.out)
      rw [splice_whole _ [.int .i64 0, .int .i64 0, .int .i64 0] (by rfl)] at hW
      refine bodyPost_ret (results_ct rfl _ _ w.heap.size 27 _ (0, 0) _ rfl hW Try.underlying27 rfl (by kernel_rfl)) rfl ⟨by rw [hres]; rfl, putCells_below _ _ _ _ _ _ (Nat.le_refl _) (HB.out)⟩
  · have hzb : ((at_ : Int) == 0) = false := beq_eq_false_iff_ne.mpr (by omega)
    have HON := Aside0.mk (rback_eq l false true at_ (max count 1) 4194304 HLn.out Ha.out hz (by have := HLn.out; omega) (by omega) (by have := Hn.out; omega))
    simp only [if_true, Bool.false_eq_true, if_false] at HON
    have hres : mvF l false at_ (max count 1) 3 = ((at_ : Int), (lst (haltK l false) at_).reverse[max count 1 - 1]?.getD 0, 2, 0) := by simp [mvF, hz]
    generalize (lst (haltK l false) at_).reverse[max count 1 - 1]?.getD 0 = r at HON hres
    clear hz
    go_enter Try.func9, Try.ntmps9
    go_wp2_with fail
    rw [show mx (count : Int) 1 = ((max count 1 : Nat) : Int) by unfold mx; split <;> omega]
    refine (quoinref08_back.calls 4194304 A c l at_ ((max count 1 : Nat) : Int) false true r _ (Kd.C_alloc (Kd.C_alloc HR.out _) _) HC.out HON.out).mono ?_
    rintro e w1 ⟨rfl, ⟨nd, rfl⟩⟩
    have hr1 := blk_alloc (blk_new w (Obj.cells #[Value.int .i64 0, Value.int .i64 0, Value.int .i64 0] 27)) (Obj.cells #[Value.int .i64 at_, Value.int .i64 0, Value.int .i64 1] 27)
    have hg := heap_alloc2_new w (Obj.cells #[Value.int .i64 0, Value.int .i64 0, Value.int .i64 0] 27) (Obj.cells #[Value.int .i64 at_, Value.int .i64 0, Value.int .i64 1] 27)
    have hB := ((Below.refl w.heap.size w).alloc (Nat.le_refl _) (Obj.cells #[Value.int .i64 0, Value.int .i64 0, Value.int .i64 0] 27)).alloc (by simp) (Obj.cells #[Value.int .i64 at_, Value.int .i64 0, Value.int .i64 1] 27)
    have hr1 := blk_drewN hr1 nd
    have hg := blk_drewN hg nd
    have hB := pw_below_drewN hB nd
    generalize (((w.alloc (Obj.cells #[Value.int .i64 0, Value.int .i64 0, Value.int .i64 0] 27)).alloc (Obj.cells #[Value.int .i64 at_, Value.int .i64 0, Value.int .i64 1] 27)).drewN nd) = W at hr1 hg hB ⊢
    have hg1 := blk_cell hg 1
    have hf1 := blk_frozen hg 1
    have hf2 := blk_frozen hg 2
    have hg2 := blk_cell hg 2
    simp only [List.getElem?_toArray, List.getElem?_cons_zero, List.getElem?_cons_succ] at hg1 hg2
    have hg := blk_put hg 1 (.int .i64 r) (cs' := #[.int .i64 at_, .int .i64 r, .int .i64 1]) rfl
    have hr1 := blk_far hr1 (p := ⟨w.heap.size + 1, 1, none⟩) (by show w.heap.size ≠ w.heap.size + 1; omega) (.int .i64 r)
    have hB := hB.setCell (p := ⟨w.heap.size + 1, 1, none⟩) (by show w.heap.size ≤ w.heap.size + 1; omega) (.int .i64 r)
    have hf2 := blk_frozen hg 2
    have hg2 := blk_cell hg 2
    simp only [List.getElem?_toArray, List.getElem?_cons_zero, List.getElem?_cons_succ] at hg2
    have hg := blk_put hg 2 (.int .i64 2) (cs' := #[.int .i64 at_, .int .i64 r, .int .i64 2]) rfl
    have hr1 := blk_far hr1 (p := ⟨w.heap.size + 1, 2, none⟩) (by show w.heap.size ≠ w.heap.size + 1; omega) (.int .i64 2)
    have hB := hB.setCell (p := ⟨w.heap.size + 1, 2, none⟩) (by show w.heap.size ≤ w.heap.size + 1; omega) (.int .i64 2)
    go_wp2_with (first | (refine wpList_load_agg rfl 27 (.tmp 11) rfl ⟨w.heap.size + 1, 0, none⟩ ?xa [.int .i64 at_, .int .i64 r, .int .i64 2] _ ?xb Try.underlying27 rfl ?xc ?xd) | (refine wpList_store_agg rfl 27 (.tmp 8) (.tmp 102) rfl w.heap.size 0 ?xe [.int .i64 at_, .int .i64 r, .int .i64 2] ?xf _ 27 hr1 ?xh ?xi ?xj ?xk))
    case xa => rfl
    case xb =>
      intro j v hj
      rw [add_plain', Nat.zero_add, blk_cell hg]
      simpa using hj
    case xc => kernel_rfl
    case xh => exact Nat.le_refl _
    case xi => simp [Value.oneCell']
    case xj => kernel_rfl
    · skip
      have hW := putCells_block [.int .i64 at_, .int .i64 r, .int .i64 2] ((W.setCell ⟨w.heap.size + 1, 1, none⟩ (.int .i64 r)).setCell ⟨w.heap.size + 1, 2, none⟩ (.int .i64 2)) w.heap.size 0 _ 27 (hr1)
      rw [splice_whole _ [.int .i64 at_, .int .i64 r, .int .i64 2] (by rfl)] at hW
      refine bodyPost_ret (results_ct rfl _ _ w.heap.size 27 _ (0, 0) _ rfl hW Try.underlying27 rfl (by kernel_rfl)) rfl ⟨by rw [hres]; rfl, putCells_below _ _ _ _ _ _ (Nat.le_refl _) (hB)⟩
set_option maxHeartbeats 1000000 in
set_option maxRecDepth 100000 in
theorem Ref4_ok (A : Option Addr) (c : Nat) (l : List Int) (at_ count : Nat) (w : World) (hr : Kd.C (Kd.int .u8) w A l.length l) (hc : l.length ≤ c) (hl : l.length ≤ 1048576) (ha : at_ ≤ l.length) (hn2 : count ≤ 9999) :
    Calls Try.prog 9 #[.slice A l.length c, .int .i64 at_, .int .i64 count, .string ⟨#[87]⟩] w fun e w' => e = .returned (mvV (mvF l true at_ (max count 1) 0)) ∧ Below w.heap.size w w' := by
  have HR := Aside0.mk hr
  have HC := Aside0.mk hc
  have HLn := Aside0.mk hl
  have f1 : decide ((at_ : Int) < 0) = false := decide_eq_false (by omega)
  have f2 : decide ((at_ : Int) > (l.length : Int)) = false := decide_eq_false (by omega)
  have f3 : decide ((count : Int) < 0) = false := decide_eq_false (by omega)
  have f4 : decide ((count : Int) > 9999) = false := decide_eq_false (by omega)
  have f5 : ((l.length : Int) < (at_ : Int)) = False := eq_false (by omega)
  have f6 : ((9999 : Int) < (count : Int)) = False := eq_false (by omega)
  have HON := Aside0.mk (ronward_eq l true at_ (max count 1) 4194304 hl ha (by omega) (by omega) (by omega))
  have Ha := Aside0.mk ha
  have Hn := Aside0.mk hn2
  clear hr hl ha hn2 hc
  by_cases hz : at_ = l.length
  · have hzb : ((at_ : Int) == (l.length : Int)) = true := beq_iff_eq.mpr (by omega)
    have hres : mvF l true at_ (max count 1) 0 = no70 := by simp [mvF, hz]
    clear hz HON
    go_enter Try.func9, Try.ntmps9
    go_upto_region 11 with (fail)
    have hr1 := blk_alloc (blk_new w (Obj.cells #[Value.int .i64 0, Value.int .i64 0, Value.int .i64 0] 27)) (Obj.cells #[Value.int .i64 at_, Value.int .i64 0, Value.int .i64 1] 27)
    have hg := heap_alloc2_new w (Obj.cells #[Value.int .i64 0, Value.int .i64 0, Value.int .i64 0] 27) (Obj.cells #[Value.int .i64 at_, Value.int .i64 0, Value.int .i64 1] 27)
    have hB := ((Below.refl w.heap.size w).alloc (Nat.le_refl _) (Obj.cells #[Value.int .i64 0, Value.int .i64 0, Value.int .i64 0] 27)).alloc (by simp) (Obj.cells #[Value.int .i64 at_, Value.int .i64 0, Value.int .i64 1] 27)
    generalize (w.alloc (Obj.cells #[Value.int .i64 0, Value.int .i64 0, Value.int .i64 0] 27)).alloc (Obj.cells #[Value.int .i64 at_, Value.int .i64 0, Value.int .i64 1] 27) = W at hr1 hg hB ⊢
    have HRr := Aside0.mk hr1
    have HB := Aside0.mk hB
    clear hr1 hB hg
    go_wp2_with (first | (refine wpList_store_agg rfl 27 (.tmp 8) (.tmp 58) rfl w.heap.size 0 ?ye [.int .i64 0, .int .i64 0, .int .i64 0] ?yf _ 27 HRr.out ?yh ?yi ?yj ?yk))
    case ye => rfl
    case yf => rfl
    case yh => exact Nat.le_refl _
    case yi => simp [Value.oneCell']
    case yj => kernel_rfl
    · skip
      have hW := putCells_block [.int .i64 0, .int .i64 0, .int .i64 0] W w.heap.size 0 _ 27 (HRr.out)
      rw [splice_whole _ [.int .i64 0, .int .i64 0, .int .i64 0] (by rfl)] at hW
      refine bodyPost_ret (results_ct rfl _ _ w.heap.size 27 _ (0, 0) _ rfl hW Try.underlying27 rfl (by kernel_rfl)) rfl ⟨by rw [hres]; rfl, putCells_below _ _ _ _ _ _ (Nat.le_refl _) (HB.out)⟩
  · have hzb : ((at_ : Int) == (l.length : Int)) = false := beq_eq_false_iff_ne.mpr (by omega)
    have hres : mvF l true at_ (max count 1) 0 = ((at_ : Int), (up (begK l true) (at_ + 1) (l.length - at_))[max count 1 - 1]?.getD (l.length : Int), 1, 0) := by simp [mvF, hz]
    generalize (up (begK l true) (at_ + 1) (l.length - at_))[max count 1 - 1]?.getD (l.length : Int) = r at HON hres
    clear hz
    go_enter Try.func9, Try.ntmps9
    go_wp2_with fail
    rw [show mx (count : Int) 1 = ((max count 1 : Nat) : Int) by unfold mx; split <;> omega]
    refine (quoinref08_onward.calls 4194304 A c l at_ ((max count 1 : Nat) : Int) true r _ (Kd.C_alloc (Kd.C_alloc HR.out _) _) HC.out HON.out).mono ?_
    rintro e w1 ⟨rfl, ⟨nd, rfl⟩⟩
    have hr1 := blk_alloc (blk_new w (Obj.cells #[Value.int .i64 0, Value.int .i64 0, Value.int .i64 0] 27)) (Obj.cells #[Value.int .i64 at_, Value.int .i64 0, Value.int .i64 1] 27)
    have hg := heap_alloc2_new w (Obj.cells #[Value.int .i64 0, Value.int .i64 0, Value.int .i64 0] 27) (Obj.cells #[Value.int .i64 at_, Value.int .i64 0, Value.int .i64 1] 27)
    have hB := ((Below.refl w.heap.size w).alloc (Nat.le_refl _) (Obj.cells #[Value.int .i64 0, Value.int .i64 0, Value.int .i64 0] 27)).alloc (by simp) (Obj.cells #[Value.int .i64 at_, Value.int .i64 0, Value.int .i64 1] 27)
    have hr1 := blk_drewN hr1 nd
    have hg := blk_drewN hg nd
    have hB := pw_below_drewN hB nd
    generalize (((w.alloc (Obj.cells #[Value.int .i64 0, Value.int .i64 0, Value.int .i64 0] 27)).alloc (Obj.cells #[Value.int .i64 at_, Value.int .i64 0, Value.int .i64 1] 27)).drewN nd) = W at hr1 hg hB ⊢
    have hg1 := blk_cell hg 1
    have hf1 := blk_frozen hg 1
    have hf2 := blk_frozen hg 2
    have hg2 := blk_cell hg 2
    simp only [List.getElem?_toArray, List.getElem?_cons_zero, List.getElem?_cons_succ] at hg1 hg2
    have hg := blk_put hg 1 (.int .i64 r) (cs' := #[.int .i64 at_, .int .i64 r, .int .i64 1]) rfl
    have hr1 := blk_far hr1 (p := ⟨w.heap.size + 1, 1, none⟩) (by show w.heap.size ≠ w.heap.size + 1; omega) (.int .i64 r)
    have hB := hB.setCell (p := ⟨w.heap.size + 1, 1, none⟩) (by show w.heap.size ≤ w.heap.size + 1; omega) (.int .i64 r)
    go_wp2_with (first | (refine wpList_load_agg rfl 27 (.tmp 11) rfl ⟨w.heap.size + 1, 0, none⟩ ?xa [.int .i64 at_, .int .i64 r, .int .i64 1] _ ?xb Try.underlying27 rfl ?xc ?xd) | (refine wpList_store_agg rfl 27 (.tmp 8) (.tmp 102) rfl w.heap.size 0 ?xe [.int .i64 at_, .int .i64 r, .int .i64 1] ?xf _ 27 hr1 ?xh ?xi ?xj ?xk))
    case xa => rfl
    case xb =>
      intro j v hj
      rw [add_plain', Nat.zero_add, blk_cell hg]
      simpa using hj
    case xc => kernel_rfl
    case xh => exact Nat.le_refl _
    case xi => simp [Value.oneCell']
    case xj => kernel_rfl
    · skip
      have hW := putCells_block [.int .i64 at_, .int .i64 r, .int .i64 1] (W.setCell ⟨w.heap.size + 1, 1, none⟩ (.int .i64 r)) w.heap.size 0 _ 27 (hr1)
      rw [splice_whole _ [.int .i64 at_, .int .i64 r, .int .i64 1] (by rfl)] at hW
      refine bodyPost_ret (results_ct rfl _ _ w.heap.size 27 _ (0, 0) _ rfl hW Try.underlying27 rfl (by kernel_rfl)) rfl ⟨by rw [hres]; rfl, putCells_below _ _ _ _ _ _ (Nat.le_refl _) (hB)⟩
set_option maxHeartbeats 1000000 in
set_option maxRecDepth 100000 in
theorem Ref5_ok (A : Option Addr) (c : Nat) (l : List Int) (at_ count : Nat) (w : World) (hr : Kd.C (Kd.int .u8) w A l.length l) (hc : l.length ≤ c) (hl : l.length ≤ 1048576) (ha : at_ ≤ l.length) (hn2 : count ≤ 9999) :
    Calls Try.prog 9 #[.slice A l.length c, .int .i64 at_, .int .i64 count, .string ⟨#[66]⟩] w fun e w' => e = .returned (mvV (mvF l true at_ (max count 1) 1)) ∧ Below w.heap.size w w' := by
  have HR := Aside0.mk hr
  have HC := Aside0.mk hc
  have HLn := Aside0.mk hl
  have f1 : decide ((at_ : Int) < 0) = false := decide_eq_false (by omega)
  have f2 : decide ((at_ : Int) > (l.length : Int)) = false := decide_eq_false (by omega)
  have f3 : decide ((count : Int) < 0) = false := decide_eq_false (by omega)
  have f4 : decide ((count : Int) > 9999) = false := decide_eq_false (by omega)
  have f5 : ((l.length : Int) < (at_ : Int)) = False := eq_false (by omega)
  have f6 : ((9999 : Int) < (count : Int)) = False := eq_false (by omega)
  have Ha := Aside0.mk ha
  have Hn := Aside0.mk hn2
  clear hr hl ha hn2 hc
  by_cases hz : at_ = 0
  · have hzb : ((at_ : Int) == 0) = true := beq_iff_eq.mpr (by omega)
    have hres : mvF l true at_ (max count 1) 1 = no70 := by simp [mvF, hz]
    clear hz
    go_enter Try.func9, Try.ntmps9
    go_upto_region 18 with (fail)
    have hr1 := blk_alloc (blk_new w (Obj.cells #[Value.int .i64 0, Value.int .i64 0, Value.int .i64 0] 27)) (Obj.cells #[Value.int .i64 at_, Value.int .i64 0, Value.int .i64 1] 27)
    have hg := heap_alloc2_new w (Obj.cells #[Value.int .i64 0, Value.int .i64 0, Value.int .i64 0] 27) (Obj.cells #[Value.int .i64 at_, Value.int .i64 0, Value.int .i64 1] 27)
    have hB := ((Below.refl w.heap.size w).alloc (Nat.le_refl _) (Obj.cells #[Value.int .i64 0, Value.int .i64 0, Value.int .i64 0] 27)).alloc (by simp) (Obj.cells #[Value.int .i64 at_, Value.int .i64 0, Value.int .i64 1] 27)
    generalize (w.alloc (Obj.cells #[Value.int .i64 0, Value.int .i64 0, Value.int .i64 0] 27)).alloc (Obj.cells #[Value.int .i64 at_, Value.int .i64 0, Value.int .i64 1] 27) = W at hr1 hg hB ⊢
    have HRr := Aside0.mk hr1
    have HB := Aside0.mk hB
    clear hr1 hB hg
    go_wp2_with (first | (refine wpList_store_agg rfl 27 (.tmp 8) (.tmp 72) rfl w.heap.size 0 ?ye [.int .i64 0, .int .i64 0, .int .i64 0] ?yf _ 27 HRr.out ?yh ?yi ?yj ?yk))
    case ye => rfl
    case yf => rfl
    case yh => exact Nat.le_refl _
    case yi => simp [Value.oneCell']
    case yj => kernel_rfl
    · skip
      have hW := putCells_block [.int .i64 0, .int .i64 0, .int .i64 0] W w.heap.size 0 _ 27 (HRr.out)
      rw [splice_whole _ [.int .i64 0, .int .i64 0, .int .i64 0] (by rfl)] at hW
      refine bodyPost_ret (results_ct rfl _ _ w.heap.size 27 _ (0, 0) _ rfl hW Try.underlying27 rfl (by kernel_rfl)) rfl ⟨by rw [hres]; rfl, putCells_below _ _ _ _ _ _ (Nat.le_refl _) (HB.out)⟩
  · have hzb : ((at_ : Int) == 0) = false := beq_eq_false_iff_ne.mpr (by omega)
    have HON := Aside0.mk (rback_eq l true false at_ (max count 1) 4194304 HLn.out Ha.out hz (by have := HLn.out; omega) (by omega) (by have := Hn.out; omega))
    simp only [if_true, Bool.false_eq_true, if_false] at HON
    have hres : mvF l true at_ (max count 1) 1 = ((at_ : Int), (lst (begK l true) at_).reverse[max count 1 - 1]?.getD 0, 1, 0) := by simp [mvF, hz]
    generalize (lst (begK l true) at_).reverse[max count 1 - 1]?.getD 0 = r at HON hres
    clear hz
    go_enter Try.func9, Try.ntmps9
    go_wp2_with fail
    rw [show mx (count : Int) 1 = ((max count 1 : Nat) : Int) by unfold mx; split <;> omega]
    refine (quoinref08_back.calls 4194304 A c l at_ ((max count 1 : Nat) : Int) true false r _ (Kd.C_alloc (Kd.C_alloc HR.out _) _) HC.out HON.out).mono ?_
    rintro e w1 ⟨rfl, ⟨nd, rfl⟩⟩
    have hr1 := blk_alloc (blk_new w (Obj.cells #[Value.int .i64 0, Value.int .i64 0, Value.int .i64 0] 27)) (Obj.cells #[Value.int .i64 at_, Value.int .i64 0, Value.int .i64 1] 27)
    have hg := heap_alloc2_new w (Obj.cells #[Value.int .i64 0, Value.int .i64 0, Value.int .i64 0] 27) (Obj.cells #[Value.int .i64 at_, Value.int .i64 0, Value.int .i64 1] 27)
    have hB := ((Below.refl w.heap.size w).alloc (Nat.le_refl _) (Obj.cells #[Value.int .i64 0, Value.int .i64 0, Value.int .i64 0] 27)).alloc (by simp) (Obj.cells #[Value.int .i64 at_, Value.int .i64 0, Value.int .i64 1] 27)
    have hr1 := blk_drewN hr1 nd
    have hg := blk_drewN hg nd
    have hB := pw_below_drewN hB nd
    generalize (((w.alloc (Obj.cells #[Value.int .i64 0, Value.int .i64 0, Value.int .i64 0] 27)).alloc (Obj.cells #[Value.int .i64 at_, Value.int .i64 0, Value.int .i64 1] 27)).drewN nd) = W at hr1 hg hB ⊢
    have hg1 := blk_cell hg 1
    have hf1 := blk_frozen hg 1
    have hf2 := blk_frozen hg 2
    have hg2 := blk_cell hg 2
    simp only [List.getElem?_toArray, List.getElem?_cons_zero, List.getElem?_cons_succ] at hg1 hg2
    have hg := blk_put hg 1 (.int .i64 r) (cs' := #[.int .i64 at_, .int .i64 r, .int .i64 1]) rfl
    have hr1 := blk_far hr1 (p := ⟨w.heap.size + 1, 1, none⟩) (by show w.heap.size ≠ w.heap.size + 1; omega) (.int .i64 r)
    have hB := hB.setCell (p := ⟨w.heap.size + 1, 1, none⟩) (by show w.heap.size ≤ w.heap.size + 1; omega) (.int .i64 r)
    go_wp2_with (first | (refine wpList_load_agg rfl 27 (.tmp 11) rfl ⟨w.heap.size + 1, 0, none⟩ ?xa [.int .i64 at_, .int .i64 r, .int .i64 1] _ ?xb Try.underlying27 rfl ?xc ?xd) | (refine wpList_store_agg rfl 27 (.tmp 8) (.tmp 102) rfl w.heap.size 0 ?xe [.int .i64 at_, .int .i64 r, .int .i64 1] ?xf _ 27 hr1 ?xh ?xi ?xj ?xk))
    case xa => rfl
    case xb =>
      intro j v hj
      rw [add_plain', Nat.zero_add, blk_cell hg]
      simpa using hj
    case xc => kernel_rfl
    case xh => exact Nat.le_refl _
    case xi => simp [Value.oneCell']
    case xj => kernel_rfl
    · skip
      have hW := putCells_block [.int .i64 at_, .int .i64 r, .int .i64 1] (W.setCell ⟨w.heap.size + 1, 1, none⟩ (.int .i64 r)) w.heap.size 0 _ 27 (hr1)
      rw [splice_whole _ [.int .i64 at_, .int .i64 r, .int .i64 1] (by rfl)] at hW
      refine bodyPost_ret (results_ct rfl _ _ w.heap.size 27 _ (0, 0) _ rfl hW Try.underlying27 rfl (by kernel_rfl)) rfl ⟨by rw [hres]; rfl, putCells_below _ _ _ _ _ _ (Nat.le_refl _) (hB)⟩
set_option maxHeartbeats 1000000 in
set_option maxRecDepth 100000 in
theorem Ref6_ok (A : Option Addr) (c : Nat) (l : List Int) (at_ count : Nat) (w : World) (hr : Kd.C (Kd.int .u8) w A l.length l) (hc : l.length ≤ c) (hl : l.length ≤ 1048576) (ha : at_ ≤ l.length) (hn2 : count ≤ 9999) :
    Calls Try.prog 9 #[.slice A l.length c, .int .i64 at_, .int .i64 count, .string ⟨#[69]⟩] w fun e w' => e = .returned (mvV (mvF l true at_ (max count 1) 2)) ∧ Below w.heap.size w w' := by
  have HR := Aside0.mk hr
  have HC := Aside0.mk hc
  have HLn := Aside0.mk hl
  have f1 : decide ((at_ : Int) < 0) = false := decide_eq_false (by omega)
  have f2 : decide ((at_ : Int) > (l.length : Int)) = false := decide_eq_false (by omega)
  have f3 : decide ((count : Int) < 0) = false := decide_eq_false (by omega)
  have f4 : decide ((count : Int) > 9999) = false := decide_eq_false (by omega)
  have f5 : ((l.length : Int) < (at_ : Int)) = False := eq_false (by omega)
  have f6 : ((9999 : Int) < (count : Int)) = False := eq_false (by omega)
  have HON := Aside0.mk (rlast_eq l true at_ (max count 1) 4194304 hl ha (by omega) (by omega) (by omega))
  have hge : ∀ x ∈ (up (endK l true) (at_ + 1) (l.length - at_)), 0 ≤ x := fun x hx => by have := up_ge _ _ _ _ hx; omega
  have hres0 : mvF l true at_ (max count 1) 2 = match (up (endK l true) (at_ + 1) (l.length - at_)).getLast? with | none => no70 | some z => ((at_ : Int), (up (endK l true) (at_ + 1) (l.length - at_))[max count 1 - 1]?.getD z, 2, 0) := rfl
  generalize (up (endK l true) (at_ + 1) (l.length - at_)) = U at HON hge hres0
  have Ha := Aside0.mk ha
  have Hn := Aside0.mk hn2
  clear hr hl ha hn2 hc
  have hun : U.getLast? = none → U[max count 1 - 1]?.getD (U.getLast?.getD (-1)) = -1 := fun h => by
    obtain rfl : U = [] := by simpa using h
    simp
  have hus : ∀ z, U.getLast? = some z → U[max count 1 - 1]?.getD (U.getLast?.getD (-1)) = U[max count 1 - 1]?.getD z ∧ 0 ≤ U[max count 1 - 1]?.getD z := fun z h => by
    rw [h]
    refine ⟨rfl, ?_⟩
    cases hq : U[max count 1 - 1]? with
    | none => exact hge z (List.mem_of_getLast? h)
    | some y => exact hge y (List.mem_of_getElem? hq)
  generalize U[max count 1 - 1]?.getD (U.getLast?.getD (-1)) = r at HON hun hus
  have HUN := Aside0.mk hun
  have HUS := Aside0.mk hus
  have HR0 := Aside0.mk hres0
  clear hun hus hres0 hge
  go_enter Try.func9, Try.ntmps9
  go_wp2_with fail
  rw [show mx (count : Int) 1 = ((max count 1 : Nat) : Int) by unfold mx; split <;> omega]
  refine (quoinref08_last.calls 4194304 A c l at_ ((max count 1 : Nat) : Int) true r _ (Kd.C_alloc (Kd.C_alloc HR.out _) _) HC.out HON.out).mono ?_
  rintro e w1 ⟨rfl, ⟨nd, rfl⟩⟩
  have hr1 := blk_alloc (blk_new w (Obj.cells #[Value.int .i64 0, Value.int .i64 0, Value.int .i64 0] 27)) (Obj.cells #[Value.int .i64 at_, Value.int .i64 0, Value.int .i64 1] 27)
  have hg := heap_alloc2_new w (Obj.cells #[Value.int .i64 0, Value.int .i64 0, Value.int .i64 0] 27) (Obj.cells #[Value.int .i64 at_, Value.int .i64 0, Value.int .i64 1] 27)
  have hB := ((Below.refl w.heap.size w).alloc (Nat.le_refl _) (Obj.cells #[Value.int .i64 0, Value.int .i64 0, Value.int .i64 0] 27)).alloc (by simp) (Obj.cells #[Value.int .i64 at_, Value.int .i64 0, Value.int .i64 1] 27)
  have hr1 := blk_drewN hr1 nd
  have hg := blk_drewN hg nd
  have hB := pw_below_drewN hB nd
  generalize (((w.alloc (Obj.cells #[Value.int .i64 0, Value.int .i64 0, Value.int .i64 0] 27)).alloc (Obj.cells #[Value.int .i64 at_, Value.int .i64 0, Value.int .i64 1] 27)).drewN nd) = W at hr1 hg hB ⊢
  have hg1 := blk_cell hg 1
  have hf1 := blk_frozen hg 1
  simp only [List.getElem?_toArray, List.getElem?_cons_zero, List.getElem?_cons_succ] at hg1
  have hg := blk_put hg 1 (.int .i64 r) (cs' := #[.int .i64 at_, .int .i64 r, .int .i64 1]) rfl
  have hr1 := blk_far hr1 (p := ⟨w.heap.size + 1, 1, none⟩) (by show w.heap.size ≠ w.heap.size + 1; omega) (.int .i64 r)
  have hB := hB.setCell (p := ⟨w.heap.size + 1, 1, none⟩) (by show w.heap.size ≤ w.heap.size + 1; omega) (.int .i64 r)
  have hg3 := blk_cell hg 1
  simp only [List.getElem?_toArray, List.getElem?_cons_zero, List.getElem?_cons_succ] at hg3
  cases hu : U.getLast? with
  | none =>
    have hrr := HUN.out hu
    have hres : mvF l true at_ (max count 1) 2 = no70 := by rw [HR0.out, hu]
    clear hu
    have HRr := Aside0.mk hr1
    have HB := Aside0.mk hB
    clear hr1 hB hg
    have hrl : decide (r < 0) = true := by rw [hrr]; rfl
    clear hrr
    go_upto_region 27 with (fail)
    go_wp2_with (first | (refine wpList_store_agg rfl 27 (.tmp 8) (.tmp 100) rfl w.heap.size 0 ?ye [.int .i64 0, .int .i64 0, .int .i64 0] ?yf _ 27 HRr.out ?yh ?yi ?yj ?yk))
    case ye => rfl
    case yf => rfl
    case yh => exact Nat.le_refl _
    case yi => simp [Value.oneCell']
    case yj => kernel_rfl
    · skip
      have hW := putCells_block [.int .i64 0, .int .i64 0, .int .i64 0] (W.setCell ⟨w.heap.size + 1, 1, none⟩ (.int .i64 r)) w.heap.size 0 _ 27 (HRr.out)
      rw [splice_whole _ [.int .i64 0, .int .i64 0, .int .i64 0] (by rfl)] at hW
      refine bodyPost_ret (results_ct rfl _ _ w.heap.size 27 _ (0, 0) _ rfl hW Try.underlying27 rfl (by kernel_rfl)) rfl ⟨by rw [hres]; rfl, putCells_below _ _ _ _ _ _ (Nat.le_refl _) (HB.out)⟩
  | some z =>
    obtain ⟨hrr, hr0⟩ := HUS.out z hu
    have hres : mvF l true at_ (max count 1) 2 = ((at_ : Int), r, 2, 0) := by rw [HR0.out, hu, hrr]
    clear hu
    have hrl : decide (r < 0) = false := decide_eq_false (by omega)
    have hrq : (r < 0) = False := eq_false (by omega)
    clear hrr hr0
    have hf2 := blk_frozen hg 2
    have hg2 := blk_cell hg 2
    simp only [List.getElem?_toArray, List.getElem?_cons_zero, List.getElem?_cons_succ] at hg2
    have hg := blk_put hg 2 (.int .i64 2) (cs' := #[.int .i64 at_, .int .i64 r, .int .i64 2]) rfl
    have hr1 := blk_far hr1 (p := ⟨w.heap.size + 1, 2, none⟩) (by show w.heap.size ≠ w.heap.size + 1; omega) (.int .i64 2)
    have hB := hB.setCell (p := ⟨w.heap.size + 1, 2, none⟩) (by show w.heap.size ≤ w.heap.size + 1; omega) (.int .i64 2)
    go_wp2_with (first | (refine wpList_load_agg rfl 27 (.tmp 11) rfl ⟨w.heap.size + 1, 0, none⟩ ?xa [.int .i64 at_, .int .i64 r, .int .i64 2] _ ?xb Try.underlying27 rfl ?xc ?xd) | (refine wpList_store_agg rfl 27 (.tmp 8) (.tmp 102) rfl w.heap.size 0 ?xe [.int .i64 at_, .int .i64 r, .int .i64 2] ?xf _ 27 hr1 ?xh ?xi ?xj ?xk))
    case xa => rfl
    case xb =>
      intro j v hj
      rw [add_plain', Nat.zero_add, blk_cell hg]
      simpa using hj
    case xc => kernel_rfl
    case xh => exact Nat.le_refl _
    case xi => simp [Value.oneCell']
    case xj => kernel_rfl
    · skip
      have hW := putCells_block [.int .i64 at_, .int .i64 r, .int .i64 2] ((W.setCell ⟨w.heap.size + 1, 1, none⟩ (.int .i64 r)).setCell ⟨w.heap.size + 1, 2, none⟩ (.int .i64 2)) w.heap.size 0 _ 27 (hr1)
      rw [splice_whole _ [.int .i64 at_, .int .i64 r, .int .i64 2] (by rfl)] at hW
      refine bodyPost_ret (results_ct rfl _ _ w.heap.size 27 _ (0, 0) _ rfl hW Try.underlying27 rfl (by kernel_rfl)) rfl ⟨by rw [hres]; rfl, putCells_below _ _ _ _ _ _ (Nat.le_refl _) (hB)⟩
set_option maxHeartbeats 1000000 in
set_option maxRecDepth 100000 in
theorem Ref7_ok (A : Option Addr) (c : Nat) (l : List Int) (at_ count : Nat) (w : World) (hr : Kd.C (Kd.int .u8) w A l.length l) (hc : l.length ≤ c) (hl : l.length ≤ 1048576) (ha : at_ ≤ l.length) (hn2 : count ≤ 9999) :
    Calls Try.prog 9 #[.slice A l.length c, .int .i64 at_, .int .i64 count, .string ⟨#[103, 69]⟩] w fun e w' => e = .returned (mvV (mvF l true at_ (max count 1) 3)) ∧ Below w.heap.size w w' := by
  have HR := Aside0.mk hr
  have HC := Aside0.mk hc
  have HLn := Aside0.mk hl
  have f1 : decide ((at_ : Int) < 0) = false := decide_eq_false (by omega)
  have f2 : decide ((at_ : Int) > (l.length : Int)) = false := decide_eq_false (by omega)
  have f3 : decide ((count : Int) < 0) = false := decide_eq_false (by omega)
  have f4 : decide ((count : Int) > 9999) = false := decide_eq_false (by omega)
  have f5 : ((l.length : Int) < (at_ : Int)) = False := eq_false (by omega)
  have f6 : ((9999 : Int) < (count : Int)) = False := eq_false (by omega)
  have Ha := Aside0.mk ha
  have Hn := Aside0.mk hn2
  clear hr hl ha hn2 hc
  by_cases hz : at_ = 0
  · have hzb : ((at_ : Int) == 0) = true := beq_iff_eq.mpr (by omega)
    have hres : mvF l true at_ (max count 1) 3 = no70 := by simp [mvF, hz]
    clear hz
    go_enter Try.func9, Try.ntmps9
    go_upto_region 18 with (fail)
    have hr1 := blk_alloc (blk_new w (Obj.cells #[Value.int .i64 0, Value.int .i64 0, Value.int .i64 0] 27)) (Obj.cells #[Value.int .i64 at_, Value.int .i64 0, Value.int .i64 1] 27)
    have hg := heap_alloc2_new w (Obj.cells #[Value.int .i64 0, Value.int .i64 0, Value.int .i64 0] 27) (Obj.cells #[Value.int .i64 at_, Value.int .i64 0, Value.int .i64 1] 27)
    have hB := ((Below.refl w.heap.size w).alloc (Nat.le_refl _) (Obj.cells #[Value.int .i64 0, Value.int .i64 0, Value.int .i64 0] 27)).alloc (by simp) (Obj.cells #[Value.int .i64 at_, Value.int .i64 0, Value.int .i64 1] 27)
    generalize (w.alloc (Obj.cells #[Value.int .i64 0, Value.int .i64 0, Value.int .i64 0] 27)).alloc (Obj.cells #[Value.int .i64 at_, Value.int .i64 0, Value.int .i64 1] 27) = W at hr1 hg hB ⊢
    have HRr := Aside0.mk hr1
    have HB := Aside0.mk hB
    clear hr1 hB hg
    go_wp2_with (first | (refine wpList_store_agg rfl 27 (.tmp 8) (.tmp 72) rfl w.heap.size 0 ?ye [.int .i64 0, .int .i64 0, .int .i64 0] ?yf _ 27 HRr.out ?yh ?yi ?yj ?yk))
    case ye => rfl
    case yf => rfl
    case yh => exact Nat.le_refl _
    case yi => simp [Value.oneCell']
    case yj => kernel_rfl
    · skip
      have hW := putCells_block [.int .i64 0, .int .i64 0, .int .i64 0] W w.heap.size 0 _ 27 (HRr.out)
      rw [splice_whole _ [.int .i64 0, .int .i64 0, .int .i64 0] (by rfl)] at hW
      refine bodyPost_ret (results_ct rfl _ _ w.heap.size 27 _ (0, 0) _ rfl hW Try.underlying27 rfl (by kernel_rfl)) rfl ⟨by rw [hres]; rfl, putCells_below _ _ _ _ _ _ (Nat.le_refl _) (HB.out)⟩
  · have hzb : ((at_ : Int) == 0) = false := beq_eq_false_iff_ne.mpr (by omega)
    have HON := Aside0.mk (rback_eq l true true at_ (max count 1) 4194304 HLn.out Ha.out hz (by have := HLn.out; omega) (by omega) (by have := Hn.out; omega))
    simp only [if_true, Bool.false_eq_true, if_false] at HON
    have hres : mvF l true at_ (max count 1) 3 = ((at_ : Int), (lst (haltK l true) at_).reverse[max count 1 - 1]?.getD 0, 2, 0) := by simp [mvF, hz]
    generalize (lst (haltK l true) at_).reverse[max count 1 - 1]?.getD 0 = r at HON hres
    clear hz
    go_enter Try.func9, Try.ntmps9
    go_wp2_with fail
    rw [show mx (count : Int) 1 = ((max count 1 : Nat) : Int) by unfold mx; split <;> omega]
    refine (quoinref08_back.calls 4194304 A c l at_ ((max count 1 : Nat) : Int) true true r _ (Kd.C_alloc (Kd.C_alloc HR.out _) _) HC.out HON.out).mono ?_
    rintro e w1 ⟨rfl, ⟨nd, rfl⟩⟩
    have hr1 := blk_alloc (blk_new w (Obj.cells #[Value.int .i64 0, Value.int .i64 0, Value.int .i64 0] 27)) (Obj.cells #[Value.int .i64 at_, Value.int .i64 0, Value.int .i64 1] 27)
    have hg := heap_alloc2_new w (Obj.cells #[Value.int .i64 0, Value.int .i64 0, Value.int .i64 0] 27) (Obj.cells #[Value.int .i64 at_, Value.int .i64 0, Value.int .i64 1] 27)
    have hB := ((Below.refl w.heap.size w).alloc (Nat.le_refl _) (Obj.cells #[Value.int .i64 0, Value.int .i64 0, Value.int .i64 0] 27)).alloc (by simp) (Obj.cells #[Value.int .i64 at_, Value.int .i64 0, Value.int .i64 1] 27)
    have hr1 := blk_drewN hr1 nd
    have hg := blk_drewN hg nd
    have hB := pw_below_drewN hB nd
    generalize (((w.alloc (Obj.cells #[Value.int .i64 0, Value.int .i64 0, Value.int .i64 0] 27)).alloc (Obj.cells #[Value.int .i64 at_, Value.int .i64 0, Value.int .i64 1] 27)).drewN nd) = W at hr1 hg hB ⊢
    have hg1 := blk_cell hg 1
    have hf1 := blk_frozen hg 1
    have hf2 := blk_frozen hg 2
    have hg2 := blk_cell hg 2
    simp only [List.getElem?_toArray, List.getElem?_cons_zero, List.getElem?_cons_succ] at hg1 hg2
    have hg := blk_put hg 1 (.int .i64 r) (cs' := #[.int .i64 at_, .int .i64 r, .int .i64 1]) rfl
    have hr1 := blk_far hr1 (p := ⟨w.heap.size + 1, 1, none⟩) (by show w.heap.size ≠ w.heap.size + 1; omega) (.int .i64 r)
    have hB := hB.setCell (p := ⟨w.heap.size + 1, 1, none⟩) (by show w.heap.size ≤ w.heap.size + 1; omega) (.int .i64 r)
    have hf2 := blk_frozen hg 2
    have hg2 := blk_cell hg 2
    simp only [List.getElem?_toArray, List.getElem?_cons_zero, List.getElem?_cons_succ] at hg2
    have hg := blk_put hg 2 (.int .i64 2) (cs' := #[.int .i64 at_, .int .i64 r, .int .i64 2]) rfl
    have hr1 := blk_far hr1 (p := ⟨w.heap.size + 1, 2, none⟩) (by show w.heap.size ≠ w.heap.size + 1; omega) (.int .i64 2)
    have hB := hB.setCell (p := ⟨w.heap.size + 1, 2, none⟩) (by show w.heap.size ≤ w.heap.size + 1; omega) (.int .i64 2)
    go_wp2_with (first | (refine wpList_load_agg rfl 27 (.tmp 11) rfl ⟨w.heap.size + 1, 0, none⟩ ?xa [.int .i64 at_, .int .i64 r, .int .i64 2] _ ?xb Try.underlying27 rfl ?xc ?xd) | (refine wpList_store_agg rfl 27 (.tmp 8) (.tmp 102) rfl w.heap.size 0 ?xe [.int .i64 at_, .int .i64 r, .int .i64 2] ?xf _ 27 hr1 ?xh ?xi ?xj ?xk))
    case xa => rfl
    case xb =>
      intro j v hj
      rw [add_plain', Nat.zero_add, blk_cell hg]
      simpa using hj
    case xc => kernel_rfl
    case xh => exact Nat.le_refl _
    case xi => simp [Value.oneCell']
    case xj => kernel_rfl
    · skip
      have hW := putCells_block [.int .i64 at_, .int .i64 r, .int .i64 2] ((W.setCell ⟨w.heap.size + 1, 1, none⟩ (.int .i64 r)).setCell ⟨w.heap.size + 1, 2, none⟩ (.int .i64 2)) w.heap.size 0 _ 27 (hr1)
      rw [splice_whole _ [.int .i64 at_, .int .i64 r, .int .i64 2] (by rfl)] at hW
      refine bodyPost_ret (results_ct rfl _ _ w.heap.size 27 _ (0, 0) _ rfl hW Try.underlying27 rfl (by kernel_rfl)) rfl ⟨by rw [hres]; rfl, putCells_below _ _ _ _ _ _ (Nat.le_refl _) (hB)⟩
set_option maxHeartbeats 1000000 in
set_option maxRecDepth 100000 in
theorem Refn_ok (A : Option Addr) (c : Nat) (l : List Int) (at_ count : Nat) (w : World) (key : ByteArray) (hr : Kd.C (Kd.int .u8) w A l.length l) (hc : l.length ≤ c) (hl : l.length ≤ 1048576) (ha : at_ ≤ l.length) (hn2 : count ≤ 9999) (k0 : key.toList ≠ ([119] : List UInt8)) (k1 : key.toList ≠ ([98] : List UInt8)) (k2 : key.toList ≠ ([101] : List UInt8)) (k3 : key.toList ≠ ([103, 101] : List UInt8)) (k4 : key.toList ≠ ([87] : List UInt8)) (k5 : key.toList ≠ ([66] : List UInt8)) (k6 : key.toList ≠ ([69] : List UInt8)) (k7 : key.toList ≠ ([103, 69] : List UInt8)) :
    Calls Try.prog 9 #[.slice A l.length c, .int .i64 at_, .int .i64 count, .string key] w fun e w' => e = .returned (mvV (((0, 0, 0, 2) : Int × Int × Int × Int))) ∧ Below w.heap.size w w' := by
  have q0 : (key.toList == ([119] : List UInt8)) = false := beq_eq_false_iff_ne.mpr k0
  have q1 : (key.toList == ([98] : List UInt8)) = false := beq_eq_false_iff_ne.mpr k1
  have q2 : (key.toList == ([101] : List UInt8)) = false := beq_eq_false_iff_ne.mpr k2
  have q3 : (key.toList == ([103, 101] : List UInt8)) = false := beq_eq_false_iff_ne.mpr k3
  have q4 : (key.toList == ([87] : List UInt8)) = false := beq_eq_false_iff_ne.mpr k4
  have q5 : (key.toList == ([66] : List UInt8)) = false := beq_eq_false_iff_ne.mpr k5
  have q6 : (key.toList == ([69] : List UInt8)) = false := beq_eq_false_iff_ne.mpr k6
  have q7 : (key.toList == ([103, 69] : List UInt8)) = false := beq_eq_false_iff_ne.mpr k7
  clear k0 k1 k2 k3 k4 k5 k6 k7
  have HR := Aside0.mk hr
  have HC := Aside0.mk hc
  have HLn := Aside0.mk hl
  have f1 : decide ((at_ : Int) < 0) = false := decide_eq_false (by omega)
  have f2 : decide ((at_ : Int) > (l.length : Int)) = false := decide_eq_false (by omega)
  have f3 : decide ((count : Int) < 0) = false := decide_eq_false (by omega)
  have f4 : decide ((count : Int) > 9999) = false := decide_eq_false (by omega)
  have f5 : ((l.length : Int) < (at_ : Int)) = False := eq_false (by omega)
  have f6 : ((9999 : Int) < (count : Int)) = False := eq_false (by omega)
  have Ha := Aside0.mk ha
  have Hn := Aside0.mk hn2
  clear hr hl ha hn2 hc
  have hres : True := trivial
  go_enter Try.func9, Try.ntmps9
  go_upto_region 7 with (fail)
  have hr1 := blk_alloc (blk_new w (Obj.cells #[Value.int .i64 0, Value.int .i64 0, Value.int .i64 0] 27)) (Obj.cells #[Value.int .i64 at_, Value.int .i64 0, Value.int .i64 1] 27)
  have hg := heap_alloc2_new w (Obj.cells #[Value.int .i64 0, Value.int .i64 0, Value.int .i64 0] 27) (Obj.cells #[Value.int .i64 at_, Value.int .i64 0, Value.int .i64 1] 27)
  have hB := ((Below.refl w.heap.size w).alloc (Nat.le_refl _) (Obj.cells #[Value.int .i64 0, Value.int .i64 0, Value.int .i64 0] 27)).alloc (by simp) (Obj.cells #[Value.int .i64 at_, Value.int .i64 0, Value.int .i64 1] 27)
  generalize (w.alloc (Obj.cells #[Value.int .i64 0, Value.int .i64 0, Value.int .i64 0] 27)).alloc (Obj.cells #[Value.int .i64 at_, Value.int .i64 0, Value.int .i64 1] 27) = W at hr1 hg hB ⊢
  have HRr := Aside0.mk hr1
  have HB := Aside0.mk hB
  clear hr1 hB hg
  go_wp2_with (first | (refine wpList_store_agg rfl 27 (.tmp 8) (.tmp 50) rfl w.heap.size 0 ?ye [.int .i64 0, .int .i64 0, .int .i64 0] ?yf _ 27 HRr.out ?yh ?yi ?yj ?yk))
  case ye => rfl
  case yf => rfl
  case yh => exact Nat.le_refl _
  case yi => simp [Value.oneCell']
  case yj => kernel_rfl
  · skip
    have hW := putCells_block [.int .i64 0, .int .i64 0, .int .i64 0] W w.heap.size 0 _ 27 (HRr.out)
    rw [splice_whole _ [.int .i64 0, .int .i64 0, .int .i64 0] (by rfl)] at hW
    refine bodyPost_ret (results_ct rfl _ _ w.heap.size 27 _ (0, 0) _ rfl hW Try.underlying27 rfl (by kernel_rfl)) rfl ⟨rfl, putCells_below _ _ _ _ _ _ (Nat.le_refl _) (HB.out)⟩
set_option maxHeartbeats 1000000 in
set_option maxRecDepth 100000 in
theorem Refxa_ok (A : Option Addr) (c : Nat) (l : List Int) (at_ count : Int) (w : World) (key : ByteArray) (hx : at_ < 0) :
    Calls Try.prog 9 #[.slice A l.length c, .int .i64 at_, .int .i64 count, .string key] w fun e w' => e = .returned (mvV (((0, 0, 0, 2) : Int × Int × Int × Int))) ∧ Below w.heap.size w w' := by
  have f0 : decide (at_ < 0) = true := decide_eq_true (by omega)
  clear hx
  go_enter Try.func9, Try.ntmps9
  go_upto_region 2 with (fail)
  have hb1 := blk_new w (Obj.cells #[Value.int .i64 0, Value.int .i64 0, Value.int .i64 0] 27)
  have hB1 := (Below.refl w.heap.size w).alloc (Nat.le_refl _) (Obj.cells #[Value.int .i64 0, Value.int .i64 0, Value.int .i64 0] 27)
  generalize w.alloc (Obj.cells #[Value.int .i64 0, Value.int .i64 0, Value.int .i64 0] 27) = W at hb1 hB1 ⊢
  have HB := Aside0.mk hb1
  have HW := Aside0.mk hB1
  clear hb1 hB1
  go_wp2_with (first | (refine wpList_store_agg rfl 27 (.tmp 8) (.tmp 30) rfl w.heap.size 0 ?ze [.int .i64 0, .int .i64 0, .int .i64 0] ?zf _ 27 HB.out ?zh ?zi ?zj ?zk))
  case ze => rfl
  case zf => rfl
  case zh => exact Nat.le_refl _
  case zi => simp [Value.oneCell']
  case zj => kernel_rfl
  · skip
    have hW := putCells_block [.int .i64 0, .int .i64 0, .int .i64 0] W w.heap.size 0 _ 27 (HB.out)
    rw [splice_whole _ [.int .i64 0, .int .i64 0, .int .i64 0] (by rfl)] at hW
    refine bodyPost_ret (results_ct rfl _ _ w.heap.size 27 _ (0, 0) _ rfl hW Try.underlying27 rfl (by kernel_rfl)) rfl ⟨rfl, putCells_below _ _ _ _ _ _ (Nat.le_refl _) (HW.out)⟩
set_option maxHeartbeats 1000000 in
set_option maxRecDepth 100000 in
theorem Refxb_ok (A : Option Addr) (c : Nat) (l : List Int) (at_ count : Int) (w : World) (key : ByteArray) (hx : ¬ at_ < 0 ∧ (l.length : Int) < at_) :
    Calls Try.prog 9 #[.slice A l.length c, .int .i64 at_, .int .i64 count, .string key] w fun e w' => e = .returned (mvV (((0, 0, 0, 2) : Int × Int × Int × Int))) ∧ Below w.heap.size w w' := by
  have f0 : decide (at_ < 0) = false := decide_eq_false (by omega)
  have f1 : decide (at_ > (l.length : Int)) = true := decide_eq_true (by omega)
  have g2 : ((l.length : Int) < at_) = True := eq_true (by omega)
  clear hx
  go_enter Try.func9, Try.ntmps9
  go_upto_region 2 with (fail)
  have hb1 := blk_new w (Obj.cells #[Value.int .i64 0, Value.int .i64 0, Value.int .i64 0] 27)
  have hB1 := (Below.refl w.heap.size w).alloc (Nat.le_refl _) (Obj.cells #[Value.int .i64 0, Value.int .i64 0, Value.int .i64 0] 27)
  generalize w.alloc (Obj.cells #[Value.int .i64 0, Value.int .i64 0, Value.int .i64 0] 27) = W at hb1 hB1 ⊢
  have HB := Aside0.mk hb1
  have HW := Aside0.mk hB1
  clear hb1 hB1
  go_wp2_with (first | (refine wpList_store_agg rfl 27 (.tmp 8) (.tmp 30) rfl w.heap.size 0 ?ze [.int .i64 0, .int .i64 0, .int .i64 0] ?zf _ 27 HB.out ?zh ?zi ?zj ?zk))
  case ze => rfl
  case zf => rfl
  case zh => exact Nat.le_refl _
  case zi => simp [Value.oneCell']
  case zj => kernel_rfl
  · skip
    have hW := putCells_block [.int .i64 0, .int .i64 0, .int .i64 0] W w.heap.size 0 _ 27 (HB.out)
    rw [splice_whole _ [.int .i64 0, .int .i64 0, .int .i64 0] (by rfl)] at hW
    refine bodyPost_ret (results_ct rfl _ _ w.heap.size 27 _ (0, 0) _ rfl hW Try.underlying27 rfl (by kernel_rfl)) rfl ⟨rfl, putCells_below _ _ _ _ _ _ (Nat.le_refl _) (HW.out)⟩
set_option maxHeartbeats 1000000 in
set_option maxRecDepth 100000 in
theorem Refxc_ok (A : Option Addr) (c : Nat) (l : List Int) (at_ count : Int) (w : World) (key : ByteArray) (hx : ¬ at_ < 0 ∧ ¬ (l.length : Int) < at_ ∧ count < 0) :
    Calls Try.prog 9 #[.slice A l.length c, .int .i64 at_, .int .i64 count, .string key] w fun e w' => e = .returned (mvV (((0, 0, 0, 2) : Int × Int × Int × Int))) ∧ Below w.heap.size w w' := by
  have f0 : decide (at_ < 0) = false := decide_eq_false (by omega)
  have f1 : decide (at_ > (l.length : Int)) = false := decide_eq_false (by omega)
  have f2 : decide (count < 0) = true := decide_eq_true (by omega)
  have g2 : ((l.length : Int) < at_) = False := eq_false (by omega)
  clear hx
  go_enter Try.func9, Try.ntmps9
  go_upto_region 2 with (fail)
  have hb1 := blk_new w (Obj.cells #[Value.int .i64 0, Value.int .i64 0, Value.int .i64 0] 27)
  have hB1 := (Below.refl w.heap.size w).alloc (Nat.le_refl _) (Obj.cells #[Value.int .i64 0, Value.int .i64 0, Value.int .i64 0] 27)
  generalize w.alloc (Obj.cells #[Value.int .i64 0, Value.int .i64 0, Value.int .i64 0] 27) = W at hb1 hB1 ⊢
  have HB := Aside0.mk hb1
  have HW := Aside0.mk hB1
  clear hb1 hB1
  go_wp2_with (first | (refine wpList_store_agg rfl 27 (.tmp 8) (.tmp 30) rfl w.heap.size 0 ?ze [.int .i64 0, .int .i64 0, .int .i64 0] ?zf _ 27 HB.out ?zh ?zi ?zj ?zk))
  case ze => rfl
  case zf => rfl
  case zh => exact Nat.le_refl _
  case zi => simp [Value.oneCell']
  case zj => kernel_rfl
  · skip
    have hW := putCells_block [.int .i64 0, .int .i64 0, .int .i64 0] W w.heap.size 0 _ 27 (HB.out)
    rw [splice_whole _ [.int .i64 0, .int .i64 0, .int .i64 0] (by rfl)] at hW
    refine bodyPost_ret (results_ct rfl _ _ w.heap.size 27 _ (0, 0) _ rfl hW Try.underlying27 rfl (by kernel_rfl)) rfl ⟨rfl, putCells_below _ _ _ _ _ _ (Nat.le_refl _) (HW.out)⟩
set_option maxHeartbeats 1000000 in
set_option maxRecDepth 100000 in
theorem Refxd_ok (A : Option Addr) (c : Nat) (l : List Int) (at_ count : Int) (w : World) (key : ByteArray) (hx : ¬ at_ < 0 ∧ ¬ (l.length : Int) < at_ ∧ ¬ count < 0 ∧ 9999 < count) :
    Calls Try.prog 9 #[.slice A l.length c, .int .i64 at_, .int .i64 count, .string key] w fun e w' => e = .returned (mvV (((0, 0, 0, 2) : Int × Int × Int × Int))) ∧ Below w.heap.size w w' := by
  have f0 : decide (at_ < 0) = false := decide_eq_false (by omega)
  have f1 : decide (at_ > (l.length : Int)) = false := decide_eq_false (by omega)
  have f2 : decide (count < 0) = false := decide_eq_false (by omega)
  have f3 : decide (count > 9999) = true := decide_eq_true (by omega)
  have g2 : ((l.length : Int) < at_) = False := eq_false (by omega)
  have g4 : ((9999 : Int) < count) = True := eq_true (by omega)
  clear hx
  go_enter Try.func9, Try.ntmps9
  go_upto_region 2 with (fail)
  have hb1 := blk_new w (Obj.cells #[Value.int .i64 0, Value.int .i64 0, Value.int .i64 0] 27)
  have hB1 := (Below.refl w.heap.size w).alloc (Nat.le_refl _) (Obj.cells #[Value.int .i64 0, Value.int .i64 0, Value.int .i64 0] 27)
  generalize w.alloc (Obj.cells #[Value.int .i64 0, Value.int .i64 0, Value.int .i64 0] 27) = W at hb1 hB1 ⊢
  have HB := Aside0.mk hb1
  have HW := Aside0.mk hB1
  clear hb1 hB1
  go_wp2_with (first | (refine wpList_store_agg rfl 27 (.tmp 8) (.tmp 30) rfl w.heap.size 0 ?ze [.int .i64 0, .int .i64 0, .int .i64 0] ?zf _ 27 HB.out ?zh ?zi ?zj ?zk))
  case ze => rfl
  case zf => rfl
  case zh => exact Nat.le_refl _
  case zi => simp [Value.oneCell']
  case zj => kernel_rfl
  · skip
    have hW := putCells_block [.int .i64 0, .int .i64 0, .int .i64 0] W w.heap.size 0 _ 27 (HB.out)
    rw [splice_whole _ [.int .i64 0, .int .i64 0, .int .i64 0] (by rfl)] at hW
    refine bodyPost_ret (results_ct rfl _ _ w.heap.size 27 _ (0, 0) _ rfl hW Try.underlying27 rfl (by kernel_rfl)) rfl ⟨rfl, putCells_below _ _ _ _ _ _ (Nat.le_refl _) (HW.out)⟩
theorem Ref_calls (A : Option Addr) (c : Nat) (l : List Int) (at_ count : Int) (key : ByteArray) (w : World) (hr : Kd.C (Kd.int .u8) w A l.length l) (hc : l.length ≤ c) (hl : l.length ≤ 1048576) :
    Calls Try.prog 9 #[.slice A l.length c, .int .i64 at_, .int .i64 count, .string key] w fun e w' => e = .returned (mvV (mwF l at_ count key)) ∧ Below w.heap.size w w' := by
  unfold mwF
  by_cases h1 : at_ < 0
  · rw [if_pos (Or.inl h1)]; exact Refxa_ok A c l at_ count w key h1
  by_cases h2 : (l.length : Int) < at_
  · rw [if_pos (Or.inr (Or.inl h2))]; exact Refxb_ok A c l at_ count w key ⟨h1, h2⟩
  by_cases h3 : count < 0
  · rw [if_pos (Or.inr (Or.inr (Or.inl h3)))]; exact Refxc_ok A c l at_ count w key ⟨h1, h2, h3⟩
  by_cases h4 : 9999 < count
  · rw [if_pos (Or.inr (Or.inr (Or.inr h4)))]; exact Refxd_ok A c l at_ count w key ⟨h1, h2, h3, h4⟩
  rw [if_neg (by omega)]
  obtain ⟨a, rfl⟩ := Int.eq_ofNat_of_zero_le (Int.not_lt.1 h1)
  obtain ⟨n, rfl⟩ := Int.eq_ofNat_of_zero_le (Int.not_lt.1 h3)
  have e1 : (mx (n : Int) 1).toNat = max n 1 := by unfold mx; split <;> omega
  simp only [e1, Int.toNat_natCast]
  unfold kix
  by_cases k0 : key.toList = ([119] : List UInt8)
  · obtain rfl := eq_of_toList k0
    simp only [if_pos k0]
    exact Ref0_ok A c l a n w hr hc hl (by omega) (by omega)
  by_cases k1 : key.toList = ([98] : List UInt8)
  · obtain rfl := eq_of_toList k1
    simp only [if_neg k0, if_pos k1]
    exact Ref1_ok A c l a n w hr hc hl (by omega) (by omega)
  by_cases k2 : key.toList = ([101] : List UInt8)
  · obtain rfl := eq_of_toList k2
    simp only [if_neg k0, if_neg k1, if_pos k2]
    exact Ref2_ok A c l a n w hr hc hl (by omega) (by omega)
  by_cases k3 : key.toList = ([103, 101] : List UInt8)
  · obtain rfl := eq_of_toList k3
    simp only [if_neg k0, if_neg k1, if_neg k2, if_pos k3]
    exact Ref3_ok A c l a n w hr hc hl (by omega) (by omega)
  by_cases k4 : key.toList = ([87] : List UInt8)
  · obtain rfl := eq_of_toList k4
    simp only [if_neg k0, if_neg k1, if_neg k2, if_neg k3, if_pos k4]
    exact Ref4_ok A c l a n w hr hc hl (by omega) (by omega)
  by_cases k5 : key.toList = ([66] : List UInt8)
  · obtain rfl := eq_of_toList k5
    simp only [if_neg k0, if_neg k1, if_neg k2, if_neg k3, if_neg k4, if_pos k5]
    exact Ref5_ok A c l a n w hr hc hl (by omega) (by omega)
  by_cases k6 : key.toList = ([69] : List UInt8)
  · obtain rfl := eq_of_toList k6
    simp only [if_neg k0, if_neg k1, if_neg k2, if_neg k3, if_neg k4, if_neg k5, if_pos k6]
    exact Ref6_ok A c l a n w hr hc hl (by omega) (by omega)
  by_cases k7 : key.toList = ([103, 69] : List UInt8)
  · obtain rfl := eq_of_toList k7
    simp only [if_neg k0, if_neg k1, if_neg k2, if_neg k3, if_neg k4, if_neg k5, if_neg k6, if_pos k7]
    exact Ref7_ok A c l a n w hr hc hl (by omega) (by omega)
  simp only [if_neg k0, if_neg k1, if_neg k2, if_neg k3, if_neg k4, if_neg k5, if_neg k6, if_neg k7]
  exact Refn_ok A c l a n w key hr hc hl (by omega) (by omega) k0 k1 k2 k3 k4 k5 k6 k7
end Go.Proofs.Ytghoeadmimgfnaa.Hand
