/- word.move: what it answers, way by way. No condition but the sizes. -/
import Derived.Test.YtghoeadmimgfnaaLook
import Derived.Test.YtghoeadmimgfnaaSearch
namespace Go.Proofs.Ytghoeadmimgfnaa.Hand
open Go.RowKit Go.Proofs.Ytghoeadmimgfnaa.PWa Go.Proofs.Ytghoeadmimgfnaa.Aggs Go.Proofs.YtghoeadmimgfnaaW.PrintWords Go.Proofs.YtghoeadmimgfnaaW.PrintLast Go.Proofs.YtghoeadmimgfnaaW.PrintMore
set_option linter.unusedVariables false
set_option linter.unusedSimpArgs false
def no70 : Int × Int × Int × Int := (0, 0, 0, 70)
/-- what a motion answers -/
def mvF (l : List Int) (big : Bool) (a n : Nat) : Nat → Int × Int × Int × Int
  | 0 => if a = l.length then no70 else ((a : Int), (up (begK l big) (a + 1) (l.length - a))[n - 1]?.getD (l.length : Int), 1, 0)
  | 1 => if a = 0 then no70 else ((a : Int), (lst (begK l big) a).reverse[n - 1]?.getD 0, 1, 0)
  | 2 => match (up (endK l big) (a + 1) (l.length - a)).getLast? with
    | none => no70
    | some z => ((a : Int), (up (endK l big) (a + 1) (l.length - a))[n - 1]?.getD z, 2, 0)
  | _ => if a = 0 then no70 else ((a : Int), (lst (haltK l big) a).reverse[n - 1]?.getD 0, 2, 0)
def mvV (r : Int × Int × Int × Int) : Value := .tuple #[.agg #[.int .i64 r.1, .int .i64 r.2.1, .int .i64 r.2.2.1], .int .i64 r.2.2.2]
theorem endK_last (l : List Int) (big : Bool) (a : Nat) (ha : a ≤ l.length) : ((lst (endK l big) (l.length + 1)).length = 0 → (up (endK l big) (a + 1) (l.length - a)).getLast? = none) ∧
    (0 < (lst (endK l big) (l.length + 1)).length → (rd (lst (endK l big) (l.length + 1)) (((lst (endK l big) (l.length + 1)).length : Int) - 1) ≤ a → (up (endK l big) (a + 1) (l.length - a)).getLast? = none) ∧
      (¬ rd (lst (endK l big) (l.length + 1)) (((lst (endK l big) (l.length + 1)).length : Int) - 1) ≤ a → (up (endK l big) (a + 1) (l.length - a)).getLast? = some (rd (lst (endK l big) (l.length + 1)) (((lst (endK l big) (l.length + 1)).length : Int) - 1)))) := by
  have e : lst (endK l big) (l.length + 1) = lst (endK l big) (a + 1) ++ up (endK l big) (a + 1) (l.length - a) := by rw [← lst_up]; congr 1; omega
  have hlo := fun x (hx : x ∈ lst (endK l big) (a + 1)) => lst_lt (endK l big) (a + 1) x hx
  have hhi := fun x (hx : x ∈ up (endK l big) (a + 1) (l.length - a)) => up_ge (endK l big) (l.length - a) (a + 1) x hx
  rw [e]
  generalize lst (endK l big) (a + 1) = lo at hlo ⊢
  generalize up (endK l big) (a + 1) (l.length - a) = hi at hhi ⊢
  have hr : 0 < (lo ++ hi).length → rd (lo ++ hi) (((lo ++ hi).length : Int) - 1) = (lo ++ hi)[(lo ++ hi).length - 1]?.getD 0 := by
    intro h
    rw [show (((lo ++ hi).length : Int) - 1) = (((lo ++ hi).length - 1 : Nat) : Int) by omega, rd_nat]
  refine ⟨fun h => ?_, fun h => ?_⟩
  · have : hi = [] := List.eq_nil_of_length_eq_zero (by simp at h; simp [h.2])
    rw [this]; rfl
  · rw [hr h]
    cases hh : hi.getLast? with
    | none =>
      have h0 : hi = [] := by simpa using hh
      subst h0
      refine ⟨fun _ => rfl, fun h2 => ?_⟩
      simp only [List.append_nil] at h h2
      rw [List.getElem?_eq_getElem (by omega)] at h2
      have := hlo lo[lo.length - 1] (List.getElem_mem _)
      simp at h2
      omega
    | some z =>
      have hz : (lo ++ hi)[(lo ++ hi).length - 1]? = some z := by
        rw [← List.getLast?_eq_getElem?, List.getLast?_append, hh]; rfl
      rw [hz]
      have := hhi z (List.mem_of_getLast? hh)
      refine ⟨fun h2 => ?_, fun _ => rfl⟩
      simp at h2
      omega
theorem add_len (a b : Nat) : ((a : Int) + b) = ((a + b : Nat) : Int) := by omega
set_option maxHeartbeats 1000000 in
set_option maxRecDepth 100000 in
theorem move0_calls (A : Option Addr) (c : Nat) (l : List Int) (big : Bool) (at_ n : Nat) (w : World) (hr : Kd.C (Kd.int .u8) w A l.length l) (hl : l.length ≤ 1048576) (ha : at_ ≤ l.length) (hn1 : 1 ≤ n) (hn2 : n ≤ 9999) :
    Calls Try.prog 19 #[.slice A l.length c, .int .i64 at_, .int .i64 n, .int .i64 0, .bool big] w fun e w' => e = .returned (mvV (mvF l big at_ n 0)) ∧ Below w.heap.size w w' := by
  have HR := Aside0.mk hr
  have HLn := Aside0.mk hl
  have HON := Aside0.mk (onward_lst (begK l big) l.length at_ n 1048579 (l.length : Int) (by omega) hl ha hn1 hn2)
  clear hr hl
  go_enter Try.func19, Try.ntmps19
  go_wp2_with fail
  refine (look_calls A c l big _ (Kd.C_alloc HR.out _) HLn.out).mono ?_
  rintro e w1 ⟨A0, c0, A1, c1, A2, c2, rfl, hc0, hC0, hc1, hC1, hc2, hC2, hB⟩
  have hb1 := blk_below (blk_new w _) hB
  have hB1 := ((Below.refl w.heap.size w).alloc (Nat.le_refl _) (Obj.cells #[Value.int .i64 0, Value.int .i64 0, Value.int .i64 0] 27))
  have hBw := below_step hB1 hB
  have hsz : w.heap.size < w1.heap.size := blk_lt hb1
  go_upto_region 3 with (fail)
  have hs : ((w1.alloc (Obj.cells #[Value.slice A0 (lst (begK l big) (l.length + 1)).length c0, Value.slice A1 (lst (endK l big) (l.length + 1)).length c1, Value.slice A2 (lst (haltK l big) (l.length + 1)).length c2] 52)).alloc (Obj.cells #[Value.int .i64 at_, Value.int .i64 0, Value.int .i64 1] 27)).heap[w1.heap.size]? = some _ := blk_alloc (blk_new w1 (Obj.cells #[Value.slice A0 (lst (begK l big) (l.length + 1)).length c0, Value.slice A1 (lst (endK l big) (l.length + 1)).length c1, Value.slice A2 (lst (haltK l big) (l.length + 1)).length c2] 52)) (Obj.cells #[Value.int .i64 at_, Value.int .i64 0, Value.int .i64 1] 27)
  have hg : ((w1.alloc (Obj.cells #[Value.slice A0 (lst (begK l big) (l.length + 1)).length c0, Value.slice A1 (lst (endK l big) (l.length + 1)).length c1, Value.slice A2 (lst (haltK l big) (l.length + 1)).length c2] 52)).alloc (Obj.cells #[Value.int .i64 at_, Value.int .i64 0, Value.int .i64 1] 27)).heap[w1.heap.size + 1]? = some _ := heap_alloc2_new w1 (Obj.cells #[Value.slice A0 (lst (begK l big) (l.length + 1)).length c0, Value.slice A1 (lst (endK l big) (l.length + 1)).length c1, Value.slice A2 (lst (haltK l big) (l.length + 1)).length c2] 52) (Obj.cells #[Value.int .i64 at_, Value.int .i64 0, Value.int .i64 1] 27)
  have hr1 : ((w1.alloc (Obj.cells #[Value.slice A0 (lst (begK l big) (l.length + 1)).length c0, Value.slice A1 (lst (endK l big) (l.length + 1)).length c1, Value.slice A2 (lst (haltK l big) (l.length + 1)).length c2] 52)).alloc (Obj.cells #[Value.int .i64 at_, Value.int .i64 0, Value.int .i64 1] 27)).heap[w.heap.size]? = some _ := blk_alloc (blk_alloc hb1 _) _
  have hBx : Below w.heap.size w ((w1.alloc (Obj.cells #[Value.slice A0 (lst (begK l big) (l.length + 1)).length c0, Value.slice A1 (lst (endK l big) (l.length + 1)).length c1, Value.slice A2 (lst (haltK l big) (l.length + 1)).length c2] 52)).alloc (Obj.cells #[Value.int .i64 at_, Value.int .i64 0, Value.int .i64 1] 27)) := (hBw.alloc (by omega) _).alloc (by simp <;> omega) _
  have hq : Below w1.heap.size w1 ((w1.alloc (Obj.cells #[Value.slice A0 (lst (begK l big) (l.length + 1)).length c0, Value.slice A1 (lst (endK l big) (l.length + 1)).length c1, Value.slice A2 (lst (haltK l big) (l.length + 1)).length c2] 52)).alloc (Obj.cells #[Value.int .i64 at_, Value.int .i64 0, Value.int .i64 1] 27)) := ((Below.refl _ _).alloc (Nat.le_refl _) _).alloc (by simp) _
  have hK0 : Kd.C (Kd.int .i64) ((w1.alloc (Obj.cells #[Value.slice A0 (lst (begK l big) (l.length + 1)).length c0, Value.slice A1 (lst (endK l big) (l.length + 1)).length c1, Value.slice A2 (lst (haltK l big) (l.length + 1)).length c2] 52)).alloc (Obj.cells #[Value.int .i64 at_, Value.int .i64 0, Value.int .i64 1] 27)) A0 (lst (begK l big) (l.length + 1)).length (lst (begK l big) (l.length + 1)) := Kd.C_alloc (Kd.C_alloc hC0 _) _
  have hK1 : Kd.C (Kd.int .i64) ((w1.alloc (Obj.cells #[Value.slice A0 (lst (begK l big) (l.length + 1)).length c0, Value.slice A1 (lst (endK l big) (l.length + 1)).length c1, Value.slice A2 (lst (haltK l big) (l.length + 1)).length c2] 52)).alloc (Obj.cells #[Value.int .i64 at_, Value.int .i64 0, Value.int .i64 1] 27)) A1 (lst (endK l big) (l.length + 1)).length (lst (endK l big) (l.length + 1)) := Kd.C_alloc (Kd.C_alloc hC1 _) _
  have hK2 : Kd.C (Kd.int .i64) ((w1.alloc (Obj.cells #[Value.slice A0 (lst (begK l big) (l.length + 1)).length c0, Value.slice A1 (lst (endK l big) (l.length + 1)).length c1, Value.slice A2 (lst (haltK l big) (l.length + 1)).length c2] 52)).alloc (Obj.cells #[Value.int .i64 at_, Value.int .i64 0, Value.int .i64 1] 27)) A2 (lst (haltK l big) (l.length + 1)).length (lst (haltK l big) (l.length + 1)) := Kd.C_alloc (Kd.C_alloc hC2 _) _
  generalize ((w1.alloc (Obj.cells #[Value.slice A0 (lst (begK l big) (l.length + 1)).length c0, Value.slice A1 (lst (endK l big) (l.length + 1)).length c1, Value.slice A2 (lst (haltK l big) (l.length + 1)).length c2] 52)).alloc (Obj.cells #[Value.int .i64 at_, Value.int .i64 0, Value.int .i64 1] 27)) = W at hs hg hr1 hBx hq hK0 hK1 hK2 ⊢
  have HC2 := Aside0.mk hC2
  have HC1 := Aside0.mk hC1
  have HQ := Aside0.mk hq
  clear hb1 hB1 hBw hC0 hC1 hC2 hB hq
  have hs0 := blk_cell hs 0
  have hs1 := blk_cell hs 1
  have hs2 := blk_cell hs 2
  have hg0 := blk_cell hg 0
  have hg1 := blk_cell hg 1
  have hg2 := blk_cell hg 2
  have hf1 := blk_frozen hg 1
  have hf2 := blk_frozen hg 2
  simp only [List.getElem?_toArray, List.getElem?_cons_zero, List.getElem?_cons_succ] at hs0 hs1 hs2 hg0 hg1 hg2
  have HK0 := Aside0.mk hK0
  have HK1 := Aside0.mk hK1
  have HK2 := Aside0.mk hK2
  have Hhs := Aside0.mk hs
  have Hhg := Aside0.mk hg
  have Hr1 := Aside0.mk hr1
  have HBx := Aside0.mk hBx
  have Hc0 := Aside0.mk hc0
  have Hc1 := Aside0.mk hc1
  have Hc2 := Aside0.mk hc2
  clear hK0 hK1 hK2 hs hg hr1 hBx hc0 hc1 hc2
  go_wp2_with fail
  refine (word_onward.calls 1048579 A0 c0 (lst (begK l big) (l.length + 1)) at_ n l.length _ W HK0.out Hc0.out HON.out).mono ?_
  rintro e w2 ⟨rfl, ⟨nd, rfl⟩⟩
  have hr1 := blk_drewN (Hr1.out) nd
  have hg := blk_drewN (Hhg.out) nd
  have hBx := pw_below_drewN (HBx.out) nd
  generalize (W.drewN nd) = W3 at hr1 hg hBx ⊢
  have hg1 := blk_cell hg 1
  have hf1 := blk_frozen hg 1
  simp only [List.getElem?_toArray, List.getElem?_cons_zero, List.getElem?_cons_succ] at hg1
  have hg2 := blk_put hg 1 (.int .i64 ((up (begK l big) (at_ + 1) (l.length - at_))[n - 1]?.getD (l.length : Int))) (cs' := #[.int .i64 at_, .int .i64 ((up (begK l big) (at_ + 1) (l.length - at_))[n - 1]?.getD (l.length : Int)), .int .i64 1]) rfl
  have hr2 := blk_far hr1 (p := ⟨w1.heap.size + 1, 1, none⟩) (by show w.heap.size ≠ w1.heap.size + 1; omega) (.int .i64 ((up (begK l big) (at_ + 1) (l.length - at_))[n - 1]?.getD (l.length : Int)))
  have hB2 := hBx.setCell (p := ⟨w1.heap.size + 1, 1, none⟩) (by show w.heap.size ≤ w1.heap.size + 1; omega) (.int .i64 ((up (begK l big) (at_ + 1) (l.length - at_))[n - 1]?.getD (l.length : Int)))
  clear hg
  by_cases hz : at_ = l.length
  · have hzb : ((at_ : Int) == (l.length : Int)) = true := beq_iff_eq.mpr (by omega)
    have hres : mvF l big at_ n 0 = no70 := by simp [mvF, hz]
    clear hz
    go_wp2_with (first | (refine wpList_store_agg rfl 27 (.tmp 10) (.tmp 98) rfl w.heap.size 0 ?y0e [.int .i64 0, .int .i64 0, .int .i64 0] ?y0f _ 27 hr2 ?y0h ?y0i ?y0j ?y0k))
    case y0e => rfl
    case y0f => rfl
    case y0h => exact Nat.le_refl _
    case y0i => simp [Value.oneCell']
    case y0j => kernel_rfl
    · skip
      have hW := putCells_block [.int .i64 0, .int .i64 0, .int .i64 0] (W3.setCell ⟨w1.heap.size + 1, 1, none⟩ (.int .i64 ((up (begK l big) (at_ + 1) (l.length - at_))[n - 1]?.getD (l.length : Int)))) w.heap.size 0 _ 27 hr2
      rw [splice_whole _ [.int .i64 0, .int .i64 0, .int .i64 0] (by rfl)] at hW
      refine bodyPost_ret (results_ct rfl _ _ w.heap.size 27 _ (0, 0) _ rfl hW Try.underlying27 rfl (by kernel_rfl)) rfl ⟨by rw [hres]; rfl, putCells_below _ _ _ _ _ _ (Nat.le_refl _) hB2⟩
  · have hzb : ((at_ : Int) == (l.length : Int)) = false := beq_eq_false_iff_ne.mpr (by omega)
    have hres : mvF l big at_ n 0 = ((at_ : Int), (up (begK l big) (at_ + 1) (l.length - at_))[n - 1]?.getD (l.length : Int), 1, 0) := by simp [mvF, hz]
    clear hz
    go_wp2_with (first | (refine wpList_load_agg rfl 27 (.tmp 13) rfl ⟨w1.heap.size + 1, 0, none⟩ ?y1a [.int .i64 at_, .int .i64 ((up (begK l big) (at_ + 1) (l.length - at_))[n - 1]?.getD (l.length : Int)), .int .i64 1] _ ?y1b Try.underlying27 rfl ?y1c ?y1d) | (refine wpList_store_agg rfl 27 (.tmp 10) (.tmp 99) rfl w.heap.size 0 ?y1e [.int .i64 at_, .int .i64 ((up (begK l big) (at_ + 1) (l.length - at_))[n - 1]?.getD (l.length : Int)), .int .i64 1] ?y1f _ 27 hr2 ?y1h ?y1i ?y1j ?y1k))
    case y1a => rfl
    case y1b =>
      intro j v hj
      rw [add_plain', Nat.zero_add, blk_cell hg2]
      simpa using hj
    case y1c => kernel_rfl
    case y1h => exact Nat.le_refl _
    case y1i => simp [Value.oneCell']
    case y1j => kernel_rfl
    · skip
      have hW := putCells_block [.int .i64 at_, .int .i64 ((up (begK l big) (at_ + 1) (l.length - at_))[n - 1]?.getD (l.length : Int)), .int .i64 1] (W3.setCell ⟨w1.heap.size + 1, 1, none⟩ (.int .i64 ((up (begK l big) (at_ + 1) (l.length - at_))[n - 1]?.getD (l.length : Int)))) w.heap.size 0 _ 27 hr2
      rw [splice_whole _ [.int .i64 at_, .int .i64 ((up (begK l big) (at_ + 1) (l.length - at_))[n - 1]?.getD (l.length : Int)), .int .i64 1] (by rfl)] at hW
      refine bodyPost_ret (results_ct rfl _ _ w.heap.size 27 _ (0, 0) _ rfl hW Try.underlying27 rfl (by kernel_rfl)) rfl ⟨by rw [hres]; rfl, putCells_below _ _ _ _ _ _ (Nat.le_refl _) hB2⟩
set_option maxHeartbeats 1000000 in
set_option maxRecDepth 100000 in
theorem move1_calls (A : Option Addr) (c : Nat) (l : List Int) (big : Bool) (at_ n : Nat) (w : World) (hr : Kd.C (Kd.int .u8) w A l.length l) (hl : l.length ≤ 1048576) (ha : at_ ≤ l.length) (hn1 : 1 ≤ n) (hn2 : n ≤ 9999) :
    Calls Try.prog 19 #[.slice A l.length c, .int .i64 at_, .int .i64 n, .int .i64 1, .bool big] w fun e w' => e = .returned (mvV (mvF l big at_ n 1)) ∧ Below w.heap.size w w' := by
  have HR := Aside0.mk hr
  have HLn := Aside0.mk hl
  have HON := Aside0.mk (back_lst (begK l big) l.length at_ n 1048579 (by omega) hl ha hn1 hn2)
  clear hr hl
  go_enter Try.func19, Try.ntmps19
  go_wp2_with fail
  refine (look_calls A c l big _ (Kd.C_alloc HR.out _) HLn.out).mono ?_
  rintro e w1 ⟨A0, c0, A1, c1, A2, c2, rfl, hc0, hC0, hc1, hC1, hc2, hC2, hB⟩
  have hb1 := blk_below (blk_new w _) hB
  have hB1 := ((Below.refl w.heap.size w).alloc (Nat.le_refl _) (Obj.cells #[Value.int .i64 0, Value.int .i64 0, Value.int .i64 0] 27))
  have hBw := below_step hB1 hB
  have hsz : w.heap.size < w1.heap.size := blk_lt hb1
  go_upto_region 3 with (fail)
  have hs : ((w1.alloc (Obj.cells #[Value.slice A0 (lst (begK l big) (l.length + 1)).length c0, Value.slice A1 (lst (endK l big) (l.length + 1)).length c1, Value.slice A2 (lst (haltK l big) (l.length + 1)).length c2] 52)).alloc (Obj.cells #[Value.int .i64 at_, Value.int .i64 0, Value.int .i64 1] 27)).heap[w1.heap.size]? = some _ := blk_alloc (blk_new w1 (Obj.cells #[Value.slice A0 (lst (begK l big) (l.length + 1)).length c0, Value.slice A1 (lst (endK l big) (l.length + 1)).length c1, Value.slice A2 (lst (haltK l big) (l.length + 1)).length c2] 52)) (Obj.cells #[Value.int .i64 at_, Value.int .i64 0, Value.int .i64 1] 27)
  have hg : ((w1.alloc (Obj.cells #[Value.slice A0 (lst (begK l big) (l.length + 1)).length c0, Value.slice A1 (lst (endK l big) (l.length + 1)).length c1, Value.slice A2 (lst (haltK l big) (l.length + 1)).length c2] 52)).alloc (Obj.cells #[Value.int .i64 at_, Value.int .i64 0, Value.int .i64 1] 27)).heap[w1.heap.size + 1]? = some _ := heap_alloc2_new w1 (Obj.cells #[Value.slice A0 (lst (begK l big) (l.length + 1)).length c0, Value.slice A1 (lst (endK l big) (l.length + 1)).length c1, Value.slice A2 (lst (haltK l big) (l.length + 1)).length c2] 52) (Obj.cells #[Value.int .i64 at_, Value.int .i64 0, Value.int .i64 1] 27)
  have hr1 : ((w1.alloc (Obj.cells #[Value.slice A0 (lst (begK l big) (l.length + 1)).length c0, Value.slice A1 (lst (endK l big) (l.length + 1)).length c1, Value.slice A2 (lst (haltK l big) (l.length + 1)).length c2] 52)).alloc (Obj.cells #[Value.int .i64 at_, Value.int .i64 0, Value.int .i64 1] 27)).heap[w.heap.size]? = some _ := blk_alloc (blk_alloc hb1 _) _
  have hBx : Below w.heap.size w ((w1.alloc (Obj.cells #[Value.slice A0 (lst (begK l big) (l.length + 1)).length c0, Value.slice A1 (lst (endK l big) (l.length + 1)).length c1, Value.slice A2 (lst (haltK l big) (l.length + 1)).length c2] 52)).alloc (Obj.cells #[Value.int .i64 at_, Value.int .i64 0, Value.int .i64 1] 27)) := (hBw.alloc (by omega) _).alloc (by simp <;> omega) _
  have hq : Below w1.heap.size w1 ((w1.alloc (Obj.cells #[Value.slice A0 (lst (begK l big) (l.length + 1)).length c0, Value.slice A1 (lst (endK l big) (l.length + 1)).length c1, Value.slice A2 (lst (haltK l big) (l.length + 1)).length c2] 52)).alloc (Obj.cells #[Value.int .i64 at_, Value.int .i64 0, Value.int .i64 1] 27)) := ((Below.refl _ _).alloc (Nat.le_refl _) _).alloc (by simp) _
  have hK0 : Kd.C (Kd.int .i64) ((w1.alloc (Obj.cells #[Value.slice A0 (lst (begK l big) (l.length + 1)).length c0, Value.slice A1 (lst (endK l big) (l.length + 1)).length c1, Value.slice A2 (lst (haltK l big) (l.length + 1)).length c2] 52)).alloc (Obj.cells #[Value.int .i64 at_, Value.int .i64 0, Value.int .i64 1] 27)) A0 (lst (begK l big) (l.length + 1)).length (lst (begK l big) (l.length + 1)) := Kd.C_alloc (Kd.C_alloc hC0 _) _
  have hK1 : Kd.C (Kd.int .i64) ((w1.alloc (Obj.cells #[Value.slice A0 (lst (begK l big) (l.length + 1)).length c0, Value.slice A1 (lst (endK l big) (l.length + 1)).length c1, Value.slice A2 (lst (haltK l big) (l.length + 1)).length c2] 52)).alloc (Obj.cells #[Value.int .i64 at_, Value.int .i64 0, Value.int .i64 1] 27)) A1 (lst (endK l big) (l.length + 1)).length (lst (endK l big) (l.length + 1)) := Kd.C_alloc (Kd.C_alloc hC1 _) _
  have hK2 : Kd.C (Kd.int .i64) ((w1.alloc (Obj.cells #[Value.slice A0 (lst (begK l big) (l.length + 1)).length c0, Value.slice A1 (lst (endK l big) (l.length + 1)).length c1, Value.slice A2 (lst (haltK l big) (l.length + 1)).length c2] 52)).alloc (Obj.cells #[Value.int .i64 at_, Value.int .i64 0, Value.int .i64 1] 27)) A2 (lst (haltK l big) (l.length + 1)).length (lst (haltK l big) (l.length + 1)) := Kd.C_alloc (Kd.C_alloc hC2 _) _
  generalize ((w1.alloc (Obj.cells #[Value.slice A0 (lst (begK l big) (l.length + 1)).length c0, Value.slice A1 (lst (endK l big) (l.length + 1)).length c1, Value.slice A2 (lst (haltK l big) (l.length + 1)).length c2] 52)).alloc (Obj.cells #[Value.int .i64 at_, Value.int .i64 0, Value.int .i64 1] 27)) = W at hs hg hr1 hBx hq hK0 hK1 hK2 ⊢
  have HC2 := Aside0.mk hC2
  have HC1 := Aside0.mk hC1
  have HQ := Aside0.mk hq
  clear hb1 hB1 hBw hC0 hC1 hC2 hB hq
  have hs0 := blk_cell hs 0
  have hs1 := blk_cell hs 1
  have hs2 := blk_cell hs 2
  have hg0 := blk_cell hg 0
  have hg1 := blk_cell hg 1
  have hg2 := blk_cell hg 2
  have hf1 := blk_frozen hg 1
  have hf2 := blk_frozen hg 2
  simp only [List.getElem?_toArray, List.getElem?_cons_zero, List.getElem?_cons_succ] at hs0 hs1 hs2 hg0 hg1 hg2
  have HK0 := Aside0.mk hK0
  have HK1 := Aside0.mk hK1
  have HK2 := Aside0.mk hK2
  have Hhs := Aside0.mk hs
  have Hhg := Aside0.mk hg
  have Hr1 := Aside0.mk hr1
  have HBx := Aside0.mk hBx
  have Hc0 := Aside0.mk hc0
  have Hc1 := Aside0.mk hc1
  have Hc2 := Aside0.mk hc2
  clear hK0 hK1 hK2 hs hg hr1 hBx hc0 hc1 hc2
  go_wp2_with fail
  refine (word_back.calls 1048579 A0 c0 (lst (begK l big) (l.length + 1)) at_ n _ W HK0.out Hc0.out HON.out).mono ?_
  rintro e w2 ⟨rfl, ⟨nd, rfl⟩⟩
  have hr1 := blk_drewN (Hr1.out) nd
  have hg := blk_drewN (Hhg.out) nd
  have hBx := pw_below_drewN (HBx.out) nd
  generalize (W.drewN nd) = W3 at hr1 hg hBx ⊢
  have hg1 := blk_cell hg 1
  have hf1 := blk_frozen hg 1
  simp only [List.getElem?_toArray, List.getElem?_cons_zero, List.getElem?_cons_succ] at hg1
  have hg2 := blk_put hg 1 (.int .i64 ((lst (begK l big) at_).reverse[n - 1]?.getD 0)) (cs' := #[.int .i64 at_, .int .i64 ((lst (begK l big) at_).reverse[n - 1]?.getD 0), .int .i64 1]) rfl
  have hr2 := blk_far hr1 (p := ⟨w1.heap.size + 1, 1, none⟩) (by show w.heap.size ≠ w1.heap.size + 1; omega) (.int .i64 ((lst (begK l big) at_).reverse[n - 1]?.getD 0))
  have hB2 := hBx.setCell (p := ⟨w1.heap.size + 1, 1, none⟩) (by show w.heap.size ≤ w1.heap.size + 1; omega) (.int .i64 ((lst (begK l big) at_).reverse[n - 1]?.getD 0))
  clear hg
  by_cases hz : at_ = 0
  · have hzb : ((at_ : Int) == 0) = true := beq_iff_eq.mpr (by omega)
    have hres : mvF l big at_ n 1 = no70 := by simp [mvF, hz]
    clear hz
    go_wp2_with (first | (refine wpList_store_agg rfl 27 (.tmp 10) (.tmp 98) rfl w.heap.size 0 ?y10e [.int .i64 0, .int .i64 0, .int .i64 0] ?y10f _ 27 hr2 ?y10h ?y10i ?y10j ?y10k))
    case y10e => rfl
    case y10f => rfl
    case y10h => exact Nat.le_refl _
    case y10i => simp [Value.oneCell']
    case y10j => kernel_rfl
    · skip
      have hW := putCells_block [.int .i64 0, .int .i64 0, .int .i64 0] (W3.setCell ⟨w1.heap.size + 1, 1, none⟩ (.int .i64 ((lst (begK l big) at_).reverse[n - 1]?.getD 0))) w.heap.size 0 _ 27 hr2
      rw [splice_whole _ [.int .i64 0, .int .i64 0, .int .i64 0] (by rfl)] at hW
      refine bodyPost_ret (results_ct rfl _ _ w.heap.size 27 _ (0, 0) _ rfl hW Try.underlying27 rfl (by kernel_rfl)) rfl ⟨by rw [hres]; rfl, putCells_below _ _ _ _ _ _ (Nat.le_refl _) hB2⟩
  · have hzb : ((at_ : Int) == 0) = false := beq_eq_false_iff_ne.mpr (by omega)
    have hres : mvF l big at_ n 1 = ((at_ : Int), (lst (begK l big) at_).reverse[n - 1]?.getD 0, 1, 0) := by simp [mvF, hz]
    clear hz
    go_wp2_with (first | (refine wpList_load_agg rfl 27 (.tmp 13) rfl ⟨w1.heap.size + 1, 0, none⟩ ?y11a [.int .i64 at_, .int .i64 ((lst (begK l big) at_).reverse[n - 1]?.getD 0), .int .i64 1] _ ?y11b Try.underlying27 rfl ?y11c ?y11d) | (refine wpList_store_agg rfl 27 (.tmp 10) (.tmp 99) rfl w.heap.size 0 ?y11e [.int .i64 at_, .int .i64 ((lst (begK l big) at_).reverse[n - 1]?.getD 0), .int .i64 1] ?y11f _ 27 hr2 ?y11h ?y11i ?y11j ?y11k))
    case y11a => rfl
    case y11b =>
      intro j v hj
      rw [add_plain', Nat.zero_add, blk_cell hg2]
      simpa using hj
    case y11c => kernel_rfl
    case y11h => exact Nat.le_refl _
    case y11i => simp [Value.oneCell']
    case y11j => kernel_rfl
    · skip
      have hW := putCells_block [.int .i64 at_, .int .i64 ((lst (begK l big) at_).reverse[n - 1]?.getD 0), .int .i64 1] (W3.setCell ⟨w1.heap.size + 1, 1, none⟩ (.int .i64 ((lst (begK l big) at_).reverse[n - 1]?.getD 0))) w.heap.size 0 _ 27 hr2
      rw [splice_whole _ [.int .i64 at_, .int .i64 ((lst (begK l big) at_).reverse[n - 1]?.getD 0), .int .i64 1] (by rfl)] at hW
      refine bodyPost_ret (results_ct rfl _ _ w.heap.size 27 _ (0, 0) _ rfl hW Try.underlying27 rfl (by kernel_rfl)) rfl ⟨by rw [hres]; rfl, putCells_below _ _ _ _ _ _ (Nat.le_refl _) hB2⟩
set_option maxHeartbeats 1000000 in
set_option maxRecDepth 100000 in
theorem move3_calls (A : Option Addr) (c : Nat) (l : List Int) (big : Bool) (at_ n : Nat) (w : World) (hr : Kd.C (Kd.int .u8) w A l.length l) (hl : l.length ≤ 1048576) (ha : at_ ≤ l.length) (hn1 : 1 ≤ n) (hn2 : n ≤ 9999) :
    Calls Try.prog 19 #[.slice A l.length c, .int .i64 at_, .int .i64 n, .int .i64 3, .bool big] w fun e w' => e = .returned (mvV (mvF l big at_ n 3)) ∧ Below w.heap.size w w' := by
  have HR := Aside0.mk hr
  have HLn := Aside0.mk hl
  have HON := Aside0.mk (back_lst (haltK l big) l.length at_ n 1048579 (by omega) hl ha hn1 hn2)
  clear hr hl
  go_enter Try.func19, Try.ntmps19
  go_wp2_with fail
  refine (look_calls A c l big _ (Kd.C_alloc HR.out _) HLn.out).mono ?_
  rintro e w1 ⟨A0, c0, A1, c1, A2, c2, rfl, hc0, hC0, hc1, hC1, hc2, hC2, hB⟩
  have hb1 := blk_below (blk_new w _) hB
  have hB1 := ((Below.refl w.heap.size w).alloc (Nat.le_refl _) (Obj.cells #[Value.int .i64 0, Value.int .i64 0, Value.int .i64 0] 27))
  have hBw := below_step hB1 hB
  have hsz : w.heap.size < w1.heap.size := blk_lt hb1
  go_upto_region 3 with (fail)
  have hs : ((w1.alloc (Obj.cells #[Value.slice A0 (lst (begK l big) (l.length + 1)).length c0, Value.slice A1 (lst (endK l big) (l.length + 1)).length c1, Value.slice A2 (lst (haltK l big) (l.length + 1)).length c2] 52)).alloc (Obj.cells #[Value.int .i64 at_, Value.int .i64 0, Value.int .i64 1] 27)).heap[w1.heap.size]? = some _ := blk_alloc (blk_new w1 (Obj.cells #[Value.slice A0 (lst (begK l big) (l.length + 1)).length c0, Value.slice A1 (lst (endK l big) (l.length + 1)).length c1, Value.slice A2 (lst (haltK l big) (l.length + 1)).length c2] 52)) (Obj.cells #[Value.int .i64 at_, Value.int .i64 0, Value.int .i64 1] 27)
  have hg : ((w1.alloc (Obj.cells #[Value.slice A0 (lst (begK l big) (l.length + 1)).length c0, Value.slice A1 (lst (endK l big) (l.length + 1)).length c1, Value.slice A2 (lst (haltK l big) (l.length + 1)).length c2] 52)).alloc (Obj.cells #[Value.int .i64 at_, Value.int .i64 0, Value.int .i64 1] 27)).heap[w1.heap.size + 1]? = some _ := heap_alloc2_new w1 (Obj.cells #[Value.slice A0 (lst (begK l big) (l.length + 1)).length c0, Value.slice A1 (lst (endK l big) (l.length + 1)).length c1, Value.slice A2 (lst (haltK l big) (l.length + 1)).length c2] 52) (Obj.cells #[Value.int .i64 at_, Value.int .i64 0, Value.int .i64 1] 27)
  have hr1 : ((w1.alloc (Obj.cells #[Value.slice A0 (lst (begK l big) (l.length + 1)).length c0, Value.slice A1 (lst (endK l big) (l.length + 1)).length c1, Value.slice A2 (lst (haltK l big) (l.length + 1)).length c2] 52)).alloc (Obj.cells #[Value.int .i64 at_, Value.int .i64 0, Value.int .i64 1] 27)).heap[w.heap.size]? = some _ := blk_alloc (blk_alloc hb1 _) _
  have hBx : Below w.heap.size w ((w1.alloc (Obj.cells #[Value.slice A0 (lst (begK l big) (l.length + 1)).length c0, Value.slice A1 (lst (endK l big) (l.length + 1)).length c1, Value.slice A2 (lst (haltK l big) (l.length + 1)).length c2] 52)).alloc (Obj.cells #[Value.int .i64 at_, Value.int .i64 0, Value.int .i64 1] 27)) := (hBw.alloc (by omega) _).alloc (by simp <;> omega) _
  have hq : Below w1.heap.size w1 ((w1.alloc (Obj.cells #[Value.slice A0 (lst (begK l big) (l.length + 1)).length c0, Value.slice A1 (lst (endK l big) (l.length + 1)).length c1, Value.slice A2 (lst (haltK l big) (l.length + 1)).length c2] 52)).alloc (Obj.cells #[Value.int .i64 at_, Value.int .i64 0, Value.int .i64 1] 27)) := ((Below.refl _ _).alloc (Nat.le_refl _) _).alloc (by simp) _
  have hK0 : Kd.C (Kd.int .i64) ((w1.alloc (Obj.cells #[Value.slice A0 (lst (begK l big) (l.length + 1)).length c0, Value.slice A1 (lst (endK l big) (l.length + 1)).length c1, Value.slice A2 (lst (haltK l big) (l.length + 1)).length c2] 52)).alloc (Obj.cells #[Value.int .i64 at_, Value.int .i64 0, Value.int .i64 1] 27)) A0 (lst (begK l big) (l.length + 1)).length (lst (begK l big) (l.length + 1)) := Kd.C_alloc (Kd.C_alloc hC0 _) _
  have hK1 : Kd.C (Kd.int .i64) ((w1.alloc (Obj.cells #[Value.slice A0 (lst (begK l big) (l.length + 1)).length c0, Value.slice A1 (lst (endK l big) (l.length + 1)).length c1, Value.slice A2 (lst (haltK l big) (l.length + 1)).length c2] 52)).alloc (Obj.cells #[Value.int .i64 at_, Value.int .i64 0, Value.int .i64 1] 27)) A1 (lst (endK l big) (l.length + 1)).length (lst (endK l big) (l.length + 1)) := Kd.C_alloc (Kd.C_alloc hC1 _) _
  have hK2 : Kd.C (Kd.int .i64) ((w1.alloc (Obj.cells #[Value.slice A0 (lst (begK l big) (l.length + 1)).length c0, Value.slice A1 (lst (endK l big) (l.length + 1)).length c1, Value.slice A2 (lst (haltK l big) (l.length + 1)).length c2] 52)).alloc (Obj.cells #[Value.int .i64 at_, Value.int .i64 0, Value.int .i64 1] 27)) A2 (lst (haltK l big) (l.length + 1)).length (lst (haltK l big) (l.length + 1)) := Kd.C_alloc (Kd.C_alloc hC2 _) _
  generalize ((w1.alloc (Obj.cells #[Value.slice A0 (lst (begK l big) (l.length + 1)).length c0, Value.slice A1 (lst (endK l big) (l.length + 1)).length c1, Value.slice A2 (lst (haltK l big) (l.length + 1)).length c2] 52)).alloc (Obj.cells #[Value.int .i64 at_, Value.int .i64 0, Value.int .i64 1] 27)) = W at hs hg hr1 hBx hq hK0 hK1 hK2 ⊢
  have HC2 := Aside0.mk hC2
  have HC1 := Aside0.mk hC1
  have HQ := Aside0.mk hq
  clear hb1 hB1 hBw hC0 hC1 hC2 hB hq
  have hs0 := blk_cell hs 0
  have hs1 := blk_cell hs 1
  have hs2 := blk_cell hs 2
  have hg0 := blk_cell hg 0
  have hg1 := blk_cell hg 1
  have hg2 := blk_cell hg 2
  have hf1 := blk_frozen hg 1
  have hf2 := blk_frozen hg 2
  simp only [List.getElem?_toArray, List.getElem?_cons_zero, List.getElem?_cons_succ] at hs0 hs1 hs2 hg0 hg1 hg2
  have HK0 := Aside0.mk hK0
  have HK1 := Aside0.mk hK1
  have HK2 := Aside0.mk hK2
  have Hhs := Aside0.mk hs
  have Hhg := Aside0.mk hg
  have Hr1 := Aside0.mk hr1
  have HBx := Aside0.mk hBx
  have Hc0 := Aside0.mk hc0
  have Hc1 := Aside0.mk hc1
  have Hc2 := Aside0.mk hc2
  clear hK0 hK1 hK2 hs hg hr1 hBx hc0 hc1 hc2
  go_wp2_with fail
  have hgp := blk_put Hhg.out 2 (.int .i64 2) (cs' := #[.int .i64 at_, .int .i64 0, .int .i64 2]) rfl
  have hrp := blk_far Hr1.out (p := ⟨w1.heap.size + 1, 2, none⟩) (by show w.heap.size ≠ w1.heap.size + 1; omega) (.int .i64 2)
  have hBp := HBx.out.setCell (p := ⟨w1.heap.size + 1, 2, none⟩) (by show w.heap.size ≤ w1.heap.size + 1; omega) (.int .i64 2)
  have hKp := Kd.C_below HC2.out (HQ.out.setCell (p := ⟨w1.heap.size + 1, 2, none⟩) (by show w1.heap.size ≤ w1.heap.size + 1; omega) (.int .i64 2))
  refine (word_back.calls 1048579 A2 c2 (lst (haltK l big) (l.length + 1)) at_ n _ (W.setCell ⟨w1.heap.size + 1, 2, none⟩ (.int .i64 2)) hKp Hc2.out HON.out).mono ?_
  rintro e w2 ⟨rfl, ⟨nd, rfl⟩⟩
  have hr1 := blk_drewN (hrp) nd
  have hg := blk_drewN (hgp) nd
  have hBx := pw_below_drewN (hBp) nd
  generalize ((W.setCell ⟨w1.heap.size + 1, 2, none⟩ (.int .i64 2)).drewN nd) = W3 at hr1 hg hBx ⊢
  have hg1 := blk_cell hg 1
  have hf1 := blk_frozen hg 1
  simp only [List.getElem?_toArray, List.getElem?_cons_zero, List.getElem?_cons_succ] at hg1
  have hg2 := blk_put hg 1 (.int .i64 ((lst (haltK l big) at_).reverse[n - 1]?.getD 0)) (cs' := #[.int .i64 at_, .int .i64 ((lst (haltK l big) at_).reverse[n - 1]?.getD 0), .int .i64 2]) rfl
  have hr2 := blk_far hr1 (p := ⟨w1.heap.size + 1, 1, none⟩) (by show w.heap.size ≠ w1.heap.size + 1; omega) (.int .i64 ((lst (haltK l big) at_).reverse[n - 1]?.getD 0))
  have hB2 := hBx.setCell (p := ⟨w1.heap.size + 1, 1, none⟩) (by show w.heap.size ≤ w1.heap.size + 1; omega) (.int .i64 ((lst (haltK l big) at_).reverse[n - 1]?.getD 0))
  clear hg
  clear hgp hrp hBp hKp
  by_cases hz : at_ = 0
  · have hzb : ((at_ : Int) == 0) = true := beq_iff_eq.mpr (by omega)
    have hres : mvF l big at_ n 3 = no70 := by simp [mvF, hz]
    clear hz
    go_wp2_with (first | (refine wpList_store_agg rfl 27 (.tmp 10) (.tmp 98) rfl w.heap.size 0 ?y30e [.int .i64 0, .int .i64 0, .int .i64 0] ?y30f _ 27 hr2 ?y30h ?y30i ?y30j ?y30k))
    case y30e => rfl
    case y30f => rfl
    case y30h => exact Nat.le_refl _
    case y30i => simp [Value.oneCell']
    case y30j => kernel_rfl
    · skip
      have hW := putCells_block [.int .i64 0, .int .i64 0, .int .i64 0] (W3.setCell ⟨w1.heap.size + 1, 1, none⟩ (.int .i64 ((lst (haltK l big) at_).reverse[n - 1]?.getD 0))) w.heap.size 0 _ 27 hr2
      rw [splice_whole _ [.int .i64 0, .int .i64 0, .int .i64 0] (by rfl)] at hW
      refine bodyPost_ret (results_ct rfl _ _ w.heap.size 27 _ (0, 0) _ rfl hW Try.underlying27 rfl (by kernel_rfl)) rfl ⟨by rw [hres]; rfl, putCells_below _ _ _ _ _ _ (Nat.le_refl _) hB2⟩
  · have hzb : ((at_ : Int) == 0) = false := beq_eq_false_iff_ne.mpr (by omega)
    have hres : mvF l big at_ n 3 = ((at_ : Int), (lst (haltK l big) at_).reverse[n - 1]?.getD 0, 2, 0) := by simp [mvF, hz]
    clear hz
    go_wp2_with (first | (refine wpList_load_agg rfl 27 (.tmp 13) rfl ⟨w1.heap.size + 1, 0, none⟩ ?y31a [.int .i64 at_, .int .i64 ((lst (haltK l big) at_).reverse[n - 1]?.getD 0), .int .i64 2] _ ?y31b Try.underlying27 rfl ?y31c ?y31d) | (refine wpList_store_agg rfl 27 (.tmp 10) (.tmp 99) rfl w.heap.size 0 ?y31e [.int .i64 at_, .int .i64 ((lst (haltK l big) at_).reverse[n - 1]?.getD 0), .int .i64 2] ?y31f _ 27 hr2 ?y31h ?y31i ?y31j ?y31k))
    case y31a => rfl
    case y31b =>
      intro j v hj
      rw [add_plain', Nat.zero_add, blk_cell hg2]
      simpa using hj
    case y31c => kernel_rfl
    case y31h => exact Nat.le_refl _
    case y31i => simp [Value.oneCell']
    case y31j => kernel_rfl
    · skip
      have hW := putCells_block [.int .i64 at_, .int .i64 ((lst (haltK l big) at_).reverse[n - 1]?.getD 0), .int .i64 2] (W3.setCell ⟨w1.heap.size + 1, 1, none⟩ (.int .i64 ((lst (haltK l big) at_).reverse[n - 1]?.getD 0))) w.heap.size 0 _ 27 hr2
      rw [splice_whole _ [.int .i64 at_, .int .i64 ((lst (haltK l big) at_).reverse[n - 1]?.getD 0), .int .i64 2] (by rfl)] at hW
      refine bodyPost_ret (results_ct rfl _ _ w.heap.size 27 _ (0, 0) _ rfl hW Try.underlying27 rfl (by kernel_rfl)) rfl ⟨by rw [hres]; rfl, putCells_below _ _ _ _ _ _ (Nat.le_refl _) hB2⟩
set_option maxHeartbeats 1000000 in
set_option maxRecDepth 100000 in
theorem move2_calls (A : Option Addr) (c : Nat) (l : List Int) (big : Bool) (at_ n : Nat) (w : World) (hr : Kd.C (Kd.int .u8) w A l.length l) (hl : l.length ≤ 1048576) (ha : at_ ≤ l.length) (hn1 : 1 ≤ n) (hn2 : n ≤ 9999) :
    Calls Try.prog 19 #[.slice A l.length c, .int .i64 at_, .int .i64 n, .int .i64 2, .bool big] w fun e w' => e = .returned (mvV (mvF l big at_ n 2)) ∧ Below w.heap.size w w' := by
  have HR := Aside0.mk hr
  have HLn := Aside0.mk hl
  have HEL := Aside0.mk (endK_last l big at_ ha)
  have HLL := Aside0.mk (lst_len (endK l big) (l.length + 1))
  have HOZ := Aside0.mk (fun z => onward_lst (endK l big) l.length at_ n 1048579 z (by omega) hl ha hn1 hn2)
  clear hr hl
  go_enter Try.func19, Try.ntmps19
  go_wp2_with fail
  refine (look_calls A c l big _ (Kd.C_alloc HR.out _) HLn.out).mono ?_
  rintro e w1 ⟨A0, c0, A1, c1, A2, c2, rfl, hc0, hC0, hc1, hC1, hc2, hC2, hB⟩
  have hb1 := blk_below (blk_new w _) hB
  have hB1 := ((Below.refl w.heap.size w).alloc (Nat.le_refl _) (Obj.cells #[Value.int .i64 0, Value.int .i64 0, Value.int .i64 0] 27))
  have hBw := below_step hB1 hB
  have hsz : w.heap.size < w1.heap.size := blk_lt hb1
  go_upto_region 3 with (fail)
  have hs : ((w1.alloc (Obj.cells #[Value.slice A0 (lst (begK l big) (l.length + 1)).length c0, Value.slice A1 (lst (endK l big) (l.length + 1)).length c1, Value.slice A2 (lst (haltK l big) (l.length + 1)).length c2] 52)).alloc (Obj.cells #[Value.int .i64 at_, Value.int .i64 0, Value.int .i64 1] 27)).heap[w1.heap.size]? = some _ := blk_alloc (blk_new w1 (Obj.cells #[Value.slice A0 (lst (begK l big) (l.length + 1)).length c0, Value.slice A1 (lst (endK l big) (l.length + 1)).length c1, Value.slice A2 (lst (haltK l big) (l.length + 1)).length c2] 52)) (Obj.cells #[Value.int .i64 at_, Value.int .i64 0, Value.int .i64 1] 27)
  have hg : ((w1.alloc (Obj.cells #[Value.slice A0 (lst (begK l big) (l.length + 1)).length c0, Value.slice A1 (lst (endK l big) (l.length + 1)).length c1, Value.slice A2 (lst (haltK l big) (l.length + 1)).length c2] 52)).alloc (Obj.cells #[Value.int .i64 at_, Value.int .i64 0, Value.int .i64 1] 27)).heap[w1.heap.size + 1]? = some _ := heap_alloc2_new w1 (Obj.cells #[Value.slice A0 (lst (begK l big) (l.length + 1)).length c0, Value.slice A1 (lst (endK l big) (l.length + 1)).length c1, Value.slice A2 (lst (haltK l big) (l.length + 1)).length c2] 52) (Obj.cells #[Value.int .i64 at_, Value.int .i64 0, Value.int .i64 1] 27)
  have hr1 : ((w1.alloc (Obj.cells #[Value.slice A0 (lst (begK l big) (l.length + 1)).length c0, Value.slice A1 (lst (endK l big) (l.length + 1)).length c1, Value.slice A2 (lst (haltK l big) (l.length + 1)).length c2] 52)).alloc (Obj.cells #[Value.int .i64 at_, Value.int .i64 0, Value.int .i64 1] 27)).heap[w.heap.size]? = some _ := blk_alloc (blk_alloc hb1 _) _
  have hBx : Below w.heap.size w ((w1.alloc (Obj.cells #[Value.slice A0 (lst (begK l big) (l.length + 1)).length c0, Value.slice A1 (lst (endK l big) (l.length + 1)).length c1, Value.slice A2 (lst (haltK l big) (l.length + 1)).length c2] 52)).alloc (Obj.cells #[Value.int .i64 at_, Value.int .i64 0, Value.int .i64 1] 27)) := (hBw.alloc (by omega) _).alloc (by simp <;> omega) _
  have hq : Below w1.heap.size w1 ((w1.alloc (Obj.cells #[Value.slice A0 (lst (begK l big) (l.length + 1)).length c0, Value.slice A1 (lst (endK l big) (l.length + 1)).length c1, Value.slice A2 (lst (haltK l big) (l.length + 1)).length c2] 52)).alloc (Obj.cells #[Value.int .i64 at_, Value.int .i64 0, Value.int .i64 1] 27)) := ((Below.refl _ _).alloc (Nat.le_refl _) _).alloc (by simp) _
  have hK0 : Kd.C (Kd.int .i64) ((w1.alloc (Obj.cells #[Value.slice A0 (lst (begK l big) (l.length + 1)).length c0, Value.slice A1 (lst (endK l big) (l.length + 1)).length c1, Value.slice A2 (lst (haltK l big) (l.length + 1)).length c2] 52)).alloc (Obj.cells #[Value.int .i64 at_, Value.int .i64 0, Value.int .i64 1] 27)) A0 (lst (begK l big) (l.length + 1)).length (lst (begK l big) (l.length + 1)) := Kd.C_alloc (Kd.C_alloc hC0 _) _
  have hK1 : Kd.C (Kd.int .i64) ((w1.alloc (Obj.cells #[Value.slice A0 (lst (begK l big) (l.length + 1)).length c0, Value.slice A1 (lst (endK l big) (l.length + 1)).length c1, Value.slice A2 (lst (haltK l big) (l.length + 1)).length c2] 52)).alloc (Obj.cells #[Value.int .i64 at_, Value.int .i64 0, Value.int .i64 1] 27)) A1 (lst (endK l big) (l.length + 1)).length (lst (endK l big) (l.length + 1)) := Kd.C_alloc (Kd.C_alloc hC1 _) _
  have hK2 : Kd.C (Kd.int .i64) ((w1.alloc (Obj.cells #[Value.slice A0 (lst (begK l big) (l.length + 1)).length c0, Value.slice A1 (lst (endK l big) (l.length + 1)).length c1, Value.slice A2 (lst (haltK l big) (l.length + 1)).length c2] 52)).alloc (Obj.cells #[Value.int .i64 at_, Value.int .i64 0, Value.int .i64 1] 27)) A2 (lst (haltK l big) (l.length + 1)).length (lst (haltK l big) (l.length + 1)) := Kd.C_alloc (Kd.C_alloc hC2 _) _
  generalize ((w1.alloc (Obj.cells #[Value.slice A0 (lst (begK l big) (l.length + 1)).length c0, Value.slice A1 (lst (endK l big) (l.length + 1)).length c1, Value.slice A2 (lst (haltK l big) (l.length + 1)).length c2] 52)).alloc (Obj.cells #[Value.int .i64 at_, Value.int .i64 0, Value.int .i64 1] 27)) = W at hs hg hr1 hBx hq hK0 hK1 hK2 ⊢
  have HC2 := Aside0.mk hC2
  have HC1 := Aside0.mk hC1
  have HQ := Aside0.mk hq
  clear hb1 hB1 hBw hC0 hC1 hC2 hB hq
  have hs0 := blk_cell hs 0
  have hs1 := blk_cell hs 1
  have hs2 := blk_cell hs 2
  have hg0 := blk_cell hg 0
  have hg1 := blk_cell hg 1
  have hg2 := blk_cell hg 2
  have hf1 := blk_frozen hg 1
  have hf2 := blk_frozen hg 2
  simp only [List.getElem?_toArray, List.getElem?_cons_zero, List.getElem?_cons_succ] at hs0 hs1 hs2 hg0 hg1 hg2
  have HK0 := Aside0.mk hK0
  have HK1 := Aside0.mk hK1
  have HK2 := Aside0.mk hK2
  have Hhs := Aside0.mk hs
  have Hhg := Aside0.mk hg
  have Hr1 := Aside0.mk hr1
  have HBx := Aside0.mk hBx
  have Hc0 := Aside0.mk hc0
  have Hc1 := Aside0.mk hc1
  have Hc2 := Aside0.mk hc2
  clear hK0 hK1 hK2 hs hg hr1 hBx hc0 hc1 hc2
  generalize lst (endK l big) (l.length + 1) = LE at *
  have hgp := blk_put Hhg.out 2 (.int .i64 2) (cs' := #[.int .i64 at_, .int .i64 0, .int .i64 2]) rfl
  have hrp := blk_far Hr1.out (p := ⟨w1.heap.size + 1, 2, none⟩) (by show w.heap.size ≠ w1.heap.size + 1; omega) (.int .i64 2)
  have hBp := HBx.out.setCell (p := ⟨w1.heap.size + 1, 2, none⟩) (by show w.heap.size ≤ w1.heap.size + 1; omega) (.int .i64 2)
  have hsp := blk_far Hhs.out (p := ⟨w1.heap.size + 1, 2, none⟩) (by simp) (.int .i64 2)
  have hKp := Kd.C_below HC1.out (HQ.out.setCell (p := ⟨w1.heap.size + 1, 2, none⟩) (by show w1.heap.size ≤ w1.heap.size + 1; omega) (.int .i64 2))
  go_upto_region 10 with (fail)
  generalize (W.setCell ⟨w1.heap.size + 1, 2, none⟩ (.int .i64 2)) = W2 at hgp hrp hBp hsp hKp ⊢
  clear hs0 hs1 hs2 hg0 hg1 hg2 hf1 hf2
  have hs1 := blk_cell hsp 1
  simp only [List.getElem?_toArray, List.getElem?_cons_zero, List.getElem?_cons_succ] at hs1
  have HKP := Aside0.mk hKp
  have HGP := Aside0.mk hgp
  have HRP := Aside0.mk hrp
  have HBP := Aside0.mk hBp
  have HSP := Aside0.mk hsp
  clear hgp hrp hBp hsp hKp
  by_cases hE : LE.length = 0
  · have hEb : ((LE.length : Int) == 0) = true := beq_iff_eq.mpr (by omega)
    have hres : mvF l big at_ n 2 = no70 := by rw [mvF, HEL.out.1 hE]
    clear hE
    go_upto_region 11 with (fail)
    go_wp2_with (first | (refine wpList_store_agg rfl 27 (.tmp 10) (.tmp 57) rfl w.heap.size 0 ?y20e [.int .i64 0, .int .i64 0, .int .i64 0] ?y20f _ 27 HRP.out ?y20h ?y20i ?y20j ?y20k))
    case y20e => rfl
    case y20f => rfl
    case y20h => exact Nat.le_refl _
    case y20i => simp [Value.oneCell']
    case y20j => kernel_rfl
    · skip
      have hW := putCells_block [.int .i64 0, .int .i64 0, .int .i64 0] W2 w.heap.size 0 _ 27 HRP.out
      rw [splice_whole _ [.int .i64 0, .int .i64 0, .int .i64 0] (by rfl)] at hW
      refine bodyPost_ret (results_ct rfl _ _ w.heap.size 27 _ (0, 0) _ rfl hW Try.underlying27 rfl (by kernel_rfl)) rfl ⟨by rw [hres]; rfl, putCells_below _ _ _ _ _ _ (Nat.le_refl _) HBP.out⟩
  · have hEb : ((LE.length : Int) == 0) = false := beq_eq_false_iff_ne.mpr (by omega)
    have hw : IntKind.i64.wrap ((LE.length : Int) - 1) = (LE.length : Int) - 1 := by have := HLL.out; have := HLn.out; rw [i64_w, w64] <;> omega
    obtain ⟨ad, eA, hx⟩ := Kd.at_int HKP.out ((LE.length : Int) - 1) (by omega) (by omega)
    subst eA
    rw [show ((LE.length : Int) - 1).toNat = LE.length - 1 by omega] at hx
    have p0 : ((LE.length : Int) < 1) = False := eq_false (by omega)
    have p1 : (1 ≤ (LE.length : Int)) = True := eq_true (by omega)
    have q0 : ((LE.length : Int) - 1 < (LE.length : Int)) = True := eq_true (by omega)
    have hlast := HEL.out.2 (by omega)
    generalize rd LE ((LE.length : Int) - 1) = z at hx hlast
    clear hE
    by_cases hz : z ≤ (at_ : Int)
    · have hzb : decide (z ≤ (at_ : Int)) = true := decide_eq_true hz
      have hres : mvF l big at_ n 2 = no70 := by rw [mvF, hlast.1 hz]
      clear hlast hz
      go_upto_region 11 with (fail)
      go_wp2_with (first | (refine wpList_store_agg rfl 27 (.tmp 10) (.tmp 57) rfl w.heap.size 0 ?y21e [.int .i64 0, .int .i64 0, .int .i64 0] ?y21f _ 27 HRP.out ?y21h ?y21i ?y21j ?y21k))
      case y21e => rfl
      case y21f => rfl
      case y21h => exact Nat.le_refl _
      case y21i => simp [Value.oneCell']
      case y21j => kernel_rfl
      · skip
        have hW := putCells_block [.int .i64 0, .int .i64 0, .int .i64 0] W2 w.heap.size 0 _ 27 HRP.out
        rw [splice_whole _ [.int .i64 0, .int .i64 0, .int .i64 0] (by rfl)] at hW
        refine bodyPost_ret (results_ct rfl _ _ w.heap.size 27 _ (0, 0) _ rfl hW Try.underlying27 rfl (by kernel_rfl)) rfl ⟨by rw [hres]; rfl, putCells_below _ _ _ _ _ _ (Nat.le_refl _) HBP.out⟩
    · have hzb : decide (z ≤ (at_ : Int)) = false := decide_eq_false hz
      have hres : mvF l big at_ n 2 = ((at_ : Int), (up (endK l big) (at_ + 1) (l.length - at_))[n - 1]?.getD z, 2, 0) := by rw [mvF, hlast.2 (by omega)]
      clear hlast hz
      have HON := Aside0.mk (HOZ.out z)
      generalize (up (endK l big) (at_ + 1) (l.length - at_))[n - 1]?.getD z = gto at HON hres
      go_upto_region 12 with (fail)
      have hw' : Go.RowKit.wrap64 ((LE.length : Int) - 1) = (LE.length : Int) - 1 := by rw [← i64_w]; exact hw
      refine start_ (n := 15) (S := fun w' => w'.cell? ⟨w1.heap.size, 1, none⟩ = some (.slice (some ad) LE.length c1) ∧ w'.cell? (ad.add (LE.length - 1)) = some (.int .i64 z)) (ds := [14]) #[false, false, false, false, false, false, false, false, false, false, false, false, false, false, false] (by kernel_rfl) rfl rfl ⟨hs1, hx⟩ (fun hHeld => ?_)
      refine pure_ (i := 0) (N := some 58) (v := ?_) (a' := ?_) #[true, false, false, false, false, false, false, false, false, false, false, false, false, false, false] rfl rfl (by kernel_rfl) (fun _ _ _ h => h) (Or.inl ⟨by rfl, ?_⟩) ?_ ?_
      rotate_left
      · intro w'
        go_simp
        with_reducible rfl
      rotate_left
      · simp only [Act.put, List.setIfInBounds_toArray, List.set_cons_zero, List.set_cons_succ, i64_w, i32_w]
        rfl
      refine take_ (i := 1) (N := some 59) (v := ?_) (a' := ?_) #[true, true, false, false, false, false, false, false, false, false, false, false, false, false, false] rfl rfl (by kernel_rfl) (fun _ _ _ h => h) (Or.inl ⟨by rfl, ?_⟩) hHeld ?_ ?_
      rotate_left
      · rintro w' ⟨s0, s1⟩
        go_simp
        with_reducible rfl
      rotate_left
      · simp only [Act.put, List.setIfInBounds_toArray, List.set_cons_zero, List.set_cons_succ, i64_w, i32_w]
        rfl
      refine pure_ (i := 2) (N := some 60) (v := ?_) (a' := ?_) #[true, true, true, false, false, false, false, false, false, false, false, false, false, false, false] rfl rfl (by kernel_rfl) (fun _ _ _ h => h) (Or.inl ⟨by rfl, ?_⟩) ?_ ?_
      rotate_left
      · intro w'
        go_simp
        with_reducible rfl
      rotate_left
      · simp only [Act.put, List.setIfInBounds_toArray, List.set_cons_zero, List.set_cons_succ, i64_w, i32_w]
        rfl
      refine pure_ (i := 3) (N := some 61) (v := ?_) (a' := ?_) #[true, true, true, true, false, false, false, false, false, false, false, false, false, false, false] rfl rfl (by kernel_rfl) (fun _ _ _ h => h) (Or.inl ⟨by rfl, ?_⟩) ?_ ?_
      rotate_left
      · intro w'
        go_simp
        with_reducible rfl
      rotate_left
      · simp only [Act.put, List.setIfInBounds_toArray, List.set_cons_zero, List.set_cons_succ, i64_w, i32_w]
        rfl
      refine pure_ (i := 4) (N := some 62) (v := ?_) (a' := ?_) #[true, true, true, true, true, false, false, false, false, false, false, false, false, false, false] rfl rfl (by kernel_rfl) (fun _ _ _ h => h) (Or.inl ⟨by rfl, ?_⟩) ?_ ?_
      rotate_left
      · intro w'
        go_simp
        with_reducible rfl
      rotate_left
      · simp only [Act.put, List.setIfInBounds_toArray, List.set_cons_zero, List.set_cons_succ, i64_w, i32_w]
        rfl
      refine take_ (i := 5) (N := some 63) (v := ?_) (a' := ?_) #[true, true, true, true, true, true, false, false, false, false, false, false, false, false, false] rfl rfl (by kernel_rfl) (fun _ _ _ h => h) (Or.inl ⟨by rfl, ?_⟩) hHeld ?_ ?_
      rotate_left
      · rintro w' ⟨s0, s1⟩
        go_simp
        with_reducible rfl
      rotate_left
      · simp only [Act.put, List.setIfInBounds_toArray, List.set_cons_zero, List.set_cons_succ, i64_w, i32_w]
        rfl
      refine pure_ (i := 6) (N := some 64) (v := ?_) (a' := ?_) #[true, true, true, true, true, true, true, false, false, false, false, false, false, false, false] rfl rfl (by kernel_rfl) (fun _ _ _ h => h) (Or.inl ⟨by rfl, ?_⟩) ?_ ?_
      rotate_left
      · intro w'
        go_simp
        with_reducible rfl
      rotate_left
      · simp only [Act.put, List.setIfInBounds_toArray, List.set_cons_zero, List.set_cons_succ, i64_w, i32_w]
        rfl
      refine take_ (i := 7) (N := some 65) (v := ?_) (a' := ?_) #[true, true, true, true, true, true, true, true, false, false, false, false, false, false, false] rfl rfl (by kernel_rfl) (fun _ _ _ h => h) (Or.inl ⟨by rfl, ?_⟩) hHeld ?_ ?_
      rotate_left
      · rintro w' ⟨s0, s1⟩
        go_simp
        with_reducible rfl
      rotate_left
      · simp only [Act.put, List.setIfInBounds_toArray, List.set_cons_zero, List.set_cons_succ, i64_w, i32_w]
        rfl
      refine pure_ (i := 8) (N := some 66) (v := ?_) (a' := ?_) #[true, true, true, true, true, true, true, true, true, false, false, false, false, false, false] rfl rfl (by kernel_rfl) (fun _ _ _ h => h) (Or.inl ⟨by rfl, ?_⟩) ?_ ?_
      rotate_left
      · intro w'
        go_simp
        with_reducible rfl
      rotate_left
      · simp only [Act.put, List.setIfInBounds_toArray, List.set_cons_zero, List.set_cons_succ, i64_w, i32_w]
        rfl
      refine pure_ (i := 9) (N := some 67) (v := ?_) (a' := ?_) #[true, true, true, true, true, true, true, true, true, true, false, false, false, false, false] rfl rfl (by kernel_rfl) (fun _ _ _ h => h) (Or.inl ⟨by rfl, ?_⟩) ?_ ?_
      rotate_left
      · intro w'
        go_simp
        with_reducible rfl
      rotate_left
      · simp only [Act.put, List.setIfInBounds_toArray, List.set_cons_zero, List.set_cons_succ, i64_w, i32_w]
        rfl
      refine pure_ (i := 10) (N := some 68) (v := ?_) (a' := ?_) #[true, true, true, true, true, true, true, true, true, true, true, false, false, false, false] rfl rfl (by kernel_rfl) (fun _ _ _ h => h) (Or.inl ⟨by rfl, ?_⟩) ?_ ?_
      rotate_left
      · intro w'
        go_simp
        with_reducible rfl
      rotate_left
      · simp only [Act.put, List.setIfInBounds_toArray, List.set_cons_zero, List.set_cons_succ, i64_w, i32_w]
        rfl
      refine take_ (i := 11) (N := some 69) (v := ?_) (a' := ?_) #[true, true, true, true, true, true, true, true, true, true, true, true, false, false, false] rfl rfl (by kernel_rfl) (fun _ _ _ h => h) (Or.inl ⟨by rfl, ?_⟩) hHeld ?_ ?_
      rotate_left
      · rintro w' ⟨s0, s1⟩
        go_simp
        with_reducible rfl
      rotate_left
      · simp only [Act.put, List.setIfInBounds_toArray, List.set_cons_zero, List.set_cons_succ, i64_w, i32_w]
        rfl
      refine one_ (i := 12) (N := some 70) #[true, true, true, true, true, true, true, true, true, true, true, true, true, false, false] rfl rfl (by kernel_rfl) (by decide) (fun K hK => ?_)
      refine goes_ Try.func26 (by kernel_rfl) rfl #[.slice (some ad) LE.length c1, .int .i64 at_, .int .i64 n, .int .i64 z] (by rfl) rfl rfl (by simp [Act.eval]) ?_
      refine (word_onward.calls 1048579 (some ad) c1 LE at_ n z _ _ (Kd.C_drew HKP.out) Hc1.out HON.out).mono ?_
      rintro e w4 ⟨rfl, ⟨nd, rfl⟩⟩
      refine ⟨_, rfl, ?_⟩
      refine hK.out _ _ ⟨hHeld.1, hHeld.2⟩ (fun hHeld => ?_)
      clear hK K
      refine norm_ (a' := ?_) ?_ ?_
      rotate_left
      · show Act.put _ (some 70) _ = _
        simp only [Act.put, List.setIfInBounds_toArray, List.set_cons_zero, List.set_cons_succ, i64_w, i32_w]
        rfl
      refine pure_ (i := 13) (N := some 71) (v := ?_) (a' := ?_) #[true, true, true, true, true, true, true, true, true, true, true, true, true, true, false] rfl rfl (by kernel_rfl) (fun _ _ _ h => h) (Or.inl ⟨by rfl, ?_⟩) ?_ ?_
      rotate_left
      · intro w'
        go_simp
        with_reducible rfl
      rotate_left
      · simp only [Act.put, List.setIfInBounds_toArray, List.set_cons_zero, List.set_cons_succ, i64_w, i32_w]
        rfl
      have hr1 := blk_drewN (blk_drew HRP.out) nd
      have hg := blk_drewN (blk_drew HGP.out) nd
      have hBx := pw_below_drewN (HBP.out.drew) nd
      generalize (W2.drew.drewN nd) = W3 at hr1 hg hBx ⊢
      have hg1 := blk_cell hg 1
      have hf1 := blk_frozen hg 1
      simp only [List.getElem?_toArray, List.getElem?_cons_zero, List.getElem?_cons_succ] at hg1
      have hg2 := blk_put hg 1 (.int .i64 (gto)) (cs' := #[.int .i64 at_, .int .i64 (gto), .int .i64 2]) rfl
      have hr2 := blk_far hr1 (p := ⟨w1.heap.size + 1, 1, none⟩) (by show w.heap.size ≠ w1.heap.size + 1; omega) (.int .i64 (gto))
      have hB2 := hBx.setCell (p := ⟨w1.heap.size + 1, 1, none⟩) (by show w.heap.size ≤ w1.heap.size + 1; omega) (.int .i64 (gto))
      clear hg
      refine last_ (i := 14) (N := none) #[true, true, true, true, true, true, true, true, true, true, true, true, true, true, true] rfl rfl (by kernel_rfl) (by decide) (fun K hK => ?_)
      refine skip_ (w1 := ?_) (by rfl) rfl ?_ ?_
      rotate_left
      · go_simp
        rfl
      refine hK.out _ _ ?_
      clear hK K
      refine done_ (by kernel_rfl) ?_
      go_wp2_with (first | (refine wpList_load_agg rfl 27 (.tmp 13) rfl ⟨w1.heap.size + 1, 0, none⟩ ?y22a [.int .i64 at_, .int .i64 gto, .int .i64 2] _ ?y22b Try.underlying27 rfl ?y22c ?y22d) | (refine wpList_store_agg rfl 27 (.tmp 10) (.tmp 99) rfl w.heap.size 0 ?y22e [.int .i64 at_, .int .i64 gto, .int .i64 2] ?y22f _ 27 hr2 ?y22h ?y22i ?y22j ?y22k))
      case y22a => rfl
      case y22b =>
        intro j v hj
        rw [add_plain', Nat.zero_add, blk_cell hg2]
        simpa using hj
      case y22c => kernel_rfl
      case y22h => exact Nat.le_refl _
      case y22i => simp [Value.oneCell']
      case y22j => kernel_rfl
      · skip
        have hW := putCells_block [.int .i64 at_, .int .i64 gto, .int .i64 2] (W3.setCell ⟨w1.heap.size + 1, 1, none⟩ (.int .i64 (gto))) w.heap.size 0 _ 27 hr2
        rw [splice_whole _ [.int .i64 at_, .int .i64 gto, .int .i64 2] (by rfl)] at hW
        refine bodyPost_ret (results_ct rfl _ _ w.heap.size 27 _ (0, 0) _ rfl hW Try.underlying27 rfl (by kernel_rfl)) rfl ⟨by rw [hres]; rfl, putCells_below _ _ _ _ _ _ (Nat.le_refl _) hB2⟩
end Go.Proofs.Ytghoeadmimgfnaa.Hand
