/- pins and its reference: Get, None, Set. No condition. -/
import Derived.Test.YtjmpmcgdfgfmfaaHand3
namespace Go.Proofs.Ytjmpmcgdfgfmfaa.Hand
open Go.RowKit Go.Proofs.Ytjmpmcgdfgfmfaa.Aggs Go.Proofs.YtjmpmcgdfgfmfaaW.PrintWords Go.Proofs.YtjmpmcgdfgfmfaaW.PrintLast Go.Proofs.YtjmpmcgdfgfmfaaW.PrintMore
set_option linter.unusedVariables false
set_option linter.unusedSimpArgs false

set_option maxHeartbeats 1000000 in
set_option maxRecDepth 100000 in
theorem ref_get_calls (l : List Int) (hl : l.length = 27) (c : Int) (h0 : 0 ≤ c) (h1 : c ≤ 255) (w : World) :
    Calls Try.prog 15 #[mv l, .int .u8 c] w fun e w' => e = .returned (.tuple #[.int .i64 (getR l c).1, .int .i64 (getR l c).2]) ∧ Below w.heap.size w w' := by
  cases hi : idx c with
  | none =>
    have e1 : getR l c = (0, 160) := by simp [getR, hi]
    have e2 : idxI c = -1 := by simp [idxI, hi]
    have HN := Aside0.mk (fun (W : World) => e2 ▸ name_calls c W h0 h1)
    rw [e1]
    clear e1 e2 hi h0 h1
    go_enter Try.func15, Try.ntmps15
    go_upto_region 1 with (fail)
    have hb1 := blk_new w (Obj.cells (nums .i64 l).toArray 24)
    have hb3 := (Below.refl w.heap.size w).alloc (Nat.le_refl _) (Obj.cells (nums .i64 l).toArray 24)
    generalize (w.alloc (Obj.cells (nums .i64 l).toArray 24)) = W at hb1 hb3 ⊢
    have HB := Aside0.mk hb1
    have HW := Aside0.mk hb3
    clear hb1 hb3
    go_wp2_with fail
    refine (HN.out _).mono ?_
    rintro e w1 ⟨rfl, ⟨nd, rfl⟩⟩
    go_wp2
    go_ret2
    exact ⟨rfl, pw_below_drewN HW.out nd⟩
  | some i =>
    have hi26 := idx_le hi
    have e2 : idxI c = i := by simp [idxI, hi]
    have HN := Aside0.mk (fun (W : World) => e2 ▸ name_calls c W h0 h1)
    have h3b : decide ((i : Int) < 0) = false := decide_eq_false (by omega)
    have HL := Aside0.mk hl
    have HI := Aside0.mk hi26
    have hg : getR l c = if l[i]?.getD 0 < 0 then (0, 161) else (l[i]?.getD 0, 0) := by simp [getR, hi]
    rw [hg]
    clear e2 hi h0 h1 hl hi26 hg
    by_cases hx : l[i]?.getD 0 < 0
    · rw [if_pos hx]; have hxb : decide (l[i]?.getD 0 < 0) = true := decide_eq_true hx; clear hx
      go_enter Try.func15, Try.ntmps15
      go_upto_region 1 with (fail)
      have hb1 := blk_new w (Obj.cells (nums .i64 l).toArray 24)
      have hb3 := (Below.refl w.heap.size w).alloc (Nat.le_refl _) (Obj.cells (nums .i64 l).toArray 24)
      generalize (w.alloc (Obj.cells (nums .i64 l).toArray 24)) = W at hb1 hb3 ⊢
      have HB := Aside0.mk hb1
      have HW := Aside0.mk hb3
      clear hb1 hb3
      go_wp2_with fail
      refine (HN.out _).mono ?_
      rintro e w1 ⟨rfl, ⟨nd, rfl⟩⟩
      go_wp2_with (refine wpList_load_agg rfl 24 (.tmp 2) rfl ⟨w.heap.size, 0, none⟩ ?sa1 (nums .i64 l) _ ?sa2 Try.underlying24 rfl ?sa3 ?sa4)
      case sa1 => rfl
      case sa2 =>
        intro j v hj
        rw [add_plain', Nat.zero_add, blk_cell (blk_drewN HB.out nd)]
        simpa using hj
      case sa3 =>
        rw [nums_length, HL.out]
        exact info24
      refine (at_calls l HL.out i HI.out _).mono ?_
      rintro e w2 ⟨rfl, hB2⟩
      have HW2 := Aside0.mk (below_step (pw_below_drewN HW.out nd) hB2)
      clear hB2
      go_wp2
      go_ret2
      exact ⟨rfl, HW2.out⟩
    · rw [if_neg hx]; have hxb : decide (l[i]?.getD 0 < 0) = false := decide_eq_false hx; clear hx
      go_enter Try.func15, Try.ntmps15
      go_upto_region 1 with (fail)
      have hb1 := blk_new w (Obj.cells (nums .i64 l).toArray 24)
      have hb3 := (Below.refl w.heap.size w).alloc (Nat.le_refl _) (Obj.cells (nums .i64 l).toArray 24)
      generalize (w.alloc (Obj.cells (nums .i64 l).toArray 24)) = W at hb1 hb3 ⊢
      have HB := Aside0.mk hb1
      have HW := Aside0.mk hb3
      clear hb1 hb3
      go_wp2_with fail
      refine (HN.out _).mono ?_
      rintro e w1 ⟨rfl, ⟨nd, rfl⟩⟩
      go_wp2_with (refine wpList_load_agg rfl 24 (.tmp 2) rfl ⟨w.heap.size, 0, none⟩ ?sb1 (nums .i64 l) _ ?sb2 Try.underlying24 rfl ?sb3 ?sb4)
      case sb1 => rfl
      case sb2 =>
        intro j v hj
        rw [add_plain', Nat.zero_add, blk_cell (blk_drewN HB.out nd)]
        simpa using hj
      case sb3 =>
        rw [nums_length, HL.out]
        exact info24
      refine (at_calls l HL.out i HI.out _).mono ?_
      rintro e w2 ⟨rfl, hB2⟩
      have HW2 := Aside0.mk (below_step (pw_below_drewN HW.out nd) hB2)
      clear hB2
      go_wp2
      go_ret2
      exact ⟨rfl, HW2.out⟩

set_option maxHeartbeats 1000000 in
set_option maxRecDepth 100000 in
theorem get_calls (l : List Int) (hl : l.length = 27) (c : Int) (h0 : 0 ≤ c) (h1 : c ≤ 255) (w : World) :
    Calls Try.prog 16 #[mv l, .int .u8 c] w fun e w' => e = .returned (.tuple #[.int .i64 (getR l c).1, .int .i64 (getR l c).2]) ∧ Below w.heap.size w w' := by
  cases hi : idx c with
  | none =>
    have e1 : getR l c = (0, 160) := by simp [getR, hi]
    have e2 : slotV w.heap.size c = none := by simp [slotV, hi]
    have HN := Aside0.mk (fun (W : World) => e2 ▸ slot_calls w.heap.size c W h0 h1)
    rw [e1]
    clear e1 e2 hi h0 h1
    go_enter Try.func16, Try.ntmps16
    go_upto_region 1 with (fail)
    have hb1 := blk_new w (Obj.cells (nums .i64 l).toArray 24)
    have hb3 := (Below.refl w.heap.size w).alloc (Nat.le_refl _) (Obj.cells (nums .i64 l).toArray 24)
    generalize (w.alloc (Obj.cells (nums .i64 l).toArray 24)) = W at hb1 hb3 ⊢
    have HB := Aside0.mk hb1
    have HW := Aside0.mk hb3
    clear hb1 hb3
    go_wp2_with fail
    refine (HN.out _).mono ?_
    rintro e w1 ⟨rfl, ⟨nd, rfl⟩⟩
    go_wp2
    go_ret2
    exact ⟨rfl, pw_below_drewN HW.out nd⟩
  | some i =>
    have hi26 := idx_le hi
    have e2 : slotV w.heap.size c = some ⟨w.heap.size, i, none⟩ := by simp [slotV, hi]
    have HN := Aside0.mk (fun (W : World) => e2 ▸ slot_calls w.heap.size c W h0 h1)
    have hg : getR l c = if l[i]?.getD 0 < 0 then (0, 161) else (l[i]?.getD 0, 0) := by simp [getR, hi]
    have hn := Aside0.mk (nums_get l i (by omega))
    rw [hg]
    clear e2 hi h0 h1 hl hi26 hg
    by_cases hz : l[i]?.getD 0 < 0
    · rw [if_pos hz]; have hxb : decide (l[i]?.getD 0 < 0) = true := decide_eq_true hz; clear hz
      go_enter Try.func16, Try.ntmps16
      go_upto_region 1 with (fail)
      have hb1 := blk_new w (Obj.cells (nums .i64 l).toArray 24)
      have hb3 := (Below.refl w.heap.size w).alloc (Nat.le_refl _) (Obj.cells (nums .i64 l).toArray 24)
      generalize (w.alloc (Obj.cells (nums .i64 l).toArray 24)) = W at hb1 hb3 ⊢
      have HB := Aside0.mk hb1
      have HW := Aside0.mk hb3
      clear hb1 hb3
      have hx : W.cell? ⟨w.heap.size, i, none⟩ = some (.int .i64 (l[i]?.getD 0)) := (blk_cell HB.out i).trans hn.out
      go_wp2_with fail
      refine (HN.out _).mono ?_
      rintro e w1 ⟨rfl, ⟨nd, rfl⟩⟩
      go_wp2
      go_ret2
      exact ⟨rfl, pw_below_drewN HW.out nd⟩
    · rw [if_neg hz]; have hxb : decide (l[i]?.getD 0 < 0) = false := decide_eq_false hz; clear hz
      go_enter Try.func16, Try.ntmps16
      go_upto_region 1 with (fail)
      have hb1 := blk_new w (Obj.cells (nums .i64 l).toArray 24)
      have hb3 := (Below.refl w.heap.size w).alloc (Nat.le_refl _) (Obj.cells (nums .i64 l).toArray 24)
      generalize (w.alloc (Obj.cells (nums .i64 l).toArray 24)) = W at hb1 hb3 ⊢
      have HB := Aside0.mk hb1
      have HW := Aside0.mk hb3
      clear hb1 hb3
      have hx : W.cell? ⟨w.heap.size, i, none⟩ = some (.int .i64 (l[i]?.getD 0)) := (blk_cell HB.out i).trans hn.out
      go_wp2_with fail
      refine (HN.out _).mono ?_
      rintro e w1 ⟨rfl, ⟨nd, rfl⟩⟩
      go_wp2
      go_ret2
      exact ⟨rfl, pw_below_drewN HW.out nd⟩

set_option maxHeartbeats 1000000 in
set_option maxRecDepth 100000 in
theorem set_calls (l : List Int) (hl : l.length = 27) (c x : Int) (h0 : 0 ≤ c) (h1 : c ≤ 255) (w : World) :
    Calls Try.prog 14 #[mv l, .int .u8 c, .int .i64 x] w fun e w' => e = .returned (.tuple #[mv (setR l c x).1, .int .i64 (setR l c x).2]) ∧ Below w.heap.size w w' := by
  cases hi : idx c with
  | none =>
    have e1 : setR l c x = ((List.replicate 27 (0 : Int)), 160) := by simp [setR, hi]
    have e2 : slotV w.heap.size c = none := by simp [slotV, hi]
    have HN := Aside0.mk (fun (W : World) => e2 ▸ slot_calls w.heap.size c W h0 h1)
    rw [e1]
    clear e1 e2 hi h0 h1
    go_enter Try.func14, Try.ntmps14
    go_upto_region 1 with (fail)
    have hb1 := blk_alloc (blk_new w (Obj.cells (nums .i64 l).toArray 24)) (Obj.cells #[.int .i64 0, .int .i64 0, .int .i64 0, .int .i64 0, .int .i64 0, .int .i64 0, .int .i64 0, .int .i64 0, .int .i64 0, .int .i64 0, .int .i64 0, .int .i64 0, .int .i64 0, .int .i64 0, .int .i64 0, .int .i64 0, .int .i64 0, .int .i64 0, .int .i64 0, .int .i64 0, .int .i64 0, .int .i64 0, .int .i64 0, .int .i64 0, .int .i64 0, .int .i64 0, .int .i64 0] 24)
    have hb2 := heap_alloc2_new w (Obj.cells (nums .i64 l).toArray 24) (Obj.cells #[.int .i64 0, .int .i64 0, .int .i64 0, .int .i64 0, .int .i64 0, .int .i64 0, .int .i64 0, .int .i64 0, .int .i64 0, .int .i64 0, .int .i64 0, .int .i64 0, .int .i64 0, .int .i64 0, .int .i64 0, .int .i64 0, .int .i64 0, .int .i64 0, .int .i64 0, .int .i64 0, .int .i64 0, .int .i64 0, .int .i64 0, .int .i64 0, .int .i64 0, .int .i64 0, .int .i64 0] 24)
    have hb3 := (((Below.refl w.heap.size w).alloc (Nat.le_refl _) (Obj.cells (nums .i64 l).toArray 24)).alloc (by simp) (Obj.cells #[.int .i64 0, .int .i64 0, .int .i64 0, .int .i64 0, .int .i64 0, .int .i64 0, .int .i64 0, .int .i64 0, .int .i64 0, .int .i64 0, .int .i64 0, .int .i64 0, .int .i64 0, .int .i64 0, .int .i64 0, .int .i64 0, .int .i64 0, .int .i64 0, .int .i64 0, .int .i64 0, .int .i64 0, .int .i64 0, .int .i64 0, .int .i64 0, .int .i64 0, .int .i64 0, .int .i64 0] 24))
    generalize ((w.alloc (Obj.cells (nums .i64 l).toArray 24)).alloc (Obj.cells #[.int .i64 0, .int .i64 0, .int .i64 0, .int .i64 0, .int .i64 0, .int .i64 0, .int .i64 0, .int .i64 0, .int .i64 0, .int .i64 0, .int .i64 0, .int .i64 0, .int .i64 0, .int .i64 0, .int .i64 0, .int .i64 0, .int .i64 0, .int .i64 0, .int .i64 0, .int .i64 0, .int .i64 0, .int .i64 0, .int .i64 0, .int .i64 0, .int .i64 0, .int .i64 0, .int .i64 0] 24)) = W at hb1 hb2 hb3 ⊢
    have HB := Aside0.mk hb1
    have HR := Aside0.mk hb2
    have HW := Aside0.mk hb3
    clear hb1 hb2 hb3
    go_wp2_with fail
    refine (HN.out _).mono ?_
    rintro e w1 ⟨rfl, ⟨nd, rfl⟩⟩
    go_wp2_with (refine wpList_store_agg rfl 24 (.tmp 6) (.tmp 14) rfl (w.heap.size + 1) 0 ?z1e (nums .i64 (List.replicate 27 (0 : Int))) ?z1f _ 24 (blk_drewN HR.out nd) ?z1h (nums_one _) info24 ?z1k)
    case z1e => rfl
    case z1f => rfl
    case z1h => exact Nat.le_refl _
    · skip
      have hW := putCells_block (nums .i64 (List.replicate 27 (0 : Int))) _ (w.heap.size + 1) 0 _ 24 (blk_drewN HR.out nd)
      rw [splice_whole _ (nums .i64 (List.replicate 27 (0 : Int))) (by rfl)] at hW
      refine bodyPost_ret (results_ct rfl _ _ (w.heap.size + 1) 24 _ (0, 0) _ rfl hW Try.underlying24 rfl info24) rfl ⟨rfl, putCells_below _ _ _ _ _ _ (by omega) (pw_below_drewN HW.out nd)⟩
  | some i =>
    have hi26 := idx_le hi
    have e2 : slotV w.heap.size c = some ⟨w.heap.size, i, none⟩ := by simp [slotV, hi]
    have HN := Aside0.mk (fun (W : World) => e2 ▸ slot_calls w.heap.size c W h0 h1)
    by_cases hz : x < 0
    · have e1 : setR l c x = ((List.replicate 27 (0 : Int)), 2) := by simp [setR, hi, hz]
      have hxb : decide (x < 0) = true := decide_eq_true hz
      rw [e1]
      clear e1 e2 hi h0 h1 hi26 hz
      go_enter Try.func14, Try.ntmps14
      go_upto_region 1 with (fail)
      have hb1 := blk_alloc (blk_new w (Obj.cells (nums .i64 l).toArray 24)) (Obj.cells #[.int .i64 0, .int .i64 0, .int .i64 0, .int .i64 0, .int .i64 0, .int .i64 0, .int .i64 0, .int .i64 0, .int .i64 0, .int .i64 0, .int .i64 0, .int .i64 0, .int .i64 0, .int .i64 0, .int .i64 0, .int .i64 0, .int .i64 0, .int .i64 0, .int .i64 0, .int .i64 0, .int .i64 0, .int .i64 0, .int .i64 0, .int .i64 0, .int .i64 0, .int .i64 0, .int .i64 0] 24)
      have hb2 := heap_alloc2_new w (Obj.cells (nums .i64 l).toArray 24) (Obj.cells #[.int .i64 0, .int .i64 0, .int .i64 0, .int .i64 0, .int .i64 0, .int .i64 0, .int .i64 0, .int .i64 0, .int .i64 0, .int .i64 0, .int .i64 0, .int .i64 0, .int .i64 0, .int .i64 0, .int .i64 0, .int .i64 0, .int .i64 0, .int .i64 0, .int .i64 0, .int .i64 0, .int .i64 0, .int .i64 0, .int .i64 0, .int .i64 0, .int .i64 0, .int .i64 0, .int .i64 0] 24)
      have hb3 := (((Below.refl w.heap.size w).alloc (Nat.le_refl _) (Obj.cells (nums .i64 l).toArray 24)).alloc (by simp) (Obj.cells #[.int .i64 0, .int .i64 0, .int .i64 0, .int .i64 0, .int .i64 0, .int .i64 0, .int .i64 0, .int .i64 0, .int .i64 0, .int .i64 0, .int .i64 0, .int .i64 0, .int .i64 0, .int .i64 0, .int .i64 0, .int .i64 0, .int .i64 0, .int .i64 0, .int .i64 0, .int .i64 0, .int .i64 0, .int .i64 0, .int .i64 0, .int .i64 0, .int .i64 0, .int .i64 0, .int .i64 0] 24))
      generalize ((w.alloc (Obj.cells (nums .i64 l).toArray 24)).alloc (Obj.cells #[.int .i64 0, .int .i64 0, .int .i64 0, .int .i64 0, .int .i64 0, .int .i64 0, .int .i64 0, .int .i64 0, .int .i64 0, .int .i64 0, .int .i64 0, .int .i64 0, .int .i64 0, .int .i64 0, .int .i64 0, .int .i64 0, .int .i64 0, .int .i64 0, .int .i64 0, .int .i64 0, .int .i64 0, .int .i64 0, .int .i64 0, .int .i64 0, .int .i64 0, .int .i64 0, .int .i64 0] 24)) = W at hb1 hb2 hb3 ⊢
      have HB := Aside0.mk hb1
      have HR := Aside0.mk hb2
      have HW := Aside0.mk hb3
      clear hb1 hb2 hb3
      go_wp2_with fail
      refine (HN.out _).mono ?_
      rintro e w1 ⟨rfl, ⟨nd, rfl⟩⟩
      go_wp2_with (refine wpList_store_agg rfl 24 (.tmp 6) (.tmp 18) rfl (w.heap.size + 1) 0 ?z2e (nums .i64 (List.replicate 27 (0 : Int))) ?z2f _ 24 (blk_drewN HR.out nd) ?z2h (nums_one _) info24 ?z2k)
      case z2e => rfl
      case z2f => rfl
      case z2h => exact Nat.le_refl _
      · skip
        have hW := putCells_block (nums .i64 (List.replicate 27 (0 : Int))) _ (w.heap.size + 1) 0 _ 24 (blk_drewN HR.out nd)
        rw [splice_whole _ (nums .i64 (List.replicate 27 (0 : Int))) (by rfl)] at hW
        refine bodyPost_ret (results_ct rfl _ _ (w.heap.size + 1) 24 _ (0, 0) _ rfl hW Try.underlying24 rfl info24) rfl ⟨rfl, putCells_below _ _ _ _ _ _ (by omega) (pw_below_drewN HW.out nd)⟩
    · have e1 : setR l c x = (l.set i x, 0) := by simp [setR, hi, hz]
      have hxb : decide (x < 0) = false := decide_eq_false hz
      have HL := Aside0.mk (show (l.set i x).length = 27 by simpa using hl)
      have hn := Aside0.mk (nums_get l i (by omega))
      rw [e1]
      clear e1 e2 hi h0 h1 hz hl hi26
      go_enter Try.func14, Try.ntmps14
      go_upto_region 1 with (fail)
      have hb1 := blk_alloc (blk_new w (Obj.cells (nums .i64 l).toArray 24)) (Obj.cells #[.int .i64 0, .int .i64 0, .int .i64 0, .int .i64 0, .int .i64 0, .int .i64 0, .int .i64 0, .int .i64 0, .int .i64 0, .int .i64 0, .int .i64 0, .int .i64 0, .int .i64 0, .int .i64 0, .int .i64 0, .int .i64 0, .int .i64 0, .int .i64 0, .int .i64 0, .int .i64 0, .int .i64 0, .int .i64 0, .int .i64 0, .int .i64 0, .int .i64 0, .int .i64 0, .int .i64 0] 24)
      have hb2 := heap_alloc2_new w (Obj.cells (nums .i64 l).toArray 24) (Obj.cells #[.int .i64 0, .int .i64 0, .int .i64 0, .int .i64 0, .int .i64 0, .int .i64 0, .int .i64 0, .int .i64 0, .int .i64 0, .int .i64 0, .int .i64 0, .int .i64 0, .int .i64 0, .int .i64 0, .int .i64 0, .int .i64 0, .int .i64 0, .int .i64 0, .int .i64 0, .int .i64 0, .int .i64 0, .int .i64 0, .int .i64 0, .int .i64 0, .int .i64 0, .int .i64 0, .int .i64 0] 24)
      have hb3 := (((Below.refl w.heap.size w).alloc (Nat.le_refl _) (Obj.cells (nums .i64 l).toArray 24)).alloc (by simp) (Obj.cells #[.int .i64 0, .int .i64 0, .int .i64 0, .int .i64 0, .int .i64 0, .int .i64 0, .int .i64 0, .int .i64 0, .int .i64 0, .int .i64 0, .int .i64 0, .int .i64 0, .int .i64 0, .int .i64 0, .int .i64 0, .int .i64 0, .int .i64 0, .int .i64 0, .int .i64 0, .int .i64 0, .int .i64 0, .int .i64 0, .int .i64 0, .int .i64 0, .int .i64 0, .int .i64 0, .int .i64 0] 24))
      generalize ((w.alloc (Obj.cells (nums .i64 l).toArray 24)).alloc (Obj.cells #[.int .i64 0, .int .i64 0, .int .i64 0, .int .i64 0, .int .i64 0, .int .i64 0, .int .i64 0, .int .i64 0, .int .i64 0, .int .i64 0, .int .i64 0, .int .i64 0, .int .i64 0, .int .i64 0, .int .i64 0, .int .i64 0, .int .i64 0, .int .i64 0, .int .i64 0, .int .i64 0, .int .i64 0, .int .i64 0, .int .i64 0, .int .i64 0, .int .i64 0, .int .i64 0, .int .i64 0] 24)) = W at hb1 hb2 hb3 ⊢
      have HB := Aside0.mk hb1
      have HR := Aside0.mk hb2
      have HW := Aside0.mk hb3
      clear hb1 hb2 hb3
      go_wp2_with fail
      refine (HN.out _).mono ?_
      rintro e w1 ⟨rfl, ⟨nd, rfl⟩⟩
      generalize hW1 : W.drewN nd = W1
      have hb1 : W1.heap[w.heap.size]? = some (.cells (nums .i64 l).toArray 24 (0, 0)) := by rw [← hW1]; exact blk_drewN HB.out nd
      have hb2 : W1.heap[w.heap.size + 1]? = some (Obj.cells #[.int .i64 0, .int .i64 0, .int .i64 0, .int .i64 0, .int .i64 0, .int .i64 0, .int .i64 0, .int .i64 0, .int .i64 0, .int .i64 0, .int .i64 0, .int .i64 0, .int .i64 0, .int .i64 0, .int .i64 0, .int .i64 0, .int .i64 0, .int .i64 0, .int .i64 0, .int .i64 0, .int .i64 0, .int .i64 0, .int .i64 0, .int .i64 0, .int .i64 0, .int .i64 0, .int .i64 0] 24 (0, 0)) := by rw [← hW1]; exact blk_drewN HR.out nd
      have hb3 : Below w.heap.size w W1 := by rw [← hW1]; exact pw_below_drewN HW.out nd
      have hx : W1.cell? ⟨w.heap.size, i, none⟩ = some (.int .i64 (l[i]?.getD 0)) := (blk_cell hb1 i).trans hn.out
      have hf := blk_frozen hb1 i
      have HB1 := Aside0.mk (blk_put hb1 i _ (nums_put l i x))
      have HR1 := Aside0.mk (blk_far hb2 (show w.heap.size + 1 ≠ (⟨w.heap.size, i, none⟩ : Addr).block by simp) (.int .i64 x))
      have HW1 := Aside0.mk (hb3.setCell (p := ⟨w.heap.size, i, none⟩) (Nat.le_refl _) (.int .i64 x))
      clear hb1 hb2 hb3 hW1 HB HR HW HN
      go_wp2_with (first | (refine wpList_load_agg rfl 24 (.tmp 3) rfl ⟨w.heap.size, 0, none⟩ ?z3a (nums .i64 (l.set i x)) _ ?z3b Try.underlying24 rfl ?z3c ?z3d) | (refine wpList_store_agg rfl 24 (.tmp 6) (.tmp 22) rfl (w.heap.size + 1) 0 ?z3e (nums .i64 (l.set i x)) ?z3f _ 24 (HR1.out) ?z3h ?z3i ?z3j ?z3k))
      case z3a => rfl
      case z3b =>
        intro j v hj
        rw [add_plain', Nat.zero_add, blk_cell HB1.out]
        simpa using hj
      case z3c =>
        rw [nums_length, HL.out]
        exact info24
      case z3h => rw [nums_length, HL.out]; exact Nat.le_refl _
      case z3i => exact nums_one _
      case z3j =>
        rw [nums_length, HL.out]
        exact info24
      · skip
        have hW := putCells_block (nums .i64 (l.set i x)) _ (w.heap.size + 1) 0 _ 24 HR1.out
        rw [splice_whole _ _ (by rw [nums_length, HL.out]; rfl)] at hW
        refine bodyPost_ret (results_ct rfl _ _ (w.heap.size + 1) 24 _ (0, 0) _ rfl hW Try.underlying24 rfl ?_) rfl ⟨rfl, putCells_below _ _ _ _ _ _ (by omega) HW1.out⟩
        · rw [List.size_toArray, nums_length, HL.out]
          exact info24

end Go.Proofs.Ytjmpmcgdfgfmfaa.Hand
