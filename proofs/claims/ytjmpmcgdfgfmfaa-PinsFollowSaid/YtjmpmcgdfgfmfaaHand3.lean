/- pins and its reference: Set, Get, None. No condition. -/
import Derived.Test.YtjmpmcgdfgfmfaaHand2
namespace Go.Proofs.Ytjmpmcgdfgfmfaa.Hand
open Go.RowKit Go.Proofs.Ytjmpmcgdfgfmfaa.Aggs Go.Proofs.YtjmpmcgdfgfmfaaW.PrintWords Go.Proofs.YtjmpmcgdfgfmfaaW.PrintLast Go.Proofs.YtjmpmcgdfgfmfaaW.PrintMore
set_option linter.unusedVariables false
set_option linter.unusedSimpArgs false

def setR (l : List Int) (c x : Int) : List Int × Int := match idx c with
  | none => ((List.replicate 27 (0 : Int)), 160)
  | some i => if x < 0 then ((List.replicate 27 (0 : Int)), 2) else (l.set i x, 0)
def getR (l : List Int) (c : Int) : Int × Int := match idx c with
  | none => (0, 160)
  | some i => if l[i]?.getD 0 < 0 then (0, 161) else (l[i]?.getD 0, 0)

set_option maxHeartbeats 1000000 in
set_option maxRecDepth 100000 in
theorem ref_set_calls (l : List Int) (hl : l.length = 27) (c x : Int) (h0 : 0 ≤ c) (h1 : c ≤ 255) (w : World) :
    Calls Try.prog 13 #[mv l, .int .u8 c, .int .i64 x] w fun e w' => e = .returned (.tuple #[mv (setR l c x).1, .int .i64 (setR l c x).2]) ∧ Below w.heap.size w w' := by
  cases hi : idx c with
  | none =>
    have e1 : setR l c x = ((List.replicate 27 (0 : Int)), 160) := by simp [setR, hi]
    have e2 : idxI c = -1 := by simp [idxI, hi]
    have HN := Aside0.mk (fun (W : World) => e2 ▸ name_calls c W h0 h1)
    rw [e1]
    clear e1 e2 hi h0 h1
    go_enter Try.func13, Try.ntmps13
    go_upto_region 1 with (fail)
    have hb1 := blk_alloc (blk_new w (Obj.cells (nums .i64 l).toArray 24)) (Obj.cells #[.int .i64 0, .int .i64 0, .int .i64 0, .int .i64 0, .int .i64 0, .int .i64 0, .int .i64 0, .int .i64 0, .int .i64 0, .int .i64 0, .int .i64 0, .int .i64 0, .int .i64 0, .int .i64 0, .int .i64 0, .int .i64 0, .int .i64 0, .int .i64 0, .int .i64 0, .int .i64 0, .int .i64 0, .int .i64 0, .int .i64 0, .int .i64 0, .int .i64 0, .int .i64 0, .int .i64 0] 24)
    have hb2 := heap_alloc2_new w (Obj.cells (nums .i64 l).toArray 24) (Obj.cells #[.int .i64 0, .int .i64 0, .int .i64 0, .int .i64 0, .int .i64 0, .int .i64 0, .int .i64 0, .int .i64 0, .int .i64 0, .int .i64 0, .int .i64 0, .int .i64 0, .int .i64 0, .int .i64 0, .int .i64 0, .int .i64 0, .int .i64 0, .int .i64 0, .int .i64 0, .int .i64 0, .int .i64 0, .int .i64 0, .int .i64 0, .int .i64 0, .int .i64 0, .int .i64 0, .int .i64 0] 24)
    have hb3 := (((Below.refl w.heap.size w).alloc (Nat.le_refl _) (Obj.cells (nums .i64 l).toArray 24)).alloc (by simp) (Obj.cells #[.int .i64 0, .int .i64 0, .int .i64 0, .int .i64 0, .int .i64 0, .int .i64 0, .int .i64 0, .int .i64 0, .int .i64 0, .int .i64 0, .int .i64 0, .int .i64 0, .int .i64 0, .int .i64 0, .int .i64 0, .int .i64 0, .int .i64 0, .int .i64 0, .int .i64 0, .int .i64 0, .int .i64 0, .int .i64 0, .int .i64 0, .int .i64 0, .int .i64 0, .int .i64 0, .int .i64 0] 24))
    generalize ((w.alloc (Obj.cells (nums .i64 l).toArray 24)).alloc (Obj.cells #[.int .i64 0, .int .i64 0, .int .i64 0, .int .i64 0, .int .i64 0, .int .i64 0, .int .i64 0, .int .i64 0, .int .i64 0, .int .i64 0, .int .i64 0, .int .i64 0, .int .i64 0, .int .i64 0, .int .i64 0, .int .i64 0, .int .i64 0, .int .i64 0, .int .i64 0, .int .i64 0, .int .i64 0, .int .i64 0, .int .i64 0, .int .i64 0, .int .i64 0, .int .i64 0, .int .i64 0] 24)) = W at hb1 hb2 hb3 ⊢
    have HB := Aside0.mk hb1
    have HR := Aside0.mk hb2
    have HW := Aside0.mk hb3
    clear hb1 hb2 hb3
    go_wp2_with fail
    refine (HN.out _).mono ?_
    rintro e w1 ⟨rfl, ⟨nd, rfl⟩⟩
    go_wp2_with (refine wpList_store_agg rfl 24 (.tmp 6) (.tmp 13) rfl (w.heap.size + 1) 0 ?z1e (nums .i64 (List.replicate 27 (0 : Int))) ?z1f _ 24 (blk_drewN HR.out nd) ?z1h (nums_one _) info24 ?z1k)
    case z1e => rfl
    case z1f => rfl
    case z1h => exact Nat.le_refl _
    · skip
      have hW := putCells_block (nums .i64 (List.replicate 27 (0 : Int))) _ (w.heap.size + 1) 0 _ 24 (blk_drewN HR.out nd)
      rw [splice_whole _ (nums .i64 (List.replicate 27 (0 : Int))) (by rfl)] at hW
      refine bodyPost_ret (results_ct rfl _ _ (w.heap.size + 1) 24 _ (0, 0) _ rfl hW Try.underlying24 rfl info24) rfl ⟨rfl, putCells_below _ _ _ _ _ _ (by omega) (pw_below_drewN HW.out nd)⟩
  | some i =>
    have hi26 := idx_le hi
    have e2 : idxI c = i := by simp [idxI, hi]
    have HN := Aside0.mk (fun (W : World) => e2 ▸ name_calls c W h0 h1)
    have h3 : (0 : Int) ≤ (i : Int) := by omega
    have h3b : decide ((i : Int) < 0) = false := decide_eq_false (by omega)
    by_cases hx : x < 0
    · have e1 : setR l c x = ((List.replicate 27 (0 : Int)), 2) := by simp [setR, hi, hx]
      have hxb : decide (x < 0) = true := decide_eq_true hx
      rw [e1]
      clear e1 e2 hi h0 h1 h3 hi26 hx
      go_enter Try.func13, Try.ntmps13
      go_upto_region 1 with (fail)
      have hb1 := blk_alloc (blk_new w (Obj.cells (nums .i64 l).toArray 24)) (Obj.cells #[.int .i64 0, .int .i64 0, .int .i64 0, .int .i64 0, .int .i64 0, .int .i64 0, .int .i64 0, .int .i64 0, .int .i64 0, .int .i64 0, .int .i64 0, .int .i64 0, .int .i64 0, .int .i64 0, .int .i64 0, .int .i64 0, .int .i64 0, .int .i64 0, .int .i64 0, .int .i64 0, .int .i64 0, .int .i64 0, .int .i64 0, .int .i64 0, .int .i64 0, .int .i64 0, .int .i64 0] 24)
      have hb2 := heap_alloc2_new w (Obj.cells (nums .i64 l).toArray 24) (Obj.cells #[.int .i64 0, .int .i64 0, .int .i64 0, .int .i64 0, .int .i64 0, .int .i64 0, .int .i64 0, .int .i64 0, .int .i64 0, .int .i64 0, .int .i64 0, .int .i64 0, .int .i64 0, .int .i64 0, .int .i64 0, .int .i64 0, .int .i64 0, .int .i64 0, .int .i64 0, .int .i64 0, .int .i64 0, .int .i64 0, .int .i64 0, .int .i64 0, .int .i64 0, .int .i64 0, .int .i64 0] 24)
      have hb3 := (((Below.refl w.heap.size w).alloc (Nat.le_refl _) (Obj.cells (nums .i64 l).toArray 24)).alloc (by simp) (Obj.cells #[.int .i64 0, .int .i64 0, .int .i64 0, .int .i64 0, .int .i64 0, .int .i64 0, .int .i64 0, .int .i64 0, .int .i64 0, .int .i64 0, .int .i64 0, .int .i64 0, .int .i64 0, .int .i64 0, .int .i64 0, .int .i64 0, .int .i64 0, .int .i64 0, .int .i64 0, .int .i64 0, .int .i64 0, .int .i64 0, .int .i64 0, .int .i64 0, .int .i64 0, .int .i64 0, .int .i64 0] 24))
      generalize ((w.alloc (Obj.cells (nums .i64 l).toArray 24)).alloc (Obj.cells #[.int .i64 0, .int .i64 0, .int .i64 0, .int .i64 0, .int .i64 0, .int .i64 0, .int .i64 0, .int .i64 0, .int .i64 0, .int .i64 0, .int .i64 0, .int .i64 0, .int .i64 0, .int .i64 0, .int .i64 0, .int .i64 0, .int .i64 0, .int .i64 0, .int .i64 0, .int .i64 0, .int .i64 0, .int .i64 0, .int .i64 0, .int .i64 0, .int .i64 0, .int .i64 0, .int .i64 0] 24)) = W at hb1 hb2 hb3 ⊢
      have HB := Aside0.mk hb1
      have HR := Aside0.mk hb2
      have HW := Aside0.mk hb3
      clear hb1 hb2 hb3
      go_wp2_with fail
      refine (HN.out _).mono ?_
      rintro e w1 ⟨rfl, ⟨nd, rfl⟩⟩
      go_wp2_with (refine wpList_store_agg rfl 24 (.tmp 6) (.tmp 16) rfl (w.heap.size + 1) 0 ?z2e (nums .i64 (List.replicate 27 (0 : Int))) ?z2f _ 24 (blk_drewN HR.out nd) ?z2h (nums_one _) info24 ?z2k)
      case z2e => rfl
      case z2f => rfl
      case z2h => exact Nat.le_refl _
      · skip
        have hW := putCells_block (nums .i64 (List.replicate 27 (0 : Int))) _ (w.heap.size + 1) 0 _ 24 (blk_drewN HR.out nd)
        rw [splice_whole _ (nums .i64 (List.replicate 27 (0 : Int))) (by rfl)] at hW
        refine bodyPost_ret (results_ct rfl _ _ (w.heap.size + 1) 24 _ (0, 0) _ rfl hW Try.underlying24 rfl info24) rfl ⟨rfl, putCells_below _ _ _ _ _ _ (by omega) (pw_below_drewN HW.out nd)⟩
    · have e1 : setR l c x = (l.set i x, 0) := by simp [setR, hi, hx]
      have hxb : decide (x < 0) = false := decide_eq_false hx
      have HL := Aside0.mk hl
      have HL2 := Aside0.mk (show (l.set i x).length = 27 by simpa using hl)
      rw [e1]
      clear e1 e2 hi h0 h1 hx hl
      go_enter Try.func13, Try.ntmps13
      go_upto_region 1 with (fail)
      have hb1 := blk_alloc (blk_new w (Obj.cells (nums .i64 l).toArray 24)) (Obj.cells #[.int .i64 0, .int .i64 0, .int .i64 0, .int .i64 0, .int .i64 0, .int .i64 0, .int .i64 0, .int .i64 0, .int .i64 0, .int .i64 0, .int .i64 0, .int .i64 0, .int .i64 0, .int .i64 0, .int .i64 0, .int .i64 0, .int .i64 0, .int .i64 0, .int .i64 0, .int .i64 0, .int .i64 0, .int .i64 0, .int .i64 0, .int .i64 0, .int .i64 0, .int .i64 0, .int .i64 0] 24)
      have hb2 := heap_alloc2_new w (Obj.cells (nums .i64 l).toArray 24) (Obj.cells #[.int .i64 0, .int .i64 0, .int .i64 0, .int .i64 0, .int .i64 0, .int .i64 0, .int .i64 0, .int .i64 0, .int .i64 0, .int .i64 0, .int .i64 0, .int .i64 0, .int .i64 0, .int .i64 0, .int .i64 0, .int .i64 0, .int .i64 0, .int .i64 0, .int .i64 0, .int .i64 0, .int .i64 0, .int .i64 0, .int .i64 0, .int .i64 0, .int .i64 0, .int .i64 0, .int .i64 0] 24)
      have hb3 := (((Below.refl w.heap.size w).alloc (Nat.le_refl _) (Obj.cells (nums .i64 l).toArray 24)).alloc (by simp) (Obj.cells #[.int .i64 0, .int .i64 0, .int .i64 0, .int .i64 0, .int .i64 0, .int .i64 0, .int .i64 0, .int .i64 0, .int .i64 0, .int .i64 0, .int .i64 0, .int .i64 0, .int .i64 0, .int .i64 0, .int .i64 0, .int .i64 0, .int .i64 0, .int .i64 0, .int .i64 0, .int .i64 0, .int .i64 0, .int .i64 0, .int .i64 0, .int .i64 0, .int .i64 0, .int .i64 0, .int .i64 0] 24))
      generalize ((w.alloc (Obj.cells (nums .i64 l).toArray 24)).alloc (Obj.cells #[.int .i64 0, .int .i64 0, .int .i64 0, .int .i64 0, .int .i64 0, .int .i64 0, .int .i64 0, .int .i64 0, .int .i64 0, .int .i64 0, .int .i64 0, .int .i64 0, .int .i64 0, .int .i64 0, .int .i64 0, .int .i64 0, .int .i64 0, .int .i64 0, .int .i64 0, .int .i64 0, .int .i64 0, .int .i64 0, .int .i64 0, .int .i64 0, .int .i64 0, .int .i64 0, .int .i64 0] 24)) = W at hb1 hb2 hb3 ⊢
      have HB := Aside0.mk hb1
      have HR := Aside0.mk hb2
      have HW := Aside0.mk hb3
      clear hb1 hb2 hb3
      go_wp2_with fail
      refine (HN.out _).mono ?_
      rintro e w1 ⟨rfl, ⟨nd, rfl⟩⟩
      go_wp2_with (refine wpList_load_agg rfl 24 (.tmp 3) rfl ⟨w.heap.size, 0, none⟩ ?s1 (nums .i64 l) _ ?s2 Try.underlying24 rfl ?s3 ?s4)
      case s1 => rfl
      case s2 =>
        intro j v hj
        rw [add_plain', Nat.zero_add, blk_cell (blk_drewN HB.out nd)]
        simpa using hj
      case s3 =>
        rw [nums_length, HL.out]
        exact info24
      refine (with_calls l HL.out i hi26 x _).mono ?_
      rintro e w2 ⟨rfl, hB2⟩
      have HR2 := Aside0.mk (blk_below (blk_drewN HR.out nd) hB2)
      have HW2 := Aside0.mk (below_step (pw_below_drewN HW.out nd) hB2)
      clear hB2
      go_wp2_with (refine wpList_store_agg rfl 24 (.tmp 6) (.tmp 20) rfl (w.heap.size + 1) 0 ?s5 (nums .i64 (l.set i x)) ?s6 _ 24 HR2.out ?s7 (nums_one _) ?s8 ?s9)
      case s5 => rfl
      case s6 => rfl
      case s7 => rw [nums_length, HL2.out]; exact Nat.le_refl _
      case s8 =>
        rw [nums_length, HL2.out]
        exact info24
      · skip
        have hW := putCells_block (nums .i64 (l.set i x)) w2 (w.heap.size + 1) 0 _ 24 HR2.out
        rw [splice_whole _ (nums .i64 (l.set i x)) (by rw [nums_length, HL2.out]; rfl)] at hW
        refine bodyPost_ret (results_ct rfl _ _ (w.heap.size + 1) 24 _ (0, 0) _ rfl hW Try.underlying24 rfl ?_) rfl ⟨rfl, putCells_below _ _ _ _ _ _ (by omega) HW2.out⟩
        rw [List.size_toArray, nums_length, HL2.out]
        exact info24

end Go.Proofs.Ytjmpmcgdfgfmfaa.Hand
