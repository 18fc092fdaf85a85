/- pins' reference: Clip. No condition. -/
import Derived.Test.YtjmpmcgdfgfmfaaHand7
namespace Go.Proofs.Ytjmpmcgdfgfmfaa.Hand
open Go.RowKit Go.Proofs.Ytjmpmcgdfgfmfaa.Aggs Go.Proofs.YtjmpmcgdfgfmfaaW.PrintWords Go.Proofs.YtjmpmcgdfgfmfaaW.PrintLast Go.Proofs.YtjmpmcgdfgfmfaaW.PrintMore
theorem max2_mx (k k' : IntKind) (x y : Int) : Builtin.max2 (.int k x) (.int k' y) = pure (.int k (mx x y)) := max2_int k k' x y
theorem min2_mn (k k' : IntKind) (x y : Int) : Builtin.min2 (.int k x) (.int k' y) = pure (.int k (mn x y)) := min2_int k k' x y
attribute [local go_sem] max2_mx min2_mn max_two min_two
set_option linter.unusedVariables false
set_option linter.unusedSimpArgs false

theorem clip_ref (s y : Int) : mn (mx y (-1)) (mx s 0) = clipI s y := by
  unfold clipI mn mx
  split <;> split <;> (try split) <;> omega
/-- the first i brought in -/
def clipped (s : Int) (l : List Int) (i : Nat) : List Int := (l.take i).map (clipI s) ++ l.drop i
theorem clipped_len (s : Int) (l : List Int) (i : Nat) (hl : l.length = 27) (hi : i ≤ 27) : (clipped s l i).length = 27 := by simp [clipped, hl]; omega
theorem clipped_get (s : Int) (l : List Int) (i : Nat) (hl : l.length = 27) (hi : i < 27) : (clipped s l i)[i]?.getD 0 = l[i]?.getD 0 := by
  unfold clipped
  rw [List.getElem?_append_right (by simp; omega)]
  simp
  rw [show i - min i l.length = 0 by omega]
  simp
theorem clipped_succ (s : Int) (l : List Int) (i : Nat) (hl : l.length = 27) (hi : i < 27) : (clipped s l i).set i (clipI s (l[i]?.getD 0)) = clipped s l (i + 1) := by
  apply List.ext_getElem?
  intro j
  have hli : i < l.length := by omega
  unfold clipped
  by_cases hj : j = i
  · subst hj
    rw [List.getElem?_set_self (by simp; omega), List.getElem?_append_left (by simp; omega)]
    simp [List.getElem?_eq_getElem hli, List.getElem?_take]
  · rw [List.getElem?_set_ne (Ne.symm hj)]
    by_cases hlt : j < i
    · rw [List.getElem?_append_left (by simp; omega), List.getElem?_append_left (by simp; omega)]
      simp [List.getElem?_take, hlt, show j < i + 1 by omega]
    · rw [List.getElem?_append_right (by simp; omega), List.getElem?_append_right (by simp; omega)]
      simp only [List.getElem?_drop, List.length_map, List.length_take]
      congr 1
      omega
theorem clipped_zero (s : Int) (l : List Int) : clipped s l 0 = l := by simp [clipped]
theorem clipped_all (s : Int) (l : List Int) (hl : l.length = 27) : clipped s l 27 = l.map (clipI s) := by
  unfold clipped
  rw [List.take_of_length_le (by omega), List.drop_of_length_le (by omega), List.append_nil]

set_option maxHeartbeats 1000000 in
set_option maxRecDepth 100000 in
theorem ref_clip_core (l : List Int) (s : Int) (F : Nat → List Int) (f : Int → Int) (h0 : F 0 = l) (hlen : ∀ i, i ≤ 27 → (F i).length = 27) (hget : ∀ i, i < 27 → (F i)[i]?.getD 0 = l[i]?.getD 0) (hset : ∀ i, i < 27 → (F i).set i (f (l[i]?.getD 0)) = F (i + 1))
    (hf : ∀ y, mn (mx y (-1)) (mx s 0) = f y) (w : World) :
    Calls Try.prog 28 #[mv l, .int .i64 s] w fun e w' => e = .returned (mv (F 27)) ∧ Below w.heap.size w w' := by
  have HLN := Aside0.mk hlen
  have HG := Aside0.mk hget
  have HS := Aside0.mk hset
  have HF := Aside0.mk hf
  have H0 := Aside0.mk h0
  clear hlen hget hset hf h0
  go_enter Try.func28, Try.ntmps28
  go_upto_region 1 with (fail)
  have hb1 := blk_alloc (blk_new w (Obj.cells (nums .i64 l).toArray 24)) (Obj.cells #[.int .i64 0, .int .i64 0, .int .i64 0, .int .i64 0, .int .i64 0, .int .i64 0, .int .i64 0, .int .i64 0, .int .i64 0, .int .i64 0, .int .i64 0, .int .i64 0, .int .i64 0, .int .i64 0, .int .i64 0, .int .i64 0, .int .i64 0, .int .i64 0, .int .i64 0, .int .i64 0, .int .i64 0, .int .i64 0, .int .i64 0, .int .i64 0, .int .i64 0, .int .i64 0, .int .i64 0] 24)
  have hb2 := heap_alloc2_new w (Obj.cells (nums .i64 l).toArray 24) (Obj.cells #[.int .i64 0, .int .i64 0, .int .i64 0, .int .i64 0, .int .i64 0, .int .i64 0, .int .i64 0, .int .i64 0, .int .i64 0, .int .i64 0, .int .i64 0, .int .i64 0, .int .i64 0, .int .i64 0, .int .i64 0, .int .i64 0, .int .i64 0, .int .i64 0, .int .i64 0, .int .i64 0, .int .i64 0, .int .i64 0, .int .i64 0, .int .i64 0, .int .i64 0, .int .i64 0, .int .i64 0] 24)
  have hb3 := (((Below.refl w.heap.size w).alloc (Nat.le_refl _) (Obj.cells (nums .i64 l).toArray 24)).alloc (by simp) (Obj.cells #[.int .i64 0, .int .i64 0, .int .i64 0, .int .i64 0, .int .i64 0, .int .i64 0, .int .i64 0, .int .i64 0, .int .i64 0, .int .i64 0, .int .i64 0, .int .i64 0, .int .i64 0, .int .i64 0, .int .i64 0, .int .i64 0, .int .i64 0, .int .i64 0, .int .i64 0, .int .i64 0, .int .i64 0, .int .i64 0, .int .i64 0, .int .i64 0, .int .i64 0, .int .i64 0, .int .i64 0] 24))
  generalize ((w.alloc (Obj.cells (nums .i64 l).toArray 24)).alloc (Obj.cells #[.int .i64 0, .int .i64 0, .int .i64 0, .int .i64 0, .int .i64 0, .int .i64 0, .int .i64 0, .int .i64 0, .int .i64 0, .int .i64 0, .int .i64 0, .int .i64 0, .int .i64 0, .int .i64 0, .int .i64 0, .int .i64 0, .int .i64 0, .int .i64 0, .int .i64 0, .int .i64 0, .int .i64 0, .int .i64 0, .int .i64 0, .int .i64 0, .int .i64 0, .int .i64 0, .int .i64 0] 24)) = W at hb1 hb2 hb3 ⊢
  have HB := Aside0.mk hb1
  have HR := Aside0.mk hb2
  have HW := Aside0.mk hb3
  clear hb1 hb2 hb3
  go_wp2
  go_loopw [5, 6] (fun v _ wr => ∃ i : Nat, i ≤ 27 ∧ v = .int .i64 i ∧ Aside0 (wr.heap[w.heap.size]? = some (Obj.cells (nums .i64 (F i)).toArray 24)) ∧ Aside0 (wr.heap[w.heap.size + 1]? = some (Obj.cells #[.int .i64 0, .int .i64 0, .int .i64 0, .int .i64 0, .int .i64 0, .int .i64 0, .int .i64 0, .int .i64 0, .int .i64 0, .int .i64 0, .int .i64 0, .int .i64 0, .int .i64 0, .int .i64 0, .int .i64 0, .int .i64 0, .int .i64 0, .int .i64 0, .int .i64 0, .int .i64 0, .int .i64 0, .int .i64 0, .int .i64 0, .int .i64 0, .int .i64 0, .int .i64 0, .int .i64 0] 24 (0, 0))) ∧ Aside0 (Below w.heap.size w wr)) (fun v _ _ => 27 - (intOf v).toNat)
  case atStart => exact ⟨0, by omega, rfl, ⟨by rw [H0.out]; exact HB.out⟩, HR, HW⟩
  case round =>
    obtain ⟨i, hi, rfl, HBr, HRr, HWr⟩ := hrel
    clear HB HR HW
    by_cases hlt : i < 27
    · have hlt' : ((i : Int) ≤ 26) = True := eq_true (by omega)
      have HL := Aside0.mk (HLN.out i hi)
      go_wp2_with (refine wpList_load_agg rfl 24 (.tmp 2) rfl ⟨w.heap.size, 0, none⟩ ?x3a (nums .i64 (F i)) _ ?x3b Try.underlying24 rfl ?x3c ?x3d)
      try (case x3a => rfl)
      case x3b =>
        intro j v hj
        (first | rw [add_plain', Nat.zero_add] | skip)
        rw [blk_cell HBr.out]
        simpa using hj
      case x3c =>
        rw [nums_length, HL.out]
        (first | exact info24 | exact Option.map_eq_some_iff.1 info24)
      refine (at_calls (F i) HL.out i (by omega) _).mono ?_
      rintro e w1 ⟨rfl, hB1⟩
      have HB1 := Aside0.mk (blk_below HBr.out hB1)
      have HR1 := Aside0.mk (blk_below HRr.out hB1)
      have HW1 := Aside0.mk (below_step HWr.out hB1)
      clear hB1 HBr HRr HWr
      rw [HG.out i hlt]
      go_wp2_with (refine wpList_load_agg rfl 24 (.tmp 2) rfl ⟨w.heap.size, 0, none⟩ ?x4a (nums .i64 (F i)) _ ?x4b Try.underlying24 rfl ?x4c ?x4d)
      try (case x4a => rfl)
      case x4b =>
        intro j v hj
        (first | rw [add_plain', Nat.zero_add] | skip)
        rw [blk_cell HB1.out]
        simpa using hj
      case x4c =>
        rw [nums_length, HL.out]
        (first | exact info24 | exact Option.map_eq_some_iff.1 info24)
      refine (with_calls (F i) HL.out i (by omega) _ _).mono ?_
      rintro e w2 ⟨rfl, hB2⟩
      rw [HF.out, HS.out i hlt]
      have HB2 := Aside0.mk (blk_below HB1.out hB2)
      have HR2 := Aside0.mk (blk_below HR1.out hB2)
      have HW2 := Aside0.mk (below_step HW1.out hB2)
      clear hB2 HB1 HR1 HW1
      have HL2 := Aside0.mk (HLN.out (i + 1) (by omega))
      go_wp2_with (refine wpList_store_agg rfl 24 (.tmp 2) (.tmp 22) rfl (w.heap.size) 0 ?x5e (nums .i64 (F (i + 1))) ?x5f _ 24 HB2.out ?x5h (nums_one _) ?x5j ?x5k)
      case x5e => rfl
      case x5f => rfl
      case x5h => rw [nums_length, HL2.out, List.size_toArray, nums_length, HL.out]; exact Nat.le_refl _
      case x5j =>
        rw [nums_length, HL2.out]
        exact info24
      have h1 := putCells_block (nums .i64 (F (i + 1))) w2 (w.heap.size) 0 _ 24 HB2.out
      rw [splice_whole _ (nums .i64 (F (i + 1))) (by rw [nums_length, HL2.out, List.size_toArray, nums_length, HL.out])] at h1
      have h2 := (putCells_other (nums .i64 (F (i + 1))) w2 w.heap.size 0 (w.heap.size + 1) (by omega)).trans HR2.out
      have h3 := putCells_below (nums .i64 (F (i + 1))) w w2 w.heap.size w.heap.size 0 (Nat.le_refl _) HW2.out
      have h1 := Aside0.mk h1
      have h2 := Aside0.mk h2
      have h3 := Aside0.mk h3
      go_roundw
      case measure => simp [intOf]; omega
      case rel => exact ⟨i + 1, by omega, by go_num, h1, h2, h3⟩
    · have hge : ((i : Int) ≤ 26) = False := eq_false (by omega)
      obtain rfl : i = 27 := by omega
      clear hge
      have HL := Aside0.mk (HLN.out 27 (Nat.le_refl _))
      go_wp2_with (first | (refine wpList_load_agg rfl 24 (.tmp 2) rfl ⟨w.heap.size, 0, none⟩ ?z1a (nums .i64 (F 27)) _ ?z1b Try.underlying24 rfl ?z1c ?z1d) | (refine wpList_store_agg rfl 24 (.tmp 4) (.tmp 23) rfl ((w.heap.size + 1)) 0 ?z1e (nums .i64 (F 27)) ?z1f _ 24 (HRr.out) ?z1h ?z1i ?z1j ?z1k))
      case z1a => rfl
      case z1b =>
        intro j v hj
        rw [add_plain', Nat.zero_add, blk_cell HBr.out]
        simpa using hj
      case z1c =>
        rw [nums_length, HL.out]
        exact info24
      case z1h => rw [nums_length, HL.out]; exact Nat.le_refl _
      case z1i => exact nums_one _
      case z1j =>
        rw [nums_length, HL.out]
        exact info24
      case z1k =>
        have hW := putCells_block (nums .i64 (F 27)) _ ((w.heap.size + 1)) 0 _ 24 HRr.out
        rw [splice_whole _ _ (by rw [nums_length, HL.out]; rfl)] at hW
        refine bodyPost_ret (results_cell_row rfl _ _ ((w.heap.size + 1)) 24 _ (0, 0) _ rfl hW Try.underlying24 rfl ?_) rfl ⟨rfl, putCells_below _ _ _ _ _ _ (by omega) HWr.out⟩
        · rw [List.size_toArray, nums_length, HL.out]
          exact info24
theorem ref_clip_calls (l : List Int) (hl : l.length = 27) (s : Int) (w : World) : Calls Try.prog 28 #[mv l, .int .i64 s] w fun e w' => e = .returned (mv (l.map (clipI s))) ∧ Below w.heap.size w w' := by
  rw [← clipped_all s l hl]
  exact ref_clip_core l s (clipped s l) (clipI s) (clipped_zero s l) (fun i hi => clipped_len s l i hl hi) (fun i hi => clipped_get s l i hl hi) (fun i hi => clipped_succ s l i hl hi) (clip_ref s) w

end Go.Proofs.Ytjmpmcgdfgfmfaa.Hand
