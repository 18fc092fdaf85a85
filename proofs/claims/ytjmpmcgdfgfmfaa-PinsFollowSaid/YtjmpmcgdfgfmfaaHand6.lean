/- pins' reference: None, behind; marks compared. No condition. -/
import Derived.Test.YtjmpmcgdfgfmfaaHand5
namespace Go.Proofs.Ytjmpmcgdfgfmfaa.Hand
open Go.RowKit Go.Proofs.Ytjmpmcgdfgfmfaa.Aggs Go.Proofs.YtjmpmcgdfgfmfaaW.PrintWords Go.Proofs.YtjmpmcgdfgfmfaaW.PrintLast Go.Proofs.YtjmpmcgdfgfmfaaW.PrintMore
attribute [local go_sem] max2_int min2_int max_two min_two
set_option linter.unusedVariables false
set_option linter.unusedSimpArgs false

def nset (i : Nat) : List Int := List.replicate i (-1) ++ List.replicate (26 - i) 0 ++ [-1]
theorem nset_len (i : Nat) (h : i ≤ 26) : (nset i).length = 27 := by simp [nset]; omega
theorem rep_cons (i : Nat) (X : List Int) : List.replicate i (-1) ++ -1 :: X = -1 :: (List.replicate i (-1) ++ X) := by
  induction i with
  | zero => rfl
  | succ i ih => rw [List.replicate_succ, List.cons_append, ih, List.cons_append]
theorem nset_succ (i : Nat) (h : i < 26) : (nset i).set i (-1) = nset (i + 1) := by
  obtain ⟨m, hm⟩ : ∃ m, 26 - i = m + 1 := ⟨25 - i, by omega⟩
  unfold nset
  rw [hm, show 26 - (i + 1) = m by omega, List.append_assoc, List.set_append_right _ _ (by simp)]
  simp [List.replicate_succ, rep_cons]
theorem nset_all : nset 26 = allOff := by decide
set_option maxHeartbeats 1000000 in
set_option maxRecDepth 100000 in
theorem ref_none_core (F : Nat → List Int) (hF0 : #[.int .i64 0, .int .i64 0, .int .i64 0, .int .i64 0, .int .i64 0, .int .i64 0, .int .i64 0, .int .i64 0, .int .i64 0, .int .i64 0, .int .i64 0, .int .i64 0, .int .i64 0, .int .i64 0, .int .i64 0, .int .i64 0, .int .i64 0, .int .i64 0, .int .i64 0, .int .i64 0, .int .i64 0, .int .i64 0, .int .i64 0, .int .i64 0, .int .i64 0, .int .i64 0, .int .i64 (-1)] = (nums .i64 (F 0)).toArray) (hlen : ∀ i, i ≤ 26 → (F i).length = 27) (hstep : ∀ i, i < 26 → (F i).set i (-1) = F (i + 1)) (w : World) : Calls Try.prog 12 #[] w fun e w' => e = .returned (mv (F 26)) ∧ Below w.heap.size w w' := by
  have HF := Aside0.mk hF0
  have HLN := Aside0.mk hlen
  have HSP := Aside0.mk hstep
  clear hF0 hlen hstep
  go_enter Try.func12, Try.ntmps12
  go_upto_region 1 with (fail)
  have hb1 := blk_new w (Obj.cells #[.int .i64 0, .int .i64 0, .int .i64 0, .int .i64 0, .int .i64 0, .int .i64 0, .int .i64 0, .int .i64 0, .int .i64 0, .int .i64 0, .int .i64 0, .int .i64 0, .int .i64 0, .int .i64 0, .int .i64 0, .int .i64 0, .int .i64 0, .int .i64 0, .int .i64 0, .int .i64 0, .int .i64 0, .int .i64 0, .int .i64 0, .int .i64 0, .int .i64 0, .int .i64 0, .int .i64 0] 24)
  have hb3 := (Below.refl w.heap.size w).alloc (Nat.le_refl _) (Obj.cells #[.int .i64 0, .int .i64 0, .int .i64 0, .int .i64 0, .int .i64 0, .int .i64 0, .int .i64 0, .int .i64 0, .int .i64 0, .int .i64 0, .int .i64 0, .int .i64 0, .int .i64 0, .int .i64 0, .int .i64 0, .int .i64 0, .int .i64 0, .int .i64 0, .int .i64 0, .int .i64 0, .int .i64 0, .int .i64 0, .int .i64 0, .int .i64 0, .int .i64 0, .int .i64 0, .int .i64 0] 24)
  generalize hV : (w.alloc (Obj.cells #[.int .i64 0, .int .i64 0, .int .i64 0, .int .i64 0, .int .i64 0, .int .i64 0, .int .i64 0, .int .i64 0, .int .i64 0, .int .i64 0, .int .i64 0, .int .i64 0, .int .i64 0, .int .i64 0, .int .i64 0, .int .i64 0, .int .i64 0, .int .i64 0, .int .i64 0, .int .i64 0, .int .i64 0, .int .i64 0, .int .i64 0, .int .i64 0, .int .i64 0, .int .i64 0, .int .i64 0] 24)) = V at hb1 hb3 ⊢
  have hs : V.heap.size = w.heap.size + 1 := by rw [← hV]; simp
  have HR := Aside0.mk hb1
  have HW := Aside0.mk hb3
  have HS := Aside0.mk hs
  clear hb1 hb3 hs hV
  have HA := Aside0.mk (blk_new V (Obj.cells #[.int .i64 0, .int .i64 0, .int .i64 0, .int .i64 0, .int .i64 0, .int .i64 0, .int .i64 0, .int .i64 0, .int .i64 0, .int .i64 0, .int .i64 0, .int .i64 0, .int .i64 0, .int .i64 0, .int .i64 0, .int .i64 0, .int .i64 0, .int .i64 0, .int .i64 0, .int .i64 0, .int .i64 0, .int .i64 0, .int .i64 0, .int .i64 0, .int .i64 0, .int .i64 0, .int .i64 0] 24))
  have HL0 := Aside0.mk (HLN.out 0 (by omega))
  go_upto_region 2 with (refine wpList_store_agg rfl 24 (.tmp 1) (.tmp 3) rfl V.heap.size 0 ?a1 (nums .i64 (F 0)) ?a2 _ 24 HA.out ?a3 (nums_one _) ?a5 ?a4)
  case a1 => rfl
  case a2 => rw [← HF.out]; rfl
  case a3 => rw [nums_length, HL0.out]; exact Nat.le_refl _
  case a5 =>
    rw [nums_length, HL0.out]
    exact info24
  have h1 := putCells_block (nums .i64 (F 0)) (V.alloc (Obj.cells #[.int .i64 0, .int .i64 0, .int .i64 0, .int .i64 0, .int .i64 0, .int .i64 0, .int .i64 0, .int .i64 0, .int .i64 0, .int .i64 0, .int .i64 0, .int .i64 0, .int .i64 0, .int .i64 0, .int .i64 0, .int .i64 0, .int .i64 0, .int .i64 0, .int .i64 0, .int .i64 0, .int .i64 0, .int .i64 0, .int .i64 0, .int .i64 0, .int .i64 0, .int .i64 0, .int .i64 0] 24)) V.heap.size 0 _ 24 HA.out
  rw [splice_whole _ (nums .i64 (F 0)) (by rw [nums_length, HL0.out]; rfl)] at h1
  have h2 := (putCells_other (nums .i64 (F 0)) (V.alloc (Obj.cells #[.int .i64 0, .int .i64 0, .int .i64 0, .int .i64 0, .int .i64 0, .int .i64 0, .int .i64 0, .int .i64 0, .int .i64 0, .int .i64 0, .int .i64 0, .int .i64 0, .int .i64 0, .int .i64 0, .int .i64 0, .int .i64 0, .int .i64 0, .int .i64 0, .int .i64 0, .int .i64 0, .int .i64 0, .int .i64 0, .int .i64 0, .int .i64 0, .int .i64 0, .int .i64 0, .int .i64 0] 24)) V.heap.size 0 w.heap.size (by rw [HS.out]; omega)).trans (blk_alloc HR.out (Obj.cells #[.int .i64 0, .int .i64 0, .int .i64 0, .int .i64 0, .int .i64 0, .int .i64 0, .int .i64 0, .int .i64 0, .int .i64 0, .int .i64 0, .int .i64 0, .int .i64 0, .int .i64 0, .int .i64 0, .int .i64 0, .int .i64 0, .int .i64 0, .int .i64 0, .int .i64 0, .int .i64 0, .int .i64 0, .int .i64 0, .int .i64 0, .int .i64 0, .int .i64 0, .int .i64 0, .int .i64 0] 24))
  have h3 := putCells_below (nums .i64 (F 0)) w (V.alloc (Obj.cells #[.int .i64 0, .int .i64 0, .int .i64 0, .int .i64 0, .int .i64 0, .int .i64 0, .int .i64 0, .int .i64 0, .int .i64 0, .int .i64 0, .int .i64 0, .int .i64 0, .int .i64 0, .int .i64 0, .int .i64 0, .int .i64 0, .int .i64 0, .int .i64 0, .int .i64 0, .int .i64 0, .int .i64 0, .int .i64 0, .int .i64 0, .int .i64 0, .int .i64 0, .int .i64 0, .int .i64 0] 24)) w.heap.size V.heap.size 0 HW.out.size (HW.out.alloc HW.out.size (Obj.cells #[.int .i64 0, .int .i64 0, .int .i64 0, .int .i64 0, .int .i64 0, .int .i64 0, .int .i64 0, .int .i64 0, .int .i64 0, .int .i64 0, .int .i64 0, .int .i64 0, .int .i64 0, .int .i64 0, .int .i64 0, .int .i64 0, .int .i64 0, .int .i64 0, .int .i64 0, .int .i64 0, .int .i64 0, .int .i64 0, .int .i64 0, .int .i64 0, .int .i64 0, .int .i64 0, .int .i64 0] 24))
  generalize (putCells (V.alloc (Obj.cells #[.int .i64 0, .int .i64 0, .int .i64 0, .int .i64 0, .int .i64 0, .int .i64 0, .int .i64 0, .int .i64 0, .int .i64 0, .int .i64 0, .int .i64 0, .int .i64 0, .int .i64 0, .int .i64 0, .int .i64 0, .int .i64 0, .int .i64 0, .int .i64 0, .int .i64 0, .int .i64 0, .int .i64 0, .int .i64 0, .int .i64 0, .int .i64 0, .int .i64 0, .int .i64 0, .int .i64 0] 24)) V.heap.size 0 (nums .i64 (F 0))) = U at h1 h2 h3 ⊢
  have H1 := Aside0.mk h1
  have H2 := Aside0.mk h2
  have H3 := Aside0.mk h3
  clear h1 h2 h3 HR HW HA
  go_wp2
  go_loopw [2] (fun v wr => ∃ i : Nat, i ≤ 26 ∧ v = .int .i64 i ∧ Aside0 (wr.heap[V.heap.size]? = some (.cells (nums .i64 (F i)).toArray 24 (0, 0))) ∧ Aside0 (wr.heap[w.heap.size]? = some (Obj.cells #[.int .i64 0, .int .i64 0, .int .i64 0, .int .i64 0, .int .i64 0, .int .i64 0, .int .i64 0, .int .i64 0, .int .i64 0, .int .i64 0, .int .i64 0, .int .i64 0, .int .i64 0, .int .i64 0, .int .i64 0, .int .i64 0, .int .i64 0, .int .i64 0, .int .i64 0, .int .i64 0, .int .i64 0, .int .i64 0, .int .i64 0, .int .i64 0, .int .i64 0, .int .i64 0, .int .i64 0] 24 (0, 0))) ∧ Aside0 (Below w.heap.size w wr)) (fun v _ => 26 - (intOf v).toNat)
  case atStart => exact ⟨0, by omega, rfl, H1, H2, H3⟩
  case round =>
    obtain ⟨i, hi, rfl, HBr, HRr, HWr⟩ := hrel
    clear H1 H2 H3
    by_cases hlt : i < 26
    · have hlt' : ((i : Int) < 26) = True := eq_true (by omega)
      have hx : wr.cell? ⟨V.heap.size, i, none⟩ = some (.int .i64 ((F i)[i]?.getD 0)) := (blk_cell HBr.out i).trans (nums_get _ _ (by rw [HLN.out i hi]; omega))
      have hf := blk_frozen HBr.out i
      have HX1 := Aside0.mk (blk_put HBr.out i (.int .i64 (-1)) (nums_put (F i) i (-1)))
      have HX2 := Aside0.mk (blk_far HRr.out (show w.heap.size ≠ (⟨V.heap.size, i, none⟩ : Addr).block by simp [HS.out]) (.int .i64 (-1)))
      have HX3 := Aside0.mk (HWr.out.setCell (p := ⟨V.heap.size, i, none⟩) (by simp [HS.out]) (.int .i64 (-1)))
      clear HBr HRr HWr
      go_wp2
      go_roundw
      case measure => simp [intOf]; omega
      case rel => exact ⟨i + 1, by omega, by go_num, ⟨by rw [← HSP.out i hlt]; exact HX1.out⟩, HX2, HX3⟩
    · have hge : ((i : Int) < 26) = False := eq_false (by omega)
      obtain rfl : i = 26 := by omega
      clear hge
      have HL := Aside0.mk (HLN.out 26 (Nat.le_refl _))
      go_wp2_with (first | (refine wpList_load_agg rfl 24 (.tmp 1) rfl ⟨V.heap.size, 0, none⟩ ?z1a (nums .i64 (F 26)) _ ?z1b Try.underlying24 rfl ?z1c ?z1d) | (refine wpList_store_agg rfl 24 (.tmp 0) (.tmp 11) rfl (w.heap.size) 0 ?z1e (nums .i64 (F 26)) ?z1f _ 24 (HRr.out) ?z1h ?z1i ?z1j ?z1k))
      case z1a => rfl
      case z1b =>
        intro j v hj
        rw [add_plain', Nat.zero_add, blk_cell HBr.out]
        simpa using hj
      case z1c =>
        rw [nums_length, HL.out]
        exact info24
      case z1h => rw [nums_length, HL.out]; exact Nat.le_refl _
      case z1i => exact nums_one _
      case z1j =>
        rw [nums_length, HL.out]
        exact info24
      · skip
        have hW := putCells_block (nums .i64 (F 26)) _ (w.heap.size) 0 _ 24 HRr.out
        rw [splice_whole _ _ (by rw [nums_length, HL.out]; rfl)] at hW
        refine bodyPost_ret (results_cell_row rfl _ _ (w.heap.size) 24 _ (0, 0) _ rfl hW Try.underlying24 rfl ?_) rfl ⟨rfl, putCells_below _ _ _ _ _ _ (Nat.le_refl _) HWr.out⟩
        · rw [List.size_toArray, nums_length, HL.out]
          exact info24
theorem ref_none_calls (w : World) : Calls Try.prog 12 #[] w fun e w' => e = .returned (mv allOff) ∧ Below w.heap.size w w' := by
  rw [← nset_all]
  exact ref_none_core nset rfl nset_len nset_succ w

set_option maxHeartbeats 1000000 in
set_option maxRecDepth 100000 in
theorem behind_calls (a x : Int) (Ao An : Option Addr) (o co n cn : Nat) (w : World) :
    Calls Try.prog 39 #[.int .i64 x, .agg #[.int .i64 a, .slice Ao o co, .slice An n cn]] w fun e w' => e = .returned (.int .i64 (behindI a o n x)) ∧ Below w.heap.size w w' := by
  have hE := blk_new w (Obj.cells #[.int .i64 a, .slice Ao o co, .slice An n cn] 42)
  have hB := Aside0.mk ((Below.refl w.heap.size w).alloc (Nat.le_refl _) (Obj.cells #[.int .i64 a, .slice Ao o co, .slice An n cn] 42))
  have c0 := (blk_cell hE 0).trans (show _ = some (Value.int .i64 a) from rfl)
  have c1 := (blk_cell hE 1).trans (show _ = some (Value.slice Ao o co) from rfl)
  have c2 := (blk_cell hE 2).trans (show _ = some (Value.slice An n cn) from rfl)
  clear hE

  by_cases h1 : x < 0
  · have e1 : behindI a o n x = x := by simp [behindI, h1]
    have h1b := decide_eq_true h1
    rw [e1]
    clear e1 h1
    go_enter Try.func39, Try.ntmps39
    go_wp2
    go_ret
    exact ⟨rfl, hB.out⟩
  · have h1b := decide_eq_false h1
    by_cases h2 : x < a
    · have e1 : behindI a o n x = x := by simp [behindI, h1, h2]
      have h2b := decide_eq_true h2
      rw [e1]
      clear e1 h1 h2
      go_enter Try.func39, Try.ntmps39
      go_wp2
      go_ret
      exact ⟨rfl, hB.out⟩
    · have h2b := decide_eq_false h2
      by_cases h3 : wrap64 (a + o) ≤ x
      · have e1 : behindI a o n x = wrap64 (wrap64 (x + n) - o) := by simp [behindI, h1, h2, h3]
        have h3b := decide_eq_true h3
        rw [e1]
        clear e1 h1 h2 h3
        go_enter Try.func39, Try.ntmps39
        go_wp2
        go_ret
        exact ⟨rfl, hB.out⟩
      · have e1 : behindI a o n x = wrap64 (a + mn (wrap64 (x - a)) n) := by simp [behindI, h1, h2, h3]
        have h3b := decide_eq_false h3
        rw [e1]
        clear e1 h1 h2 h3
        go_enter Try.func39, Try.ntmps39
        go_wp2
        all_goals go_ret
        all_goals refine ⟨?_, hB.out⟩
        all_goals first | (rw [show mn (wrap64 (x - a)) n = n by unfold mn; split <;> omega]; rfl) | (rw [show mn (wrap64 (x - a)) n = wrap64 (x - a) by unfold mn; split <;> omega]; rfl)

end Go.Proofs.Ytjmpmcgdfgfmfaa.Hand
