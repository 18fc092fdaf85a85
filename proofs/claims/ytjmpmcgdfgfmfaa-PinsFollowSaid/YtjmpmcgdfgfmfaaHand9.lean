/- pins' reference: Shift. No condition. -/
import Derived.Test.YtjmpmcgdfgfmfaaHand8
namespace Go.Proofs.Ytjmpmcgdfgfmfaa.Hand
open Go.RowKit Go.Proofs.Ytjmpmcgdfgfmfaa.Aggs Go.Proofs.YtjmpmcgdfgfmfaaW.PrintWords Go.Proofs.YtjmpmcgdfgfmfaaW.PrintLast Go.Proofs.YtjmpmcgdfgfmfaaW.PrintMore
set_option linter.unusedVariables false
set_option linter.unusedSimpArgs false
/-- the first i moved -/
def moved (f : Int → Int) (l : List Int) (i : Nat) : List Int := (l.take i).map f ++ l.drop i
theorem moved_len (f : Int → Int) (l : List Int) (i : Nat) (hl : l.length = 27) (hi : i ≤ 27) : (moved f l i).length = 27 := by simp [moved, hl]; omega
theorem moved_get (f : Int → Int) (l : List Int) (i : Nat) (hl : l.length = 27) (hi : i < 27) : (moved f l i)[i]?.getD 0 = l[i]?.getD 0 := by
  unfold moved
  rw [List.getElem?_append_right (by simp; omega)]
  simp
  rw [show i - min i l.length = 0 by omega]
  simp
theorem moved_succ (f : Int → Int) (l : List Int) (i : Nat) (hl : l.length = 27) (hi : i < 27) : (moved f l i).set i (f (l[i]?.getD 0)) = moved f l (i + 1) := by
  apply List.ext_getElem?
  intro j
  have hli : i < l.length := by omega
  unfold moved
  by_cases hj : j = i
  · subst hj
    rw [List.getElem?_set_self (by simp; omega), List.getElem?_append_left (by simp; omega)]
    simp [List.getElem?_eq_getElem hli, List.getElem?_take]
  · rw [List.getElem?_set_ne (Ne.symm hj)]
    by_cases hlt : j < i
    · rw [List.getElem?_append_left (by simp; omega), List.getElem?_append_left (by simp; omega)]
      simp [List.getElem?_take, hlt, show j < i + 1 by omega]
    · rw [List.getElem?_append_right (by simp; omega), List.getElem?_append_right (by simp; omega)]
      simp only [List.getElem?_drop, List.length_map, List.length_take]
      congr 1
      omega
theorem moved_zero (f : Int → Int) (l : List Int) : moved f l 0 = l := by simp [moved]
theorem moved_all (f : Int → Int) (l : List Int) (hl : l.length = 27) : moved f l 27 = l.map f := by
  unfold moved
  rw [List.take_of_length_le (by omega), List.drop_of_length_le (by omega), List.append_nil]

set_option maxHeartbeats 1000000 in
set_option maxRecDepth 100000 in
theorem ref_shift_core (l : List Int) (a : Int) (Ao An : Option Addr) (o co n cn : Nat) (F : Nat → List Int) (h0 : F 0 = l) (hlen : ∀ i, i ≤ 27 → (F i).length = 27) (hget : ∀ i, i < 27 → (F i)[i]?.getD 0 = l[i]?.getD 0) (hset : ∀ i, i < 27 → (F i).set i (behindI a o n (l[i]?.getD 0)) = F (i + 1)) (w : World) :
    Calls Try.prog 20 #[mv l, .agg #[.int .i64 a, .slice Ao o co, .slice An n cn]] w fun e w' => e = .returned (mv (F 27)) ∧ Below w.heap.size w w' := by
  have HLN := Aside0.mk hlen
  have HG := Aside0.mk hget
  have HS := Aside0.mk hset
  have H0 := Aside0.mk h0
  clear hlen hget hset h0
  go_enter Try.func20, Try.ntmps20
  go_upto_region 1 with (fail)
  have hb1 := blk_alloc (blk_alloc (blk_new w (Obj.cells (nums .i64 l).toArray 24)) (Obj.cells #[.int .i64 a, .slice Ao o co, .slice An n cn] 42)) (Obj.cells #[.int .i64 0, .int .i64 0, .int .i64 0, .int .i64 0, .int .i64 0, .int .i64 0, .int .i64 0, .int .i64 0, .int .i64 0, .int .i64 0, .int .i64 0, .int .i64 0, .int .i64 0, .int .i64 0, .int .i64 0, .int .i64 0, .int .i64 0, .int .i64 0, .int .i64 0, .int .i64 0, .int .i64 0, .int .i64 0, .int .i64 0, .int .i64 0, .int .i64 0, .int .i64 0, .int .i64 0] 24)
  have hb2 := blk_alloc (heap_alloc2_new w (Obj.cells (nums .i64 l).toArray 24) (Obj.cells #[.int .i64 a, .slice Ao o co, .slice An n cn] 42)) (Obj.cells #[.int .i64 0, .int .i64 0, .int .i64 0, .int .i64 0, .int .i64 0, .int .i64 0, .int .i64 0, .int .i64 0, .int .i64 0, .int .i64 0, .int .i64 0, .int .i64 0, .int .i64 0, .int .i64 0, .int .i64 0, .int .i64 0, .int .i64 0, .int .i64 0, .int .i64 0, .int .i64 0, .int .i64 0, .int .i64 0, .int .i64 0, .int .i64 0, .int .i64 0, .int .i64 0, .int .i64 0] 24)
  have hb4 : (((w.alloc (Obj.cells (nums .i64 l).toArray 24)).alloc (Obj.cells #[.int .i64 a, .slice Ao o co, .slice An n cn] 42)).alloc (Obj.cells #[.int .i64 0, .int .i64 0, .int .i64 0, .int .i64 0, .int .i64 0, .int .i64 0, .int .i64 0, .int .i64 0, .int .i64 0, .int .i64 0, .int .i64 0, .int .i64 0, .int .i64 0, .int .i64 0, .int .i64 0, .int .i64 0, .int .i64 0, .int .i64 0, .int .i64 0, .int .i64 0, .int .i64 0, .int .i64 0, .int .i64 0, .int .i64 0, .int .i64 0, .int .i64 0, .int .i64 0] 24)).heap[w.heap.size + 2]? = some (Obj.cells #[.int .i64 0, .int .i64 0, .int .i64 0, .int .i64 0, .int .i64 0, .int .i64 0, .int .i64 0, .int .i64 0, .int .i64 0, .int .i64 0, .int .i64 0, .int .i64 0, .int .i64 0, .int .i64 0, .int .i64 0, .int .i64 0, .int .i64 0, .int .i64 0, .int .i64 0, .int .i64 0, .int .i64 0, .int .i64 0, .int .i64 0, .int .i64 0, .int .i64 0, .int .i64 0, .int .i64 0] 24 (0, 0)) := by
    have h := blk_new ((w.alloc (Obj.cells (nums .i64 l).toArray 24)).alloc (Obj.cells #[.int .i64 a, .slice Ao o co, .slice An n cn] 42)) (Obj.cells #[.int .i64 0, .int .i64 0, .int .i64 0, .int .i64 0, .int .i64 0, .int .i64 0, .int .i64 0, .int .i64 0, .int .i64 0, .int .i64 0, .int .i64 0, .int .i64 0, .int .i64 0, .int .i64 0, .int .i64 0, .int .i64 0, .int .i64 0, .int .i64 0, .int .i64 0, .int .i64 0, .int .i64 0, .int .i64 0, .int .i64 0, .int .i64 0, .int .i64 0, .int .i64 0, .int .i64 0] 24)
    rw [show ((w.alloc (Obj.cells (nums .i64 l).toArray 24)).alloc (Obj.cells #[.int .i64 a, .slice Ao o co, .slice An n cn] 42)).heap.size = w.heap.size + 2 by simp] at h
    exact h
  have hb3 := ((((Below.refl w.heap.size w).alloc (Nat.le_refl _) (Obj.cells (nums .i64 l).toArray 24)).alloc (by simp) (Obj.cells #[.int .i64 a, .slice Ao o co, .slice An n cn] 42)).alloc (by simp; omega) (Obj.cells #[.int .i64 0, .int .i64 0, .int .i64 0, .int .i64 0, .int .i64 0, .int .i64 0, .int .i64 0, .int .i64 0, .int .i64 0, .int .i64 0, .int .i64 0, .int .i64 0, .int .i64 0, .int .i64 0, .int .i64 0, .int .i64 0, .int .i64 0, .int .i64 0, .int .i64 0, .int .i64 0, .int .i64 0, .int .i64 0, .int .i64 0, .int .i64 0, .int .i64 0, .int .i64 0, .int .i64 0] 24))
  generalize (((w.alloc (Obj.cells (nums .i64 l).toArray 24)).alloc (Obj.cells #[.int .i64 a, .slice Ao o co, .slice An n cn] 42)).alloc (Obj.cells #[.int .i64 0, .int .i64 0, .int .i64 0, .int .i64 0, .int .i64 0, .int .i64 0, .int .i64 0, .int .i64 0, .int .i64 0, .int .i64 0, .int .i64 0, .int .i64 0, .int .i64 0, .int .i64 0, .int .i64 0, .int .i64 0, .int .i64 0, .int .i64 0, .int .i64 0, .int .i64 0, .int .i64 0, .int .i64 0, .int .i64 0, .int .i64 0, .int .i64 0, .int .i64 0, .int .i64 0] 24)) = W at hb1 hb2 hb3 hb4 ⊢
  have HB := Aside0.mk hb1
  have HE := Aside0.mk hb2
  have HR := Aside0.mk hb4
  have HW := Aside0.mk hb3
  clear hb1 hb2 hb3 hb4
  go_wp2
  go_loopw [5, 6] (fun v _ wr => ∃ i : Nat, i ≤ 27 ∧ v = .int .i64 i ∧ Aside0 (wr.heap[w.heap.size]? = some (Obj.cells (nums .i64 (F i)).toArray 24)) ∧ Aside0 (wr.heap[w.heap.size + 1]? = some (Obj.cells #[.int .i64 a, .slice Ao o co, .slice An n cn] 42)) ∧ Aside0 (wr.heap[w.heap.size + 2]? = some (Obj.cells #[.int .i64 0, .int .i64 0, .int .i64 0, .int .i64 0, .int .i64 0, .int .i64 0, .int .i64 0, .int .i64 0, .int .i64 0, .int .i64 0, .int .i64 0, .int .i64 0, .int .i64 0, .int .i64 0, .int .i64 0, .int .i64 0, .int .i64 0, .int .i64 0, .int .i64 0, .int .i64 0, .int .i64 0, .int .i64 0, .int .i64 0, .int .i64 0, .int .i64 0, .int .i64 0, .int .i64 0] 24 (0, 0))) ∧ Aside0 (Below w.heap.size w wr)) (fun v _ _ => 27 - (intOf v).toNat)
  case atStart => exact ⟨0, by omega, rfl, ⟨by rw [H0.out]; exact HB.out⟩, HE, HR, HW⟩
  case round =>
    obtain ⟨i, hi, rfl, HBr, HEr, HRr, HWr⟩ := hrel
    clear HB HE HR HW
    by_cases hlt : i < 27
    · have hlt' : ((i : Int) ≤ 26) = True := eq_true (by omega)
      have HL := Aside0.mk (HLN.out i hi)
      go_wp2_with (refine wpList_load_agg rfl 24 (.tmp 2) rfl ⟨w.heap.size, 0, none⟩ ?x3a (nums .i64 (F i)) _ ?x3b Try.underlying24 rfl ?x3c ?x3d)
      case x3a => rfl
      case x3b =>
        intro j v hj
        rw [add_plain', Nat.zero_add, blk_cell HBr.out]
        simpa using hj
      case x3c =>
        rw [nums_length, HL.out]
        exact info24
      refine (at_calls (F i) HL.out i (by omega) _).mono ?_
      rintro e w1 ⟨rfl, hB1⟩
      have HB1 := Aside0.mk (blk_below HBr.out hB1)
      have HE1 := Aside0.mk (blk_below HEr.out hB1)
      have HR1 := Aside0.mk (blk_below HRr.out hB1)
      have HW1 := Aside0.mk (below_step HWr.out hB1)
      clear hB1 HBr HEr HRr HWr
      rw [HG.out i hlt]
      have HS1 := Aside0.mk (HS.out i hlt)
      generalize l[i]?.getD 0 = y at HS1 ⊢
      have HL2 := Aside0.mk (HLN.out (i + 1) (by omega))
      go_upto_region 5 with (fail)
      refine start_ (n := 7) (S := fun w' => w'.heap[w.heap.size]? = some (Obj.cells (nums .i64 (F i)).toArray 24) ∧ w'.heap[w.heap.size + 1]? = some (Obj.cells #[.int .i64 a, .slice Ao o co, .slice An n cn] 42) ∧ w'.heap[w.heap.size + 2]? = some (Obj.cells #[.int .i64 0, .int .i64 0, .int .i64 0, .int .i64 0, .int .i64 0, .int .i64 0, .int .i64 0, .int .i64 0, .int .i64 0, .int .i64 0, .int .i64 0, .int .i64 0, .int .i64 0, .int .i64 0, .int .i64 0, .int .i64 0, .int .i64 0, .int .i64 0, .int .i64 0, .int .i64 0, .int .i64 0, .int .i64 0, .int .i64 0, .int .i64 0, .int .i64 0, .int .i64 0, .int .i64 0] 24 (0, 0)) ∧ Below w.heap.size w w') (ds := [6]) #[false, false, false, false, false, false, false] (by kernel_rfl) rfl rfl ⟨blk_drew HB1.out, blk_drew HE1.out, blk_drew HR1.out, HW1.out.drew⟩ (fun hHeld => ?_)
      refine take_ (i := 0) (N := some 14) (v := (.agg (nums .i64 (F i)).toArray)) (a' := ?_) #[true, false, false, false, false, false, false] rfl rfl (by kernel_rfl) (fun _ _ _ h => h) (Or.inl ⟨by rfl, by rintro w' ⟨s0, s1, s2, s3⟩; exact run_load_agg_op 24 (.tmp 2) rfl ⟨w.heap.size, 0, none⟩ rfl (nums .i64 (F i)) _ (fun j v hj => by rw [add_plain', Nat.zero_add, blk_cell s0]; simpa using hj) Try.underlying24 rfl (by rw [nums_length, HL.out]; exact info24)⟩) hHeld ?_ ?_
      rotate_left
      · simp only [Act.put, List.setIfInBounds_toArray, List.set_cons_zero, List.set_cons_succ, i64_w, i32_w]
        rfl
      refine pure_ (i := 1) (N := some 15) (v := ?_) (a' := ?_) #[true, true, false, false, false, false, false] rfl rfl (by kernel_rfl) (fun _ _ _ h => h) (Or.inl ⟨by rfl, ?_⟩) ?_ ?_
      rotate_left
      · intro w'
        go_simp
        with_reducible rfl
      rotate_left
      · simp only [Act.put, List.setIfInBounds_toArray, List.set_cons_zero, List.set_cons_succ, i64_w, i32_w]
        rfl
      refine pure_ (i := 2) (N := some 16) (v := ?_) (a' := ?_) #[true, true, true, false, false, false, false] rfl rfl (by kernel_rfl) (fun _ _ _ h => h) (Or.inl ⟨by rfl, ?_⟩) ?_ ?_
      rotate_left
      · intro w'
        go_simp
        with_reducible rfl
      rotate_left
      · simp only [Act.put, List.setIfInBounds_toArray, List.set_cons_zero, List.set_cons_succ, i64_w, i32_w]
        rfl
      refine take_ (i := 3) (N := some 17) (v := (.agg [Value.int .i64 a, Value.slice Ao o co, Value.slice An n cn].toArray)) (a' := ?_) #[true, true, true, true, false, false, false] rfl rfl (by kernel_rfl) (fun _ _ _ h => h) (Or.inl ⟨by rfl, by rintro w' ⟨s0, s1, s2, s3⟩; exact run_load_agg_op 42 (.tmp 3) rfl ⟨w.heap.size + 1, 0, none⟩ rfl [Value.int .i64 a, Value.slice Ao o co, Value.slice An n cn] _ (fun j v hj => by rw [add_plain', Nat.zero_add, blk_cell s1]; simpa using hj) Try.underlying42 rfl (by kernel_rfl)⟩) hHeld ?_ ?_
      rotate_left
      · simp only [Act.put, List.setIfInBounds_toArray, List.set_cons_zero, List.set_cons_succ, i64_w, i32_w]
        rfl
      refine one_ (i := 4) (N := some 18) #[true, true, true, true, true, false, false] rfl rfl (by kernel_rfl) (by decide) (fun K hK => ?_)
      refine goes_ Try.func39 (by kernel_rfl) rfl #[.int .i64 y, .agg #[.int .i64 a, .slice Ao o co, .slice An n cn]] (by rfl) rfl rfl (by simp [Act.eval]) ?_
      refine (behind_calls a y Ao An o co n cn _).mono ?_
      rintro e w1 ⟨rfl, hB1⟩
      refine ⟨_, rfl, ?_⟩
      refine hK.out _ _ ⟨blk_below hHeld.1 hB1, blk_below hHeld.2.1 hB1, blk_below hHeld.2.2.1 hB1, below_step hHeld.2.2.2 hB1⟩ (fun hHeld => ?_)
      clear hK K
      refine norm_ (a' := ?_) ?_ ?_
      rotate_left
      · show Act.put _ (some 18) _ = _
        simp only [Act.put, List.setIfInBounds_toArray, List.set_cons_zero, List.set_cons_succ, i64_w, i32_w]
        rfl
      refine one_ (i := 5) (N := some 19) #[true, true, true, true, true, true, false] rfl rfl (by kernel_rfl) (by decide) (fun K hK => ?_)
      refine goes_ Try.func34 (by kernel_rfl) rfl #[mv (F i), .int .i64 i, .int .i64 (behindI a o n y)] (by rfl) rfl rfl (by simp [Act.eval]) ?_
      refine (with_calls (F i) HL.out i (by omega) _ _).mono ?_
      rintro e w1 ⟨rfl, hB1⟩
      rw [HS1.out]
      refine ⟨_, rfl, ?_⟩
      refine hK.out _ _ ⟨blk_below hHeld.1 hB1, blk_below hHeld.2.1 hB1, blk_below hHeld.2.2.1 hB1, below_step hHeld.2.2.2 hB1⟩ (fun hHeld => ?_)
      clear hK K
      refine norm_ (a' := ?_) ?_ ?_
      rotate_left
      · show Act.put _ (some 19) _ = _
        simp only [Act.put, List.setIfInBounds_toArray, List.set_cons_zero, List.set_cons_succ, i64_w, i32_w]
        rfl
      refine last_ (i := 6) (N := none) #[true, true, true, true, true, true, true] rfl rfl (by kernel_rfl) (by decide) (fun K hK => ?_)
      refine skip_ (w1 := putCells w1 w.heap.size 0 (nums .i64 (F (i + 1)))) (by rfl) rfl ?_ ?_
      · exact run_store_agg_op 24 (.tmp 2) (.tmp 19) rfl w.heap.size 0 rfl (nums .i64 (F (i + 1))) rfl _ 24 hHeld.1 (by rw [nums_length, HL2.out, List.size_toArray, nums_length, HL.out]; exact Nat.le_refl _) (nums_one _) (by rw [nums_length, HL2.out]; exact info24)
      refine hK.out _ _ ?_
      clear hK K
      refine done_ (by kernel_rfl) ?_
      have h1 := putCells_block (nums .i64 (F (i + 1))) w1 (w.heap.size) 0 _ 24 hHeld.1
      rw [splice_whole _ (nums .i64 (F (i + 1))) (by rw [nums_length, HL2.out, List.size_toArray, nums_length, HL.out])] at h1
      have h4 := (putCells_other (nums .i64 (F (i + 1))) w1 w.heap.size 0 (w.heap.size + 1) (by omega)).trans hHeld.2.1
      have h2 := (putCells_other (nums .i64 (F (i + 1))) w1 w.heap.size 0 (w.heap.size + 2) (by omega)).trans hHeld.2.2.1
      have h3 := putCells_below (nums .i64 (F (i + 1))) w w1 w.heap.size w.heap.size 0 (Nat.le_refl _) hHeld.2.2.2
      have h1 := Aside0.mk h1
      have h2 := Aside0.mk h2
      have h3 := Aside0.mk h3
      have h4 := Aside0.mk h4
      clear hHeld
      go_wp2
      go_roundw
      case measure => simp [intOf]; omega
      case rel => exact ⟨i + 1, by omega, by go_num, h1, h4, h2, h3⟩
    · have hge : ((i : Int) ≤ 26) = False := eq_false (by omega)
      obtain rfl : i = 27 := by omega
      clear hge
      have HL := Aside0.mk (HLN.out 27 (Nat.le_refl _))
      go_wp2_with (first | (refine wpList_load_agg rfl 24 (.tmp 2) rfl ⟨w.heap.size, 0, none⟩ ?z2a (nums .i64 (F 27)) _ ?z2b Try.underlying24 rfl ?z2c ?z2d) | (refine wpList_store_agg rfl 24 (.tmp 4) (.tmp 20) rfl ((w.heap.size + 2)) 0 ?z2e (nums .i64 (F 27)) ?z2f _ 24 (HRr.out) ?z2h ?z2i ?z2j ?z2k))
      case z2a => rfl
      case z2b =>
        intro j v hj
        rw [add_plain', Nat.zero_add, blk_cell HBr.out]
        simpa using hj
      case z2c =>
        rw [nums_length, HL.out]
        exact info24
      case z2h => rw [nums_length, HL.out]; exact Nat.le_refl _
      case z2i => exact nums_one _
      case z2j =>
        rw [nums_length, HL.out]
        exact info24
      case z2k =>
        have hW := putCells_block (nums .i64 (F 27)) _ ((w.heap.size + 2)) 0 _ 24 HRr.out
        rw [splice_whole _ _ (by rw [nums_length, HL.out]; rfl)] at hW
        refine bodyPost_ret (results_cell_row rfl _ _ ((w.heap.size + 2)) 24 _ (0, 0) _ rfl hW Try.underlying24 rfl ?_) rfl ⟨rfl, putCells_below _ _ _ _ _ _ (by omega) HWr.out⟩
        · rw [List.size_toArray, nums_length, HL.out]
          exact info24
theorem ref_shift_calls (l : List Int) (hl : l.length = 27) (a : Int) (Ao An : Option Addr) (o co n cn : Nat) (w : World) : Calls Try.prog 20 #[mv l, .agg #[.int .i64 a, .slice Ao o co, .slice An n cn]] w fun e w' => e = .returned (mv (l.map (behindI a o n))) ∧ Below w.heap.size w w' := by
  rw [← moved_all (behindI a o n) l hl]
  exact ref_shift_core l a Ao An o co n cn (moved (behindI a o n) l) (moved_zero _ l) (fun i hi => moved_len _ l i hl hi) (fun i hi => moved_get _ l i hl hi) (fun i hi => moved_succ _ l i hl hi) w

end Go.Proofs.Ytjmpmcgdfgfmfaa.Hand
