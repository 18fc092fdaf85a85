/- pins' reference: Move. No condition. -/
import Derived.Test.YtjmpmcgdfgfmfaaMove
namespace Go.Proofs.Ytjmpmcgdfgfmfaa.Hand
open Go.RowKit Go.Proofs.Ytjmpmcgdfgfmfaa.Aggs Go.Proofs.YtjmpmcgdfgfmfaaW.PrintWords Go.Proofs.YtjmpmcgdfgfmfaaW.PrintLast Go.Proofs.YtjmpmcgdfgfmfaaW.PrintMore
set_option linter.unusedVariables false
set_option linter.unusedSimpArgs false

set_option maxHeartbeats 1000000 in
set_option maxRecDepth 100000 in
theorem ref_move_core (l : List Int) (es : List S42) (F : Nat → List Int) (A : Option Addr) (c : Nat) (w : World) (h0 : F 0 = l) (hlen : ∀ i, (F i).length = 27) (hstep : ∀ (i : Nat) (h : i < es.length), (F i).map (behindI es[i].f0 es[i].f1.length es[i].f2.length) = F (i + 1)) (hr : k42.C w A es.length es) :
    Calls Try.prog 22 #[mv l, .slice A es.length c] w fun e w' => e = .returned (mv (F es.length)) ∧ Below w.heap.size w w' := by
  have HLN := Aside0.mk hlen
  have HS := Aside0.mk hstep
  have H0 := Aside0.mk h0
  have HC := Aside0.mk hr
  have hbig : es.length ≤ 9223372036854775807 := hr.2.1
  clear hlen hstep h0 hr
  go_enter Try.func22, Try.ntmps22
  go_upto_region 1 with (fail)
  have hb1 := blk_alloc (blk_new w (Obj.cells (nums .i64 l).toArray 24)) (Obj.cells #[.int .i64 0, .int .i64 0, .int .i64 0, .int .i64 0, .int .i64 0, .int .i64 0, .int .i64 0, .int .i64 0, .int .i64 0, .int .i64 0, .int .i64 0, .int .i64 0, .int .i64 0, .int .i64 0, .int .i64 0, .int .i64 0, .int .i64 0, .int .i64 0, .int .i64 0, .int .i64 0, .int .i64 0, .int .i64 0, .int .i64 0, .int .i64 0, .int .i64 0, .int .i64 0, .int .i64 0] 24)
  have hb2 := heap_alloc2_new w (Obj.cells (nums .i64 l).toArray 24) (Obj.cells #[.int .i64 0, .int .i64 0, .int .i64 0, .int .i64 0, .int .i64 0, .int .i64 0, .int .i64 0, .int .i64 0, .int .i64 0, .int .i64 0, .int .i64 0, .int .i64 0, .int .i64 0, .int .i64 0, .int .i64 0, .int .i64 0, .int .i64 0, .int .i64 0, .int .i64 0, .int .i64 0, .int .i64 0, .int .i64 0, .int .i64 0, .int .i64 0, .int .i64 0, .int .i64 0, .int .i64 0] 24)
  have hb3 := (((Below.refl w.heap.size w).alloc (Nat.le_refl _) (Obj.cells (nums .i64 l).toArray 24)).alloc (by simp) (Obj.cells #[.int .i64 0, .int .i64 0, .int .i64 0, .int .i64 0, .int .i64 0, .int .i64 0, .int .i64 0, .int .i64 0, .int .i64 0, .int .i64 0, .int .i64 0, .int .i64 0, .int .i64 0, .int .i64 0, .int .i64 0, .int .i64 0, .int .i64 0, .int .i64 0, .int .i64 0, .int .i64 0, .int .i64 0, .int .i64 0, .int .i64 0, .int .i64 0, .int .i64 0, .int .i64 0, .int .i64 0] 24))
  generalize ((w.alloc (Obj.cells (nums .i64 l).toArray 24)).alloc (Obj.cells #[.int .i64 0, .int .i64 0, .int .i64 0, .int .i64 0, .int .i64 0, .int .i64 0, .int .i64 0, .int .i64 0, .int .i64 0, .int .i64 0, .int .i64 0, .int .i64 0, .int .i64 0, .int .i64 0, .int .i64 0, .int .i64 0, .int .i64 0, .int .i64 0, .int .i64 0, .int .i64 0, .int .i64 0, .int .i64 0, .int .i64 0, .int .i64 0, .int .i64 0, .int .i64 0, .int .i64 0] 24)) = W at hb1 hb2 hb3 ⊢
  have HB := Aside0.mk hb1
  have HR := Aside0.mk hb2
  have HW := Aside0.mk hb3
  clear hb1 hb2 hb3
  go_wp2
  go_loopw [5] (fun v wr => ∃ i : Nat, i ≤ es.length ∧ v = .int .i64 i ∧ Aside0 (wr.heap[w.heap.size]? = some (Obj.cells (nums .i64 (F i)).toArray 24)) ∧ Aside0 (wr.heap[w.heap.size + 1]? = some (Obj.cells #[.int .i64 0, .int .i64 0, .int .i64 0, .int .i64 0, .int .i64 0, .int .i64 0, .int .i64 0, .int .i64 0, .int .i64 0, .int .i64 0, .int .i64 0, .int .i64 0, .int .i64 0, .int .i64 0, .int .i64 0, .int .i64 0, .int .i64 0, .int .i64 0, .int .i64 0, .int .i64 0, .int .i64 0, .int .i64 0, .int .i64 0, .int .i64 0, .int .i64 0, .int .i64 0, .int .i64 0] 24 (0, 0))) ∧ Aside0 (Below w.heap.size w wr)) (fun v _ => es.length - (intOf v).toNat)
  case atStart => exact ⟨0, by omega, rfl, ⟨by rw [H0.out]; exact HB.out⟩, HR, HW⟩
  case round =>
    obtain ⟨i, hi, rfl, HBr, HRr, HWr⟩ := hrel
    clear HB HR HW
    by_cases hlt : i < es.length
    · have hlt' : ((i : Int) < es.length) = True := eq_true (by omega)
      have HL := Aside0.mk (HLN.out i)
      have HL2 := Aside0.mk (HLN.out (i + 1))
      have HS1 := Aside0.mk (HS.out i hlt)
      obtain ⟨ad, Ao, o, Bo, n, rfl, hcell⟩ := edit_at HC.out i hlt
      replace hcell := Aside0.mk hcell
      go_upto_region 4 with (fail)
      refine start_ (n := 7) (S := fun w' => w'.heap[w.heap.size]? = some (Obj.cells (nums .i64 (F i)).toArray 24) ∧ w'.heap[w.heap.size + 1]? = some (Obj.cells #[.int .i64 0, .int .i64 0, .int .i64 0, .int .i64 0, .int .i64 0, .int .i64 0, .int .i64 0, .int .i64 0, .int .i64 0, .int .i64 0, .int .i64 0, .int .i64 0, .int .i64 0, .int .i64 0, .int .i64 0, .int .i64 0, .int .i64 0, .int .i64 0, .int .i64 0, .int .i64 0, .int .i64 0, .int .i64 0, .int .i64 0, .int .i64 0, .int .i64 0, .int .i64 0, .int .i64 0] 24 (0, 0)) ∧ Below w.heap.size w w') (ds := [6]) #[false, false, false, false, false, false, false] (by kernel_rfl) rfl rfl ⟨blk_drew HBr.out, blk_drew HRr.out, HWr.out.drew⟩ (fun hHeld => ?_)
      refine take_ (i := 0) (N := some 12) (v := (.agg (nums .i64 (F i)).toArray)) (a' := ?_) #[true, false, false, false, false, false, false] rfl rfl (by kernel_rfl) (fun _ _ _ h => h) (Or.inl ⟨by rfl, by rintro w' ⟨s0, s1, s2⟩; exact run_load_agg_op 24 (.tmp 2) rfl ⟨w.heap.size, 0, none⟩ rfl (nums .i64 (F i)) _ (fun j v hj => by rw [add_plain', Nat.zero_add, blk_cell s0]; simpa using hj) Try.underlying24 rfl (by rw [nums_length, HL.out]; exact info24)⟩) hHeld ?_ ?_
      rotate_left
      · simp only [Act.put, List.setIfInBounds_toArray, List.set_cons_zero, List.set_cons_succ, i64_w, i32_w]
        rfl
      refine pure_ (i := 1) (N := some 13) (v := ?_) (a' := ?_) #[true, true, false, false, false, false, false] rfl rfl (by kernel_rfl) (fun _ _ _ h => h) (Or.inl ⟨by rfl, ?_⟩) ?_ ?_
      rotate_left
      · intro w'
        go_simp
        with_reducible rfl
      rotate_left
      · simp only [Act.put, List.setIfInBounds_toArray, List.set_cons_zero, List.set_cons_succ, i64_w, i32_w]
        rfl
      refine pure_ (i := 2) (N := some 14) (v := ?_) (a' := ?_) #[true, true, true, false, false, false, false] rfl rfl (by kernel_rfl) (fun _ _ _ h => h) (Or.inl ⟨by rfl, ?_⟩) ?_ ?_
      rotate_left
      · intro w'
        go_simp
        with_reducible rfl
      rotate_left
      · simp only [Act.put, List.setIfInBounds_toArray, List.set_cons_zero, List.set_cons_succ, i64_w, i32_w]
        rfl
      refine pure_ (i := 3) (N := some 15) (v := ?_) (a' := ?_) #[true, true, true, true, false, false, false] rfl rfl (by kernel_rfl) (fun _ _ _ h => h) (Or.inl ⟨by rfl, ?_⟩) ?_ ?_
      rotate_left
      · intro w'
        go_simp
        with_reducible rfl
      rotate_left
      · simp only [Act.put, List.setIfInBounds_toArray, List.set_cons_zero, List.set_cons_succ, i64_w, i32_w]
        rfl
      refine take_ (i := 4) (N := some 16) (v := (.agg [Value.int .i64 es[i].f0, Value.slice Ao es[i].f1.length o, Value.slice Bo es[i].f2.length n].toArray)) (a' := ?_) #[true, true, true, true, true, false, false] rfl rfl (by kernel_rfl) (fun _ _ _ h => h) (Or.inl ⟨by rfl, by rintro w' ⟨s0, s1, s2⟩; exact run_load_agg_op 42 (.tmp 15) rfl (ad.add (i * 3)) rfl [Value.int .i64 es[i].f0, Value.slice Ao es[i].f1.length o, Value.slice Bo es[i].f2.length n] _ (fun j v hj => pw_cell_below s2 (hcell.out j v hj)) Try.underlying42 rfl (by kernel_rfl)⟩) hHeld ?_ ?_
      rotate_left
      · simp only [Act.put, List.setIfInBounds_toArray, List.set_cons_zero, List.set_cons_succ, i64_w, i32_w]
        rfl
      refine one_ (i := 5) (N := some 17) #[true, true, true, true, true, true, false] rfl rfl (by kernel_rfl) (by decide) (fun K hK => ?_)
      refine goes_ Try.func20 (by kernel_rfl) rfl #[mv (F i), .agg #[Value.int .i64 es[i].f0, Value.slice Ao es[i].f1.length o, Value.slice Bo es[i].f2.length n]] (by rfl) rfl rfl (by simp [Act.eval]) ?_
      refine (ref_shift_calls (F i) HL.out _ _ _ _ _ _ _ _).mono ?_
      rintro e w1 ⟨rfl, hB1⟩
      rw [HS1.out]
      refine ⟨_, rfl, ?_⟩
      refine hK.out _ _ ⟨blk_below hHeld.1 hB1, blk_below hHeld.2.1 hB1, below_step hHeld.2.2 hB1⟩ (fun hHeld => ?_)
      clear hK K
      refine norm_ (a' := ?_) ?_ ?_
      rotate_left
      · show Act.put _ (some 17) _ = _
        simp only [Act.put, List.setIfInBounds_toArray, List.set_cons_zero, List.set_cons_succ, i64_w, i32_w]
        rfl
      refine last_ (i := 6) (N := none) #[true, true, true, true, true, true, true] rfl rfl (by kernel_rfl) (by decide) (fun K hK => ?_)
      refine skip_ (w1 := putCells w1 w.heap.size 0 (nums .i64 (F (i + 1)))) (by rfl) rfl ?_ ?_
      · exact run_store_agg_op 24 (.tmp 2) (.tmp 17) rfl w.heap.size 0 rfl (nums .i64 (F (i + 1))) rfl _ 24 hHeld.1 (by rw [nums_length, HL2.out, List.size_toArray, nums_length, HL.out]; exact Nat.le_refl _) (nums_one _) (by rw [nums_length, HL2.out]; exact info24)
      refine hK.out _ _ ?_
      clear hK K
      refine done_ (by kernel_rfl) ?_
      have h1 := putCells_block (nums .i64 (F (i + 1))) w1 (w.heap.size) 0 _ 24 hHeld.1
      rw [splice_whole _ (nums .i64 (F (i + 1))) (by rw [nums_length, HL2.out, List.size_toArray, nums_length, HL.out])] at h1
      have h2 := (putCells_other (nums .i64 (F (i + 1))) w1 w.heap.size 0 (w.heap.size + 1) (by omega)).trans hHeld.2.1
      have h3 := putCells_below (nums .i64 (F (i + 1))) w w1 w.heap.size w.heap.size 0 (Nat.le_refl _) hHeld.2.2
      have h1 := Aside0.mk h1
      have h2 := Aside0.mk h2
      have h3 := Aside0.mk h3
      clear hHeld
      go_wp2
      go_roundw
      case measure => simp [intOf]; omega
      case rel => exact ⟨i + 1, by omega, by go_num, h1, h2, h3⟩
    · have hge : ((i : Int) < es.length) = False := eq_false (by omega)
      obtain rfl : i = es.length := by omega
      clear hge
      have HL := Aside0.mk (HLN.out es.length)
      go_wp2_with (first | (refine wpList_load_agg rfl 24 (.tmp 2) rfl ⟨w.heap.size, 0, none⟩ ?z2a (nums .i64 (F es.length)) _ ?z2b Try.underlying24 rfl ?z2c ?z2d) | (refine wpList_store_agg rfl 24 (.tmp 4) (.tmp 18) rfl ((w.heap.size + 1)) 0 ?z2e (nums .i64 (F es.length)) ?z2f _ 24 (HRr.out) ?z2h ?z2i ?z2j ?z2k))
      case z2a => rfl
      case z2b =>
        intro j v hj
        rw [add_plain', Nat.zero_add, blk_cell HBr.out]
        simpa using hj
      case z2c =>
        rw [nums_length, HL.out]
        exact info24
      case z2h => rw [nums_length, HL.out]; exact Nat.le_refl _
      case z2i => exact nums_one _
      case z2j =>
        rw [nums_length, HL.out]
        exact info24
      case z2k =>
        have hW := putCells_block (nums .i64 (F es.length)) _ ((w.heap.size + 1)) 0 _ 24 HRr.out
        rw [splice_whole _ _ (by rw [nums_length, HL.out]; rfl)] at hW
        refine bodyPost_ret (results_cell_row rfl _ _ ((w.heap.size + 1)) 24 _ (0, 0) _ rfl hW Try.underlying24 rfl ?_) rfl ⟨rfl, putCells_below _ _ _ _ _ _ (by omega) HWr.out⟩
        · rw [List.size_toArray, nums_length, HL.out]
          exact info24
theorem ref_move_calls (l : List Int) (hl : l.length = 27) (es : List S42) (A : Option Addr) (c : Nat) (w : World) (hr : k42.C w A es.length es) :
    Calls Try.prog 22 #[mv l, .slice A es.length c] w fun e w' => e = .returned (mv (moveR es l)) ∧ Below w.heap.size w w' := by
  have h := ref_move_core l es (fun i => moveR (es.take i) l) A c w rfl (fun i => by rw [moveR_len, hl]) (fun i h => moveR_take es l i h) hr
  rw [List.take_length] at h
  exact h

end Go.Proofs.Ytjmpmcgdfgfmfaa.Hand
