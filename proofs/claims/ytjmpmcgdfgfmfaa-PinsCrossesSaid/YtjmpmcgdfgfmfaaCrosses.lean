/- The walk of the law PinsCrosses. No condition. -/
import Derived.Test.YtjmpmcgdfgfmfaaKept
namespace Go.Proofs.Ytjmpmcgdfgfmfaa.Hand
open Go.RowKit Go.Proofs.Ytjmpmcgdfgfmfaa.Aggs Go.Proofs.YtjmpmcgdfgfmfaaW.PrintWords Go.Proofs.YtjmpmcgdfgfmfaaW.PrintLast Go.Proofs.YtjmpmcgdfgfmfaaW.PrintMore
set_option linter.unusedVariables false
set_option linter.unusedSimpArgs false
theorem part_at (a b d : List Int) (j : Nat) (v : Value) (hj : (nums .i64 b)[j]? = some v) : (nums .i64 (a ++ (b ++ d))).toArray[a.length + j]? = some v := by
  have hl : j < b.length := by
    have := (List.getElem?_eq_some_iff.1 hj).1
    simpa [nums] using this
  rw [List.getElem?_toArray]
  simp only [nums, List.map_append]
  rw [List.getElem?_append_right (by simp), List.getElem?_append_left (by simp; omega)]
  simpa [nums] using hj
theorem part_last (a b : List Int) (j : Nat) (v : Value) (hj : (nums .i64 b)[j]? = some v) : (nums .i64 (a ++ b)).toArray[a.length + j]? = some v := by
  have h := part_at a b [] j v hj
  rwa [List.append_nil] at h

set_option maxHeartbeats 1000000 in
set_option maxRecDepth 100000 in
theorem crosses_great (q : List Int) (es : List S42) (A : Option Addr) (c : Nat) (w : World) (hr : k42.C w A es.length es) (hd : ∀ e ∈ es, goodE e) (hg : greatB es = true) :
    Calls Try.prog 8 #[mv q, .slice A es.length c] w fun e w' => e = .returned (.bool true) ∧ Below w.heap.size w w' := by
  have HG1 := Aside0.mk (fun W (hW : Below w.heap.size w W) => hg ▸ great_calls es A c W (Kd.C_below hr hW) hd)
  go_enter Try.func8, Try.ntmps8
  go_upto_region 1 with (fail)
  have hb := blk_new w (Obj.cells (nums .i64 q).toArray 54)
  have hB := (Below.refl w.heap.size w).alloc (Nat.le_refl _) (Obj.cells (nums .i64 q).toArray 54)
  generalize (w.alloc (Obj.cells (nums .i64 q).toArray 54)) = V at hb hB ⊢
  have HB := Aside0.mk hb
  have HW := Aside0.mk hB
  clear hb hB
  go_wp2_with fail
  refine (awake_calls _).mono ?_
  rintro e w1 ⟨rfl, hB1⟩
  have HV1 := Aside0.mk hB1
  clear hB1
  go_wp2_with fail
  refine (HG1.out _ (below_step HW.out HV1.out)).mono ?_
  rintro e w2 ⟨rfl, hB2⟩
  have HV2 := Aside0.mk (below_step HV1.out hB2)
  clear hB2 HV1
  go_wp2
  go_ret
  exact ⟨rfl, below_step HW.out HV2.out⟩

set_option maxHeartbeats 8000000 in
set_option maxRecDepth 100000 in
theorem crosses_core (now was made q M : List Int) (es : List S42) (A : Option Addr) (c : Nat) (w : World) (hl0 : now.length = 27) (hl1 : was.length = 27) (hl2 : made.length = 27) (hq : now ++ (was ++ made) = q) (hr : k42.C w A es.length es) (hd : ∀ e ∈ es, goodE e) (hg : greatB es = false) (hM : crossR now was made (moveR es now) = M) (hML : M.length = 27) :
    Calls Try.prog 8 #[mv q, .slice A es.length c] w fun e w' => e = .returned (.bool true) ∧ Below w.heap.size w w' := by
  have HG1 := Aside0.mk (fun W (hW : Below w.heap.size w W) => hg ▸ great_calls es A c W (Kd.C_below hr hW) hd)
  have HL0 := Aside0.mk hl0
  have HL1 := Aside0.mk hl1
  have HL2 := Aside0.mk hl2
  have HP0 : Aside0 (∀ j v, (nums .i64 now)[j]? = some v → (nums .i64 q).toArray[0 + j]? = some v) := Aside0.mk (fun j v hj => by
    have h := part_at [] now (was ++ made) j v hj
    rw [List.nil_append, hq] at h
    exact h)
  have HP1 : Aside0 (∀ j v, (nums .i64 was)[j]? = some v → (nums .i64 q).toArray[27 + j]? = some v) := Aside0.mk (fun j v hj => by
    have h := part_at now was made j v hj
    rw [hq, hl0] at h
    exact h)
  have HP2 : Aside0 (∀ j v, (nums .i64 made)[j]? = some v → (nums .i64 q).toArray[54 + j]? = some v) := Aside0.mk (fun j v hj => by
    have h := part_last (now ++ was) made j v hj
    rw [List.append_assoc, hq, List.length_append, hl0, hl1] at h
    exact h)
  have HML := Aside0.mk hML
  have EM := Aside0.mk hM
  have HRR := Aside0.mk hr
  have HD := Aside0.mk hd
  have hn1 : es.length ≤ 1048576 := by
    have h := sumE_len es
    have := of_decide_eq_false hg
    omega
  clear hML hM hr hd hg hl0 hl1 hl2 hq
  go_enter Try.func8, Try.ntmps8
  go_upto_region 1 with (fail)
  have hb := blk_new w (Obj.cells (nums .i64 q).toArray 54)
  have hB := (Below.refl w.heap.size w).alloc (Nat.le_refl _) (Obj.cells (nums .i64 q).toArray 54)
  generalize (w.alloc (Obj.cells (nums .i64 q).toArray 54)) = V at hb hB ⊢
  have HB := Aside0.mk hb
  have HW := Aside0.mk hB
  clear hb hB
  go_wp2_with fail
  refine (awake_calls _).mono ?_
  rintro e w1 ⟨rfl, hB1⟩
  have HV1 := Aside0.mk hB1
  clear hB1
  go_wp2_with fail
  refine (HG1.out _ (below_step HW.out HV1.out)).mono ?_
  rintro e w2 ⟨rfl, hB2⟩
  have HV2 := Aside0.mk (below_step HV1.out hB2)
  clear hB2 HV1
  go_wp2_with fail
  refine (copied_calls es A c _ (Kd.C_below HRR.out (below_step HW.out HV2.out)) HD.out hn1).mono ?_
  rintro e w3 ⟨g, rfl, hgs, hcp, hB3⟩
  have HB3 := Aside0.mk (blk_below HB.out (below_step HV2.out hB3))
  have HW3 := Aside0.mk (below_step HW.out (below_step HV2.out hB3))
  have HCP := Aside0.mk hcp
  have HM1 := Aside0.mk (fun W (hW : Below w3.heap.size w3 W) => EM.out ▸ cross_calls now was made es (some ⟨g, 0, none⟩) (es.length + 1) W HL0.out HL1.out HL2.out (Kd.C_below (copyB_reads HCP.out hn1 HD.out) hW))
  have HM2 := Aside0.mk (fun W (hW : Below w3.heap.size w3 W) => EM.out ▸ ref_cross_calls now was made es A c W HL0.out HL1.out HL2.out (Kd.C_below HRR.out (below_step HW3.out hW)))
  have HK := Aside0.mk (fun W (hW : Below w3.heap.size w3 W) => kept_calls es g A c W (copyB_below HCP.out hW) (Kd.C_below HRR.out (below_step HW3.out hW)) HD.out hn1)
  have HW0 := Aside0.mk (Below.refl w3.heap.size w3)
  clear hgs hcp hB3 HV2 HB HW HG1
  go_upto_region 6 with (fail)
  refine start_ (n := 23) (S := fun w' => Below w3.heap.size w3 w') (ds := []) #[false, false, false, false, false, false, false, false, false, false, false, false, false, false, false, false, false, false, false, false, false, false, false] (by kernel_rfl) rfl rfl HW0.out.drew (fun hHeld => ?_)
  refine pure_ (i := 0) (N := some 12) (v := ?_) (a' := ?_) #[true, false, false, false, false, false, false, false, false, false, false, false, false, false, false, false, false, false, false, false, false, false, false] rfl rfl (by kernel_rfl) (fun _ _ _ h => h) (Or.inl ⟨by rfl, ?_⟩) ?_ ?_
  rotate_left
  · intro w'
    go_simp
    with_reducible rfl
  rotate_left
  · simp only [Act.put, List.setIfInBounds_toArray, List.set_cons_zero, List.set_cons_succ, i64_w, i32_w]
    rfl
  refine take_ (i := 1) (N := some 13) (v := (.agg (nums .i64 now).toArray)) (a' := ?_) #[true, true, false, false, false, false, false, false, false, false, false, false, false, false, false, false, false, false, false, false, false, false, false] rfl rfl (by kernel_rfl) (fun _ _ _ h => h) (Or.inl ⟨by rfl, by intro w' s0; exact run_load_agg_op 24 (.tmp 12) rfl ⟨w.heap.size, 0, none⟩ rfl (nums .i64 now) _ (fun j v hj => by rw [add_plain', blk_cell (blk_below HB3.out s0)]; exact HP0.out j v hj) Try.underlying24 rfl (by rw [nums_length, HL0.out]; exact info24)⟩) hHeld ?_ ?_
  rotate_left
  · simp only [Act.put, List.setIfInBounds_toArray, List.set_cons_zero, List.set_cons_succ, i64_w, i32_w]
    rfl
  refine pure_ (i := 2) (N := some 14) (v := ?_) (a' := ?_) #[true, true, true, false, false, false, false, false, false, false, false, false, false, false, false, false, false, false, false, false, false, false, false] rfl rfl (by kernel_rfl) (fun _ _ _ h => h) (Or.inl ⟨by rfl, ?_⟩) ?_ ?_
  rotate_left
  · intro w'
    go_simp
    with_reducible rfl
  rotate_left
  · simp only [Act.put, List.setIfInBounds_toArray, List.set_cons_zero, List.set_cons_succ, i64_w, i32_w]
    rfl
  refine take_ (i := 3) (N := some 15) (v := (.agg (nums .i64 was).toArray)) (a' := ?_) #[true, true, true, true, false, false, false, false, false, false, false, false, false, false, false, false, false, false, false, false, false, false, false] rfl rfl (by kernel_rfl) (fun _ _ _ h => h) (Or.inl ⟨by rfl, by intro w' s0; exact run_load_agg_op 24 (.tmp 14) rfl ⟨w.heap.size, 27, none⟩ rfl (nums .i64 was) _ (fun j v hj => by rw [add_plain', blk_cell (blk_below HB3.out s0)]; exact HP1.out j v hj) Try.underlying24 rfl (by rw [nums_length, HL1.out]; exact info24)⟩) hHeld ?_ ?_
  rotate_left
  · simp only [Act.put, List.setIfInBounds_toArray, List.set_cons_zero, List.set_cons_succ, i64_w, i32_w]
    rfl
  refine pure_ (i := 4) (N := some 16) (v := ?_) (a' := ?_) #[true, true, true, true, true, false, false, false, false, false, false, false, false, false, false, false, false, false, false, false, false, false, false] rfl rfl (by kernel_rfl) (fun _ _ _ h => h) (Or.inl ⟨by rfl, ?_⟩) ?_ ?_
  rotate_left
  · intro w'
    go_simp
    with_reducible rfl
  rotate_left
  · simp only [Act.put, List.setIfInBounds_toArray, List.set_cons_zero, List.set_cons_succ, i64_w, i32_w]
    rfl
  refine take_ (i := 5) (N := some 17) (v := (.agg (nums .i64 made).toArray)) (a' := ?_) #[true, true, true, true, true, true, false, false, false, false, false, false, false, false, false, false, false, false, false, false, false, false, false] rfl rfl (by kernel_rfl) (fun _ _ _ h => h) (Or.inl ⟨by rfl, by intro w' s0; exact run_load_agg_op 24 (.tmp 16) rfl ⟨w.heap.size, 54, none⟩ rfl (nums .i64 made) _ (fun j v hj => by rw [add_plain', blk_cell (blk_below HB3.out s0)]; exact HP2.out j v hj) Try.underlying24 rfl (by rw [nums_length, HL2.out]; exact info24)⟩) hHeld ?_ ?_
  rotate_left
  · simp only [Act.put, List.setIfInBounds_toArray, List.set_cons_zero, List.set_cons_succ, i64_w, i32_w]
    rfl
  refine pure_ (i := 6) (N := some 18) (v := ?_) (a' := ?_) #[true, true, true, true, true, true, true, false, false, false, false, false, false, false, false, false, false, false, false, false, false, false, false] rfl rfl (by kernel_rfl) (fun _ _ _ h => h) (Or.inl ⟨by rfl, ?_⟩) ?_ ?_
  rotate_left
  · intro w'
    go_simp
    with_reducible rfl
  rotate_left
  · simp only [Act.put, List.setIfInBounds_toArray, List.set_cons_zero, List.set_cons_succ, i64_w, i32_w]
    rfl
  refine pure_ (i := 8) (N := some 20) (v := ?_) (a' := ?_) #[true, true, true, true, true, true, true, false, true, false, false, false, false, false, false, false, false, false, false, false, false, false, false] rfl rfl (by kernel_rfl) (fun _ _ _ h => h) (Or.inl ⟨by rfl, ?_⟩) ?_ ?_
  rotate_left
  · intro w'
    go_simp
    with_reducible rfl
  rotate_left
  · simp only [Act.put, List.setIfInBounds_toArray, List.set_cons_zero, List.set_cons_succ, i64_w, i32_w]
    rfl
  refine take_ (i := 9) (N := some 21) (v := (.agg (nums .i64 now).toArray)) (a' := ?_) #[true, true, true, true, true, true, true, false, true, true, false, false, false, false, false, false, false, false, false, false, false, false, false] rfl rfl (by kernel_rfl) (fun _ _ _ h => h) (Or.inl ⟨by rfl, by intro w' s0; exact run_load_agg_op 24 (.tmp 20) rfl ⟨w.heap.size, 0, none⟩ rfl (nums .i64 now) _ (fun j v hj => by rw [add_plain', blk_cell (blk_below HB3.out s0)]; exact HP0.out j v hj) Try.underlying24 rfl (by rw [nums_length, HL0.out]; exact info24)⟩) hHeld ?_ ?_
  rotate_left
  · simp only [Act.put, List.setIfInBounds_toArray, List.set_cons_zero, List.set_cons_succ, i64_w, i32_w]
    rfl
  refine pure_ (i := 10) (N := some 22) (v := ?_) (a' := ?_) #[true, true, true, true, true, true, true, false, true, true, true, false, false, false, false, false, false, false, false, false, false, false, false] rfl rfl (by kernel_rfl) (fun _ _ _ h => h) (Or.inl ⟨by rfl, ?_⟩) ?_ ?_
  rotate_left
  · intro w'
    go_simp
    with_reducible rfl
  rotate_left
  · simp only [Act.put, List.setIfInBounds_toArray, List.set_cons_zero, List.set_cons_succ, i64_w, i32_w]
    rfl
  refine take_ (i := 11) (N := some 23) (v := (.agg (nums .i64 was).toArray)) (a' := ?_) #[true, true, true, true, true, true, true, false, true, true, true, true, false, false, false, false, false, false, false, false, false, false, false] rfl rfl (by kernel_rfl) (fun _ _ _ h => h) (Or.inl ⟨by rfl, by intro w' s0; exact run_load_agg_op 24 (.tmp 22) rfl ⟨w.heap.size, 27, none⟩ rfl (nums .i64 was) _ (fun j v hj => by rw [add_plain', blk_cell (blk_below HB3.out s0)]; exact HP1.out j v hj) Try.underlying24 rfl (by rw [nums_length, HL1.out]; exact info24)⟩) hHeld ?_ ?_
  rotate_left
  · simp only [Act.put, List.setIfInBounds_toArray, List.set_cons_zero, List.set_cons_succ, i64_w, i32_w]
    rfl
  refine pure_ (i := 12) (N := some 24) (v := ?_) (a' := ?_) #[true, true, true, true, true, true, true, false, true, true, true, true, true, false, false, false, false, false, false, false, false, false, false] rfl rfl (by kernel_rfl) (fun _ _ _ h => h) (Or.inl ⟨by rfl, ?_⟩) ?_ ?_
  rotate_left
  · intro w'
    go_simp
    with_reducible rfl
  rotate_left
  · simp only [Act.put, List.setIfInBounds_toArray, List.set_cons_zero, List.set_cons_succ, i64_w, i32_w]
    rfl
  refine take_ (i := 13) (N := some 25) (v := (.agg (nums .i64 made).toArray)) (a' := ?_) #[true, true, true, true, true, true, true, false, true, true, true, true, true, true, false, false, false, false, false, false, false, false, false] rfl rfl (by kernel_rfl) (fun _ _ _ h => h) (Or.inl ⟨by rfl, by intro w' s0; exact run_load_agg_op 24 (.tmp 24) rfl ⟨w.heap.size, 54, none⟩ rfl (nums .i64 made) _ (fun j v hj => by rw [add_plain', blk_cell (blk_below HB3.out s0)]; exact HP2.out j v hj) Try.underlying24 rfl (by rw [nums_length, HL2.out]; exact info24)⟩) hHeld ?_ ?_
  rotate_left
  · simp only [Act.put, List.setIfInBounds_toArray, List.set_cons_zero, List.set_cons_succ, i64_w, i32_w]
    rfl
  refine pure_ (i := 14) (N := some 26) (v := ?_) (a' := ?_) #[true, true, true, true, true, true, true, false, true, true, true, true, true, true, true, false, false, false, false, false, false, false, false] rfl rfl (by kernel_rfl) (fun _ _ _ h => h) (Or.inl ⟨by rfl, ?_⟩) ?_ ?_
  rotate_left
  · intro w'
    go_simp
    with_reducible rfl
  rotate_left
  · simp only [Act.put, List.setIfInBounds_toArray, List.set_cons_zero, List.set_cons_succ, i64_w, i32_w]
    rfl
  refine one_ (i := 7) (N := some 19) #[true, true, true, true, true, true, true, true, true, true, true, true, true, true, true, false, false, false, false, false, false, false, false] rfl rfl (by kernel_rfl) (by decide) (fun K hK => ?_)
  refine goes_ Try.func29 (by kernel_rfl) rfl #[mv now, mv was, mv made, .slice (some ⟨g, 0, none⟩) es.length (es.length + 1)] (by rfl) rfl rfl (by simp [Act.eval]) ?_
  refine (HM1.out _ hHeld).mono ?_
  rintro e w1 ⟨rfl, hB1⟩
  refine ⟨_, rfl, ?_⟩
  refine hK.out _ _ (below_step hHeld hB1) (fun hHeld => ?_)
  clear hK K
  refine norm_ (a' := ?_) ?_ ?_
  rotate_left
  · show Act.put _ (some 19) _ = _
    simp only [Act.put, List.setIfInBounds_toArray, List.set_cons_zero, List.set_cons_succ, i64_w, i32_w]
    rfl
  refine one_ (i := 15) (N := some 27) #[true, true, true, true, true, true, true, true, true, true, true, true, true, true, true, true, false, false, false, false, false, false, false] rfl rfl (by kernel_rfl) (by decide) (fun K hK => ?_)
  refine goes_ Try.func30 (by kernel_rfl) rfl #[mv now, mv was, mv made, .slice A es.length c] (by rfl) rfl rfl (by simp [Act.eval]) ?_
  refine (HM2.out _ hHeld).mono ?_
  rintro e w1 ⟨rfl, hB1⟩
  refine ⟨_, rfl, ?_⟩
  refine hK.out _ _ (below_step hHeld hB1) (fun hHeld => ?_)
  clear hK K
  refine norm_ (a' := ?_) ?_ ?_
  rotate_left
  · show Act.put _ (some 27) _ = _
    simp only [Act.put, List.setIfInBounds_toArray, List.set_cons_zero, List.set_cons_succ, i64_w, i32_w]
    rfl
  refine pure_ (i := 16) (N := some 28) (v := (.bool true)) (a' := ?_) #[true, true, true, true, true, true, true, true, true, true, true, true, true, true, true, true, true, false, false, false, false, false, false] rfl rfl (by kernel_rfl) (fun _ _ _ h => h) (Or.inl ⟨by rfl, by intro w'; exact run_eq_agg_op .eql 24 24 (.tmp 19) (.tmp 27) rfl (nums .i64 M).toArray (nums .i64 M).toArray rfl rfl (by kernel_rfl) (.bool true) (marks_eql M HML.out w')⟩) ?_ ?_
  rotate_left
  · simp only [Act.put, List.setIfInBounds_toArray, List.set_cons_zero, List.set_cons_succ, i64_w, i32_w]
    rfl
  refine pure_ (i := 17) (N := some 29) (v := ?_) (a' := ?_) #[true, true, true, true, true, true, true, true, true, true, true, true, true, true, true, true, true, true, false, false, false, false, false] rfl rfl (by kernel_rfl) (fun _ _ _ h => h) (Or.inl ⟨by rfl, ?_⟩) ?_ ?_
  rotate_left
  · intro w'
    go_simp
    with_reducible rfl
  rotate_left
  · simp only [Act.put, List.setIfInBounds_toArray, List.set_cons_zero, List.set_cons_succ, i64_w, i32_w]
    rfl
  refine pure_ (i := 18) (N := some 30) (v := ?_) (a' := ?_) #[true, true, true, true, true, true, true, true, true, true, true, true, true, true, true, true, true, true, true, false, false, false, false] rfl rfl (by kernel_rfl) (fun _ _ _ h => h) (Or.inl ⟨by rfl, ?_⟩) ?_ ?_
  rotate_left
  · intro w'
    go_simp
    with_reducible rfl
  rotate_left
  · simp only [Act.put, List.setIfInBounds_toArray, List.set_cons_zero, List.set_cons_succ, i64_w, i32_w]
    rfl
  refine pure_ (i := 19) (N := some 31) (v := ?_) (a' := ?_) #[true, true, true, true, true, true, true, true, true, true, true, true, true, true, true, true, true, true, true, true, false, false, false] rfl rfl (by kernel_rfl) (fun _ _ _ h => h) (Or.inl ⟨by rfl, ?_⟩) ?_ ?_
  rotate_left
  · intro w'
    go_simp
    with_reducible rfl
  rotate_left
  · simp only [Act.put, List.setIfInBounds_toArray, List.set_cons_zero, List.set_cons_succ, i64_w, i32_w]
    rfl
  refine one_ (i := 20) (N := some 32) #[true, true, true, true, true, true, true, true, true, true, true, true, true, true, true, true, true, true, true, true, true, false, false] rfl rfl (by kernel_rfl) (by decide) (fun K hK => ?_)
  refine goes_ Try.func23 (by kernel_rfl) rfl #[(.slice (some ⟨g, 0, none⟩) es.length (es.length + 1)), .slice A es.length c] (by rfl) rfl rfl (by simp [Act.eval]) ?_
  refine (HK.out _ hHeld).mono ?_
  rintro e w1 ⟨rfl, hB1⟩
  refine ⟨_, rfl, ?_⟩
  refine hK.out _ _ (below_step hHeld hB1) (fun hHeld => ?_)
  clear hK K
  refine norm_ (a' := ?_) ?_ ?_
  rotate_left
  · show Act.put _ (some 32) _ = _
    simp only [Act.put, List.setIfInBounds_toArray, List.set_cons_zero, List.set_cons_succ, i64_w, i32_w]
    rfl
  refine pure_ (i := 21) (N := some 33) (v := ?_) (a' := ?_) #[true, true, true, true, true, true, true, true, true, true, true, true, true, true, true, true, true, true, true, true, true, true, false] rfl rfl (by kernel_rfl) (fun _ _ _ h => h) (Or.inl ⟨by rfl, ?_⟩) ?_ ?_
  rotate_left
  · intro w'
    go_simp
    with_reducible rfl
  rotate_left
  · simp only [Act.put, List.setIfInBounds_toArray, List.set_cons_zero, List.set_cons_succ, i64_w, i32_w]
    rfl
  refine pure_ (i := 22) (N := some 4) (v := ?_) (a' := ?_) #[true, true, true, true, true, true, true, true, true, true, true, true, true, true, true, true, true, true, true, true, true, true, true] rfl rfl (by kernel_rfl) (fun _ _ _ h => h) (Or.inl ⟨by rfl, ?_⟩) ?_ ?_
  rotate_left
  · intro w'
    go_simp
    with_reducible rfl
  rotate_left
  · simp only [Act.put, List.setIfInBounds_toArray, List.set_cons_zero, List.set_cons_succ, i64_w, i32_w]
    rfl
  refine done_ (by kernel_rfl) ?_
  have HX := Aside0.mk hHeld
  clear hHeld HW0
  go_wp2
  go_ret
  exact ⟨rfl, below_step HW3.out HX.out⟩
theorem crosses_calls (now was made : List Int) (es : List S42) (A : Option Addr) (c : Nat) (w : World) (hl0 : now.length = 27) (hl1 : was.length = 27) (hl2 : made.length = 27) (hr : k42.C w A es.length es) (hd : ∀ e ∈ es, goodE e) :
    Calls Try.prog 8 #[mv (now ++ (was ++ made)), .slice A es.length c] w fun e w' => e = .returned (.bool true) ∧ Below w.heap.size w w' := by
  by_cases h1 : greatB es = true
  · exact crosses_great _ es A c w hr hd h1
  · exact crosses_core now was made _ _ es A c w hl0 hl1 hl2 rfl hr hd (eq_false_of_ne_true h1) rfl (crossR_len _ _ _ _)

theorem crosses_row (l1 : List Int) (n1 : Int) (l2 : List Int) (n2 : Int) (l3 : List Int) (n3 : Int) (A1 : Option Addr) (c1 : Nat) (e1 : List S42) (w : World) (hr1 : k42.C w A1 e1.length e1) (hc1 : e1.length ≤ c1)
    (g0 : ((l1.length = 26 ∧ ∀ x ∈ l1, (Lit.int .i64 x).wf = true) ∧ (Lit.int .i64 n1).wf = true) ∧ ((l2.length = 26 ∧ ∀ x ∈ l2, (Lit.int .i64 x).wf = true) ∧ (Lit.int .i64 n2).wf = true) ∧ ((l3.length = 26 ∧ ∀ x ∈ l3, (Lit.int .i64 x).wf = true) ∧ (Lit.int .i64 n3).wf = true)) (g1 : e1.length * Try.prog.bytesOf 42 ≤ reachBytes ∧ ∀ x ∈ e1, (Lit.int .i64 x.f0).wf = true ∧ (x.f1.length * Try.prog.bytesOf 5 ≤ reachBytes ∧ ∀ y ∈ x.f1, (Lit.int .u8 y).wf = true) ∧ (x.f2.length * Try.prog.bytesOf 5 ≤ reachBytes ∧ ∀ y ∈ x.f2, (Lit.int .u8 y).wf = true)) :
    Calls Try.prog 8 #[.agg ((nums .i64 l1 ++ [Value.int .i64 n1]) ++ ((nums .i64 l2 ++ [Value.int .i64 n2]) ++ (nums .i64 l3 ++ [Value.int .i64 n3]))).toArray, .slice A1 e1.length c1] w fun e w' => e = .returned (.bool true) ∧ Below w.heap.size w w' := by
  have h := crosses_calls (l1 ++ [n1]) (l2 ++ [n2]) (l3 ++ [n3]) e1 A1 c1 w (by simp [g0.1.1.1]) (by simp [g0.2.1.1.1]) (by simp [g0.2.2.1.1]) hr1 (good_edits e1 g1.2)
  have e : mv ((l1 ++ [n1]) ++ ((l2 ++ [n2]) ++ (l3 ++ [n3]))) = .agg ((nums .i64 l1 ++ [Value.int .i64 n1]) ++ ((nums .i64 l2 ++ [Value.int .i64 n2]) ++ (nums .i64 l3 ++ [Value.int .i64 n3]))).toArray := by
    show Value.agg (nums .i64 _).toArray = _
    simp [nums]
  rw [e] at h
  exact h

end Go.Proofs.Ytjmpmcgdfgfmfaa.Hand
