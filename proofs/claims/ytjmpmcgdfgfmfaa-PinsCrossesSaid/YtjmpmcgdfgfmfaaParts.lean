/- The walk of the law PinsParts. No condition. -/
import Derived.Test.YtjmpmcgdfgfmfaaMovePure
import Derived.Test.YtjmpmcgdfgfmfaaRaw
import Derived.Test.YtjmpmcgdfgfmfaaFits
import Derived.Test.YtjmpmcgdfgfmfaaOps
namespace Go.Proofs.Ytjmpmcgdfgfmfaa.Hand
open Go.RowKit Go.Proofs.Ytjmpmcgdfgfmfaa.Aggs Go.Proofs.YtjmpmcgdfgfmfaaW.PrintWords Go.Proofs.YtjmpmcgdfgfmfaaW.PrintLast Go.Proofs.YtjmpmcgdfgfmfaaW.PrintMore
set_option linter.unusedVariables false
set_option linter.unusedSimpArgs false

set_option maxHeartbeats 1000000 in
set_option maxRecDepth 100000 in
theorem parts_great1 (l : List Int) (e1 e2 : List S42) (A1 A2 : Option Addr) (c1 c2 : Nat) (w : World) (hr1 : k42.C w A1 e1.length e1) (hd1 : ∀ e ∈ e1, goodE e) (hg1 : greatB e1 = true) :
    Calls Try.prog 5 #[mv l, .slice A1 e1.length c1, .slice A2 e2.length c2] w fun e w' => e = .returned (.bool true) ∧ Below w.heap.size w w' := by
  have HG1 := Aside0.mk (fun W (hW : Below w.heap.size w W) => hg1 ▸ great_calls e1 A1 c1 W (Kd.C_below hr1 hW) hd1)
  go_enter Try.func5, Try.ntmps5
  go_upto_region 1 with (fail)
  have hb := blk_new w (Obj.cells (nums .i64 l).toArray 24)
  have hB := (Below.refl w.heap.size w).alloc (Nat.le_refl _) (Obj.cells (nums .i64 l).toArray 24)
  generalize (w.alloc (Obj.cells (nums .i64 l).toArray 24)) = V at hb hB ⊢
  have HB := Aside0.mk hb
  have HW := Aside0.mk hB
  clear hb hB
  go_wp2_with fail
  refine (awake_calls _).mono ?_
  rintro e w1 ⟨rfl, hB1⟩
  have HV1 := Aside0.mk hB1
  clear hB1
  go_wp2_with fail
  refine (HG1.out _ (below_step HW.out HV1.out)).mono ?_
  rintro e w2 ⟨rfl, hB2⟩
  have HV2 := Aside0.mk (below_step HV1.out hB2)
  clear hB2 HV1
  go_wp2
  go_ret
  exact ⟨rfl, below_step HW.out HV2.out⟩

set_option maxHeartbeats 1000000 in
set_option maxRecDepth 100000 in
theorem parts_great2 (l : List Int) (e1 e2 : List S42) (A1 A2 : Option Addr) (c1 c2 : Nat) (w : World) (hr1 : k42.C w A1 e1.length e1) (hd1 : ∀ e ∈ e1, goodE e) (hg1 : greatB e1 = false) (hr2 : k42.C w A2 e2.length e2) (hd2 : ∀ e ∈ e2, goodE e) (hg2 : greatB e2 = true) :
    Calls Try.prog 5 #[mv l, .slice A1 e1.length c1, .slice A2 e2.length c2] w fun e w' => e = .returned (.bool true) ∧ Below w.heap.size w w' := by
  have HG1 := Aside0.mk (fun W (hW : Below w.heap.size w W) => hg1 ▸ great_calls e1 A1 c1 W (Kd.C_below hr1 hW) hd1)
  have HG2 := Aside0.mk (fun W (hW : Below w.heap.size w W) => hg2 ▸ great_calls e2 A2 c2 W (Kd.C_below hr2 hW) hd2)
  go_enter Try.func5, Try.ntmps5
  go_upto_region 1 with (fail)
  have hb := blk_new w (Obj.cells (nums .i64 l).toArray 24)
  have hB := (Below.refl w.heap.size w).alloc (Nat.le_refl _) (Obj.cells (nums .i64 l).toArray 24)
  generalize (w.alloc (Obj.cells (nums .i64 l).toArray 24)) = V at hb hB ⊢
  have HB := Aside0.mk hb
  have HW := Aside0.mk hB
  clear hb hB
  go_wp2_with fail
  refine (awake_calls _).mono ?_
  rintro e w1 ⟨rfl, hB1⟩
  have HV1 := Aside0.mk hB1
  clear hB1
  go_wp2_with fail
  refine (HG1.out _ (below_step HW.out HV1.out)).mono ?_
  rintro e w2 ⟨rfl, hB2⟩
  have HV2 := Aside0.mk (below_step HV1.out hB2)
  clear hB2 HV1
  go_wp2_with fail
  refine (HG2.out _ (below_step HW.out HV2.out)).mono ?_
  rintro e w3 ⟨rfl, hB3⟩
  have HV3 := Aside0.mk (below_step HV2.out hB3)
  clear hB3 HV2
  go_wp2
  go_ret
  exact ⟨rfl, below_step HW.out HV3.out⟩

set_option maxHeartbeats 8000000 in
set_option maxRecDepth 100000 in
theorem parts_core (l M M1 : List Int) (NF : Nat → List Int) (e1 e2 : List S42) (A1 A2 : Option Addr) (c1 c2 : Nat) (w : World) (hl : l.length = 27) (hr1 : k42.C w A1 e1.length e1) (hd1 : ∀ e ∈ e1, goodE e) (hg1 : greatB e1 = false) (hr2 : k42.C w A2 e2.length e2) (hd2 : ∀ e ∈ e2, goodE e) (hg2 : greatB e2 = false)
    (hM : moveR (e1 ++ e2) l = M) (hM1 : moveR e1 l = M1) (hM2 : moveR e2 M1 = M) (hML : M.length = 27) (hML1 : M1.length = 27) (hN : ∀ i, i < 26 → moveR (e1 ++ e2) (allOff.set 26 (l[i]?.getD 0)) = NF i) (hNL : ∀ i, i < 26 → (NF i).length = 27) (hNG : ∀ i, i < 26 → (NF i)[26]?.getD 0 = M[i]?.getD 0) :
    Calls Try.prog 5 #[mv l, .slice A1 e1.length c1, .slice A2 e2.length c2] w fun e w' => e = .returned (.bool true) ∧ Below w.heap.size w w' := by
  have HG1 := Aside0.mk (fun W (hW : Below w.heap.size w W) => hg1 ▸ great_calls e1 A1 c1 W (Kd.C_below hr1 hW) hd1)
  have HG2 := Aside0.mk (fun W (hW : Below w.heap.size w W) => hg2 ▸ great_calls e2 A2 c2 W (Kd.C_below hr2 hW) hd2)
  have HL := Aside0.mk hl
  have HML := Aside0.mk hML
  have HML1 := Aside0.mk hML1
  have EM := Aside0.mk hM
  have EM1 := Aside0.mk hM1
  have EM2 := Aside0.mk hM2
  have EN := Aside0.mk hN
  have ENL := Aside0.mk hNL
  have ENG := Aside0.mk hNG
  clear hM hM1 hM2 hML hML1 hN hNL hNG
  go_enter Try.func5, Try.ntmps5
  go_upto_region 1 with (fail)
  have hb := blk_new w (Obj.cells (nums .i64 l).toArray 24)
  have hB := (Below.refl w.heap.size w).alloc (Nat.le_refl _) (Obj.cells (nums .i64 l).toArray 24)
  generalize (w.alloc (Obj.cells (nums .i64 l).toArray 24)) = V at hb hB ⊢
  have HB := Aside0.mk hb
  have HW := Aside0.mk hB
  clear hb hB
  go_wp2_with fail
  refine (awake_calls _).mono ?_
  rintro e w1 ⟨rfl, hB1⟩
  have HV1 := Aside0.mk hB1
  clear hB1
  go_wp2_with fail
  refine (HG1.out _ (below_step HW.out HV1.out)).mono ?_
  rintro e w2 ⟨rfl, hB2⟩
  have HV2 := Aside0.mk (below_step HV1.out hB2)
  clear hB2 HV1
  go_wp2_with fail
  refine (HG2.out _ (below_step HW.out HV2.out)).mono ?_
  rintro e w3 ⟨rfl, hB3⟩
  have HV3 := Aside0.mk (below_step HV2.out hB3)
  clear hB3 HV2
  have HO0 : (w3.alloc (Obj.cells #[] 42)).ownsRow V.heap.size 42 k42.sz (.slice (some ⟨w3.heap.size, 0, none⟩) 0 0) 0 [] := ⟨rfl, .inr ⟨w3.heap.size, 0, #[], rfl, HV3.out.size, blk_new _ _, Nat.le_refl _, by simp [maxLen], rfl, rfl⟩⟩
  have HOO := Aside0.mk HO0
  have HBA := Aside0.mk (HV3.out.alloc HV3.out.size (Obj.cells #[] 42))
  have HR1 := Aside0.mk (ReadsRow.imp_ (R' := k42.K w) hr1 (below_step HW.out HBA.out) (fun _ _ h => h))
  have hn1 : e1.length ≤ 1048576 := by
    have h := sumE_len e1
    have := of_decide_eq_false hg1
    omega
  have hn2 : e2.length ≤ 1048576 := by
    have h := sumE_len e2
    have := of_decide_eq_false hg2
    omega
  have HRR1 := Aside0.mk hr1
  have HRR2 := Aside0.mk hr2
  clear HO0 hr1 hr2 hd1 hd2 hg1 hg2 HG1 HG2
  go_wp2_with (refine append_rows_raw k42 w (w0 := V) V.heap.size rfl (.tmp 20) (.tmp 21) 37 42 (.agg #[.int .i64 0, .slice none 0 0, .slice none 0 0]) 56 rfl Try.underlying37 (by kernel_rfl) (by rfl) (by decide) (by decide) (.slice (some ⟨w3.heap.size, 0, none⟩) 0 0) 0 [] A1 e1.length c1 e1 rfl rfl HOO.out HR1.out HBA.out HBA.out.size (by omega) ?ap2)
  intro v1 W1 news1 hq1 ho1 hb1 hg1'
  have HQ1 := Aside0.mk hq1
  have HO1 := Aside0.mk ho1
  have HP1 := Aside0.mk hb1
  have HR2 := Aside0.mk (ReadsRow.imp_ (R' := k42.K w) HRR2.out (below_step HW.out hb1) (fun _ _ h => h))
  clear hq1 ho1 hb1 hg1' HOO HBA HR1 HV3
  go_wp2_with (refine append_rows_raw k42 w (w0 := V) V.heap.size rfl (.tmp 22) (.tmp 23) 37 42 (.agg #[.int .i64 0, .slice none 0 0, .slice none 0 0]) 56 rfl Try.underlying37 (by kernel_rfl) (by rfl) (by decide) (by decide) v1 e1.length news1 A2 e2.length c2 e2 rfl rfl HO1.out HR2.out HP1.out HP1.out.size (by omega) ?ap4)
  intro v2 W2 news2 hq2 ho2 hb2 hg2'
  have hrd := own_reads_row ho2 (Kd.reps_append HQ1.out hq2) (by rw [List.length_append])
  obtain ⟨A3, c3, hv, hrd⟩ := hrd
  have hrd2 : k42.C W2 A3 (e1 ++ e2).length (e1 ++ e2) := by
    rw [List.length_append]
    exact ReadsRow.imp_ hrd (Below.refl _ _) (fun p c hk => k42.K_below (below_step HW.out hb2) hk)
  subst hv
  have HC := Aside0.mk hrd2
  have HVW := Aside0.mk hb2
  clear hq2 ho2 hb2 hg2' hrd hrd2 HP1 HQ1 HO1 HR2
  have HWW := Aside0.mk (below_then HW.out HW.out.size HVW.out)
  have HVM : Aside0 (∀ W, Below W2.heap.size W2 W → Calls Try.prog 21 #[mv l, .slice A3 (e1.length + e2.length) c3] W fun e w' => e = .returned (mv M) ∧ Below W.heap.size W w') := Aside0.mk (fun W hW => by
    have h := move_calls l HL.out (e1 ++ e2) A3 c3 W (Kd.C_below HC.out hW)
    rw [EM.out, List.length_append] at h
    exact h)
  have HV1 := Aside0.mk (fun W (hW : Below W2.heap.size W2 W) => EM1.out ▸ move_calls l HL.out e1 A1 c1 W (Kd.C_below HRR1.out (below_step HWW.out hW)))
  have HV2 := Aside0.mk (fun W (hW : Below W2.heap.size W2 W) => EM2.out ▸ move_calls M1 HML1.out e2 A2 c2 W (Kd.C_below HRR2.out (below_step HWW.out hW)))
  have HV0 : Aside0 (∀ W, Calls Try.prog 21 #[mv l, .slice none 0 0] W fun e w' => e = .returned (mv l) ∧ Below W.heap.size W w') := Aside0.mk (fun W => move_calls l HL.out [] none 0 W ⟨rfl, by decide, fun h => absurd h (by decide)⟩)
  have HBW := Aside0.mk (blk_below HB.out HVW.out)
  clear HB
  go_wp2_with (refine wpList_load_agg rfl 24 (.tmp 3) rfl ⟨w.heap.size, 0, none⟩ ?q1a (nums .i64 l) _ ?q1b Try.underlying24 rfl ?q1c ?q1d)
  case q1a => rfl
  case q1b =>
    intro j v hj
    rw [add_plain', Nat.zero_add, blk_cell HBW.out]
    simpa using hj
  case q1c =>
    rw [nums_length, HL.out]
    exact info24
  go_wp2_with fail
  refine (HVM.out _ (Below.refl _ _)).mono ?_
  rintro e w4 ⟨rfl, hB4⟩
  have HB4 := Aside0.mk (blk_below HBW.out hB4)
  have HW4 := Aside0.mk hB4
  clear hB4 HBW
  go_upto_region 7 with (refine wpList_store_agg rfl 24 (.tmp 8) (.tmp 27) rfl w4.heap.size 0 ?q2a (nums .i64 M) ?q2b _ 24 (blk_new w4 (Obj.cells #[.int .i64 0, .int .i64 0, .int .i64 0, .int .i64 0, .int .i64 0, .int .i64 0, .int .i64 0, .int .i64 0, .int .i64 0, .int .i64 0, .int .i64 0, .int .i64 0, .int .i64 0, .int .i64 0, .int .i64 0, .int .i64 0, .int .i64 0, .int .i64 0, .int .i64 0, .int .i64 0, .int .i64 0, .int .i64 0, .int .i64 0, .int .i64 0, .int .i64 0, .int .i64 0, .int .i64 0] 24)) ?q2c (nums_one _) ?q2d ?q2e)
  case q2a => rfl
  case q2b => rfl
  case q2c => rw [nums_length, HML.out]; exact Nat.le_refl _
  case q2d =>
    rw [nums_length, HML.out]
    exact info24
  have h1 := putCells_block (nums .i64 M) (w4.alloc (Obj.cells #[.int .i64 0, .int .i64 0, .int .i64 0, .int .i64 0, .int .i64 0, .int .i64 0, .int .i64 0, .int .i64 0, .int .i64 0, .int .i64 0, .int .i64 0, .int .i64 0, .int .i64 0, .int .i64 0, .int .i64 0, .int .i64 0, .int .i64 0, .int .i64 0, .int .i64 0, .int .i64 0, .int .i64 0, .int .i64 0, .int .i64 0, .int .i64 0, .int .i64 0, .int .i64 0, .int .i64 0] 24)) w4.heap.size 0 _ 24 (blk_new w4 (Obj.cells #[.int .i64 0, .int .i64 0, .int .i64 0, .int .i64 0, .int .i64 0, .int .i64 0, .int .i64 0, .int .i64 0, .int .i64 0, .int .i64 0, .int .i64 0, .int .i64 0, .int .i64 0, .int .i64 0, .int .i64 0, .int .i64 0, .int .i64 0, .int .i64 0, .int .i64 0, .int .i64 0, .int .i64 0, .int .i64 0, .int .i64 0, .int .i64 0, .int .i64 0, .int .i64 0, .int .i64 0] 24))
  rw [splice_whole _ (nums .i64 M) (by rw [nums_length, HML.out]; rfl)] at h1
  have h3 := putCells_below (nums .i64 M) W2 (w4.alloc (Obj.cells #[.int .i64 0, .int .i64 0, .int .i64 0, .int .i64 0, .int .i64 0, .int .i64 0, .int .i64 0, .int .i64 0, .int .i64 0, .int .i64 0, .int .i64 0, .int .i64 0, .int .i64 0, .int .i64 0, .int .i64 0, .int .i64 0, .int .i64 0, .int .i64 0, .int .i64 0, .int .i64 0, .int .i64 0, .int .i64 0, .int .i64 0, .int .i64 0, .int .i64 0, .int .i64 0, .int .i64 0] 24)) W2.heap.size w4.heap.size 0 HW4.out.size (HW4.out.alloc HW4.out.size (Obj.cells #[.int .i64 0, .int .i64 0, .int .i64 0, .int .i64 0, .int .i64 0, .int .i64 0, .int .i64 0, .int .i64 0, .int .i64 0, .int .i64 0, .int .i64 0, .int .i64 0, .int .i64 0, .int .i64 0, .int .i64 0, .int .i64 0, .int .i64 0, .int .i64 0, .int .i64 0, .int .i64 0, .int .i64 0, .int .i64 0, .int .i64 0, .int .i64 0, .int .i64 0, .int .i64 0, .int .i64 0] 24))
  have hk0 := (putCells_other (nums .i64 M) (w4.alloc (Obj.cells #[.int .i64 0, .int .i64 0, .int .i64 0, .int .i64 0, .int .i64 0, .int .i64 0, .int .i64 0, .int .i64 0, .int .i64 0, .int .i64 0, .int .i64 0, .int .i64 0, .int .i64 0, .int .i64 0, .int .i64 0, .int .i64 0, .int .i64 0, .int .i64 0, .int .i64 0, .int .i64 0, .int .i64 0, .int .i64 0, .int .i64 0, .int .i64 0, .int .i64 0, .int .i64 0, .int .i64 0] 24)) w4.heap.size 0 _ (Nat.ne_of_lt (blk_lt HB4.out))).trans (blk_alloc HB4.out (Obj.cells #[.int .i64 0, .int .i64 0, .int .i64 0, .int .i64 0, .int .i64 0, .int .i64 0, .int .i64 0, .int .i64 0, .int .i64 0, .int .i64 0, .int .i64 0, .int .i64 0, .int .i64 0, .int .i64 0, .int .i64 0, .int .i64 0, .int .i64 0, .int .i64 0, .int .i64 0, .int .i64 0, .int .i64 0, .int .i64 0, .int .i64 0, .int .i64 0, .int .i64 0, .int .i64 0, .int .i64 0] 24))
  generalize (putCells (w4.alloc (Obj.cells #[.int .i64 0, .int .i64 0, .int .i64 0, .int .i64 0, .int .i64 0, .int .i64 0, .int .i64 0, .int .i64 0, .int .i64 0, .int .i64 0, .int .i64 0, .int .i64 0, .int .i64 0, .int .i64 0, .int .i64 0, .int .i64 0, .int .i64 0, .int .i64 0, .int .i64 0, .int .i64 0, .int .i64 0, .int .i64 0, .int .i64 0, .int .i64 0, .int .i64 0, .int .i64 0, .int .i64 0] 24)) w4.heap.size 0 (nums .i64 M)) = U at h1 h3 hk0 ⊢
  have UN := Aside0.mk h1
  have UB := Aside0.mk h3
  have UK0 := Aside0.mk hk0
  clear h1 h3 hk0
  clear HB4 HW4
  refine start_ (n := 13) (S := fun w' => w'.heap[w.heap.size]? = some (Obj.cells (nums .i64 l).toArray 24) ∧ w'.heap[w4.heap.size]? = some (Obj.cells (nums .i64 M).toArray 24) ∧ Below W2.heap.size W2 w') (ds := []) #[false, false, false, false, false, false, false, false, false, false, false, false, false] (by kernel_rfl) rfl rfl ⟨blk_drew UK0.out, blk_drew UN.out, UB.out.drew⟩ (fun hHeld => ?_)
  refine take_ (i := 0) (N := some 28) (v := (.agg (nums .i64 M).toArray)) (a' := ?_) #[true, false, false, false, false, false, false, false, false, false, false, false, false] rfl rfl (by kernel_rfl) (fun _ _ _ h => h) (Or.inl ⟨by rfl, by rintro w' ⟨s0, s1, s2⟩; exact run_load_agg_op 24 (.tmp 8) rfl ⟨w4.heap.size, 0, none⟩ rfl (nums .i64 M) _ (fun j v hj => by rw [add_plain', Nat.zero_add, blk_cell s1]; simpa using hj) Try.underlying24 rfl (by rw [nums_length, HML.out]; exact info24)⟩) hHeld ?_ ?_
  rotate_left
  · simp only [Act.put, List.setIfInBounds_toArray, List.set_cons_zero, List.set_cons_succ, i64_w, i32_w]
    rfl
  refine take_ (i := 1) (N := some 29) (v := (.agg (nums .i64 l).toArray)) (a' := ?_) #[true, true, false, false, false, false, false, false, false, false, false, false, false] rfl rfl (by kernel_rfl) (fun _ _ _ h => h) (Or.inl ⟨by rfl, by rintro w' ⟨s0, s1, s2⟩; exact run_load_agg_op 24 (.tmp 3) rfl ⟨w.heap.size, 0, none⟩ rfl (nums .i64 l) _ (fun j v hj => by rw [add_plain', Nat.zero_add, blk_cell s0]; simpa using hj) Try.underlying24 rfl (by rw [nums_length, HL.out]; exact info24)⟩) hHeld ?_ ?_
  rotate_left
  · simp only [Act.put, List.setIfInBounds_toArray, List.set_cons_zero, List.set_cons_succ, i64_w, i32_w]
    rfl
  refine pure_ (i := 2) (N := some 30) (v := ?_) (a' := ?_) #[true, true, true, false, false, false, false, false, false, false, false, false, false] rfl rfl (by kernel_rfl) (fun _ _ _ h => h) (Or.inl ⟨by rfl, ?_⟩) ?_ ?_
  rotate_left
  · intro w'
    go_simp
    with_reducible rfl
  rotate_left
  · simp only [Act.put, List.setIfInBounds_toArray, List.set_cons_zero, List.set_cons_succ, i64_w, i32_w]
    rfl
  refine pure_ (i := 4) (N := some 32) (v := ?_) (a' := ?_) #[true, true, true, false, true, false, false, false, false, false, false, false, false] rfl rfl (by kernel_rfl) (fun _ _ _ h => h) (Or.inl ⟨by rfl, ?_⟩) ?_ ?_
  rotate_left
  · intro w'
    go_simp
    with_reducible rfl
  rotate_left
  · simp only [Act.put, List.setIfInBounds_toArray, List.set_cons_zero, List.set_cons_succ, i64_w, i32_w]
    rfl
  refine one_ (i := 3) (N := some 31) #[true, true, true, true, true, false, false, false, false, false, false, false, false] rfl rfl (by kernel_rfl) (by decide) (fun K hK => ?_)
  refine goes_ Try.func21 (by kernel_rfl) rfl #[mv l, .slice A1 e1.length c1] (by rfl) rfl rfl (by simp [Act.eval]) ?_
  refine (HV1.out _ hHeld.2.2).mono ?_
  rintro e w1 ⟨rfl, hB1⟩
  refine ⟨_, rfl, ?_⟩
  refine hK.out _ _ ⟨blk_below hHeld.1 hB1, blk_below hHeld.2.1 hB1, below_step hHeld.2.2 hB1⟩ (fun hHeld => ?_)
  clear hK K
  refine norm_ (a' := ?_) ?_ ?_
  rotate_left
  · show Act.put _ (some 31) _ = _
    simp only [Act.put, List.setIfInBounds_toArray, List.set_cons_zero, List.set_cons_succ, i64_w, i32_w]
    rfl
  refine one_ (i := 5) (N := some 33) #[true, true, true, true, true, true, false, false, false, false, false, false, false] rfl rfl (by kernel_rfl) (by decide) (fun K hK => ?_)
  refine goes_ Try.func21 (by kernel_rfl) rfl #[mv M1, .slice A2 e2.length c2] (by rfl) rfl rfl (by simp [Act.eval]) ?_
  refine (HV2.out _ hHeld.2.2).mono ?_
  rintro e w1 ⟨rfl, hB1⟩
  refine ⟨_, rfl, ?_⟩
  refine hK.out _ _ ⟨blk_below hHeld.1 hB1, blk_below hHeld.2.1 hB1, below_step hHeld.2.2 hB1⟩ (fun hHeld => ?_)
  clear hK K
  refine norm_ (a' := ?_) ?_ ?_
  rotate_left
  · show Act.put _ (some 33) _ = _
    simp only [Act.put, List.setIfInBounds_toArray, List.set_cons_zero, List.set_cons_succ, i64_w, i32_w]
    rfl
  refine pure_ (i := 6) (N := some 34) (v := (.bool false)) (a' := ?_) #[true, true, true, true, true, true, true, false, false, false, false, false, false] rfl rfl (by kernel_rfl) (fun _ _ _ h => h) (Or.inl ⟨by rfl, by intro w'; exact run_eq_agg_op .neq 24 24 (.tmp 28) (.tmp 33) rfl (nums .i64 M).toArray (nums .i64 M).toArray rfl rfl (by kernel_rfl) (.bool false) (marks_neq M HML.out w')⟩) ?_ ?_
  rotate_left
  · simp only [Act.put, List.setIfInBounds_toArray, List.set_cons_zero, List.set_cons_succ, i64_w, i32_w]
    rfl
  refine pure_ (i := 7) (N := some 35) (v := ?_) (a' := ?_) #[true, true, true, true, true, true, true, true, false, false, false, false, false] rfl rfl (by kernel_rfl) (fun _ _ _ h => h) (Or.inl ⟨by rfl, ?_⟩) ?_ ?_
  rotate_left
  · intro w'
    go_simp
    with_reducible rfl
  rotate_left
  · simp only [Act.put, List.setIfInBounds_toArray, List.set_cons_zero, List.set_cons_succ, i64_w, i32_w]
    rfl
  refine take_ (i := 8) (N := some 36) (v := (.agg (nums .i64 l).toArray)) (a' := ?_) #[true, true, true, true, true, true, true, true, true, false, false, false, false] rfl rfl (by kernel_rfl) (fun _ _ _ h => h) (Or.inl ⟨by rfl, by rintro w' ⟨s0, s1, s2⟩; exact run_load_agg_op 24 (.tmp 3) rfl ⟨w.heap.size, 0, none⟩ rfl (nums .i64 l) _ (fun j v hj => by rw [add_plain', Nat.zero_add, blk_cell s0]; simpa using hj) Try.underlying24 rfl (by rw [nums_length, HL.out]; exact info24)⟩) hHeld ?_ ?_
  rotate_left
  · simp only [Act.put, List.setIfInBounds_toArray, List.set_cons_zero, List.set_cons_succ, i64_w, i32_w]
    rfl
  refine take_ (i := 10) (N := some 38) (v := (.agg (nums .i64 l).toArray)) (a' := ?_) #[true, true, true, true, true, true, true, true, true, false, true, false, false] rfl rfl (by kernel_rfl) (fun _ _ _ h => h) (Or.inl ⟨by rfl, by rintro w' ⟨s0, s1, s2⟩; exact run_load_agg_op 24 (.tmp 3) rfl ⟨w.heap.size, 0, none⟩ rfl (nums .i64 l) _ (fun j v hj => by rw [add_plain', Nat.zero_add, blk_cell s0]; simpa using hj) Try.underlying24 rfl (by rw [nums_length, HL.out]; exact info24)⟩) hHeld ?_ ?_
  rotate_left
  · simp only [Act.put, List.setIfInBounds_toArray, List.set_cons_zero, List.set_cons_succ, i64_w, i32_w]
    rfl
  refine one_ (i := 9) (N := some 37) #[true, true, true, true, true, true, true, true, true, true, true, false, false] rfl rfl (by kernel_rfl) (by decide) (fun K hK => ?_)
  refine goes_ Try.func21 (by kernel_rfl) rfl #[mv l, .slice none 0 0] (by rfl) rfl rfl (by simp [Act.eval]) ?_
  refine (HV0.out _).mono ?_
  rintro e w1 ⟨rfl, hB1⟩
  refine ⟨_, rfl, ?_⟩
  refine hK.out _ _ ⟨blk_below hHeld.1 hB1, blk_below hHeld.2.1 hB1, below_step hHeld.2.2 hB1⟩ (fun hHeld => ?_)
  clear hK K
  refine norm_ (a' := ?_) ?_ ?_
  rotate_left
  · show Act.put _ (some 37) _ = _
    simp only [Act.put, List.setIfInBounds_toArray, List.set_cons_zero, List.set_cons_succ, i64_w, i32_w]
    rfl
  refine pure_ (i := 11) (N := some 39) (v := (.bool false)) (a' := ?_) #[true, true, true, true, true, true, true, true, true, true, true, true, false] rfl rfl (by kernel_rfl) (fun _ _ _ h => h) (Or.inl ⟨by rfl, by intro w'; exact run_eq_agg_op .neq 24 24 (.tmp 37) (.tmp 38) rfl (nums .i64 l).toArray (nums .i64 l).toArray rfl rfl (by kernel_rfl) (.bool false) (marks_neq l HL.out w')⟩) ?_ ?_
  rotate_left
  · simp only [Act.put, List.setIfInBounds_toArray, List.set_cons_zero, List.set_cons_succ, i64_w, i32_w]
    rfl
  refine pure_ (i := 12) (N := some 40) (v := ?_) (a' := ?_) #[true, true, true, true, true, true, true, true, true, true, true, true, true] rfl rfl (by kernel_rfl) (fun _ _ _ h => h) (Or.inl ⟨by rfl, ?_⟩) ?_ ?_
  rotate_left
  · intro w'
    go_simp
    with_reducible rfl
  rotate_left
  · simp only [Act.put, List.setIfInBounds_toArray, List.set_cons_zero, List.set_cons_succ, i64_w, i32_w]
    rfl
  refine done_ (by kernel_rfl) ?_
  have HB7 := Aside0.mk hHeld.1
  have HM7 := Aside0.mk hHeld.2.1
  have HW7 := Aside0.mk hHeld.2.2
  clear hHeld UN UB UK0 HV0 HV1 HV2
  have HVN : Aside0 (∀ i, i < 26 → ∀ W, Below W2.heap.size W2 W → Calls Try.prog 21 #[mv (allOff.set 26 (l[i]?.getD 0)), .slice A3 (e1.length + e2.length) c3] W fun e w' => e = .returned (mv (NF i)) ∧ Below W.heap.size W w') := Aside0.mk (fun i hi W hW => by
    have h := move_calls (allOff.set 26 (l[i]?.getD 0)) (by simp [allOff]) (e1 ++ e2) A3 c3 W (Kd.C_below HC.out hW)
    rw [EN.out i hi, List.length_append] at h
    exact h)
  go_wp2_with (refine wpList_load_agg rfl 22 (.tmp 41) rfl ⟨w.heap.size, 0, none⟩ ?hx ((nums .i64 l).take 26) _ ?hc Try.underlying22 rfl ?hi ?hh)
  case hx => rfl
  case hi =>
    have e1 : ((nums .i64 l).take 26).length = 26 := by
      have := HL.out
      simp [nums]
      omega
    have hI : (Try.prog.info? 22).map (fun x => x.size) = some 26 := by kernel_rfl
    rw [e1]
    exact hI
  case hc =>
    intro j v hj
    have hjl : j < 26 := by
      have := (List.getElem?_eq_some_iff.1 hj).1
      rw [List.length_take] at this
      omega
    rw [List.getElem?_take_of_lt hjl] at hj
    rw [add_plain', Nat.zero_add, blk_cell HB7.out]
    simpa using hj
  clear HB7
  go_loopw [43] (fun v9 wr => ∃ i : Nat, i ≤ 26 ∧ v9 = .int .i64 i ∧ Aside0 (wr.heap[w4.heap.size]? = some (Obj.cells (nums .i64 M).toArray 24)) ∧ Aside0 (Below W2.heap.size W2 wr)) (fun v9 _ => 26 - (intOf v9).toNat)
  case atStart => exact ⟨0, by omega, rfl, HM7, HW7⟩
  case round =>
    obtain ⟨i, hi, rfl, HMr, HWr⟩ := hrel
    clear HM7 HW7
    by_cases hlt : i < 26
    · have hlt' : ((i : Int) < 26) = True := eq_true (by omega)
      have hi0 : (0 : Int) ≤ (i : Int) := by omega
      have HLO : ∀ y : Int, (allOff.set 26 y).length = 27 := fun y => by simp [allOff]
      obtain ⟨x, hxe⟩ : ∃ x, x = l[i]?.getD 0 := ⟨_, rfl⟩
      have HVX := Aside0.mk (HVN.out i hlt)
      have hix : ∀ W, (Instr.index 22 (.agg (List.take 26 (nums .i64 l)).toArray) (.int .i64 (i : Int))).run Try.prog W = .ok (.int .i64 (l[i]?.getD 0)) W := fun W => by
        refine run_index_agg W 22 3 26 i _ _ _ Try.underlying22 Try.underlying3 rfl (by kernel_rfl) hlt ?_
        have h1 : i < l.length := by have := HL.out; omega
        simp [nums, hlt, h1]
      rw [← hxe] at hix HVX
      clear hxe HVN
      go_wp2_with fail
      refine (none_calls _).mono ?_
      rintro e w5 ⟨rfl, hB5⟩
      have HM5 := Aside0.mk (blk_below HMr.out hB5)
      have HW5 := Aside0.mk (below_step HWr.out hB5)
      clear hB5 HMr HWr
      go_upto_region 13 with (refine wpList_store_agg rfl 24 (.tmp 11) (.tmp 47) rfl w5.heap.size 0 ?q3a (nums .i64 allOff) ?q3b _ 24 (blk_new w5 (Obj.cells #[.int .i64 0, .int .i64 0, .int .i64 0, .int .i64 0, .int .i64 0, .int .i64 0, .int .i64 0, .int .i64 0, .int .i64 0, .int .i64 0, .int .i64 0, .int .i64 0, .int .i64 0, .int .i64 0, .int .i64 0, .int .i64 0, .int .i64 0, .int .i64 0, .int .i64 0, .int .i64 0, .int .i64 0, .int .i64 0, .int .i64 0, .int .i64 0, .int .i64 0, .int .i64 0, .int .i64 0] 24)) ?q3c (nums_one _) ?q3d ?q3e)
      case q3a => rfl
      case q3b => rfl
      case q3c => rw [nums_length, (rfl : allOff.length = 27)]; exact Nat.le_refl _
      case q3d =>
        rw [nums_length, (rfl : allOff.length = 27)]
        exact info24
      have h1 := putCells_block (nums .i64 allOff) (w5.alloc (Obj.cells #[.int .i64 0, .int .i64 0, .int .i64 0, .int .i64 0, .int .i64 0, .int .i64 0, .int .i64 0, .int .i64 0, .int .i64 0, .int .i64 0, .int .i64 0, .int .i64 0, .int .i64 0, .int .i64 0, .int .i64 0, .int .i64 0, .int .i64 0, .int .i64 0, .int .i64 0, .int .i64 0, .int .i64 0, .int .i64 0, .int .i64 0, .int .i64 0, .int .i64 0, .int .i64 0, .int .i64 0] 24)) w5.heap.size 0 _ 24 (blk_new w5 (Obj.cells #[.int .i64 0, .int .i64 0, .int .i64 0, .int .i64 0, .int .i64 0, .int .i64 0, .int .i64 0, .int .i64 0, .int .i64 0, .int .i64 0, .int .i64 0, .int .i64 0, .int .i64 0, .int .i64 0, .int .i64 0, .int .i64 0, .int .i64 0, .int .i64 0, .int .i64 0, .int .i64 0, .int .i64 0, .int .i64 0, .int .i64 0, .int .i64 0, .int .i64 0, .int .i64 0, .int .i64 0] 24))
      rw [splice_whole _ (nums .i64 allOff) (by rw [nums_length, (rfl : allOff.length = 27)]; rfl)] at h1
      have h3 := putCells_below (nums .i64 allOff) W2 (w5.alloc (Obj.cells #[.int .i64 0, .int .i64 0, .int .i64 0, .int .i64 0, .int .i64 0, .int .i64 0, .int .i64 0, .int .i64 0, .int .i64 0, .int .i64 0, .int .i64 0, .int .i64 0, .int .i64 0, .int .i64 0, .int .i64 0, .int .i64 0, .int .i64 0, .int .i64 0, .int .i64 0, .int .i64 0, .int .i64 0, .int .i64 0, .int .i64 0, .int .i64 0, .int .i64 0, .int .i64 0, .int .i64 0] 24)) W2.heap.size w5.heap.size 0 HW5.out.size (HW5.out.alloc HW5.out.size (Obj.cells #[.int .i64 0, .int .i64 0, .int .i64 0, .int .i64 0, .int .i64 0, .int .i64 0, .int .i64 0, .int .i64 0, .int .i64 0, .int .i64 0, .int .i64 0, .int .i64 0, .int .i64 0, .int .i64 0, .int .i64 0, .int .i64 0, .int .i64 0, .int .i64 0, .int .i64 0, .int .i64 0, .int .i64 0, .int .i64 0, .int .i64 0, .int .i64 0, .int .i64 0, .int .i64 0, .int .i64 0] 24))
      have hk0 := (putCells_other (nums .i64 allOff) (w5.alloc (Obj.cells #[.int .i64 0, .int .i64 0, .int .i64 0, .int .i64 0, .int .i64 0, .int .i64 0, .int .i64 0, .int .i64 0, .int .i64 0, .int .i64 0, .int .i64 0, .int .i64 0, .int .i64 0, .int .i64 0, .int .i64 0, .int .i64 0, .int .i64 0, .int .i64 0, .int .i64 0, .int .i64 0, .int .i64 0, .int .i64 0, .int .i64 0, .int .i64 0, .int .i64 0, .int .i64 0, .int .i64 0] 24)) w5.heap.size 0 _ (Nat.ne_of_lt (blk_lt HM5.out))).trans (blk_alloc HM5.out (Obj.cells #[.int .i64 0, .int .i64 0, .int .i64 0, .int .i64 0, .int .i64 0, .int .i64 0, .int .i64 0, .int .i64 0, .int .i64 0, .int .i64 0, .int .i64 0, .int .i64 0, .int .i64 0, .int .i64 0, .int .i64 0, .int .i64 0, .int .i64 0, .int .i64 0, .int .i64 0, .int .i64 0, .int .i64 0, .int .i64 0, .int .i64 0, .int .i64 0, .int .i64 0, .int .i64 0, .int .i64 0] 24))
      generalize (putCells (w5.alloc (Obj.cells #[.int .i64 0, .int .i64 0, .int .i64 0, .int .i64 0, .int .i64 0, .int .i64 0, .int .i64 0, .int .i64 0, .int .i64 0, .int .i64 0, .int .i64 0, .int .i64 0, .int .i64 0, .int .i64 0, .int .i64 0, .int .i64 0, .int .i64 0, .int .i64 0, .int .i64 0, .int .i64 0, .int .i64 0, .int .i64 0, .int .i64 0, .int .i64 0, .int .i64 0, .int .i64 0, .int .i64 0] 24)) w5.heap.size 0 (nums .i64 allOff)) = U5 at h1 h3 hk0 ⊢
      have U5N := Aside0.mk h1
      have U5B := Aside0.mk h3
      have U5K0 := Aside0.mk hk0
      clear h1 h3 hk0
      have hlt5 := Aside0.mk (blk_lt HM5.out)
      have hsz5 := HW5.out.size
      clear HM5 HW5
      have hcl : U5.cell? ⟨w5.heap.size, 26, none⟩ = some (.int .i64 (-1)) := by rw [blk_cell U5N.out]; rfl
      have hfz := blk_frozen U5N.out 26
      go_upto_region 14 with (fail)
      have HX1 := Aside0.mk (blk_put U5N.out 26 (.int .i64 x) (nums_put allOff 26 x))
      have HX2 := Aside0.mk (blk_far (p := ⟨w5.heap.size, 26, none⟩) U5K0.out (Nat.ne_of_lt hlt5.out) (.int .i64 x))
      have HX3 := Aside0.mk (U5B.out.setCell (p := ⟨w5.heap.size, 26, none⟩) hsz5 (.int .i64 x))
      clear U5B U5K0 U5N hcl hfz
      refine start_ (n := 9) (S := fun w' => w'.heap[w5.heap.size]? = some (Obj.cells (nums .i64 (allOff.set 26 x)).toArray 24) ∧ w'.heap[w4.heap.size]? = some (Obj.cells (nums .i64 M).toArray 24) ∧ Below W2.heap.size W2 w') (ds := []) #[false, false, false, false, false, false, false, false, false] (by kernel_rfl) rfl rfl ⟨blk_drew HX1.out, blk_drew HX2.out, HX3.out.drew⟩ (fun hHeld => ?_)
      refine take_ (i := 0) (N := some 50) (v := (.agg (nums .i64 (allOff.set 26 x)).toArray)) (a' := ?_) #[true, false, false, false, false, false, false, false, false] rfl rfl (by kernel_rfl) (fun _ _ _ h => h) (Or.inl ⟨by rfl, by rintro w' ⟨s0, s1, s2⟩; exact run_load_agg_op 24 (.tmp 11) rfl ⟨w5.heap.size, 0, none⟩ rfl (nums .i64 (allOff.set 26 x)) _ (fun j v hj => by rw [add_plain', Nat.zero_add, blk_cell s0]; simpa using hj) Try.underlying24 rfl (by rw [nums_length, (HLO x)]; exact info24)⟩) hHeld ?_ ?_
      rotate_left
      · simp only [Act.put, List.setIfInBounds_toArray, List.set_cons_zero, List.set_cons_succ, i64_w, i32_w]
        rfl
      refine pure_ (i := 1) (N := some 51) (v := ?_) (a' := ?_) #[true, true, false, false, false, false, false, false, false] rfl rfl (by kernel_rfl) (fun _ _ _ h => h) (Or.inl ⟨by rfl, ?_⟩) ?_ ?_
      rotate_left
      · intro w'
        go_simp
        with_reducible rfl
      rotate_left
      · simp only [Act.put, List.setIfInBounds_toArray, List.set_cons_zero, List.set_cons_succ, i64_w, i32_w]
        rfl
      refine pure_ (i := 4) (N := some 54) (v := ?_) (a' := ?_) #[true, true, false, false, true, false, false, false, false] rfl rfl (by kernel_rfl) (fun _ _ _ h => h) (Or.inl ⟨by rfl, ?_⟩) ?_ ?_
      rotate_left
      · intro w'
        go_simp
        with_reducible rfl
      rotate_left
      · simp only [Act.put, List.setIfInBounds_toArray, List.set_cons_zero, List.set_cons_succ, i64_w, i32_w]
        rfl
      refine pure_ (i := 5) (N := some 55) (v := ?_) (a' := ?_) #[true, true, false, false, true, true, false, false, false] rfl rfl (by kernel_rfl) (fun _ _ _ h => h) (Or.inl ⟨by rfl, ?_⟩) ?_ ?_
      rotate_left
      · intro w'
        go_simp
        with_reducible rfl
      rotate_left
      · simp only [Act.put, List.setIfInBounds_toArray, List.set_cons_zero, List.set_cons_succ, i64_w, i32_w]
        rfl
      refine pure_ (i := 6) (N := some 56) (v := ?_) (a' := ?_) #[true, true, false, false, true, true, true, false, false] rfl rfl (by kernel_rfl) (fun _ _ _ h => h) (Or.inl ⟨by rfl, ?_⟩) ?_ ?_
      rotate_left
      · intro w'
        go_simp
        with_reducible rfl
      rotate_left
      · simp only [Act.put, List.setIfInBounds_toArray, List.set_cons_zero, List.set_cons_succ, i64_w, i32_w]
        rfl
      refine take_ (i := 7) (N := some 57) (v := (.int .i64 (M[i]?.getD 0))) (a' := ?_) #[true, true, false, false, true, true, true, true, false] rfl rfl (by kernel_rfl) (fun _ _ _ h => h) (Or.inl ⟨by rfl, by rintro w' ⟨s0, s1, s2⟩; exact run_load_one_op 3 (.tmp 56) rfl ⟨w4.heap.size, i, none⟩ rfl _ _ (by rw [blk_cell s1]; exact nums_get M i (by rw [HML.out]; omega)) Try.underlying3 rfl⟩) hHeld ?_ ?_
      rotate_left
      · simp only [Act.put, List.setIfInBounds_toArray, List.set_cons_zero, List.set_cons_succ, i64_w, i32_w]
        rfl
      refine one_ (i := 2) (N := some 52) #[true, true, true, false, true, true, true, true, false] rfl rfl (by kernel_rfl) (by decide) (fun K hK => ?_)
      refine goes_ Try.func21 (by kernel_rfl) rfl #[mv (allOff.set 26 x), .slice A3 (e1.length + e2.length) c3] (by rfl) rfl rfl (by simp [Act.eval]) ?_
      refine (HVX.out _ hHeld.2.2).mono ?_
      rintro e w1 ⟨rfl, hB1⟩
      refine ⟨_, rfl, ?_⟩
      refine hK.out _ _ ⟨blk_below hHeld.1 hB1, blk_below hHeld.2.1 hB1, below_step hHeld.2.2 hB1⟩ (fun hHeld => ?_)
      clear hK K
      refine norm_ (a' := ?_) ?_ ?_
      rotate_left
      · show Act.put _ (some 52) _ = _
        simp only [Act.put, List.setIfInBounds_toArray, List.set_cons_zero, List.set_cons_succ, i64_w, i32_w]
        rfl
      refine pure_ (i := 3) (N := some 53) (v := (.int .i64 (M[i]?.getD 0))) (a' := ?_) #[true, true, true, true, true, true, true, true, false] rfl rfl (by kernel_rfl) (fun _ _ _ h => h) (Or.inl ⟨by rfl, by intro w'; exact run_field_op 24 (.tmp 52) 1 rfl _ _ rfl ((field_back (NF i) (ENL.out i hlt) w').trans (by rw [ENG.out i hlt]))⟩) ?_ ?_
      rotate_left
      · simp only [Act.put, List.setIfInBounds_toArray, List.set_cons_zero, List.set_cons_succ, i64_w, i32_w]
        rfl
      refine pure_ (i := 8) (N := some 58) (v := ?_) (a' := ?_) #[true, true, true, true, true, true, true, true, true] rfl rfl (by kernel_rfl) (fun _ _ _ h => h) (Or.inl ⟨by rfl, ?_⟩) ?_ ?_
      rotate_left
      · intro w'
        go_simp
        with_reducible rfl
      rotate_left
      · simp only [Act.put, List.setIfInBounds_toArray, List.set_cons_zero, List.set_cons_succ, i64_w, i32_w]
        rfl
      refine done_ (by kernel_rfl) ?_
      have HM6 := Aside0.mk hHeld.2.1
      have HW6 := Aside0.mk hHeld.2.2
      clear hHeld HX1 HX2 HX3
      go_wp2
      go_roundw
      case measure => simp [intOf]; omega
      case rel => exact ⟨i + 1, by omega, by go_num, HM6, HW6⟩
    · have hge : ((i : Int) < 26) = False := eq_false (by omega)
      obtain rfl : i = 26 := by omega
      clear hge
      go_wp2
      go_ret
      exact ⟨rfl, below_step HWW.out HWr.out⟩

theorem moveR_nil (l : List Int) : moveR [] l = l := rfl
/-- The law, at any marks and lists. -/
theorem parts_calls (l : List Int) (e1 e2 : List S42) (A1 A2 : Option Addr) (c1 c2 : Nat) (w : World) (hl : l.length = 27) (hr1 : k42.C w A1 e1.length e1) (hd1 : ∀ e ∈ e1, goodE e) (hr2 : k42.C w A2 e2.length e2) (hd2 : ∀ e ∈ e2, goodE e) :
    Calls Try.prog 5 #[mv l, .slice A1 e1.length c1, .slice A2 e2.length c2] w fun e w' => e = .returned (.bool true) ∧ Below w.heap.size w w' := by
  by_cases h1 : greatB e1 = true
  · exact parts_great1 l e1 e2 A1 A2 c1 c2 w hr1 hd1 h1
  · replace h1 := eq_false_of_ne_true h1
    by_cases h2 : greatB e2 = true
    · exact parts_great2 l e1 e2 A1 A2 c1 c2 w hr1 hd1 h1 hr2 hd2 h2
    · replace h2 := eq_false_of_ne_true h2
      refine parts_core l _ _ _ e1 e2 A1 A2 c1 c2 w hl hr1 hd1 h1 hr2 hd2 h2 rfl rfl (moveR_app e1 e2 l).symm (by rw [moveR_len, hl]) (by rw [moveR_len, hl]) (fun i _ => rfl) (fun i _ => by rw [moveR_len]; simp [allOff]) (fun i hi => ?_)
      rw [moveR_get _ _ _ (by simp [allOff]), moveR_get _ _ _ (by omega)]
      congr 1
theorem parts_row (ls : List Int) (n : Int) (A1 : Option Addr) (c1 : Nat) (e1 : List S42) (A2 : Option Addr) (c2 : Nat) (e2 : List S42) (w : World) (hr1 : k42.C w A1 e1.length e1) (hc1 : e1.length ≤ c1) (hr2 : k42.C w A2 e2.length e2) (hc2 : e2.length ≤ c2)
    (g0 : (ls.length = 26 ∧ ∀ x ∈ ls, (Lit.int .i64 x).wf = true) ∧ (Lit.int .i64 n).wf = true)
    (g1 : e1.length * Try.prog.bytesOf 42 ≤ reachBytes ∧ ∀ x ∈ e1, (Lit.int .i64 x.f0).wf = true ∧ (x.f1.length * Try.prog.bytesOf 5 ≤ reachBytes ∧ ∀ y ∈ x.f1, (Lit.int .u8 y).wf = true) ∧ (x.f2.length * Try.prog.bytesOf 5 ≤ reachBytes ∧ ∀ y ∈ x.f2, (Lit.int .u8 y).wf = true))
    (g2 : e2.length * Try.prog.bytesOf 42 ≤ reachBytes ∧ ∀ x ∈ e2, (Lit.int .i64 x.f0).wf = true ∧ (x.f1.length * Try.prog.bytesOf 5 ≤ reachBytes ∧ ∀ y ∈ x.f1, (Lit.int .u8 y).wf = true) ∧ (x.f2.length * Try.prog.bytesOf 5 ≤ reachBytes ∧ ∀ y ∈ x.f2, (Lit.int .u8 y).wf = true)) :
    Calls Try.prog 5 #[.agg (nums .i64 ls ++ [Value.int .i64 n]).toArray, .slice A1 e1.length c1, .slice A2 e2.length c2] w fun e w' => e = .returned (.bool true) ∧ Below w.heap.size w w' := by
  have hb : Try.prog.bytesOf 5 = 1 := by kernel_rfl
  have good : ∀ es : List S42, (∀ x ∈ es, (Lit.int .i64 x.f0).wf = true ∧ (x.f1.length * Try.prog.bytesOf 5 ≤ reachBytes ∧ ∀ y ∈ x.f1, (Lit.int .u8 y).wf = true) ∧ (x.f2.length * Try.prog.bytesOf 5 ≤ reachBytes ∧ ∀ y ∈ x.f2, (Lit.int .u8 y).wf = true)) → ∀ e ∈ es, goodE e := by
    intro es h e he
    obtain ⟨_, ⟨h1, _⟩, ⟨h2, _⟩⟩ := h e he
    rw [hb, Nat.mul_one] at h1 h2
    exact ⟨h1, h2⟩
  have h := parts_calls (ls ++ [n]) e1 e2 A1 A2 c1 c2 w (by simp [g0.1.1]) hr1 (good e1 g1.2) hr2 (good e2 g2.2)
  have e : mv (ls ++ [n]) = .agg (nums .i64 ls ++ [Value.int .i64 n]).toArray := by
    show Value.agg (nums .i64 (ls ++ [n])).toArray = _
    simp [nums]
  rw [e] at h
  exact h

end Go.Proofs.Ytjmpmcgdfgfmfaa.Hand
