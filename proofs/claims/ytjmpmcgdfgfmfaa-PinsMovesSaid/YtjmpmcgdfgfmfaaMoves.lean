/- The walk of the law PinsMoves. No condition. -/
import Derived.Test.YtjmpmcgdfgfmfaaKept
namespace Go.Proofs.Ytjmpmcgdfgfmfaa.Hand
open Go.RowKit Go.Proofs.Ytjmpmcgdfgfmfaa.Aggs Go.Proofs.YtjmpmcgdfgfmfaaW.PrintWords Go.Proofs.YtjmpmcgdfgfmfaaW.PrintLast Go.Proofs.YtjmpmcgdfgfmfaaW.PrintMore
set_option linter.unusedVariables false
set_option linter.unusedSimpArgs false

set_option maxHeartbeats 1000000 in
set_option maxRecDepth 100000 in
theorem moves_great (l : List Int) (es : List S42) (A : Option Addr) (c : Nat) (w : World) (hr : k42.C w A es.length es) (hd : ∀ e ∈ es, goodE e) (hg : greatB es = true) :
    Calls Try.prog 4 #[mv l, .slice A es.length c] w fun e w' => e = .returned (.bool true) ∧ Below w.heap.size w w' := by
  have HG1 := Aside0.mk (fun W (hW : Below w.heap.size w W) => hg ▸ great_calls es A c W (Kd.C_below hr hW) hd)
  go_enter Try.func4, Try.ntmps4
  go_upto_region 1 with (fail)
  have hb := blk_new w (Obj.cells (nums .i64 l).toArray 24)
  have hB := (Below.refl w.heap.size w).alloc (Nat.le_refl _) (Obj.cells (nums .i64 l).toArray 24)
  generalize (w.alloc (Obj.cells (nums .i64 l).toArray 24)) = V at hb hB ⊢
  have HB := Aside0.mk hb
  have HW := Aside0.mk hB
  clear hb hB
  go_wp2_with fail
  refine (awake_calls _).mono ?_
  rintro e w1 ⟨rfl, hB1⟩
  have HV1 := Aside0.mk hB1
  clear hB1
  go_wp2_with fail
  refine (HG1.out _ (below_step HW.out HV1.out)).mono ?_
  rintro e w2 ⟨rfl, hB2⟩
  have HV2 := Aside0.mk (below_step HV1.out hB2)
  clear hB2 HV1
  go_wp2
  go_ret
  exact ⟨rfl, below_step HW.out HV2.out⟩

set_option maxHeartbeats 8000000 in
set_option maxRecDepth 100000 in
theorem moves_core (l M : List Int) (es : List S42) (A : Option Addr) (c : Nat) (w : World) (hl : l.length = 27) (hr : k42.C w A es.length es) (hd : ∀ e ∈ es, goodE e) (hg : greatB es = false) (hM : moveR es l = M) (hML : M.length = 27) :
    Calls Try.prog 4 #[mv l, .slice A es.length c] w fun e w' => e = .returned (.bool true) ∧ Below w.heap.size w w' := by
  have HG1 := Aside0.mk (fun W (hW : Below w.heap.size w W) => hg ▸ great_calls es A c W (Kd.C_below hr hW) hd)
  have HL := Aside0.mk hl
  have HML := Aside0.mk hML
  have EM := Aside0.mk hM
  have HRR := Aside0.mk hr
  have HD := Aside0.mk hd
  have hn1 : es.length ≤ 1048576 := by
    have h := sumE_len es
    have := of_decide_eq_false hg
    omega
  clear hML hM hr hd hg hl
  go_enter Try.func4, Try.ntmps4
  go_upto_region 1 with (fail)
  have hb := blk_new w (Obj.cells (nums .i64 l).toArray 24)
  have hB := (Below.refl w.heap.size w).alloc (Nat.le_refl _) (Obj.cells (nums .i64 l).toArray 24)
  generalize (w.alloc (Obj.cells (nums .i64 l).toArray 24)) = V at hb hB ⊢
  have HB := Aside0.mk hb
  have HW := Aside0.mk hB
  clear hb hB
  go_wp2_with fail
  refine (awake_calls _).mono ?_
  rintro e w1 ⟨rfl, hB1⟩
  have HV1 := Aside0.mk hB1
  clear hB1
  go_wp2_with fail
  refine (HG1.out _ (below_step HW.out HV1.out)).mono ?_
  rintro e w2 ⟨rfl, hB2⟩
  have HV2 := Aside0.mk (below_step HV1.out hB2)
  clear hB2 HV1
  go_wp2_with fail
  refine (copied_calls es A c _ (Kd.C_below HRR.out (below_step HW.out HV2.out)) HD.out hn1).mono ?_
  rintro e w3 ⟨g, rfl, hgs, hcp, hB3⟩
  have HB3 := Aside0.mk (blk_below HB.out (below_step HV2.out hB3))
  have HW3 := Aside0.mk (below_step HW.out (below_step HV2.out hB3))
  have HCP := Aside0.mk hcp
  have HM1 := Aside0.mk (fun W (hW : Below w3.heap.size w3 W) => EM.out ▸ move_calls l HL.out es (some ⟨g, 0, none⟩) (es.length + 1) W (Kd.C_below (copyB_reads HCP.out hn1 HD.out) hW))
  have HM2 := Aside0.mk (fun W (hW : Below w3.heap.size w3 W) => EM.out ▸ ref_move_calls l HL.out es A c W (Kd.C_below HRR.out (below_step HW3.out hW)))
  have HK := Aside0.mk (fun W (hW : Below w3.heap.size w3 W) => kept_calls es g A c W (copyB_below HCP.out hW) (Kd.C_below HRR.out (below_step HW3.out hW)) HD.out hn1)
  obtain ⟨cur, q1, q2, q3, q4⟩ := hcp
  have Q3 := Aside0.mk q3
  have Q1 := Aside0.mk q1
  clear hgs q1 q2 q3 q4 hB3 HV2 HB HW HG1
  go_wp2
  go_loopw [16] (fun v wr => ∃ i : Nat, i ≤ es.length ∧ v = .int .i64 i ∧ Aside0 (Below w3.heap.size w3 wr)) (fun v _ => es.length - (intOf v).toNat)
  case atStart => exact ⟨0, by omega, rfl, ⟨Below.refl _ _⟩⟩
  case round =>
    obtain ⟨i, hi, rfl, HWr⟩ := hrel
    by_cases hlt : i < es.length
    · have hlt' : ((i : Int) < es.length) = True := eq_true (by omega)
      obtain ⟨ad, Ao, o, Bo, n, rfl, hcA, hcB, hcell⟩ := edit_read HRR.out i hlt
      replace hcell := Aside0.mk hcell
      obtain ⟨cs, ⟨g1, p1, g2, p2, rfl, l1, l2, _⟩, hq⟩ := Q3.out i es[i] (List.getElem?_eq_getElem hlt) hlt
      have hown : ∀ j v, [Value.int .i64 es[i].f0, Value.slice (some ⟨g1, 0, none⟩) es[i].f1.length p1, Value.slice (some ⟨g2, 0, none⟩) es[i].f2.length p2][j]? = some v → wr.cell? ((⟨g, i * 3, none⟩ : Addr).add j) = some v := fun j v hj => by
        rw [add_plain', blk_cell (blk_below Q1.out HWr.out)]
        exact hq j v hj
      clear hcA hcB l1 l2 hq
      go_upto_region 9 with (refine wpList_load_agg rfl 42 (.tmp 19) rfl ⟨g, i * 3, none⟩ ?a1 [Value.int .i64 es[i].f0, Value.slice (some ⟨g1, 0, none⟩) es[i].f1.length p1, Value.slice (some ⟨g2, 0, none⟩) es[i].f2.length p2] _ ?a2 Try.underlying42 rfl ?a3 ?a4)
      try (case a1 => rfl)
      case a2 => exact hown
      case a3 => kernel_rfl
      have k3 := blk_new wr (Obj.cells #[Value.int .i64 es[i].f0, Value.slice (some ⟨g1, 0, none⟩) es[i].f1.length p1, Value.slice (some ⟨g2, 0, none⟩) es[i].f2.length p2] 42)
      have k4 := HWr.out.alloc HWr.out.size (Obj.cells #[Value.int .i64 es[i].f0, Value.slice (some ⟨g1, 0, none⟩) es[i].f1.length p1, Value.slice (some ⟨g2, 0, none⟩) es[i].f2.length p2] 42)
      generalize (wr.alloc (Obj.cells #[Value.int .i64 es[i].f0, Value.slice (some ⟨g1, 0, none⟩) es[i].f1.length p1, Value.slice (some ⟨g2, 0, none⟩) es[i].f2.length p2] 42)) = V at k3 k4 ⊢
      have K3 := Aside0.mk k3
      have K4 := Aside0.mk k4
      clear k3 k4 HWr hown
      refine start_ (n := 10) (S := fun w' => w'.heap[wr.heap.size]? = some (Obj.cells #[Value.int .i64 es[i].f0, Value.slice (some ⟨g1, 0, none⟩) es[i].f1.length p1, Value.slice (some ⟨g2, 0, none⟩) es[i].f2.length p2] 42) ∧ Below w3.heap.size w3 w') (ds := []) #[false, false, false, false, false, false, false, false, false, false] (by kernel_rfl) rfl rfl ⟨blk_drew K3.out, K4.out.drew⟩ (fun hHeld => ?_)
      refine take_ (i := 0) (N := some 21) (v := (.agg (nums .i64 l).toArray)) (a' := ?_) #[true, false, false, false, false, false, false, false, false, false] rfl rfl (by kernel_rfl) (fun _ _ _ h => h) (Or.inl ⟨by rfl, by rintro w' ⟨s0, s1⟩; exact run_load_agg_op 24 (.tmp 2) rfl ⟨w.heap.size, 0, none⟩ rfl (nums .i64 l) _ (fun j v hj => by rw [add_plain', Nat.zero_add, blk_cell (blk_below HB3.out s1)]; simpa using hj) Try.underlying24 rfl (by rw [nums_length, HL.out]; exact info24)⟩) hHeld ?_ ?_
      rotate_left
      · simp only [Act.put, List.setIfInBounds_toArray, List.set_cons_zero, List.set_cons_succ, i64_w, i32_w]
        rfl
      refine take_ (i := 1) (N := some 22) (v := (.agg [Value.int .i64 es[i].f0, Value.slice (some ⟨g1, 0, none⟩) es[i].f1.length p1, Value.slice (some ⟨g2, 0, none⟩) es[i].f2.length p2].toArray)) (a' := ?_) #[true, true, false, false, false, false, false, false, false, false] rfl rfl (by kernel_rfl) (fun _ _ _ h => h) (Or.inl ⟨by rfl, by rintro w' ⟨s0, s1⟩; exact run_load_agg_op 42 (.tmp 7) rfl ⟨wr.heap.size, 0, none⟩ rfl [Value.int .i64 es[i].f0, Value.slice (some ⟨g1, 0, none⟩) es[i].f1.length p1, Value.slice (some ⟨g2, 0, none⟩) es[i].f2.length p2] _ (fun j v hj => by rw [add_plain', Nat.zero_add, blk_cell s0]; simpa using hj) Try.underlying42 rfl (by kernel_rfl)⟩) hHeld ?_ ?_
      rotate_left
      · simp only [Act.put, List.setIfInBounds_toArray, List.set_cons_zero, List.set_cons_succ, i64_w, i32_w]
        rfl
      refine take_ (i := 3) (N := some 24) (v := (.agg (nums .i64 l).toArray)) (a' := ?_) #[true, true, false, true, false, false, false, false, false, false] rfl rfl (by kernel_rfl) (fun _ _ _ h => h) (Or.inl ⟨by rfl, by rintro w' ⟨s0, s1⟩; exact run_load_agg_op 24 (.tmp 2) rfl ⟨w.heap.size, 0, none⟩ rfl (nums .i64 l) _ (fun j v hj => by rw [add_plain', Nat.zero_add, blk_cell (blk_below HB3.out s1)]; simpa using hj) Try.underlying24 rfl (by rw [nums_length, HL.out]; exact info24)⟩) hHeld ?_ ?_
      rotate_left
      · simp only [Act.put, List.setIfInBounds_toArray, List.set_cons_zero, List.set_cons_succ, i64_w, i32_w]
        rfl
      refine pure_ (i := 4) (N := some 25) (v := ?_) (a' := ?_) #[true, true, false, true, true, false, false, false, false, false] rfl rfl (by kernel_rfl) (fun _ _ _ h => h) (Or.inl ⟨by rfl, ?_⟩) ?_ ?_
      rotate_left
      · intro w'
        go_simp
        with_reducible rfl
      rotate_left
      · simp only [Act.put, List.setIfInBounds_toArray, List.set_cons_zero, List.set_cons_succ, i64_w, i32_w]
        rfl
      refine pure_ (i := 5) (N := some 26) (v := ?_) (a' := ?_) #[true, true, false, true, true, true, false, false, false, false] rfl rfl (by kernel_rfl) (fun _ _ _ h => h) (Or.inl ⟨by rfl, ?_⟩) ?_ ?_
      rotate_left
      · intro w'
        go_simp
        with_reducible rfl
      rotate_left
      · simp only [Act.put, List.setIfInBounds_toArray, List.set_cons_zero, List.set_cons_succ, i64_w, i32_w]
        rfl
      refine pure_ (i := 6) (N := some 27) (v := ?_) (a' := ?_) #[true, true, false, true, true, true, true, false, false, false] rfl rfl (by kernel_rfl) (fun _ _ _ h => h) (Or.inl ⟨by rfl, ?_⟩) ?_ ?_
      rotate_left
      · intro w'
        go_simp
        with_reducible rfl
      rotate_left
      · simp only [Act.put, List.setIfInBounds_toArray, List.set_cons_zero, List.set_cons_succ, i64_w, i32_w]
        rfl
      refine take_ (i := 7) (N := some 28) (v := (.agg [Value.int .i64 es[i].f0, Value.slice Ao es[i].f1.length o, Value.slice Bo es[i].f2.length n].toArray)) (a' := ?_) #[true, true, false, true, true, true, true, true, false, false] rfl rfl (by kernel_rfl) (fun _ _ _ h => h) (Or.inl ⟨by rfl, by rintro w' ⟨s0, s1⟩; exact run_load_agg_op 42 (.tmp 27) rfl (ad.add (i * 3)) rfl [Value.int .i64 es[i].f0, Value.slice Ao es[i].f1.length o, Value.slice Bo es[i].f2.length n] _ (fun j v hj => pw_cell_below (below_step HW3.out s1) (hcell.out j v hj)) Try.underlying42 rfl (by kernel_rfl)⟩) hHeld ?_ ?_
      rotate_left
      · simp only [Act.put, List.setIfInBounds_toArray, List.set_cons_zero, List.set_cons_succ, i64_w, i32_w]
        rfl
      refine one_ (i := 2) (N := some 23) #[true, true, true, true, true, true, true, true, false, false] rfl rfl (by kernel_rfl) (by decide) (fun K hK => ?_)
      refine goes_ Try.func19 (by kernel_rfl) rfl #[mv l, .agg #[Value.int .i64 es[i].f0, Value.slice (some ⟨g1, 0, none⟩) es[i].f1.length p1, Value.slice (some ⟨g2, 0, none⟩) es[i].f2.length p2]] (by rfl) rfl rfl (by simp [Act.eval]) ?_
      refine (shift_calls l HL.out _ _ _ _ _ _ _ _).mono ?_
      rintro e w1 ⟨rfl, hB1⟩
      refine ⟨_, rfl, ?_⟩
      refine hK.out _ _ ⟨blk_below hHeld.1 hB1, below_step hHeld.2 hB1⟩ (fun hHeld => ?_)
      clear hK K
      refine norm_ (a' := ?_) ?_ ?_
      rotate_left
      · show Act.put _ (some 23) _ = _
        simp only [Act.put, List.setIfInBounds_toArray, List.set_cons_zero, List.set_cons_succ, i64_w, i32_w]
        rfl
      refine one_ (i := 8) (N := some 29) #[true, true, true, true, true, true, true, true, true, false] rfl rfl (by kernel_rfl) (by decide) (fun K hK => ?_)
      refine goes_ Try.func20 (by kernel_rfl) rfl #[mv l, .agg #[Value.int .i64 es[i].f0, Value.slice Ao es[i].f1.length o, Value.slice Bo es[i].f2.length n]] (by rfl) rfl rfl (by simp [Act.eval]) ?_
      refine (ref_shift_calls l HL.out _ _ _ _ _ _ _ _).mono ?_
      rintro e w1 ⟨rfl, hB1⟩
      refine ⟨_, rfl, ?_⟩
      refine hK.out _ _ ⟨blk_below hHeld.1 hB1, below_step hHeld.2 hB1⟩ (fun hHeld => ?_)
      clear hK K
      refine norm_ (a' := ?_) ?_ ?_
      rotate_left
      · show Act.put _ (some 29) _ = _
        simp only [Act.put, List.setIfInBounds_toArray, List.set_cons_zero, List.set_cons_succ, i64_w, i32_w]
        rfl
      refine pure_ (i := 9) (N := some 30) (v := (.bool false)) (a' := ?_) #[true, true, true, true, true, true, true, true, true, true] rfl rfl (by kernel_rfl) (fun _ _ _ h => h) (Or.inl ⟨by rfl, by intro w'; exact run_eq_agg_op .neq 24 24 (.tmp 23) (.tmp 29) rfl (nums .i64 (l.map (behindI es[i].f0 es[i].f1.length es[i].f2.length))).toArray (nums .i64 (l.map (behindI es[i].f0 es[i].f1.length es[i].f2.length))).toArray rfl rfl (by kernel_rfl) (.bool false) (marks_neq _ (by rw [List.length_map, HL.out]) w')⟩) ?_ ?_
      rotate_left
      · simp only [Act.put, List.setIfInBounds_toArray, List.set_cons_zero, List.set_cons_succ, i64_w, i32_w]
        rfl
      refine done_ (by kernel_rfl) ?_
      have HX := Aside0.mk hHeld.2
      clear hHeld K3 K4
      go_wp2
      go_roundw
      case measure => simp [intOf] <;> omega
      case rel => exact ⟨i + 1, by omega, by go_num, HX⟩
    · have hge : ((i : Int) < es.length) = False := eq_false (by omega)
      obtain rfl : i = es.length := by omega
      clear hge
      go_upto_region 12 with (fail)
      refine start_ (n := 13) (S := fun w' => Below w3.heap.size w3 w') (ds := []) #[false, false, false, false, false, false, false, false, false, false, false, false, false] (by kernel_rfl) rfl rfl HWr.out.drew (fun hHeld => ?_)
      refine take_ (i := 0) (N := some 32) (v := (.agg (nums .i64 l).toArray)) (a' := ?_) #[true, false, false, false, false, false, false, false, false, false, false, false, false] rfl rfl (by kernel_rfl) (fun _ _ _ h => h) (Or.inl ⟨by rfl, by intro w' s0; exact run_load_agg_op 24 (.tmp 2) rfl ⟨w.heap.size, 0, none⟩ rfl (nums .i64 l) _ (fun j v hj => by rw [add_plain', Nat.zero_add, blk_cell (blk_below HB3.out s0)]; simpa using hj) Try.underlying24 rfl (by rw [nums_length, HL.out]; exact info24)⟩) hHeld ?_ ?_
      rotate_left
      · simp only [Act.put, List.setIfInBounds_toArray, List.set_cons_zero, List.set_cons_succ, i64_w, i32_w]
        rfl
      refine pure_ (i := 1) (N := some 33) (v := ?_) (a' := ?_) #[true, true, false, false, false, false, false, false, false, false, false, false, false] rfl rfl (by kernel_rfl) (fun _ _ _ h => h) (Or.inl ⟨by rfl, ?_⟩) ?_ ?_
      rotate_left
      · intro w'
        go_simp
        with_reducible rfl
      rotate_left
      · simp only [Act.put, List.setIfInBounds_toArray, List.set_cons_zero, List.set_cons_succ, i64_w, i32_w]
        rfl
      refine take_ (i := 3) (N := some 35) (v := (.agg (nums .i64 l).toArray)) (a' := ?_) #[true, true, false, true, false, false, false, false, false, false, false, false, false] rfl rfl (by kernel_rfl) (fun _ _ _ h => h) (Or.inl ⟨by rfl, by intro w' s0; exact run_load_agg_op 24 (.tmp 2) rfl ⟨w.heap.size, 0, none⟩ rfl (nums .i64 l) _ (fun j v hj => by rw [add_plain', Nat.zero_add, blk_cell (blk_below HB3.out s0)]; simpa using hj) Try.underlying24 rfl (by rw [nums_length, HL.out]; exact info24)⟩) hHeld ?_ ?_
      rotate_left
      · simp only [Act.put, List.setIfInBounds_toArray, List.set_cons_zero, List.set_cons_succ, i64_w, i32_w]
        rfl
      refine pure_ (i := 4) (N := some 36) (v := ?_) (a' := ?_) #[true, true, false, true, true, false, false, false, false, false, false, false, false] rfl rfl (by kernel_rfl) (fun _ _ _ h => h) (Or.inl ⟨by rfl, ?_⟩) ?_ ?_
      rotate_left
      · intro w'
        go_simp
        with_reducible rfl
      rotate_left
      · simp only [Act.put, List.setIfInBounds_toArray, List.set_cons_zero, List.set_cons_succ, i64_w, i32_w]
        rfl
      refine one_ (i := 2) (N := some 34) #[true, true, true, true, true, false, false, false, false, false, false, false, false] rfl rfl (by kernel_rfl) (by decide) (fun K hK => ?_)
      refine goes_ Try.func21 (by kernel_rfl) rfl #[mv l, .slice (some ⟨g, 0, none⟩) es.length (es.length + 1)] (by rfl) rfl rfl (by simp [Act.eval]) ?_
      refine (HM1.out _ hHeld).mono ?_
      rintro e w1 ⟨rfl, hB1⟩
      refine ⟨_, rfl, ?_⟩
      refine hK.out _ _ (below_step hHeld hB1) (fun hHeld => ?_)
      clear hK K
      refine norm_ (a' := ?_) ?_ ?_
      rotate_left
      · show Act.put _ (some 34) _ = _
        simp only [Act.put, List.setIfInBounds_toArray, List.set_cons_zero, List.set_cons_succ, i64_w, i32_w]
        rfl
      refine one_ (i := 5) (N := some 37) #[true, true, true, true, true, true, false, false, false, false, false, false, false] rfl rfl (by kernel_rfl) (by decide) (fun K hK => ?_)
      refine goes_ Try.func22 (by kernel_rfl) rfl #[mv l, .slice A es.length c] (by rfl) rfl rfl (by simp [Act.eval]) ?_
      refine (HM2.out _ hHeld).mono ?_
      rintro e w1 ⟨rfl, hB1⟩
      refine ⟨_, rfl, ?_⟩
      refine hK.out _ _ (below_step hHeld hB1) (fun hHeld => ?_)
      clear hK K
      refine norm_ (a' := ?_) ?_ ?_
      rotate_left
      · show Act.put _ (some 37) _ = _
        simp only [Act.put, List.setIfInBounds_toArray, List.set_cons_zero, List.set_cons_succ, i64_w, i32_w]
        rfl
      refine pure_ (i := 6) (N := some 38) (v := (.bool true)) (a' := ?_) #[true, true, true, true, true, true, true, false, false, false, false, false, false] rfl rfl (by kernel_rfl) (fun _ _ _ h => h) (Or.inl ⟨by rfl, by intro w'; exact run_eq_agg_op .eql 24 24 (.tmp 34) (.tmp 37) rfl (nums .i64 M).toArray (nums .i64 M).toArray rfl rfl (by kernel_rfl) (.bool true) (marks_eql M HML.out w')⟩) ?_ ?_
      rotate_left
      · simp only [Act.put, List.setIfInBounds_toArray, List.set_cons_zero, List.set_cons_succ, i64_w, i32_w]
        rfl
      refine pure_ (i := 7) (N := some 39) (v := ?_) (a' := ?_) #[true, true, true, true, true, true, true, true, false, false, false, false, false] rfl rfl (by kernel_rfl) (fun _ _ _ h => h) (Or.inl ⟨by rfl, ?_⟩) ?_ ?_
      rotate_left
      · intro w'
        go_simp
        with_reducible rfl
      rotate_left
      · simp only [Act.put, List.setIfInBounds_toArray, List.set_cons_zero, List.set_cons_succ, i64_w, i32_w]
        rfl
      refine pure_ (i := 8) (N := some 40) (v := ?_) (a' := ?_) #[true, true, true, true, true, true, true, true, true, false, false, false, false] rfl rfl (by kernel_rfl) (fun _ _ _ h => h) (Or.inl ⟨by rfl, ?_⟩) ?_ ?_
      rotate_left
      · intro w'
        go_simp
        with_reducible rfl
      rotate_left
      · simp only [Act.put, List.setIfInBounds_toArray, List.set_cons_zero, List.set_cons_succ, i64_w, i32_w]
        rfl
      refine pure_ (i := 9) (N := some 41) (v := ?_) (a' := ?_) #[true, true, true, true, true, true, true, true, true, true, false, false, false] rfl rfl (by kernel_rfl) (fun _ _ _ h => h) (Or.inl ⟨by rfl, ?_⟩) ?_ ?_
      rotate_left
      · intro w'
        go_simp
        with_reducible rfl
      rotate_left
      · simp only [Act.put, List.setIfInBounds_toArray, List.set_cons_zero, List.set_cons_succ, i64_w, i32_w]
        rfl
      refine one_ (i := 10) (N := some 42) #[true, true, true, true, true, true, true, true, true, true, true, false, false] rfl rfl (by kernel_rfl) (by decide) (fun K hK => ?_)
      refine goes_ Try.func23 (by kernel_rfl) rfl #[(.slice (some ⟨g, 0, none⟩) es.length (es.length + 1)), .slice A es.length c] (by rfl) rfl rfl (by simp [Act.eval]) ?_
      refine (HK.out _ hHeld).mono ?_
      rintro e w1 ⟨rfl, hB1⟩
      refine ⟨_, rfl, ?_⟩
      refine hK.out _ _ (below_step hHeld hB1) (fun hHeld => ?_)
      clear hK K
      refine norm_ (a' := ?_) ?_ ?_
      rotate_left
      · show Act.put _ (some 42) _ = _
        simp only [Act.put, List.setIfInBounds_toArray, List.set_cons_zero, List.set_cons_succ, i64_w, i32_w]
        rfl
      refine pure_ (i := 11) (N := some 43) (v := ?_) (a' := ?_) #[true, true, true, true, true, true, true, true, true, true, true, true, false] rfl rfl (by kernel_rfl) (fun _ _ _ h => h) (Or.inl ⟨by rfl, ?_⟩) ?_ ?_
      rotate_left
      · intro w'
        go_simp
        with_reducible rfl
      rotate_left
      · simp only [Act.put, List.setIfInBounds_toArray, List.set_cons_zero, List.set_cons_succ, i64_w, i32_w]
        rfl
      refine pure_ (i := 12) (N := some 4) (v := ?_) (a' := ?_) #[true, true, true, true, true, true, true, true, true, true, true, true, true] rfl rfl (by kernel_rfl) (fun _ _ _ h => h) (Or.inl ⟨by rfl, ?_⟩) ?_ ?_
      rotate_left
      · intro w'
        go_simp
        with_reducible rfl
      rotate_left
      · simp only [Act.put, List.setIfInBounds_toArray, List.set_cons_zero, List.set_cons_succ, i64_w, i32_w]
        rfl
      refine done_ (by kernel_rfl) ?_
      have HX := Aside0.mk hHeld
      clear hHeld HWr
      go_wp2
      go_ret
      exact ⟨rfl, below_step HW3.out HX.out⟩
theorem moves_calls (l : List Int) (es : List S42) (A : Option Addr) (c : Nat) (w : World) (hl : l.length = 27) (hr : k42.C w A es.length es) (hd : ∀ e ∈ es, goodE e) :
    Calls Try.prog 4 #[mv l, .slice A es.length c] w fun e w' => e = .returned (.bool true) ∧ Below w.heap.size w w' := by
  by_cases h1 : greatB es = true
  · exact moves_great l es A c w hr hd h1
  · exact moves_core l _ es A c w hl hr hd (eq_false_of_ne_true h1) rfl (by rw [moveR_len, hl])

theorem moves_row (ls : List Int) (n : Int) (A1 : Option Addr) (c1 : Nat) (e1 : List S42) (w : World) (hr1 : k42.C w A1 e1.length e1) (hc1 : e1.length ≤ c1)
    (g0 : (ls.length = 26 ∧ ∀ x ∈ ls, (Lit.int .i64 x).wf = true) ∧ (Lit.int .i64 n).wf = true) (g1 : e1.length * Try.prog.bytesOf 42 ≤ reachBytes ∧ ∀ x ∈ e1, (Lit.int .i64 x.f0).wf = true ∧ (x.f1.length * Try.prog.bytesOf 5 ≤ reachBytes ∧ ∀ y ∈ x.f1, (Lit.int .u8 y).wf = true) ∧ (x.f2.length * Try.prog.bytesOf 5 ≤ reachBytes ∧ ∀ y ∈ x.f2, (Lit.int .u8 y).wf = true)) :
    Calls Try.prog 4 #[.agg (nums .i64 ls ++ [Value.int .i64 n]).toArray, .slice A1 e1.length c1] w fun e w' => e = .returned (.bool true) ∧ Below w.heap.size w w' := by
  have h := moves_calls (ls ++ [n]) e1 A1 c1 w (by simp [g0.1.1]) hr1 (good_edits e1 g1.2)
  have e : mv (ls ++ [n]) = .agg (nums .i64 ls ++ [Value.int .i64 n]).toArray := by
    show Value.agg (nums .i64 (ls ++ [n])).toArray = _
    simp [nums]
  rw [e] at h
  exact h

end Go.Proofs.Ytjmpmcgdfgfmfaa.Hand
