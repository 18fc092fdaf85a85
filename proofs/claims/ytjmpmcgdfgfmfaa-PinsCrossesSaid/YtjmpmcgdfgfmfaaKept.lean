/- The verifier's kept: the copy is what it was. No condition. -/
import Derived.Test.YtjmpmcgdfgfmfaaCopied
import Derived.WalkLawsBesides
namespace Go.Proofs.Ytjmpmcgdfgfmfaa.Hand
open Go.RowKit Go.Proofs.Ytjmpmcgdfgfmfaa.Aggs Go.Proofs.YtjmpmcgdfgfmfaaW.PrintWords Go.Proofs.YtjmpmcgdfgfmfaaW.PrintLast Go.Proofs.YtjmpmcgdfgfmfaaW.PrintMore
set_option linter.unusedVariables false
set_option linter.unusedSimpArgs false

set_option maxHeartbeats 4000000 in
set_option maxRecDepth 100000 in
theorem kept_calls (es : List S42) (g : Nat) (A : Option Addr) (c : Nat) (w : World) (hc : copyB w g (es.length + 1) es.length es) (hr : k42.C w A es.length es) (hd : ∀ e ∈ es, goodE e) (hn : es.length ≤ 1048576) :
    Calls Try.prog 23 #[.slice (some ⟨g, 0, none⟩) es.length (es.length + 1), .slice A es.length c] w fun e w' => e = .returned (.bool true) ∧ Below w.heap.size w w' := by
  have HC := Aside0.mk hr
  have HD := Aside0.mk hd
  obtain ⟨cur, q1, q2, q3, q4⟩ := hc
  have Q3 := Aside0.mk q3
  have Q1 := Aside0.mk q1
  have hz : ∀ (j : Nat) (v : Value), [Value.int .i64 0, Value.slice none 0 0, Value.slice none 0 0][j]? = some v → cur[es.length * 3 + j]? = some v := q4 es.length (Nat.le_refl _) (by omega)
  have HZ := Aside0.mk hz
  clear hr hd q1 q2 q3 q4 hz
  go_enter Try.func23, Try.ntmps23
  go_wp2
  go_loopw [23] (fun v wr => ∃ i : Nat, i ≤ es.length ∧ v = .int .i64 i ∧ Aside0 (Below w.heap.size w wr)) (fun v _ => es.length - (intOf v).toNat)
  case atStart => exact ⟨0, by omega, rfl, ⟨Below.refl _ _⟩⟩
  case round =>
    obtain ⟨i, hi, rfl, HWr⟩ := hrel
    by_cases hlt : i < es.length
    · have hlt' : ((i : Int) < es.length) = True := eq_true (by omega)
      obtain ⟨ad, Ao, o, Bo, n, rfl, hcA, hcB, hcell⟩ := edit_read HC.out i hlt
      have HCAo := Aside0.mk hcA
      have HCBo := Aside0.mk hcB
      have HGAo := Aside0.mk (HD.out es[i] (List.getElem_mem hlt)).1
      have HGBo := Aside0.mk (HD.out es[i] (List.getElem_mem hlt)).2
      replace hcell := Aside0.mk hcell
      obtain ⟨cs, ⟨g1, p1, g2, p2, rfl, l1, l2, _⟩, hq⟩ := Q3.out i es[i] (List.getElem?_eq_getElem hlt) hlt
      have HLg1 := Aside0.mk l1
      have HLg2 := Aside0.mk l2
      have hown : ∀ j v, [Value.int .i64 es[i].f0, Value.slice (some ⟨g1, 0, none⟩) es[i].f1.length p1, Value.slice (some ⟨g2, 0, none⟩) es[i].f2.length p2][j]? = some v → wr.cell? ((⟨g, i * 3, none⟩ : Addr).add j) = some v := fun j v hj => by
        rw [add_plain', blk_cell (blk_below Q1.out HWr.out)]
        exact hq j v hj
      clear hcA hcB l1 l2 hq
      go_upto_region 6 with (refine wpList_load_agg rfl 42 (.tmp 26) rfl ⟨g, i * 3, none⟩ ?a1 [Value.int .i64 es[i].f0, Value.slice (some ⟨g1, 0, none⟩) es[i].f1.length p1, Value.slice (some ⟨g2, 0, none⟩) es[i].f2.length p2] _ ?a2 Try.underlying42 rfl ?a3 ?a4)
      try (case a1 => rfl)
      case a2 => exact hown
      case a3 => kernel_rfl
      have k3 := blk_new wr (Obj.cells #[Value.int .i64 es[i].f0, Value.slice (some ⟨g1, 0, none⟩) es[i].f1.length p1, Value.slice (some ⟨g2, 0, none⟩) es[i].f2.length p2] 42)
      have k4 := HWr.out.alloc HWr.out.size (Obj.cells #[Value.int .i64 es[i].f0, Value.slice (some ⟨g1, 0, none⟩) es[i].f1.length p1, Value.slice (some ⟨g2, 0, none⟩) es[i].f2.length p2] 42)
      generalize (wr.alloc (Obj.cells #[Value.int .i64 es[i].f0, Value.slice (some ⟨g1, 0, none⟩) es[i].f1.length p1, Value.slice (some ⟨g2, 0, none⟩) es[i].f2.length p2] 42)) = V at k3 k4 ⊢
      have K3 := Aside0.mk k3
      have K4 := Aside0.mk k4
      clear k3 k4 HWr hown
      refine start_ (n := 30) (S := fun w' => w'.heap[wr.heap.size]? = some (Obj.cells #[Value.int .i64 es[i].f0, Value.slice (some ⟨g1, 0, none⟩) es[i].f1.length p1, Value.slice (some ⟨g2, 0, none⟩) es[i].f2.length p2] 42) ∧ Below w.heap.size w w') (ds := []) #[false, false, false, false, false, false, false, false, false, false, false, false, false, false, false, false, false, false, false, false, false, false, false, false, false, false, false, false, false, false] (by kernel_rfl) rfl rfl ⟨blk_drew K3.out, K4.out.drew⟩ (fun hHeld => ?_)
      refine pure_ (i := 0) (N := some 28) (v := ?_) (a' := ?_) #[true, false, false, false, false, false, false, false, false, false, false, false, false, false, false, false, false, false, false, false, false, false, false, false, false, false, false, false, false, false] rfl rfl (by kernel_rfl) (fun _ _ _ h => h) (Or.inl ⟨by rfl, ?_⟩) ?_ ?_
      rotate_left
      · intro w'
        go_simp
        with_reducible rfl
      rotate_left
      · simp only [Act.put, List.setIfInBounds_toArray, List.set_cons_zero, List.set_cons_succ, i64_w, i32_w]
        rfl
      refine take_ (i := 1) (N := some 29) (v := (.int .i64 es[i].f0)) (a' := ?_) #[true, true, false, false, false, false, false, false, false, false, false, false, false, false, false, false, false, false, false, false, false, false, false, false, false, false, false, false, false, false] rfl rfl (by kernel_rfl) (fun _ _ _ h => h) (Or.inl ⟨by rfl, by rintro w' ⟨s0, s1⟩; exact run_load_one_op 3 (.tmp 28) rfl ⟨wr.heap.size, 0, none⟩ rfl _ _ (by rw [blk_cell s0]; rfl) Try.underlying3 rfl⟩) hHeld ?_ ?_
      rotate_left
      · simp only [Act.put, List.setIfInBounds_toArray, List.set_cons_zero, List.set_cons_succ, i64_w, i32_w]
        rfl
      refine pure_ (i := 2) (N := some 30) (v := ?_) (a' := ?_) #[true, true, true, false, false, false, false, false, false, false, false, false, false, false, false, false, false, false, false, false, false, false, false, false, false, false, false, false, false, false] rfl rfl (by kernel_rfl) (fun _ _ _ h => h) (Or.inl ⟨by rfl, ?_⟩) ?_ ?_
      rotate_left
      · intro w'
        go_simp
        with_reducible rfl
      rotate_left
      · simp only [Act.put, List.setIfInBounds_toArray, List.set_cons_zero, List.set_cons_succ, i64_w, i32_w]
        rfl
      refine pure_ (i := 3) (N := some 31) (v := ?_) (a' := ?_) #[true, true, true, true, false, false, false, false, false, false, false, false, false, false, false, false, false, false, false, false, false, false, false, false, false, false, false, false, false, false] rfl rfl (by kernel_rfl) (fun _ _ _ h => h) (Or.inl ⟨by rfl, ?_⟩) ?_ ?_
      rotate_left
      · intro w'
        go_simp
        with_reducible rfl
      rotate_left
      · simp only [Act.put, List.setIfInBounds_toArray, List.set_cons_zero, List.set_cons_succ, i64_w, i32_w]
        rfl
      refine pure_ (i := 4) (N := some 32) (v := ?_) (a' := ?_) #[true, true, true, true, true, false, false, false, false, false, false, false, false, false, false, false, false, false, false, false, false, false, false, false, false, false, false, false, false, false] rfl rfl (by kernel_rfl) (fun _ _ _ h => h) (Or.inl ⟨by rfl, ?_⟩) ?_ ?_
      rotate_left
      · intro w'
        go_simp
        with_reducible rfl
      rotate_left
      · simp only [Act.put, List.setIfInBounds_toArray, List.set_cons_zero, List.set_cons_succ, i64_w, i32_w]
        rfl
      refine pure_ (i := 5) (N := some 33) (v := ?_) (a' := ?_) #[true, true, true, true, true, true, false, false, false, false, false, false, false, false, false, false, false, false, false, false, false, false, false, false, false, false, false, false, false, false] rfl rfl (by kernel_rfl) (fun _ _ _ h => h) (Or.inl ⟨by rfl, ?_⟩) ?_ ?_
      rotate_left
      · intro w'
        go_simp
        with_reducible rfl
      rotate_left
      · simp only [Act.put, List.setIfInBounds_toArray, List.set_cons_zero, List.set_cons_succ, i64_w, i32_w]
        rfl
      refine take_ (i := 6) (N := some 34) (v := (.int .i64 es[i].f0)) (a' := ?_) #[true, true, true, true, true, true, true, false, false, false, false, false, false, false, false, false, false, false, false, false, false, false, false, false, false, false, false, false, false, false] rfl rfl (by kernel_rfl) (fun _ _ _ h => h) (Or.inl ⟨by rfl, by rintro w' ⟨s0, s1⟩; exact run_load_one_op 3 (.tmp 33) rfl (ad.add (i * 3)) rfl _ _ (pw_cell_below s1 (hcell.out 0 _ rfl)) Try.underlying3 rfl⟩) hHeld ?_ ?_
      rotate_left
      · simp only [Act.put, List.setIfInBounds_toArray, List.set_cons_zero, List.set_cons_succ, i64_w, i32_w]
        rfl
      refine pure_ (i := 7) (N := some 35) (v := ?_) (a' := ?_) #[true, true, true, true, true, true, true, true, false, false, false, false, false, false, false, false, false, false, false, false, false, false, false, false, false, false, false, false, false, false] rfl rfl (by kernel_rfl) (fun _ _ _ h => h) (Or.inl ⟨by rfl, ?_⟩) ?_ ?_
      rotate_left
      · intro w'
        go_simp
        with_reducible rfl
      rotate_left
      · simp only [Act.put, List.setIfInBounds_toArray, List.set_cons_zero, List.set_cons_succ, i64_w, i32_w]
        rfl
      refine pure_ (i := 8) (N := some 36) (v := ?_) (a' := ?_) #[true, true, true, true, true, true, true, true, true, false, false, false, false, false, false, false, false, false, false, false, false, false, false, false, false, false, false, false, false, false] rfl rfl (by kernel_rfl) (fun _ _ _ h => h) (Or.inl ⟨by rfl, ?_⟩) ?_ ?_
      rotate_left
      · intro w'
        go_simp
        with_reducible rfl
      rotate_left
      · simp only [Act.put, List.setIfInBounds_toArray, List.set_cons_zero, List.set_cons_succ, i64_w, i32_w]
        rfl
      refine pure_ (i := 9) (N := some 37) (v := ?_) (a' := ?_) #[true, true, true, true, true, true, true, true, true, true, false, false, false, false, false, false, false, false, false, false, false, false, false, false, false, false, false, false, false, false] rfl rfl (by kernel_rfl) (fun _ _ _ h => h) (Or.inl ⟨by rfl, ?_⟩) ?_ ?_
      rotate_left
      · intro w'
        go_simp
        with_reducible rfl
      rotate_left
      · simp only [Act.put, List.setIfInBounds_toArray, List.set_cons_zero, List.set_cons_succ, i64_w, i32_w]
        rfl
      refine take_ (i := 10) (N := some 38) (v := (.slice (some ⟨g1, 0, none⟩) es[i].f1.length p1)) (a' := ?_) #[true, true, true, true, true, true, true, true, true, true, true, false, false, false, false, false, false, false, false, false, false, false, false, false, false, false, false, false, false, false] rfl rfl (by kernel_rfl) (fun _ _ _ h => h) (Or.inl ⟨by rfl, by rintro w' ⟨s0, s1⟩; exact run_load_one_op 40 (.tmp 37) rfl ⟨wr.heap.size, 1, none⟩ rfl _ _ (by rw [blk_cell s0]; rfl) Try.underlying40 rfl⟩) hHeld ?_ ?_
      rotate_left
      · simp only [Act.put, List.setIfInBounds_toArray, List.set_cons_zero, List.set_cons_succ, i64_w, i32_w]
        rfl
      refine pure_ (i := 11) (N := some 39) (v := ?_) (a' := ?_) #[true, true, true, true, true, true, true, true, true, true, true, true, false, false, false, false, false, false, false, false, false, false, false, false, false, false, false, false, false, false] rfl rfl (by kernel_rfl) (fun _ _ _ h => h) (Or.inl ⟨by rfl, ?_⟩) ?_ ?_
      rotate_left
      · intro w'
        go_simp
        with_reducible rfl
      rotate_left
      · simp only [Act.put, List.setIfInBounds_toArray, List.set_cons_zero, List.set_cons_succ, i64_w, i32_w]
        rfl
      refine pure_ (i := 12) (N := some 40) (v := ?_) (a' := ?_) #[true, true, true, true, true, true, true, true, true, true, true, true, true, false, false, false, false, false, false, false, false, false, false, false, false, false, false, false, false, false] rfl rfl (by kernel_rfl) (fun _ _ _ h => h) (Or.inl ⟨by rfl, ?_⟩) ?_ ?_
      rotate_left
      · intro w'
        go_simp
        with_reducible rfl
      rotate_left
      · simp only [Act.put, List.setIfInBounds_toArray, List.set_cons_zero, List.set_cons_succ, i64_w, i32_w]
        rfl
      refine pure_ (i := 13) (N := some 41) (v := ?_) (a' := ?_) #[true, true, true, true, true, true, true, true, true, true, true, true, true, true, false, false, false, false, false, false, false, false, false, false, false, false, false, false, false, false] rfl rfl (by kernel_rfl) (fun _ _ _ h => h) (Or.inl ⟨by rfl, ?_⟩) ?_ ?_
      rotate_left
      · intro w'
        go_simp
        with_reducible rfl
      rotate_left
      · simp only [Act.put, List.setIfInBounds_toArray, List.set_cons_zero, List.set_cons_succ, i64_w, i32_w]
        rfl
      refine pure_ (i := 14) (N := some 42) (v := ?_) (a' := ?_) #[true, true, true, true, true, true, true, true, true, true, true, true, true, true, true, false, false, false, false, false, false, false, false, false, false, false, false, false, false, false] rfl rfl (by kernel_rfl) (fun _ _ _ h => h) (Or.inl ⟨by rfl, ?_⟩) ?_ ?_
      rotate_left
      · intro w'
        go_simp
        with_reducible rfl
      rotate_left
      · simp only [Act.put, List.setIfInBounds_toArray, List.set_cons_zero, List.set_cons_succ, i64_w, i32_w]
        rfl
      refine take_ (i := 15) (N := some 43) (v := (.slice Ao es[i].f1.length o)) (a' := ?_) #[true, true, true, true, true, true, true, true, true, true, true, true, true, true, true, true, false, false, false, false, false, false, false, false, false, false, false, false, false, false] rfl rfl (by kernel_rfl) (fun _ _ _ h => h) (Or.inl ⟨by rfl, by rintro w' ⟨s0, s1⟩; exact run_load_one_op 40 (.tmp 42) rfl ((ad.add (i * 3)).add 1) rfl _ _ (pw_cell_below s1 (hcell.out 1 _ rfl)) Try.underlying40 rfl⟩) hHeld ?_ ?_
      rotate_left
      · simp only [Act.put, List.setIfInBounds_toArray, List.set_cons_zero, List.set_cons_succ, i64_w, i32_w]
        rfl
      refine one_ (i := 16) (N := some 44) #[true, true, true, true, true, true, true, true, true, true, true, true, true, true, true, true, true, false, false, false, false, false, false, false, false, false, false, false, false, false] rfl rfl (by kernel_rfl) (by decide) (fun K hK => ?_)
      refine goes_ Try.func40 (by kernel_rfl) rfl #[.slice (some ⟨g1, 0, none⟩) es[i].f1.length p1, .slice Ao es[i].f1.length o] (by rfl) rfl rfl (by simp [Act.eval]) ?_
      refine (whole_calls es[i].f1 g1 p1 Ao o _ (lentB_below HLg1.out hHeld.2) (Kd.C_below HCAo.out hHeld.2) HGAo.out).mono ?_
      rintro e x1 ⟨rfl, hB1⟩
      refine ⟨_, rfl, ?_⟩
      refine hK.out _ _ ⟨blk_below hHeld.1 hB1, below_step hHeld.2 hB1⟩ (fun hHeld => ?_)
      clear hK K
      refine norm_ (a' := ?_) ?_ ?_
      rotate_left
      · show Act.put _ (some 44) _ = _
        simp only [Act.put, List.setIfInBounds_toArray, List.set_cons_zero, List.set_cons_succ, i64_w, i32_w]
        rfl
      refine pure_ (i := 17) (N := some 45) (v := ?_) (a' := ?_) #[true, true, true, true, true, true, true, true, true, true, true, true, true, true, true, true, true, true, false, false, false, false, false, false, false, false, false, false, false, false] rfl rfl (by kernel_rfl) (fun _ _ _ h => h) (Or.inl ⟨by rfl, ?_⟩) ?_ ?_
      rotate_left
      · intro w'
        go_simp
        with_reducible rfl
      rotate_left
      · simp only [Act.put, List.setIfInBounds_toArray, List.set_cons_zero, List.set_cons_succ, i64_w, i32_w]
        rfl
      refine pure_ (i := 18) (N := some 46) (v := ?_) (a' := ?_) #[true, true, true, true, true, true, true, true, true, true, true, true, true, true, true, true, true, true, true, false, false, false, false, false, false, false, false, false, false, false] rfl rfl (by kernel_rfl) (fun _ _ _ h => h) (Or.inl ⟨by rfl, ?_⟩) ?_ ?_
      rotate_left
      · intro w'
        go_simp
        with_reducible rfl
      rotate_left
      · simp only [Act.put, List.setIfInBounds_toArray, List.set_cons_zero, List.set_cons_succ, i64_w, i32_w]
        rfl
      refine pure_ (i := 19) (N := some 47) (v := ?_) (a' := ?_) #[true, true, true, true, true, true, true, true, true, true, true, true, true, true, true, true, true, true, true, true, false, false, false, false, false, false, false, false, false, false] rfl rfl (by kernel_rfl) (fun _ _ _ h => h) (Or.inl ⟨by rfl, ?_⟩) ?_ ?_
      rotate_left
      · intro w'
        go_simp
        with_reducible rfl
      rotate_left
      · simp only [Act.put, List.setIfInBounds_toArray, List.set_cons_zero, List.set_cons_succ, i64_w, i32_w]
        rfl
      refine pure_ (i := 20) (N := some 48) (v := ?_) (a' := ?_) #[true, true, true, true, true, true, true, true, true, true, true, true, true, true, true, true, true, true, true, true, true, false, false, false, false, false, false, false, false, false] rfl rfl (by kernel_rfl) (fun _ _ _ h => h) (Or.inl ⟨by rfl, ?_⟩) ?_ ?_
      rotate_left
      · intro w'
        go_simp
        with_reducible rfl
      rotate_left
      · simp only [Act.put, List.setIfInBounds_toArray, List.set_cons_zero, List.set_cons_succ, i64_w, i32_w]
        rfl
      refine take_ (i := 21) (N := some 49) (v := (.slice (some ⟨g2, 0, none⟩) es[i].f2.length p2)) (a' := ?_) #[true, true, true, true, true, true, true, true, true, true, true, true, true, true, true, true, true, true, true, true, true, true, false, false, false, false, false, false, false, false] rfl rfl (by kernel_rfl) (fun _ _ _ h => h) (Or.inl ⟨by rfl, by rintro w' ⟨s0, s1⟩; exact run_load_one_op 40 (.tmp 48) rfl ⟨wr.heap.size, 2, none⟩ rfl _ _ (by rw [blk_cell s0]; rfl) Try.underlying40 rfl⟩) hHeld ?_ ?_
      rotate_left
      · simp only [Act.put, List.setIfInBounds_toArray, List.set_cons_zero, List.set_cons_succ, i64_w, i32_w]
        rfl
      refine pure_ (i := 22) (N := some 50) (v := ?_) (a' := ?_) #[true, true, true, true, true, true, true, true, true, true, true, true, true, true, true, true, true, true, true, true, true, true, true, false, false, false, false, false, false, false] rfl rfl (by kernel_rfl) (fun _ _ _ h => h) (Or.inl ⟨by rfl, ?_⟩) ?_ ?_
      rotate_left
      · intro w'
        go_simp
        with_reducible rfl
      rotate_left
      · simp only [Act.put, List.setIfInBounds_toArray, List.set_cons_zero, List.set_cons_succ, i64_w, i32_w]
        rfl
      refine pure_ (i := 23) (N := some 51) (v := ?_) (a' := ?_) #[true, true, true, true, true, true, true, true, true, true, true, true, true, true, true, true, true, true, true, true, true, true, true, true, false, false, false, false, false, false] rfl rfl (by kernel_rfl) (fun _ _ _ h => h) (Or.inl ⟨by rfl, ?_⟩) ?_ ?_
      rotate_left
      · intro w'
        go_simp
        with_reducible rfl
      rotate_left
      · simp only [Act.put, List.setIfInBounds_toArray, List.set_cons_zero, List.set_cons_succ, i64_w, i32_w]
        rfl
      refine pure_ (i := 24) (N := some 52) (v := ?_) (a' := ?_) #[true, true, true, true, true, true, true, true, true, true, true, true, true, true, true, true, true, true, true, true, true, true, true, true, true, false, false, false, false, false] rfl rfl (by kernel_rfl) (fun _ _ _ h => h) (Or.inl ⟨by rfl, ?_⟩) ?_ ?_
      rotate_left
      · intro w'
        go_simp
        with_reducible rfl
      rotate_left
      · simp only [Act.put, List.setIfInBounds_toArray, List.set_cons_zero, List.set_cons_succ, i64_w, i32_w]
        rfl
      refine pure_ (i := 25) (N := some 53) (v := ?_) (a' := ?_) #[true, true, true, true, true, true, true, true, true, true, true, true, true, true, true, true, true, true, true, true, true, true, true, true, true, true, false, false, false, false] rfl rfl (by kernel_rfl) (fun _ _ _ h => h) (Or.inl ⟨by rfl, ?_⟩) ?_ ?_
      rotate_left
      · intro w'
        go_simp
        with_reducible rfl
      rotate_left
      · simp only [Act.put, List.setIfInBounds_toArray, List.set_cons_zero, List.set_cons_succ, i64_w, i32_w]
        rfl
      refine take_ (i := 26) (N := some 54) (v := (.slice Bo es[i].f2.length n)) (a' := ?_) #[true, true, true, true, true, true, true, true, true, true, true, true, true, true, true, true, true, true, true, true, true, true, true, true, true, true, true, false, false, false] rfl rfl (by kernel_rfl) (fun _ _ _ h => h) (Or.inl ⟨by rfl, by rintro w' ⟨s0, s1⟩; exact run_load_one_op 40 (.tmp 53) rfl ((ad.add (i * 3)).add 2) rfl _ _ (pw_cell_below s1 (hcell.out 2 _ rfl)) Try.underlying40 rfl⟩) hHeld ?_ ?_
      rotate_left
      · simp only [Act.put, List.setIfInBounds_toArray, List.set_cons_zero, List.set_cons_succ, i64_w, i32_w]
        rfl
      refine one_ (i := 27) (N := some 55) #[true, true, true, true, true, true, true, true, true, true, true, true, true, true, true, true, true, true, true, true, true, true, true, true, true, true, true, true, false, false] rfl rfl (by kernel_rfl) (by decide) (fun K hK => ?_)
      refine goes_ Try.func40 (by kernel_rfl) rfl #[.slice (some ⟨g2, 0, none⟩) es[i].f2.length p2, .slice Bo es[i].f2.length n] (by rfl) rfl rfl (by simp [Act.eval]) ?_
      refine (whole_calls es[i].f2 g2 p2 Bo n _ (lentB_below HLg2.out hHeld.2) (Kd.C_below HCBo.out hHeld.2) HGBo.out).mono ?_
      rintro e x1 ⟨rfl, hB1⟩
      refine ⟨_, rfl, ?_⟩
      refine hK.out _ _ ⟨blk_below hHeld.1 hB1, below_step hHeld.2 hB1⟩ (fun hHeld => ?_)
      clear hK K
      refine norm_ (a' := ?_) ?_ ?_
      rotate_left
      · show Act.put _ (some 55) _ = _
        simp only [Act.put, List.setIfInBounds_toArray, List.set_cons_zero, List.set_cons_succ, i64_w, i32_w]
        rfl
      refine pure_ (i := 28) (N := some 56) (v := ?_) (a' := ?_) #[true, true, true, true, true, true, true, true, true, true, true, true, true, true, true, true, true, true, true, true, true, true, true, true, true, true, true, true, true, false] rfl rfl (by kernel_rfl) (fun _ _ _ h => h) (Or.inl ⟨by rfl, ?_⟩) ?_ ?_
      rotate_left
      · intro w'
        go_simp
        with_reducible rfl
      rotate_left
      · simp only [Act.put, List.setIfInBounds_toArray, List.set_cons_zero, List.set_cons_succ, i64_w, i32_w]
        rfl
      refine pure_ (i := 29) (N := some 57) (v := ?_) (a' := ?_) #[true, true, true, true, true, true, true, true, true, true, true, true, true, true, true, true, true, true, true, true, true, true, true, true, true, true, true, true, true, true] rfl rfl (by kernel_rfl) (fun _ _ _ h => h) (Or.inl ⟨by rfl, ?_⟩) ?_ ?_
      rotate_left
      · intro w'
        go_simp
        with_reducible rfl
      rotate_left
      · simp only [Act.put, List.setIfInBounds_toArray, List.set_cons_zero, List.set_cons_succ, i64_w, i32_w]
        rfl
      refine done_ (by kernel_rfl) ?_
      have HX := Aside0.mk hHeld.2
      clear hHeld K3 K4
      go_wp2
      go_roundw
      case measure => simp [intOf] <;> omega
      case rel => exact ⟨i + 1, by omega, by go_num, HX⟩
    · have hge : ((i : Int) < es.length) = False := eq_false (by omega)
      obtain rfl : i = es.length := by omega
      clear hge
      have hz : ∀ j v, [Value.int .i64 0, Value.slice none 0 0, Value.slice none 0 0][j]? = some v → wr.cell? ((⟨g, es.length * 3, none⟩ : Addr).add j) = some v := fun j v hj => by
        rw [add_plain', blk_cell (blk_below Q1.out HWr.out)]
        exact HZ.out j v hj
      go_upto_region 10 with (refine wpList_load_agg rfl 42 (.tmp 66) rfl ⟨g, es.length * 3, none⟩ ?z1 [Value.int .i64 0, Value.slice none 0 0, Value.slice none 0 0] _ ?z2 Try.underlying42 rfl ?z3 ?z4)
      try (case z1 => rfl)
      case z2 => exact hz
      case z3 => kernel_rfl
      have k3 := blk_new wr (Obj.cells #[Value.int .i64 0, Value.slice none 0 0, Value.slice none 0 0] 42)
      have k4 := HWr.out.alloc HWr.out.size (Obj.cells #[Value.int .i64 0, Value.slice none 0 0, Value.slice none 0 0] 42)
      generalize (wr.alloc (Obj.cells #[Value.int .i64 0, Value.slice none 0 0, Value.slice none 0 0] 42)) = V at k3 k4 ⊢
      have c0 : V.cell? ⟨wr.heap.size, 0, none⟩ = some (.int .i64 0) := by rw [blk_cell k3]; rfl
      have c1 : V.cell? ⟨wr.heap.size, 1, none⟩ = some (.slice none 0 0) := by rw [blk_cell k3]; rfl
      have c2 : V.cell? ⟨wr.heap.size, 2, none⟩ = some (.slice none 0 0) := by rw [blk_cell k3]; rfl
      clear hz HWr k3
      have hnil : ∀ W, (binOp .eql 40 (.slice none 0 0) (.slice none 0 0)).run Try.prog W = .ok (.bool true) W := fun W => by
        simp [binOp, run_equal_slice_nil W 40 5 none 0 0 Try.underlying40]
      go_wp2
      go_ret
      exact ⟨rfl, k4⟩

end Go.Proofs.Ytjmpmcgdfgfmfaa.Hand
