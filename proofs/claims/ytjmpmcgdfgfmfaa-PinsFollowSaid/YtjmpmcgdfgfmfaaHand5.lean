/- pins and its reference: one mark behind an edit; Shift; the reference's None. No condition. -/
import Derived.Test.YtjmpmcgdfgfmfaaHand4
namespace Go.Proofs.Ytjmpmcgdfgfmfaa.Hand
open Go.RowKit Go.Proofs.Ytjmpmcgdfgfmfaa.Aggs Go.Proofs.YtjmpmcgdfgfmfaaW.PrintWords Go.Proofs.YtjmpmcgdfgfmfaaW.PrintLast Go.Proofs.YtjmpmcgdfgfmfaaW.PrintMore
attribute [local go_sem] max2_int min2_int max_two min_two
set_option linter.unusedVariables false
set_option linter.unusedSimpArgs false

def behindI (a o n x : Int) : Int := if x < 0 then x else if x < a then x else if wrap64 (a + o) ≤ x then wrap64 (wrap64 (x + n) - o) else wrap64 (a + mn (wrap64 (x - a)) n)
set_option maxHeartbeats 1000000 in
set_option maxRecDepth 100000 in
theorem shift_lit (a o n x : Int) (pe po pn : Nat) (w : World) (he : w.cell? ⟨pe, 0, none⟩ = some (.int .i64 a)) (ho : w.cell? ⟨po, 0, none⟩ = some (.int .i64 o)) (hn : w.cell? ⟨pn, 0, none⟩ = some (.int .i64 n)) :
    Calls Try.prog 38 #[.int .i64 x, .pointer (some ⟨pe, 0, none⟩), .pointer (some ⟨po, 0, none⟩), .pointer (some ⟨pn, 0, none⟩)] w fun e w' => e = .returned (.int .i64 (behindI a o n x)) ∧ Drawn0 w w' := by
  by_cases h1 : x < 0
  · have e1 : behindI a o n x = x := by simp [behindI, h1]
    have h1b := decide_eq_true h1
    rw [e1]
    clear e1 h1
    go_enter Try.func38, Try.ntmps38
    go_wp2
    go_ret
    exact ⟨rfl, Drawn0.refl _⟩
  · have h1b := decide_eq_false h1
    by_cases h2 : x < a
    · have e1 : behindI a o n x = x := by simp [behindI, h1, h2]
      have h2b := decide_eq_true h2
      rw [e1]
      clear e1 h1 h2
      go_enter Try.func38, Try.ntmps38
      go_wp2
      go_ret
      exact ⟨rfl, Drawn0.refl _⟩
    · have h2b := decide_eq_false h2
      by_cases h3 : wrap64 (a + o) ≤ x
      · have e1 : behindI a o n x = wrap64 (wrap64 (x + n) - o) := by simp [behindI, h1, h2, h3]
        have h3b := decide_eq_true h3
        rw [e1]
        clear e1 h1 h2 h3
        go_enter Try.func38, Try.ntmps38
        go_wp2
        go_ret
        exact ⟨rfl, Drawn0.refl _⟩
      · have e1 : behindI a o n x = wrap64 (a + mn (wrap64 (x - a)) n) := by simp [behindI, h1, h2, h3]
        have h3b := decide_eq_false h3
        rw [e1]
        clear e1 h1 h2 h3
        go_enter Try.func38, Try.ntmps38
        go_wp2
        all_goals go_ret
        all_goals refine ⟨?_, Drawn0.refl _⟩
        all_goals first | (rw [show mn (wrap64 (x - a)) n = n by unfold mn; split <;> omega]; rfl) | (rw [show mn (wrap64 (x - a)) n = wrap64 (x - a) by unfold mn; split <;> omega]; rfl)

theorem call38 (xs : Array Value) (W : World) : (callFunc 38 xs).run Try.prog W = .ok (.enter 38 xs) W := enters_ Try.func38 (by kernel_rfl) rfl xs W
set_option maxHeartbeats 1000000 in
set_option maxRecDepth 100000 in
theorem shift_calls (l : List Int) (hl : l.length = 27) (a : Int) (Ao An : Option Addr) (o co n cn : Nat) (w : World) :
    Calls Try.prog 19 #[mv l, .agg #[.int .i64 a, .slice Ao o co, .slice An n cn]] w fun e w' => e = .returned (mv (l.map (behindI a o n))) ∧ Below w.heap.size w w' := by
  have HL := Aside0.mk hl
  clear hl
  go_enter Try.func19, Try.ntmps19
  go_upto_region 1 with (fail)
  have hb1 := blk_alloc (blk_alloc (blk_new w (Obj.cells (nums .i64 l).toArray 24)) (Obj.cells #[.int .i64 a, .slice Ao o co, .slice An n cn] 42)) (Obj.cells #[.int .i64 0, .int .i64 0, .int .i64 0, .int .i64 0, .int .i64 0, .int .i64 0, .int .i64 0, .int .i64 0, .int .i64 0, .int .i64 0, .int .i64 0, .int .i64 0, .int .i64 0, .int .i64 0, .int .i64 0, .int .i64 0, .int .i64 0, .int .i64 0, .int .i64 0, .int .i64 0, .int .i64 0, .int .i64 0, .int .i64 0, .int .i64 0, .int .i64 0, .int .i64 0, .int .i64 0] 24)
  have hb2 := blk_alloc (heap_alloc2_new w (Obj.cells (nums .i64 l).toArray 24) (Obj.cells #[.int .i64 a, .slice Ao o co, .slice An n cn] 42)) (Obj.cells #[.int .i64 0, .int .i64 0, .int .i64 0, .int .i64 0, .int .i64 0, .int .i64 0, .int .i64 0, .int .i64 0, .int .i64 0, .int .i64 0, .int .i64 0, .int .i64 0, .int .i64 0, .int .i64 0, .int .i64 0, .int .i64 0, .int .i64 0, .int .i64 0, .int .i64 0, .int .i64 0, .int .i64 0, .int .i64 0, .int .i64 0, .int .i64 0, .int .i64 0, .int .i64 0, .int .i64 0] 24)
  have hb4 : (((w.alloc (Obj.cells (nums .i64 l).toArray 24)).alloc (Obj.cells #[.int .i64 a, .slice Ao o co, .slice An n cn] 42)).alloc (Obj.cells #[.int .i64 0, .int .i64 0, .int .i64 0, .int .i64 0, .int .i64 0, .int .i64 0, .int .i64 0, .int .i64 0, .int .i64 0, .int .i64 0, .int .i64 0, .int .i64 0, .int .i64 0, .int .i64 0, .int .i64 0, .int .i64 0, .int .i64 0, .int .i64 0, .int .i64 0, .int .i64 0, .int .i64 0, .int .i64 0, .int .i64 0, .int .i64 0, .int .i64 0, .int .i64 0, .int .i64 0] 24)).heap[w.heap.size + 2]? = some (Obj.cells #[.int .i64 0, .int .i64 0, .int .i64 0, .int .i64 0, .int .i64 0, .int .i64 0, .int .i64 0, .int .i64 0, .int .i64 0, .int .i64 0, .int .i64 0, .int .i64 0, .int .i64 0, .int .i64 0, .int .i64 0, .int .i64 0, .int .i64 0, .int .i64 0, .int .i64 0, .int .i64 0, .int .i64 0, .int .i64 0, .int .i64 0, .int .i64 0, .int .i64 0, .int .i64 0, .int .i64 0] 24 (0, 0)) := by
    have h := blk_new ((w.alloc (Obj.cells (nums .i64 l).toArray 24)).alloc (Obj.cells #[.int .i64 a, .slice Ao o co, .slice An n cn] 42)) (Obj.cells #[.int .i64 0, .int .i64 0, .int .i64 0, .int .i64 0, .int .i64 0, .int .i64 0, .int .i64 0, .int .i64 0, .int .i64 0, .int .i64 0, .int .i64 0, .int .i64 0, .int .i64 0, .int .i64 0, .int .i64 0, .int .i64 0, .int .i64 0, .int .i64 0, .int .i64 0, .int .i64 0, .int .i64 0, .int .i64 0, .int .i64 0, .int .i64 0, .int .i64 0, .int .i64 0, .int .i64 0] 24)
    rw [show ((w.alloc (Obj.cells (nums .i64 l).toArray 24)).alloc (Obj.cells #[.int .i64 a, .slice Ao o co, .slice An n cn] 42)).heap.size = w.heap.size + 2 by simp] at h
    exact h
  have hb3 := ((((Below.refl w.heap.size w).alloc (Nat.le_refl _) (Obj.cells (nums .i64 l).toArray 24)).alloc (by simp) (Obj.cells #[.int .i64 a, .slice Ao o co, .slice An n cn] 42)).alloc (by simp; omega) (Obj.cells #[.int .i64 0, .int .i64 0, .int .i64 0, .int .i64 0, .int .i64 0, .int .i64 0, .int .i64 0, .int .i64 0, .int .i64 0, .int .i64 0, .int .i64 0, .int .i64 0, .int .i64 0, .int .i64 0, .int .i64 0, .int .i64 0, .int .i64 0, .int .i64 0, .int .i64 0, .int .i64 0, .int .i64 0, .int .i64 0, .int .i64 0, .int .i64 0, .int .i64 0, .int .i64 0, .int .i64 0] 24))
  have hb5 : w.heap.size + 3 = (((w.alloc (Obj.cells (nums .i64 l).toArray 24)).alloc (Obj.cells #[.int .i64 a, .slice Ao o co, .slice An n cn] 42)).alloc (Obj.cells #[.int .i64 0, .int .i64 0, .int .i64 0, .int .i64 0, .int .i64 0, .int .i64 0, .int .i64 0, .int .i64 0, .int .i64 0, .int .i64 0, .int .i64 0, .int .i64 0, .int .i64 0, .int .i64 0, .int .i64 0, .int .i64 0, .int .i64 0, .int .i64 0, .int .i64 0, .int .i64 0, .int .i64 0, .int .i64 0, .int .i64 0, .int .i64 0, .int .i64 0, .int .i64 0, .int .i64 0] 24)).heap.size := by simp
  generalize (((w.alloc (Obj.cells (nums .i64 l).toArray 24)).alloc (Obj.cells #[.int .i64 a, .slice Ao o co, .slice An n cn] 42)).alloc (Obj.cells #[.int .i64 0, .int .i64 0, .int .i64 0, .int .i64 0, .int .i64 0, .int .i64 0, .int .i64 0, .int .i64 0, .int .i64 0, .int .i64 0, .int .i64 0, .int .i64 0, .int .i64 0, .int .i64 0, .int .i64 0, .int .i64 0, .int .i64 0, .int .i64 0, .int .i64 0, .int .i64 0, .int .i64 0, .int .i64 0, .int .i64 0, .int .i64 0, .int .i64 0, .int .i64 0, .int .i64 0] 24)) = W at hb1 hb2 hb3 hb4 hb5 ⊢
  have hx1 : W.drew.cell? ⟨w.heap.size + 1, 1, none⟩ = some (.slice Ao o co) := (blk_cell hb2 1).trans rfl
  have hx2 : W.drew.cell? ⟨w.heap.size + 1, 2, none⟩ = some (.slice An n cn) := (blk_cell hb2 2).trans rfl
  have HB := Aside0.mk hb1
  have HE := Aside0.mk hb2
  have HW := Aside0.mk hb3
  have HR := Aside0.mk hb4
  have HS := Aside0.mk hb5
  clear hb1 hb2 hb3 hb4 hb5
  refine start_ (n := 10) (S := fun w' => w'.cell? ⟨w.heap.size + 1, 1, none⟩ = some (.slice Ao o co) ∧ w'.cell? ⟨w.heap.size + 1, 2, none⟩ = some (.slice An n cn)) (ds := []) #[false, false, false, false, false, false, false, false, false, false] (by kernel_rfl) rfl rfl ⟨hx1, hx2⟩ (fun hHeld => ?_)
  refine pure_ (i := 0) (N := some 7) (v := ?_) (a' := ?_) #[true, false, false, false, false, false, false, false, false, false] rfl rfl (by kernel_rfl) (fun _ _ _ h => h) (Or.inl ⟨by rfl, ?_⟩) ?_ ?_
  rotate_left
  · intro w'
    go_simp
    with_reducible rfl
  rotate_left
  · simp only [Act.put, List.setIfInBounds_toArray, List.set_cons_zero, List.set_cons_succ, i64_w, i32_w]
    rfl
  refine take_ (i := 1) (N := some 8) (v := ?_) (a' := ?_) #[true, true, false, false, false, false, false, false, false, false] rfl rfl (by kernel_rfl) (fun _ _ _ h => h) (Or.inl ⟨by rfl, ?_⟩) hHeld ?_ ?_
  rotate_left
  · rintro w' ⟨s0, s1⟩
    go_simp
    with_reducible rfl
  rotate_left
  · simp only [Act.put, List.setIfInBounds_toArray, List.set_cons_zero, List.set_cons_succ, i64_w, i32_w]
    rfl
  refine pure_ (i := 2) (N := some 9) (v := ?_) (a' := ?_) #[true, true, true, false, false, false, false, false, false, false] rfl rfl (by kernel_rfl) (fun _ _ _ h => h) (Or.inl ⟨by rfl, ?_⟩) ?_ ?_
  rotate_left
  · intro w'
    go_simp
    with_reducible rfl
  rotate_left
  · simp only [Act.put, List.setIfInBounds_toArray, List.set_cons_zero, List.set_cons_succ, i64_w, i32_w]
    rfl
  refine pure_ (i := 3) (N := some 10) (v := ?_) (a' := ?_) #[true, true, true, true, false, false, false, false, false, false] rfl rfl (by kernel_rfl) (fun _ _ _ h => h) (Or.inl ⟨by rfl, ?_⟩) ?_ ?_
  rotate_left
  · intro w'
    go_simp
    with_reducible rfl
  rotate_left
  · simp only [Act.put, List.setIfInBounds_toArray, List.set_cons_zero, List.set_cons_succ, i64_w, i32_w]
    rfl
  refine take_ (i := 4) (N := some 11) (v := ?_) (a' := ?_) #[true, true, true, true, true, false, false, false, false, false] rfl rfl (by kernel_rfl) (fun _ _ _ h => h) (Or.inl ⟨by rfl, ?_⟩) hHeld ?_ ?_
  rotate_left
  · rintro w' ⟨s0, s1⟩
    go_simp
    with_reducible rfl
  rotate_left
  · simp only [Act.put, List.setIfInBounds_toArray, List.set_cons_zero, List.set_cons_succ, i64_w, i32_w]
    rfl
  refine pure_ (i := 5) (N := some 12) (v := ?_) (a' := ?_) #[true, true, true, true, true, true, false, false, false, false] rfl rfl (by kernel_rfl) (fun _ _ _ h => h) (Or.inl ⟨by rfl, ?_⟩) ?_ ?_
  rotate_left
  · intro w'
    go_simp
    with_reducible rfl
  rotate_left
  · simp only [Act.put, List.setIfInBounds_toArray, List.set_cons_zero, List.set_cons_succ, i64_w, i32_w]
    rfl
  refine two_ (i := 6) (j := 7) (Ni := some 5) (Nj := some 6) #[true, true, true, true, true, true, true, false, false, false] #[true, true, true, true, true, true, false, true, false, false] rfl rfl rfl rfl (by kernel_rfl) (by decide) (by decide) (fun K hK => ?_) (fun K hK => ?_)
  · refine value_ (w1 := ?_) (v := ?_) (by rfl) rfl ?_ ?_
    rotate_left 2
    · go_simp
      constructor
      · rfl
      · rfl
    refine hK.out _ _ ⟨(blk_cell (blk_drew (blk_alloc HE.out _)) 1).trans rfl, (blk_cell (blk_drew (blk_alloc HE.out _)) 2).trans rfl⟩ (fun hHeld => ?_)
    clear hK K
    refine norm_ (a' := ?_) ?_ ?_
    rotate_left
    · show Act.put _ (some 5) _ = _
      simp only [Act.put, List.setIfInBounds_toArray, List.set_cons_zero, List.set_cons_succ, i64_w, i32_w]
      rfl
    refine one_ (i := 7) (N := some 6) #[true, true, true, true, true, true, true, true, false, false] rfl rfl (by kernel_rfl) (by decide) (fun K hK => ?_)
    refine value_ (w1 := ?_) (v := ?_) (by rfl) rfl ?_ ?_
    rotate_left 2
    · go_simp
      constructor
      · rfl
      · rfl
    refine hK.out _ _ ⟨(blk_cell (blk_drew (blk_alloc (blk_alloc HE.out _) _)) 1).trans rfl, (blk_cell (blk_drew (blk_alloc (blk_alloc HE.out _) _)) 2).trans rfl⟩ (fun hHeld => ?_)
    clear hK K
    refine norm_ (a' := ?_) ?_ ?_
    rotate_left
    · show Act.put _ (some 6) _ = _
      simp only [Act.put, List.setIfInBounds_toArray, List.set_cons_zero, List.set_cons_succ, i64_w, i32_w]
      rfl
    refine one_ (i := 8) (N := none) #[true, true, true, true, true, true, true, true, true, false] rfl rfl (by kernel_rfl) (by decide) (fun K hK => ?_)
    refine skip_ (w1 := ?_) (by rfl) rfl ?_ ?_
    rotate_left
    · go_simp
      rfl
    refine hK.out _ _ ⟨(blk_cell (blk_drew (blk_alloc (blk_alloc HE.out _) _)) 1).trans rfl, (blk_cell (blk_drew (blk_alloc (blk_alloc HE.out _) _)) 2).trans rfl⟩ (fun hHeld => ?_)
    clear hK K
    refine one_ (i := 9) (N := none) #[true, true, true, true, true, true, true, true, true, true] rfl rfl (by kernel_rfl) (by decide) (fun K hK => ?_)
    refine skip_ (w1 := ?_) (by rfl) rfl ?_ ?_
    rotate_left
    · go_simp
      rfl
    refine hK.out _ _ ⟨(blk_cell (blk_drew (blk_alloc (blk_alloc HE.out _) _)) 1).trans rfl, (blk_cell (blk_drew (blk_alloc (blk_alloc HE.out _) _)) 2).trans rfl⟩ (fun hHeld => ?_)
    clear hK K
    refine done_ (by kernel_rfl) ?_
    have k1 : ((W.alloc (Obj.cells #[.int .i64 (o : Int)] 3)).alloc (Obj.cells #[.int .i64 (n : Int)] 3)).drew.heap[w.heap.size]? = _ := blk_drew (blk_alloc (blk_alloc HB.out (Obj.cells #[.int .i64 (o : Int)] 3)) (Obj.cells #[.int .i64 (n : Int)] 3))
    have k2 : ((W.alloc (Obj.cells #[.int .i64 (o : Int)] 3)).alloc (Obj.cells #[.int .i64 (n : Int)] 3)).drew.heap[w.heap.size + 1]? = _ := blk_drew (blk_alloc (blk_alloc HE.out (Obj.cells #[.int .i64 (o : Int)] 3)) (Obj.cells #[.int .i64 (n : Int)] 3))
    have k3 : ((W.alloc (Obj.cells #[.int .i64 (o : Int)] 3)).alloc (Obj.cells #[.int .i64 (n : Int)] 3)).drew.heap[w.heap.size + 2]? = _ := blk_drew (blk_alloc (blk_alloc HR.out (Obj.cells #[.int .i64 (o : Int)] 3)) (Obj.cells #[.int .i64 (n : Int)] 3))
    have k4 : ((W.alloc (Obj.cells #[.int .i64 (o : Int)] 3)).alloc (Obj.cells #[.int .i64 (n : Int)] 3)).drew.heap[W.heap.size]? = _ := blk_drew (blk_alloc (blk_new W (Obj.cells #[.int .i64 (o : Int)] 3)) (Obj.cells #[.int .i64 (n : Int)] 3))
    have k5 : ((W.alloc (Obj.cells #[.int .i64 (o : Int)] 3)).alloc (Obj.cells #[.int .i64 (n : Int)] 3)).drew.heap[W.heap.size + 1]? = _ := blk_drew (heap_alloc2_new W (Obj.cells #[.int .i64 (o : Int)] 3) (Obj.cells #[.int .i64 (n : Int)] 3))
    have k6 : Below w.heap.size w ((W.alloc (Obj.cells #[.int .i64 (o : Int)] 3)).alloc (Obj.cells #[.int .i64 (n : Int)] 3)).drew := below_drew (((HW.out.alloc HW.out.size (Obj.cells #[.int .i64 (o : Int)] 3))).alloc (by have := HW.out.size; simp; omega) (Obj.cells #[.int .i64 (n : Int)] 3))
    generalize ((W.alloc (Obj.cells #[.int .i64 (o : Int)] 3)).alloc (Obj.cells #[.int .i64 (n : Int)] 3)).drew = V at k1 k2 k3 k4 k5 k6 ⊢
    clear hHeld
    have K1 := Aside0.mk k1
    have K2 := Aside0.mk k2
    have K3 := Aside0.mk k3
    have K4 := Aside0.mk k4
    have K5 := Aside0.mk k5
    have K6 := Aside0.mk k6
    clear k1 k2 k3 k4 k5 k6 hx1 hx2
    go_wp2_with (refine wpList_load_agg rfl 24 (.tmp 2) rfl ⟨w.heap.size, 0, none⟩ ?y11 (nums .i64 l) _ ?y12 Try.underlying24 rfl ?y13 ?y14)
    case y11 => rfl
    case y12 =>
      intro j v hj
      rw [add_plain', Nat.zero_add, blk_cell K1.out]
      simpa using hj
    case y13 =>
      rw [nums_length, HL.out]
      exact info24
    refine (each_pure 38 #[.pointer (some ⟨w.heap.size + 1, 0, none⟩), .pointer (some ⟨W.heap.size, 0, none⟩), .pointer (some ⟨W.heap.size + 1, 0, none⟩)] (behindI a o n) l HL.out _ call38 (fun U x hU => ?_)).mono ?_
    · exact shift_lit a o n x _ _ _ U ((blk_cell (blk_below K2.out hU) 0).trans rfl) ((blk_cell (blk_below K4.out hU) 0).trans rfl) ((blk_cell (blk_below K5.out hU) 0).trans rfl)
    rintro e w1 ⟨rfl, hB1⟩
    have HR2 := Aside0.mk (blk_below K3.out hB1)
    have HW2 := Aside0.mk (below_step K6.out hB1)
    clear hB1
    go_wp2_with (refine wpList_store_agg rfl 24 (.tmp 4) (.tmp 15) rfl (w.heap.size + 2) 0 ?y15 (nums .i64 (l.map (behindI a o n))) ?y16 _ 24 HR2.out ?y17 (nums_one _) ?y18 ?y19)
    case y15 => rfl
    case y16 => rfl
    case y17 => rw [nums_length, List.length_map, HL.out]; exact Nat.le_refl _
    case y18 =>
      rw [nums_length, List.length_map, HL.out]
      exact info24
    have hW := putCells_block (nums .i64 (l.map (behindI a o n))) w1 (w.heap.size + 2) 0 _ 24 HR2.out
    rw [splice_whole _ (nums .i64 (l.map (behindI a o n))) (by rw [nums_length, List.length_map, HL.out]; rfl)] at hW
    refine bodyPost_ret (results_cell_row rfl _ _ (w.heap.size + 2) 24 _ (0, 0) _ rfl hW Try.underlying24 rfl ?_) rfl ⟨rfl, putCells_below _ _ _ _ _ _ (by omega) HW2.out⟩
    rw [List.size_toArray, nums_length, List.length_map, HL.out]
    exact info24
  · refine value_ (w1 := ?_) (v := ?_) (by rfl) rfl ?_ ?_
    rotate_left 2
    · go_simp
      constructor
      · rfl
      · rfl
    refine hK.out _ _ ⟨(blk_cell (blk_drew (blk_alloc HE.out _)) 1).trans rfl, (blk_cell (blk_drew (blk_alloc HE.out _)) 2).trans rfl⟩ (fun hHeld => ?_)
    clear hK K
    refine norm_ (a' := ?_) ?_ ?_
    rotate_left
    · show Act.put _ (some 6) _ = _
      simp only [Act.put, List.setIfInBounds_toArray, List.set_cons_zero, List.set_cons_succ, i64_w, i32_w]
      rfl
    refine one_ (i := 6) (N := some 5) #[true, true, true, true, true, true, true, true, false, false] rfl rfl (by kernel_rfl) (by decide) (fun K hK => ?_)
    refine value_ (w1 := ?_) (v := ?_) (by rfl) rfl ?_ ?_
    rotate_left 2
    · go_simp
      constructor
      · rfl
      · rfl
    refine hK.out _ _ ⟨(blk_cell (blk_drew (blk_alloc (blk_alloc HE.out _) _)) 1).trans rfl, (blk_cell (blk_drew (blk_alloc (blk_alloc HE.out _) _)) 2).trans rfl⟩ (fun hHeld => ?_)
    clear hK K
    refine norm_ (a' := ?_) ?_ ?_
    rotate_left
    · show Act.put _ (some 5) _ = _
      simp only [Act.put, List.setIfInBounds_toArray, List.set_cons_zero, List.set_cons_succ, i64_w, i32_w]
      rfl
    refine one_ (i := 8) (N := none) #[true, true, true, true, true, true, true, true, true, false] rfl rfl (by kernel_rfl) (by decide) (fun K hK => ?_)
    refine skip_ (w1 := ?_) (by rfl) rfl ?_ ?_
    rotate_left
    · go_simp
      rfl
    refine hK.out _ _ ⟨(blk_cell (blk_drew (blk_alloc (blk_alloc HE.out _) _)) 1).trans rfl, (blk_cell (blk_drew (blk_alloc (blk_alloc HE.out _) _)) 2).trans rfl⟩ (fun hHeld => ?_)
    clear hK K
    refine one_ (i := 9) (N := none) #[true, true, true, true, true, true, true, true, true, true] rfl rfl (by kernel_rfl) (by decide) (fun K hK => ?_)
    refine skip_ (w1 := ?_) (by rfl) rfl ?_ ?_
    rotate_left
    · go_simp
      rfl
    refine hK.out _ _ ⟨(blk_cell (blk_drew (blk_alloc (blk_alloc HE.out _) _)) 1).trans rfl, (blk_cell (blk_drew (blk_alloc (blk_alloc HE.out _) _)) 2).trans rfl⟩ (fun hHeld => ?_)
    clear hK K
    refine done_ (by kernel_rfl) ?_
    have k1 : ((W.alloc (Obj.cells #[.int .i64 (n : Int)] 3)).alloc (Obj.cells #[.int .i64 (o : Int)] 3)).drew.heap[w.heap.size]? = _ := blk_drew (blk_alloc (blk_alloc HB.out (Obj.cells #[.int .i64 (n : Int)] 3)) (Obj.cells #[.int .i64 (o : Int)] 3))
    have k2 : ((W.alloc (Obj.cells #[.int .i64 (n : Int)] 3)).alloc (Obj.cells #[.int .i64 (o : Int)] 3)).drew.heap[w.heap.size + 1]? = _ := blk_drew (blk_alloc (blk_alloc HE.out (Obj.cells #[.int .i64 (n : Int)] 3)) (Obj.cells #[.int .i64 (o : Int)] 3))
    have k3 : ((W.alloc (Obj.cells #[.int .i64 (n : Int)] 3)).alloc (Obj.cells #[.int .i64 (o : Int)] 3)).drew.heap[w.heap.size + 2]? = _ := blk_drew (blk_alloc (blk_alloc HR.out (Obj.cells #[.int .i64 (n : Int)] 3)) (Obj.cells #[.int .i64 (o : Int)] 3))
    have k4 : ((W.alloc (Obj.cells #[.int .i64 (n : Int)] 3)).alloc (Obj.cells #[.int .i64 (o : Int)] 3)).drew.heap[W.heap.size]? = _ := blk_drew (blk_alloc (blk_new W (Obj.cells #[.int .i64 (n : Int)] 3)) (Obj.cells #[.int .i64 (o : Int)] 3))
    have k5 : ((W.alloc (Obj.cells #[.int .i64 (n : Int)] 3)).alloc (Obj.cells #[.int .i64 (o : Int)] 3)).drew.heap[W.heap.size + 1]? = _ := blk_drew (heap_alloc2_new W (Obj.cells #[.int .i64 (n : Int)] 3) (Obj.cells #[.int .i64 (o : Int)] 3))
    have k6 : Below w.heap.size w ((W.alloc (Obj.cells #[.int .i64 (n : Int)] 3)).alloc (Obj.cells #[.int .i64 (o : Int)] 3)).drew := below_drew (((HW.out.alloc HW.out.size (Obj.cells #[.int .i64 (n : Int)] 3))).alloc (by have := HW.out.size; simp; omega) (Obj.cells #[.int .i64 (o : Int)] 3))
    generalize ((W.alloc (Obj.cells #[.int .i64 (n : Int)] 3)).alloc (Obj.cells #[.int .i64 (o : Int)] 3)).drew = V at k1 k2 k3 k4 k5 k6 ⊢
    clear hHeld
    have K1 := Aside0.mk k1
    have K2 := Aside0.mk k2
    have K3 := Aside0.mk k3
    have K4 := Aside0.mk k4
    have K5 := Aside0.mk k5
    have K6 := Aside0.mk k6
    clear k1 k2 k3 k4 k5 k6 hx1 hx2
    go_wp2_with (refine wpList_load_agg rfl 24 (.tmp 2) rfl ⟨w.heap.size, 0, none⟩ ?y21 (nums .i64 l) _ ?y22 Try.underlying24 rfl ?y23 ?y24)
    case y21 => rfl
    case y22 =>
      intro j v hj
      rw [add_plain', Nat.zero_add, blk_cell K1.out]
      simpa using hj
    case y23 =>
      rw [nums_length, HL.out]
      exact info24
    refine (each_pure 38 #[.pointer (some ⟨w.heap.size + 1, 0, none⟩), .pointer (some ⟨W.heap.size + 1, 0, none⟩), .pointer (some ⟨W.heap.size, 0, none⟩)] (behindI a o n) l HL.out _ call38 (fun U x hU => ?_)).mono ?_
    · exact shift_lit a o n x _ _ _ U ((blk_cell (blk_below K2.out hU) 0).trans rfl) ((blk_cell (blk_below K5.out hU) 0).trans rfl) ((blk_cell (blk_below K4.out hU) 0).trans rfl)
    rintro e w1 ⟨rfl, hB1⟩
    have HR2 := Aside0.mk (blk_below K3.out hB1)
    have HW2 := Aside0.mk (below_step K6.out hB1)
    clear hB1
    go_wp2_with (refine wpList_store_agg rfl 24 (.tmp 4) (.tmp 15) rfl (w.heap.size + 2) 0 ?y25 (nums .i64 (l.map (behindI a o n))) ?y26 _ 24 HR2.out ?y27 (nums_one _) ?y28 ?y29)
    case y25 => rfl
    case y26 => rfl
    case y27 => rw [nums_length, List.length_map, HL.out]; exact Nat.le_refl _
    case y28 =>
      rw [nums_length, List.length_map, HL.out]
      exact info24
    have hW := putCells_block (nums .i64 (l.map (behindI a o n))) w1 (w.heap.size + 2) 0 _ 24 HR2.out
    rw [splice_whole _ (nums .i64 (l.map (behindI a o n))) (by rw [nums_length, List.length_map, HL.out]; rfl)] at hW
    refine bodyPost_ret (results_cell_row rfl _ _ (w.heap.size + 2) 24 _ (0, 0) _ rfl hW Try.underlying24 rfl ?_) rfl ⟨rfl, putCells_below _ _ _ _ _ _ (by omega) HW2.out⟩
    rw [List.size_toArray, nums_length, List.length_map, HL.out]
    exact info24

end Go.Proofs.Ytjmpmcgdfgfmfaa.Hand
