/- pins: Clip and Fit, and their reference. No condition. -/
import Derived.Test.YtjmpmcgdfgfmfaaHand6
namespace Go.Proofs.Ytjmpmcgdfgfmfaa.Hand
open Go.RowKit Go.Proofs.Ytjmpmcgdfgfmfaa.Aggs Go.Proofs.YtjmpmcgdfgfmfaaW.PrintWords Go.Proofs.YtjmpmcgdfgfmfaaW.PrintLast Go.Proofs.YtjmpmcgdfgfmfaaW.PrintMore
attribute [local go_sem] max2_int min2_int max_two min_two
set_option linter.unusedVariables false
set_option linter.unusedSimpArgs false

def clipI (s x : Int) : Int := max (min x (max s 0)) (-1)
set_option maxHeartbeats 1000000 in
set_option maxRecDepth 100000 in
theorem clip_lit (s x : Int) (pe : Nat) (w : World) (he : w.cell? ⟨pe, 0, none⟩ = some (.int .i64 s)) :
    Calls Try.prog 42 #[.int .i64 x, .pointer (some ⟨pe, 0, none⟩)] w fun e w' => e = .returned (.int .i64 (clipI s x)) ∧ Drawn0 w w' := by
  go_enter Try.func42, Try.ntmps42
  go_wp2
  all_goals go_ret
  all_goals refine ⟨?_, Drawn0.refl _⟩
  all_goals refine congrArg (fun z => Ending.returned (Value.int .i64 z)) ?_
  all_goals unfold clipI
  all_goals omega
theorem call42 (xs : Array Value) (W : World) : (callFunc 42 xs).run Try.prog W = .ok (.enter 42 xs) W := enters_ Try.func42 (by kernel_rfl) rfl xs W

def badI (s x : Int) : Bool := decide (x < -1) || (decide (0 ≤ x) && decide (s < x))
set_option maxHeartbeats 1000000 in
set_option maxRecDepth 100000 in
theorem fit_lit (s x c : Int) (pe po : Nat) (w : World) (he : w.cell? ⟨pe, 0, none⟩ = some (.int .i64 s)) (ho : w.cell? ⟨po, 0, none⟩ = some (.int .i64 c)) (hf : w.frozen? ⟨po, 0, none⟩ = false) :
    Calls Try.prog 41 #[.int .i64 x, .pointer (some ⟨pe, 0, none⟩), .pointer (some ⟨po, 0, none⟩)] w fun e w' => e = .returned (.int .i64 x) ∧ w' = if badI s x then w.setCell ⟨po, 0, none⟩ (.int .i64 (wrap64 (c + 1))) else w := by
  by_cases h1 : x < -1
  · have e1 : badI s x = true := by simp [badI, h1]
    have h1b := decide_eq_true h1
    rw [e1]
    clear e1 h1
    go_enter Try.func41, Try.ntmps41
    go_wp2
    go_ret
    exact ⟨rfl, rfl⟩
  · have h1b := decide_eq_false h1
    by_cases h2 : 0 ≤ x
    · have h2b := decide_eq_true h2
      by_cases h3 : s < x
      · have e1 : badI s x = true := by simp [badI, h2, h3]
        have h3b := decide_eq_true h3
        rw [e1]
        clear e1 h1 h2 h3
        go_enter Try.func41, Try.ntmps41
        go_wp2
        go_ret
        exact ⟨rfl, rfl⟩
      · have e1 : badI s x = false := by simp [badI, h1, h3]
        have h3b := decide_eq_false h3
        rw [e1]
        clear e1 h1 h2 h3
        go_enter Try.func41, Try.ntmps41
        go_wp2
        go_ret
        exact ⟨rfl, rfl⟩
    · have e1 : badI s x = false := by simp [badI, h1, h2]
      have h2b := decide_eq_false h2
      rw [e1]
      clear e1 h1 h2
      go_enter Try.func41, Try.ntmps41
      go_wp2
      go_ret
      exact ⟨rfl, rfl⟩
theorem call41 (xs : Array Value) (W : World) : (callFunc 41 xs).run Try.prog W = .ok (.enter 41 xs) W := enters_ Try.func41 (by kernel_rfl) rfl xs W

set_option maxHeartbeats 1000000 in
set_option maxRecDepth 100000 in
theorem clip_calls (l : List Int) (hl : l.length = 27) (s : Int) (w : World) :
    Calls Try.prog 27 #[mv l, .int .i64 s] w fun e w' => e = .returned (mv (l.map (clipI s))) ∧ Below w.heap.size w w' := by
  have HL := Aside0.mk hl
  clear hl
  go_enter Try.func27, Try.ntmps27
  go_upto_region 1 with (fail)
  have hb1 := blk_alloc (blk_alloc (blk_new w (Obj.cells (nums .i64 l).toArray 24)) (Obj.cells #[.int .i64 s] 3)) (Obj.cells #[.int .i64 0, .int .i64 0, .int .i64 0, .int .i64 0, .int .i64 0, .int .i64 0, .int .i64 0, .int .i64 0, .int .i64 0, .int .i64 0, .int .i64 0, .int .i64 0, .int .i64 0, .int .i64 0, .int .i64 0, .int .i64 0, .int .i64 0, .int .i64 0, .int .i64 0, .int .i64 0, .int .i64 0, .int .i64 0, .int .i64 0, .int .i64 0, .int .i64 0, .int .i64 0, .int .i64 0] 24)
  have hb2 := blk_alloc (heap_alloc2_new w (Obj.cells (nums .i64 l).toArray 24) (Obj.cells #[.int .i64 s] 3)) (Obj.cells #[.int .i64 0, .int .i64 0, .int .i64 0, .int .i64 0, .int .i64 0, .int .i64 0, .int .i64 0, .int .i64 0, .int .i64 0, .int .i64 0, .int .i64 0, .int .i64 0, .int .i64 0, .int .i64 0, .int .i64 0, .int .i64 0, .int .i64 0, .int .i64 0, .int .i64 0, .int .i64 0, .int .i64 0, .int .i64 0, .int .i64 0, .int .i64 0, .int .i64 0, .int .i64 0, .int .i64 0] 24)
  have hb4 : (((w.alloc (Obj.cells (nums .i64 l).toArray 24)).alloc (Obj.cells #[.int .i64 s] 3)).alloc (Obj.cells #[.int .i64 0, .int .i64 0, .int .i64 0, .int .i64 0, .int .i64 0, .int .i64 0, .int .i64 0, .int .i64 0, .int .i64 0, .int .i64 0, .int .i64 0, .int .i64 0, .int .i64 0, .int .i64 0, .int .i64 0, .int .i64 0, .int .i64 0, .int .i64 0, .int .i64 0, .int .i64 0, .int .i64 0, .int .i64 0, .int .i64 0, .int .i64 0, .int .i64 0, .int .i64 0, .int .i64 0] 24)).heap[w.heap.size + 2]? = some (Obj.cells #[.int .i64 0, .int .i64 0, .int .i64 0, .int .i64 0, .int .i64 0, .int .i64 0, .int .i64 0, .int .i64 0, .int .i64 0, .int .i64 0, .int .i64 0, .int .i64 0, .int .i64 0, .int .i64 0, .int .i64 0, .int .i64 0, .int .i64 0, .int .i64 0, .int .i64 0, .int .i64 0, .int .i64 0, .int .i64 0, .int .i64 0, .int .i64 0, .int .i64 0, .int .i64 0, .int .i64 0] 24 (0, 0)) := by
    have h := blk_new ((w.alloc (Obj.cells (nums .i64 l).toArray 24)).alloc (Obj.cells #[.int .i64 s] 3)) (Obj.cells #[.int .i64 0, .int .i64 0, .int .i64 0, .int .i64 0, .int .i64 0, .int .i64 0, .int .i64 0, .int .i64 0, .int .i64 0, .int .i64 0, .int .i64 0, .int .i64 0, .int .i64 0, .int .i64 0, .int .i64 0, .int .i64 0, .int .i64 0, .int .i64 0, .int .i64 0, .int .i64 0, .int .i64 0, .int .i64 0, .int .i64 0, .int .i64 0, .int .i64 0, .int .i64 0, .int .i64 0] 24)
    rw [show ((w.alloc (Obj.cells (nums .i64 l).toArray 24)).alloc (Obj.cells #[.int .i64 s] 3)).heap.size = w.heap.size + 2 by simp] at h
    exact h
  have hb3 := ((((Below.refl w.heap.size w).alloc (Nat.le_refl _) (Obj.cells (nums .i64 l).toArray 24)).alloc (by simp) (Obj.cells #[.int .i64 s] 3)).alloc (by simp; omega) (Obj.cells #[.int .i64 0, .int .i64 0, .int .i64 0, .int .i64 0, .int .i64 0, .int .i64 0, .int .i64 0, .int .i64 0, .int .i64 0, .int .i64 0, .int .i64 0, .int .i64 0, .int .i64 0, .int .i64 0, .int .i64 0, .int .i64 0, .int .i64 0, .int .i64 0, .int .i64 0, .int .i64 0, .int .i64 0, .int .i64 0, .int .i64 0, .int .i64 0, .int .i64 0, .int .i64 0, .int .i64 0] 24))
  generalize (((w.alloc (Obj.cells (nums .i64 l).toArray 24)).alloc (Obj.cells #[.int .i64 s] 3)).alloc (Obj.cells #[.int .i64 0, .int .i64 0, .int .i64 0, .int .i64 0, .int .i64 0, .int .i64 0, .int .i64 0, .int .i64 0, .int .i64 0, .int .i64 0, .int .i64 0, .int .i64 0, .int .i64 0, .int .i64 0, .int .i64 0, .int .i64 0, .int .i64 0, .int .i64 0, .int .i64 0, .int .i64 0, .int .i64 0, .int .i64 0, .int .i64 0, .int .i64 0, .int .i64 0, .int .i64 0, .int .i64 0] 24)) = W at hb1 hb2 hb3 hb4 ⊢
  have K1 := Aside0.mk hb1
  have K2 := Aside0.mk hb2
  have K3 := Aside0.mk hb4
  have K6 := Aside0.mk hb3
  clear hb1 hb2 hb3 hb4
  go_wp2_with (refine wpList_load_agg rfl 24 (.tmp 2) rfl ⟨w.heap.size, 0, none⟩ ?y1a (nums .i64 l) _ ?y1b Try.underlying24 rfl ?y1c ?y1d)
  case y1a => rfl
  case y1b =>
    intro j v hj
    rw [add_plain', Nat.zero_add, blk_cell K1.out]
    simpa using hj
  case y1c =>
    rw [nums_length, HL.out]
    exact info24
  refine (each_pure 42 #[.pointer (some ⟨w.heap.size + 1, 0, none⟩)] (clipI s) l HL.out _ call42 (fun U x hU => ?_)).mono ?_
  · exact clip_lit s x _ U ((blk_cell (blk_below K2.out hU) 0).trans rfl)
  rintro e w1 ⟨rfl, hB1⟩
  have HR2 := Aside0.mk (blk_below K3.out hB1)
  have HW2 := Aside0.mk (below_step K6.out hB1)
  clear hB1
  go_wp2_with (refine wpList_store_agg rfl 24 (.tmp 4) (.tmp 7) rfl (w.heap.size + 2) 0 ?y25 (nums .i64 (l.map (clipI s))) ?y26 _ 24 HR2.out ?y27 (nums_one _) ?y28 ?y29)
  case y25 => rfl
  case y26 => rfl
  case y27 => rw [nums_length, List.length_map, HL.out]; exact Nat.le_refl _
  case y28 =>
    rw [nums_length, List.length_map, HL.out]
    exact info24
  have hW := putCells_block (nums .i64 (l.map (clipI s))) w1 (w.heap.size + 2) 0 _ 24 HR2.out
  rw [splice_whole _ (nums .i64 (l.map (clipI s))) (by rw [nums_length, List.length_map, HL.out]; rfl)] at hW
  refine bodyPost_ret (results_cell_row rfl _ _ (w.heap.size + 2) 24 _ (0, 0) _ rfl hW Try.underlying24 rfl ?_) rfl ⟨rfl, putCells_below _ _ _ _ _ _ (by omega) HW2.out⟩
  rw [List.size_toArray, nums_length, List.length_map, HL.out]
  exact info24

/-- how many of the first i don't fit -/
def cnt (s : Int) (l : List Int) : Nat → Int
  | 0 => 0
  | i + 1 => if badI s (l[i]?.getD 0) then wrap64 (cnt s l i + 1) else cnt s l i
theorem cnt_range (s : Int) (l : List Int) : ∀ i : Nat, i ≤ 27 → 0 ≤ cnt s l i ∧ cnt s l i ≤ i
  | 0, _ => by simp [cnt]
  | i + 1, h => by
    have ih := cnt_range s l i (by omega)
    unfold cnt
    split
    · rw [show wrap64 (cnt s l i + 1) = cnt s l i + 1 by unfold wrap64; omega]
      omega
    · omega
theorem cnt_zero (s : Int) (l : List Int) : ∀ i : Nat, i ≤ 27 → (cnt s l i = 0 ↔ ∀ j, j < i → badI s (l[j]?.getD 0) = false)
  | 0, _ => by simp [cnt]
  | i + 1, h => by
    have ih := cnt_zero s l i (by omega)
    have hr := cnt_range s l i (by omega)
    unfold cnt
    split
    · rename_i hb
      rw [show wrap64 (cnt s l i + 1) = cnt s l i + 1 by unfold wrap64; omega]
      constructor
      · intro h0; omega
      · intro h0
        have := h0 i (by omega)
        rw [hb] at this
        cases this
    · rename_i hb
      rw [ih]
      constructor
      · intro h0 j hj
        by_cases hji : j = i
        · subst hji; simpa using hb
        · exact h0 j (by omega)
      · intro h0 j hj
        exact h0 j (by omega)
/-- do all marks fit? -/
def fitsB (s : Int) (l : List Int) : Bool := decide (∀ j, j < 27 → badI s (l[j]?.getD 0) = false)
theorem cnt_fits (s : Int) (l : List Int) : decide (cnt s l 27 = 0) = fitsB s l := by
  unfold fitsB
  exact decide_eq_decide.2 (cnt_zero s l 27 (Nat.le_refl _))
theorem fit_each (l : List Int) (hl : l.length = 27) (s : Int) (pe po : Nat) (w0 w : World) (he : w.heap[pe]? = some (Obj.cells #[.int .i64 s] 3)) (ho : w.heap[po]? = some (Obj.cells #[.int .i64 0] 3)) (hne : pe ≠ po) (hb : Below w0.heap.size w0 w) (hp : w0.heap.size ≤ po) :
    Calls Try.prog 31 #[mv l, .func (.func 41) #[] #[.pointer (some ⟨pe, 0, none⟩), .pointer (some ⟨po, 0, none⟩)]] w fun e w' => e = .returned (mv l) ∧ w'.heap[po]? = some (Obj.cells #[.int .i64 (cnt s l 27)] 3) ∧ Below w0.heap.size w0 w' := by
  have h := each_calls 41 #[.pointer (some ⟨pe, 0, none⟩), .pointer (some ⟨po, 0, none⟩)] (fun x => x) l hl w
    (fun i U => U.heap[po]? = some (Obj.cells #[.int .i64 (cnt s l i)] 3) ∧ U.heap[pe]? = some (Obj.cells #[.int .i64 s] 3) ∧ Below w0.heap.size w0 U)
    (fun i U U' hI hB => ⟨(hB.block _ (blk_lt ho)).trans hI.1, (hB.block _ (blk_lt he)).trans hI.2.1, hI.2.2.trans (hB.mono (Nat.le_trans hb.size (Nat.le_refl _)))⟩)
    (fun i U hi hI => by
      refine (fit_lit s (l[i]?.getD 0) (cnt s l i) pe po U ((blk_cell hI.2.1 0).trans rfl) ((blk_cell hI.1 0).trans rfl) (blk_frozen hI.1 0)).mono ?_
      rintro e U' ⟨rfl, rfl⟩
      refine ⟨rfl, ?_⟩
      cases hq : badI s (l[i]?.getD 0) with
      | true =>
        have hc : cnt s l (i + 1) = wrap64 (cnt s l i + 1) := by show (if badI s (l[i]?.getD 0) then _ else _) = _; rw [if_pos hq]
        refine ⟨⟨?_, ?_, ?_⟩, ?_, ?_⟩
        · rw [hc]; exact blk_put hI.1 0 _ rfl
        · exact blk_far hI.2.1 (p := ⟨po, 0, none⟩) hne _
        · exact hI.2.2.setCell (p := ⟨po, 0, none⟩) hp _
        · simp [World.setCell]
        · intro b h1 h2
          exact Below.heap_setCell _ _ _ _ (by have := blk_lt ho; show b ≠ po; omega)
      | false =>
        have hc : cnt s l (i + 1) = cnt s l i := by show (if badI s (l[i]?.getD 0) then _ else _) = _; rw [if_neg (by simp [hq])]
        refine ⟨⟨?_, hI.2.1, hI.2.2⟩, Nat.le_refl _, fun b _ _ => rfl⟩
        rw [hc]; exact hI.1)
    call41 ⟨ho, he, hb⟩
  rw [List.map_id'] at h
  exact h.mono (fun e w' hh => ⟨hh.1, hh.2.1, hh.2.2.2⟩)
set_option maxHeartbeats 1000000 in
set_option maxRecDepth 100000 in
theorem fit_calls (l : List Int) (hl : l.length = 27) (s : Int) (w : World) :
    Calls Try.prog 25 #[mv l, .int .i64 s] w fun e w' => e = .returned (.bool (fitsB s l)) ∧ Below w.heap.size w w' := by
  have HL := Aside0.mk hl
  clear hl
  rw [← cnt_fits]
  go_enter Try.func25, Try.ntmps25
  go_upto_region 1 with (fail)
  have hb1 := blk_new w (Obj.cells (nums .i64 l).toArray 24)
  have hb2 := heap_alloc2_new w (Obj.cells (nums .i64 l).toArray 24) (Obj.cells #[.int .i64 s] 3)
  have hb1' := blk_alloc hb1 (Obj.cells #[.int .i64 s] 3)
  have hb3 := (((Below.refl w.heap.size w).alloc (Nat.le_refl _) (Obj.cells (nums .i64 l).toArray 24)).alloc (by simp) (Obj.cells #[.int .i64 s] 3))
  generalize ((w.alloc (Obj.cells (nums .i64 l).toArray 24)).alloc (Obj.cells #[.int .i64 s] 3)) = W at hb1' hb2 hb3 ⊢
  have K1 := Aside0.mk hb1'
  have K2 := Aside0.mk hb2
  have K6 := Aside0.mk hb3
  clear hb1 hb1' hb2 hb3
  go_upto_region 2 with (fail)
  have k1 := blk_alloc K1.out (Obj.cells #[.int .i64 0] 3)
  have k2 := blk_alloc K2.out (Obj.cells #[.int .i64 0] 3)
  have k3 := blk_new W (Obj.cells #[.int .i64 0] 3)
  have k6 := K6.out.alloc K6.out.size (Obj.cells #[.int .i64 0] 3)
  have kne : w.heap.size + 1 ≠ W.heap.size := by have := blk_lt K2.out; omega
  have kle : w.heap.size ≤ W.heap.size := K6.out.size
  generalize (W.alloc (Obj.cells #[.int .i64 0] 3)) = V at k1 k2 k3 k6 ⊢
  have H1 := Aside0.mk k1
  have H2 := Aside0.mk k2
  have H3 := Aside0.mk k3
  have H6 := Aside0.mk k6
  have HN := Aside0.mk kne
  have HLE := Aside0.mk kle
  clear k1 k2 k3 k6 kne kle K1 K2 K6
  go_wp2_with (refine wpList_load_agg rfl 24 (.tmp 2) rfl ⟨w.heap.size, 0, none⟩ ?y5a (nums .i64 l) _ ?y5b Try.underlying24 rfl ?y5c ?y5d)
  case y5a => rfl
  case y5b =>
    intro j v hj
    rw [add_plain', Nat.zero_add, blk_cell H1.out]
    simpa using hj
  case y5c =>
    rw [nums_length, HL.out]
    exact info24
  refine (fit_each l HL.out s (w.heap.size + 1) W.heap.size w V H2.out H3.out HN.out H6.out HLE.out).mono ?_
  rintro e w1 ⟨rfl, hO, hB1⟩
  have hx := (blk_cell hO 0).trans (show _ = some (Value.int .i64 (cnt s l 27)) from rfl)
  have HB1 := Aside0.mk hB1
  clear hO hB1
  go_wp2
  go_ret
  exact ⟨rfl, HB1.out⟩

theorem fits_no (s : Int) (l : List Int) (i : Nat) (h : i < 27) (hb : badI s (l[i]?.getD 0) = true) : fitsB s l = false := by
  unfold fitsB
  refine decide_eq_false (fun hq => ?_)
  rw [hq i h] at hb
  cases hb
theorem fits_yes (s : Int) (l : List Int) (h : ∀ j, j < 27 → badI s (l[j]?.getD 0) = false) : fitsB s l = true := decide_eq_true h
set_option maxHeartbeats 1000000 in
set_option maxRecDepth 100000 in
theorem ref_fit_calls (l : List Int) (hl : l.length = 27) (s : Int) (w : World) :
    Calls Try.prog 26 #[mv l, .int .i64 s] w fun e w' => e = .returned (.bool (fitsB s l)) ∧ Below w.heap.size w w' := by
  have HL := Aside0.mk hl
  clear hl
  go_enter Try.func26, Try.ntmps26
  go_upto_region 1 with (fail)
  have hb1 := blk_new w (Obj.cells (nums .i64 l).toArray 24)
  have hb3 := (Below.refl w.heap.size w).alloc (Nat.le_refl _) (Obj.cells (nums .i64 l).toArray 24)
  generalize (w.alloc (Obj.cells (nums .i64 l).toArray 24)) = W at hb1 hb3 ⊢
  have HB := Aside0.mk hb1
  have HW := Aside0.mk hb3
  clear hb1 hb3
  go_wp2
  go_loopw [5, 6] (fun v _ wr => ∃ i : Nat, i ≤ 27 ∧ v = .int .i64 i ∧ Aside0 (wr.heap[w.heap.size]? = some (Obj.cells (nums .i64 l).toArray 24)) ∧ Aside0 (Below w.heap.size w wr) ∧ Aside0 (∀ j, j < i → badI s (l[j]?.getD 0) = false)) (fun v _ _ => 27 - (intOf v).toNat)
  case atStart => exact ⟨0, by omega, rfl, HB, HW, ⟨fun j hj => by omega⟩⟩
  case round =>
    obtain ⟨i, hi, rfl, HBr, HWr, HA⟩ := hrel
    clear HB HW
    by_cases hlt : i < 27
    · have hlt' : ((i : Int) ≤ 26) = True := eq_true (by omega)
      go_wp2_with (refine wpList_load_agg rfl 24 (.tmp 2) rfl ⟨w.heap.size, 0, none⟩ ?x3a (nums .i64 l) _ ?x3b Try.underlying24 rfl ?x3c ?x3d)
      case x3a => rfl
      case x3b =>
        intro j v hj
        rw [add_plain', Nat.zero_add, blk_cell HBr.out]
        simpa using hj
      case x3c =>
        rw [nums_length, HL.out]
        exact info24
      refine (at_calls l HL.out i (by omega) _).mono ?_
      rintro e w1 ⟨rfl, hB1⟩
      have HB1 := Aside0.mk (blk_below HBr.out hB1)
      have HW1 := Aside0.mk (below_step HWr.out hB1)
      clear hB1 HBr HWr
      generalize hy : l[i]?.getD 0 = y
      have HY := Aside0.mk hy
      clear hy
      go_wp2
      all_goals (try simp only [bne_eq_false_iff_eq, bne_iff_ne, ne_eq] at *)
      all_goals first
        | (go_ret
           refine ⟨?_, HW1.out⟩
           show Ending.returned (Value.bool false) = _
           rw [fits_no s l i hlt (by rw [HY.out]; simp only [badI, Bool.or_eq_true, Bool.and_eq_true, decide_eq_true_eq]; omega)])
        | (go_roundw
           case measure => simp [intOf]; omega
           case rel => exact ⟨i + 1, by omega, by go_num, HB1, HW1, ⟨fun j hj => by
             by_cases hji : j = i
             · subst hji
               rw [HY.out]
               simp only [badI, Bool.or_eq_false_iff, Bool.and_eq_false_iff, decide_eq_false_iff_not]
               omega
             · exact HA.out j (by omega)⟩⟩)
    · have hge : ((i : Int) ≤ 26) = False := eq_false (by omega)
      obtain rfl : i = 27 := by omega
      clear hge
      go_wp2
      go_ret
      refine ⟨?_, HWr.out⟩
      show Ending.returned (Value.bool true) = _
      rw [fits_yes s l HA.out]

end Go.Proofs.Ytjmpmcgdfgfmfaa.Hand
