/- pins and its reference: contracts of the functions that handle one mark. No condition. -/
import Derived.Test.YtjmpmcgdfgfmfaaHand
namespace Go.Proofs.Ytjmpmcgdfgfmfaa.Hand
open Go.RowKit Go.Proofs.Ytjmpmcgdfgfmfaa.Aggs Go.Proofs.YtjmpmcgdfgfmfaaW.PrintWords Go.Proofs.YtjmpmcgdfgfmfaaW.PrintLast Go.Proofs.YtjmpmcgdfgfmfaaW.PrintMore
set_option linter.unusedVariables false
set_option linter.unusedSimpArgs false

theorem info24 : (Try.prog.info? 24).map (fun x => x.size) = some 27 := by kernel_rfl
theorem nums_one (l : List Int) : ∀ v ∈ nums .i64 l, v.oneCell' = true := by
  intro v hv
  obtain ⟨x, _, rfl⟩ := List.mem_map.1 hv
  rfl
theorem nums_get (l : List Int) (i : Nat) (h : i < l.length) : (nums .i64 l).toArray[i]? = some (.int .i64 (l[i]?.getD 0)) := by
  simp [nums, h]
theorem nums_put (l : List Int) (i : Nat) (x : Int) : (nums .i64 l).toArray.setIfInBounds i (.int .i64 x) = (nums .i64 (l.set i x)).toArray := by
  rw [List.setIfInBounds_toArray]
  simp only [nums, List.map_set]

/-- A function literal that computes: each with it. -/
theorem each_pure (K : FuncId) (caps : Array Value) (gf : Int → Int) (l : List Int) (hl : l.length = 27) (w : World)
    (hcall : ∀ (xs : Array Value) (W : World), (callFunc K xs).run Try.prog W = .ok (.enter K xs) W)
    (hp : ∀ (W : World) (x : Int), Below w.heap.size w W → Calls Try.prog K (#[.int .i64 x] ++ caps) W (fun e W' => e = .returned (.int .i64 (gf x)) ∧ Drawn0 W W')) :
    Calls Try.prog 31 #[mv l, .func (.func K) #[] caps] w fun e w' => e = .returned (mv (l.map gf)) ∧ Below w.heap.size w w' := by
  refine (each_calls K caps gf l hl w (fun _ W => Below w.heap.size w W) (fun i W W' h1 h2 => h1.trans h2) (fun i W hi hI => ?_) hcall (Below.refl _ _))
  refine (hp W _ hI).mono ?_
  rintro e W' ⟨rfl, ⟨n, rfl⟩⟩
  exact ⟨rfl, pw_below_drewN hI n, Nat.le_refl _, fun b _ _ => rfl⟩

/-! ### pins.None -/
def allOff : List Int := List.replicate 27 (-1)
set_option maxHeartbeats 1000000 in
set_option maxRecDepth 100000 in
theorem none_lit (x : Int) (w : World) : Calls Try.prog 32 #[.int .i64 x] w fun e w' => e = .returned (.int .i64 (-1)) ∧ Drawn0 w w' := by
  go_enter Try.func32, Try.ntmps32
  go_wp2
  go_ret
  exact ⟨rfl, Drawn0.refl _⟩
theorem call32 (xs : Array Value) (W : World) : (callFunc 32 xs).run Try.prog W = .ok (.enter 32 xs) W := enters_ Try.func32 (by kernel_rfl) rfl xs W

theorem zeros27 : (Value.agg #[.int .i64 0, .int .i64 0, .int .i64 0, .int .i64 0, .int .i64 0, .int .i64 0, .int .i64 0, .int .i64 0, .int .i64 0, .int .i64 0, .int .i64 0, .int .i64 0, .int .i64 0, .int .i64 0, .int .i64 0, .int .i64 0, .int .i64 0, .int .i64 0, .int .i64 0, .int .i64 0, .int .i64 0, .int .i64 0, .int .i64 0, .int .i64 0, .int .i64 0, .int .i64 0, .int .i64 0]) = mv (List.replicate 27 0) := rfl
theorem none_each (w : World) : Calls Try.prog 31 #[mv (List.replicate 27 0), .func (.func 32) #[] #[]] w fun e w' => e = .returned (mv allOff) ∧ Below w.heap.size w w' := by
  have h := each_pure 32 #[] (fun _ => -1) (List.replicate 27 0) rfl w call32 (fun W x _ => none_lit x W)
  rw [show List.map (fun _ => (-1 : Int)) (List.replicate 27 (0 : Int)) = allOff from rfl] at h
  exact h
set_option maxHeartbeats 1000000 in
set_option maxRecDepth 100000 in
theorem none_calls (w : World) : Calls Try.prog 11 #[] w fun e w' => e = .returned (mv allOff) ∧ Below w.heap.size w w' := by
  go_enter Try.func11, Try.ntmps11
  go_wp2_with fail
  refine (none_each _).mono ?_
  rintro e w1 ⟨rfl, hB⟩
  have hb : w1.heap[w.heap.size]? = some (Obj.cells #[.int .i64 0, .int .i64 0, .int .i64 0, .int .i64 0, .int .i64 0, .int .i64 0, .int .i64 0, .int .i64 0, .int .i64 0, .int .i64 0, .int .i64 0, .int .i64 0, .int .i64 0, .int .i64 0, .int .i64 0, .int .i64 0, .int .i64 0, .int .i64 0, .int .i64 0, .int .i64 0, .int .i64 0, .int .i64 0, .int .i64 0, .int .i64 0, .int .i64 0, .int .i64 0, .int .i64 0] 24 (0, 0)) := blk_below (blk_new w _) hB
  have HB := Aside0.mk (below_step ((Below.refl w.heap.size w).alloc (Nat.le_refl _) _) hB)
  have Hb := Aside0.mk hb
  clear hB hb
  go_wp2_with (refine wpList_store_agg rfl 24 (.tmp 0) (.tmp 2) rfl w.heap.size 0 ?n1 (nums .i64 allOff) ?n2 _ 24 Hb.out ?n3 (nums_one _) ?n4 ?n5)
  case n1 => rfl
  case n2 => rfl
  case n3 => exact Nat.le_refl _
  case n4 => exact info24
  case n5 =>
    have hW := putCells_block (nums .i64 allOff) w1 w.heap.size 0 _ 24 Hb.out
    rw [splice_whole _ (nums .i64 allOff) (by rfl)] at hW
    refine bodyPost_ret (results_cell_row rfl _ _ w.heap.size 24 _ (0, 0) _ rfl hW Try.underlying24 rfl info24) rfl ⟨rfl, ?_⟩
    exact putCells_below _ _ _ _ _ _ (Nat.le_refl _) HB.out

/-! ### the reference's With and At -/
set_option maxHeartbeats 1000000 in
set_option maxRecDepth 100000 in
theorem with_calls (l : List Int) (hl : l.length = 27) (i : Nat) (hi : i ≤ 26) (x : Int) (w : World) :
    Calls Try.prog 34 #[mv l, .int .i64 i, .int .i64 x] w fun e w' => e = .returned (mv (l.set i x)) ∧ Below w.heap.size w w' := by
  have key : ∀ W : World, W.heap[w.heap.size]? = some (.cells (nums .i64 l).toArray 24 (0, 0)) → W.heap[w.heap.size + 1]? = some (Obj.cells #[.int .i64 0, .int .i64 0, .int .i64 0, .int .i64 0, .int .i64 0, .int .i64 0, .int .i64 0, .int .i64 0, .int .i64 0, .int .i64 0, .int .i64 0, .int .i64 0, .int .i64 0, .int .i64 0, .int .i64 0, .int .i64 0, .int .i64 0, .int .i64 0, .int .i64 0, .int .i64 0, .int .i64 0, .int .i64 0, .int .i64 0, .int .i64 0, .int .i64 0, .int .i64 0, .int .i64 0] 24 (0, 0)) → Below w.heap.size w W →
      W.cell? ⟨w.heap.size, i, none⟩ = some (.int .i64 (l[i]?.getD 0)) ∧ W.frozen? ⟨w.heap.size, i, none⟩ = false ∧ (W.setCell ⟨w.heap.size, i, none⟩ (.int .i64 x)).heap[w.heap.size]? = some (.cells (nums .i64 (l.set i x)).toArray 24 (0, 0)) ∧
      (W.setCell ⟨w.heap.size, i, none⟩ (.int .i64 x)).heap[w.heap.size + 1]? = some (Obj.cells #[.int .i64 0, .int .i64 0, .int .i64 0, .int .i64 0, .int .i64 0, .int .i64 0, .int .i64 0, .int .i64 0, .int .i64 0, .int .i64 0, .int .i64 0, .int .i64 0, .int .i64 0, .int .i64 0, .int .i64 0, .int .i64 0, .int .i64 0, .int .i64 0, .int .i64 0, .int .i64 0, .int .i64 0, .int .i64 0, .int .i64 0, .int .i64 0, .int .i64 0, .int .i64 0, .int .i64 0] 24 (0, 0)) ∧ Below w.heap.size w (W.setCell ⟨w.heap.size, i, none⟩ (.int .i64 x)) := by
    intro W h1 h2 h3
    refine ⟨?_, blk_frozen h1 i, blk_put h1 i _ (nums_put l i x), blk_far h2 (by simp) _, h3.setCell (p := ⟨w.heap.size, i, none⟩) (Nat.le_refl _) _⟩
    rw [blk_cell h1]
    exact nums_get l i (by omega)
  have HKEY := Aside0.mk key
  have HL := Aside0.mk (show (l.set i x).length = 27 by simpa using hl)
  clear key hl
  by_cases h26 : i = 26
  · subst h26
    clear hi
    go_enter Try.func34, Try.ntmps34
    go_upto_region 1 with (fail)
    have hb1 := blk_alloc (blk_new w (Obj.cells (nums .i64 l).toArray 24)) (Obj.cells #[.int .i64 0, .int .i64 0, .int .i64 0, .int .i64 0, .int .i64 0, .int .i64 0, .int .i64 0, .int .i64 0, .int .i64 0, .int .i64 0, .int .i64 0, .int .i64 0, .int .i64 0, .int .i64 0, .int .i64 0, .int .i64 0, .int .i64 0, .int .i64 0, .int .i64 0, .int .i64 0, .int .i64 0, .int .i64 0, .int .i64 0, .int .i64 0, .int .i64 0, .int .i64 0, .int .i64 0] 24)
    have hb2 := heap_alloc2_new w (Obj.cells (nums .i64 l).toArray 24) (Obj.cells #[.int .i64 0, .int .i64 0, .int .i64 0, .int .i64 0, .int .i64 0, .int .i64 0, .int .i64 0, .int .i64 0, .int .i64 0, .int .i64 0, .int .i64 0, .int .i64 0, .int .i64 0, .int .i64 0, .int .i64 0, .int .i64 0, .int .i64 0, .int .i64 0, .int .i64 0, .int .i64 0, .int .i64 0, .int .i64 0, .int .i64 0, .int .i64 0, .int .i64 0, .int .i64 0, .int .i64 0] 24)
    have hb3 := (((Below.refl w.heap.size w).alloc (Nat.le_refl _) (Obj.cells (nums .i64 l).toArray 24)).alloc (by simp) (Obj.cells #[.int .i64 0, .int .i64 0, .int .i64 0, .int .i64 0, .int .i64 0, .int .i64 0, .int .i64 0, .int .i64 0, .int .i64 0, .int .i64 0, .int .i64 0, .int .i64 0, .int .i64 0, .int .i64 0, .int .i64 0, .int .i64 0, .int .i64 0, .int .i64 0, .int .i64 0, .int .i64 0, .int .i64 0, .int .i64 0, .int .i64 0, .int .i64 0, .int .i64 0, .int .i64 0, .int .i64 0] 24))
    generalize ((w.alloc (Obj.cells (nums .i64 l).toArray 24)).alloc (Obj.cells #[.int .i64 0, .int .i64 0, .int .i64 0, .int .i64 0, .int .i64 0, .int .i64 0, .int .i64 0, .int .i64 0, .int .i64 0, .int .i64 0, .int .i64 0, .int .i64 0, .int .i64 0, .int .i64 0, .int .i64 0, .int .i64 0, .int .i64 0, .int .i64 0, .int .i64 0, .int .i64 0, .int .i64 0, .int .i64 0, .int .i64 0, .int .i64 0, .int .i64 0, .int .i64 0, .int .i64 0] 24)) = W at hb1 hb2 hb3 ⊢
    obtain ⟨hx, hf, hB, hR, hW⟩ := HKEY.out W hb1 hb2 hb3
    have HB := Aside0.mk hB
    have HR := Aside0.mk hR
    have HW := Aside0.mk hW
    clear hb1 hb2 hb3 hB hR hW HKEY
    go_wp2_with (first | (refine wpList_load_agg rfl 24 (.tmp 3) rfl ⟨w.heap.size, 0, none⟩ ?z1a (nums .i64 (l.set 26 x)) _ ?z1b Try.underlying24 rfl ?z1c ?z1d) | (refine wpList_store_agg rfl 24 (.tmp 6) (.tmp 11) rfl (w.heap.size + 1) 0 ?z1e (nums .i64 (l.set 26 x)) ?z1f _ 24 (HR.out) ?z1h ?z1i ?z1j ?z1k))
    case z1a => rfl
    case z1b =>
      intro j v hj
      rw [add_plain', Nat.zero_add, blk_cell HB.out]
      simpa using hj
    case z1c =>
      rw [nums_length, HL.out]
      exact info24
    case z1h => rw [nums_length, HL.out]; exact Nat.le_refl _
    case z1i => exact nums_one _
    case z1j =>
      rw [nums_length, HL.out]
      exact info24
    case z1k =>
      have hW := putCells_block (nums .i64 (l.set 26 x)) _ (w.heap.size + 1) 0 _ 24 HR.out
      rw [splice_whole _ _ (by rw [nums_length, HL.out]; rfl)] at hW
      refine bodyPost_ret (results_cell_row rfl _ _ (w.heap.size + 1) 24 _ (0, 0) _ rfl hW Try.underlying24 rfl ?_) rfl ⟨rfl, putCells_below _ _ _ _ _ _ (by omega) HW.out⟩
      · rw [List.size_toArray, nums_length, HL.out]
        exact info24
  · have h2 : ((i : Int) == 26) = false := beq_eq_false_iff_ne.2 (by omega)
    have h3 : (0 : Int) ≤ (i : Int) := by omega
    have h4 : (i : Int) < 26 := by omega
    clear h26 hi
    go_enter Try.func34, Try.ntmps34
    go_upto_region 1 with (fail)
    have hb1 := blk_alloc (blk_new w (Obj.cells (nums .i64 l).toArray 24)) (Obj.cells #[.int .i64 0, .int .i64 0, .int .i64 0, .int .i64 0, .int .i64 0, .int .i64 0, .int .i64 0, .int .i64 0, .int .i64 0, .int .i64 0, .int .i64 0, .int .i64 0, .int .i64 0, .int .i64 0, .int .i64 0, .int .i64 0, .int .i64 0, .int .i64 0, .int .i64 0, .int .i64 0, .int .i64 0, .int .i64 0, .int .i64 0, .int .i64 0, .int .i64 0, .int .i64 0, .int .i64 0] 24)
    have hb2 := heap_alloc2_new w (Obj.cells (nums .i64 l).toArray 24) (Obj.cells #[.int .i64 0, .int .i64 0, .int .i64 0, .int .i64 0, .int .i64 0, .int .i64 0, .int .i64 0, .int .i64 0, .int .i64 0, .int .i64 0, .int .i64 0, .int .i64 0, .int .i64 0, .int .i64 0, .int .i64 0, .int .i64 0, .int .i64 0, .int .i64 0, .int .i64 0, .int .i64 0, .int .i64 0, .int .i64 0, .int .i64 0, .int .i64 0, .int .i64 0, .int .i64 0, .int .i64 0] 24)
    have hb3 := (((Below.refl w.heap.size w).alloc (Nat.le_refl _) (Obj.cells (nums .i64 l).toArray 24)).alloc (by simp) (Obj.cells #[.int .i64 0, .int .i64 0, .int .i64 0, .int .i64 0, .int .i64 0, .int .i64 0, .int .i64 0, .int .i64 0, .int .i64 0, .int .i64 0, .int .i64 0, .int .i64 0, .int .i64 0, .int .i64 0, .int .i64 0, .int .i64 0, .int .i64 0, .int .i64 0, .int .i64 0, .int .i64 0, .int .i64 0, .int .i64 0, .int .i64 0, .int .i64 0, .int .i64 0, .int .i64 0, .int .i64 0] 24))
    generalize ((w.alloc (Obj.cells (nums .i64 l).toArray 24)).alloc (Obj.cells #[.int .i64 0, .int .i64 0, .int .i64 0, .int .i64 0, .int .i64 0, .int .i64 0, .int .i64 0, .int .i64 0, .int .i64 0, .int .i64 0, .int .i64 0, .int .i64 0, .int .i64 0, .int .i64 0, .int .i64 0, .int .i64 0, .int .i64 0, .int .i64 0, .int .i64 0, .int .i64 0, .int .i64 0, .int .i64 0, .int .i64 0, .int .i64 0, .int .i64 0, .int .i64 0, .int .i64 0] 24)) = W at hb1 hb2 hb3 ⊢
    obtain ⟨hx, hf, hB, hR, hW⟩ := HKEY.out W hb1 hb2 hb3
    have HB := Aside0.mk hB
    have HR := Aside0.mk hR
    have HW := Aside0.mk hW
    clear hb1 hb2 hb3 hB hR hW HKEY
    go_wp2_with (first | (refine wpList_load_agg rfl 24 (.tmp 3) rfl ⟨w.heap.size, 0, none⟩ ?z2a (nums .i64 (l.set i x)) _ ?z2b Try.underlying24 rfl ?z2c ?z2d) | (refine wpList_store_agg rfl 24 (.tmp 6) (.tmp 16) rfl (w.heap.size + 1) 0 ?z2e (nums .i64 (l.set i x)) ?z2f _ 24 (HR.out) ?z2h ?z2i ?z2j ?z2k))
    case z2a => rfl
    case z2b =>
      intro j v hj
      rw [add_plain', Nat.zero_add, blk_cell HB.out]
      simpa using hj
    case z2c =>
      rw [nums_length, HL.out]
      exact info24
    case z2h => rw [nums_length, HL.out]; exact Nat.le_refl _
    case z2i => exact nums_one _
    case z2j =>
      rw [nums_length, HL.out]
      exact info24
    case z2k =>
      have hW := putCells_block (nums .i64 (l.set i x)) _ (w.heap.size + 1) 0 _ 24 HR.out
      rw [splice_whole _ _ (by rw [nums_length, HL.out]; rfl)] at hW
      refine bodyPost_ret (results_cell_row rfl _ _ (w.heap.size + 1) 24 _ (0, 0) _ rfl hW Try.underlying24 rfl ?_) rfl ⟨rfl, putCells_below _ _ _ _ _ _ (by omega) HW.out⟩
      · rw [List.size_toArray, nums_length, HL.out]
        exact info24
set_option maxHeartbeats 1000000 in
set_option maxRecDepth 100000 in
theorem at_calls (l : List Int) (hl : l.length = 27) (i : Nat) (hi : i ≤ 26) (w : World) :
    Calls Try.prog 36 #[mv l, .int .i64 i] w fun e w' => e = .returned (.int .i64 (l[i]?.getD 0)) ∧ Below w.heap.size w w' := by
  have hb := blk_new w (Obj.cells (nums .i64 l).toArray 24)
  have hx : (w.alloc (Obj.cells (nums .i64 l).toArray 24)).cell? ⟨w.heap.size, i, none⟩ = some (.int .i64 (l[i]?.getD 0)) := by
    rw [blk_cell hb]
    exact nums_get l i (by omega)
  have HW := Aside0.mk ((Below.refl w.heap.size w).alloc (Nat.le_refl _) (Obj.cells (nums .i64 l).toArray 24))
  clear hb hl
  by_cases h26 : i = 26
  · subst h26
    go_enter Try.func36, Try.ntmps36
    go_wp2
    go_ret
    exact ⟨rfl, HW.out⟩
  · have h2 : ((i : Int) == 26) = false := beq_eq_false_iff_ne.2 (by omega)
    have h3 : (0 : Int) ≤ (i : Int) := by omega
    have h4 : (i : Int) < 26 := by omega
    clear h26 hi
    go_enter Try.func36, Try.ntmps36
    go_wp2
    go_ret
    exact ⟨rfl, HW.out⟩

/-! ### names -/
def idx (c : Int) : Option Nat := if 97 ≤ c ∧ c ≤ 122 then some (c - 97).toNat else if c = 96 ∨ c = 39 then some 26 else none
theorem idx_le {c : Int} {i : Nat} (h : idx c = some i) : i ≤ 26 := by
  unfold idx at h
  split at h
  · cases h; omega
  · split at h
    · cases h; omega
    · cases h
def idxI (c : Int) : Int := match idx c with | some i => i | none => -1
set_option maxHeartbeats 1000000 in
set_option maxRecDepth 100000 in
theorem name_calls (c : Int) (w : World) (h0 : 0 ≤ c) (h1 : c ≤ 255) : Calls Try.prog 33 #[.int .u8 c] w fun e w' => e = .returned (.int .i64 (idxI c)) ∧ Drawn0 w w' := by
  by_cases h2 : 97 ≤ c
  · by_cases h3 : c ≤ 122
    · have e : idxI c = c - 97 := by
        have : idx c = some (c - 97).toNat := by simp [idx, h2, h3]
        simp only [idxI, this]
        omega
      rw [e]
      have h2b := decide_eq_true h2
      have h3b := decide_eq_true h3
      clear e
      go_enter Try.func33, Try.ntmps33
      go_wp2
      go_ret
      exact ⟨rfl, Drawn0.refl _⟩
    · have h4 : ¬ c = 96 := by omega
      have h5 : ¬ c = 39 := by omega
      have e : idxI c = -1 := by simp [idxI, idx, h3, h4, h5]
      rw [e]
      have h2b := decide_eq_true h2
      have h3b := decide_eq_false h3
      have h4b : (c == 96) = false := beq_eq_false_iff_ne.2 h4
      have h5b : (c == 39) = false := beq_eq_false_iff_ne.2 h5
      clear e h2 h3 h4 h5
      go_enter Try.func33, Try.ntmps33
      go_wp2
      go_ret
      exact ⟨rfl, Drawn0.refl _⟩
  · by_cases h4 : c = 96
    · have e : idxI c = 26 := by simp [idxI, idx, h4]
      rw [e]
      subst h4
      clear e h2
      go_enter Try.func33, Try.ntmps33
      go_wp2
      go_ret
      exact ⟨rfl, Drawn0.refl _⟩
    · by_cases h5 : c = 39
      · have e : idxI c = 26 := by simp [idxI, idx, h5]
        rw [e]
        subst h5
        clear e h2 h4
        go_enter Try.func33, Try.ntmps33
        go_wp2
        go_ret
        exact ⟨rfl, Drawn0.refl _⟩
      · have e : idxI c = -1 := by simp [idxI, idx, h2, h4, h5]
        rw [e]
        have h2b := decide_eq_false h2
        have h4b : (c == 96) = false := beq_eq_false_iff_ne.2 h4
        have h5b : (c == 39) = false := beq_eq_false_iff_ne.2 h5
        clear e h2 h4 h5
        go_enter Try.func33, Try.ntmps33
        go_wp2
        go_ret
        exact ⟨rfl, Drawn0.refl _⟩
def slotV (g : Nat) (c : Int) : Option Addr := match idx c with | some i => some ⟨g, i, none⟩ | none => none
set_option maxHeartbeats 1000000 in
set_option maxRecDepth 100000 in
theorem slot_calls (g : Nat) (c : Int) (w : World) (h0 : 0 ≤ c) (h1 : c ≤ 255) : Calls Try.prog 35 #[.pointer (some ⟨g, 0, none⟩), .int .u8 c] w fun e w' => e = .returned (.pointer (slotV g c)) ∧ Drawn0 w w' := by
  by_cases h2 : 97 ≤ c
  · by_cases h3 : c ≤ 122
    · obtain ⟨i, hi⟩ : ∃ i : Nat, c = 97 + i := ⟨(c - 97).toNat, by omega⟩
      have e : slotV g c = some ⟨g, i, none⟩ := by
        have : idx c = some i := by simp [idx, h2, h3]; omega
        simp only [slotV, this]
      rw [e]
      subst hi
      have h2b := decide_eq_true h2
      have h3b := decide_eq_true h3
      have h6 : IntKind.u8.wrap (97 + (i : Int) - 97) = (i : Int) := by
        rw [show (97 + (i : Int) - 97) = (i : Int) by omega]
        simp [IntKind.wrap, IntKind.signed, IntKind.bits]
        omega
      have h7 : (97 + (i : Int) - 97) % 256 = (i : Int) := by omega
      have h8 : (i : Int) < 26 := by omega
      have h9 : (0 : Int) ≤ (i : Int) := by omega
      clear e
      go_enter Try.func35, Try.ntmps35
      go_wp2
      go_ret
      exact ⟨rfl, Drawn0.refl _⟩
    · have h4 : ¬ c = 96 := by omega
      have h5 : ¬ c = 39 := by omega
      have e : slotV g c = none := by simp [slotV, idx, h3, h4, h5]
      rw [e]
      have h2b := decide_eq_true h2
      have h3b := decide_eq_false h3
      have h4b : (c == 96) = false := beq_eq_false_iff_ne.2 h4
      have h5b : (c == 39) = false := beq_eq_false_iff_ne.2 h5
      clear e h2 h3 h4 h5
      go_enter Try.func35, Try.ntmps35
      go_wp2
      go_ret
      exact ⟨rfl, Drawn0.refl _⟩
  · by_cases h4 : c = 96
    · have e : slotV g c = some ⟨g, 26, none⟩ := by simp [slotV, idx, h4]
      rw [e]
      subst h4
      clear e h2
      go_enter Try.func35, Try.ntmps35
      go_wp2
      go_ret
      exact ⟨rfl, Drawn0.refl _⟩
    · by_cases h5 : c = 39
      · have e : slotV g c = some ⟨g, 26, none⟩ := by simp [slotV, idx, h5]
        rw [e]
        subst h5
        clear e h2 h4
        go_enter Try.func35, Try.ntmps35
        go_wp2
        go_ret
        exact ⟨rfl, Drawn0.refl _⟩
      · have e : slotV g c = none := by simp [slotV, idx, h2, h4, h5]
        rw [e]
        have h2b := decide_eq_false h2
        have h4b : (c == 96) = false := beq_eq_false_iff_ne.2 h4
        have h5b : (c == 39) = false := beq_eq_false_iff_ne.2 h5
        clear e h2 h4 h5
        go_enter Try.func35, Try.ntmps35
        go_wp2
        go_ret
        exact ⟨rfl, Drawn0.refl _⟩

end Go.Proofs.Ytjmpmcgdfgfmfaa.Hand
