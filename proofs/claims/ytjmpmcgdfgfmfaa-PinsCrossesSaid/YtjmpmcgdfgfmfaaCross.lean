/- pins and its reference: Cross. No condition. -/
import Derived.Test.YtjmpmcgdfgfmfaaParts
namespace Go.Proofs.Ytjmpmcgdfgfmfaa.Hand
open Go.RowKit Go.Proofs.Ytjmpmcgdfgfmfaa.Aggs Go.Proofs.YtjmpmcgdfgfmfaaW.PrintWords Go.Proofs.YtjmpmcgdfgfmfaaW.PrintLast Go.Proofs.YtjmpmcgdfgfmfaaW.PrintMore
set_option linter.unusedVariables false
set_option linter.unusedSimpArgs false
/-- one mark crossed -/
def cx (now was made M : List Int) (i : Nat) : Int := if now[i]?.getD 0 = made[i]?.getD 0 then was[i]?.getD 0 else M[i]?.getD 0
/-- the first i crossed -/
def crossF (now was made M : List Int) (i : Nat) : List Int := (List.range i).map (cx now was made M) ++ M.drop i
def crossR (now was made M : List Int) : List Int := (List.range 27).map (cx now was made M)
theorem crossF_zero (now was made M : List Int) : crossF now was made M 0 = M := by simp [crossF]
theorem crossF_all (now was made M : List Int) (hM : M.length = 27) : crossF now was made M 27 = crossR now was made M := by
  unfold crossF crossR
  rw [List.drop_of_length_le (by omega), List.append_nil]
theorem crossF_len (now was made M : List Int) (hM : M.length = 27) (i : Nat) (hi : i ≤ 27) : (crossF now was made M i).length = 27 := by simp [crossF, hM]; omega
theorem crossF_set (now was made M : List Int) (hM : M.length = 27) (i : Nat) (hi : i < 27) (x : Int) (hx : cx now was made M i = x) : (crossF now was made M i).set i x = crossF now was made M (i + 1) := by
  unfold crossF
  rw [List.range_succ, List.map_append, List.append_assoc, List.set_append_right _ _ (by simp)]
  congr 1
  have hd : M.drop i = M[i] :: M.drop (i + 1) := List.drop_eq_getElem_cons (by omega)
  simp only [List.length_map, List.length_range, Nat.sub_self, List.map_cons, List.map_nil, List.cons_append, List.nil_append]
  rw [hd, List.set_cons_zero, hx]
theorem crossF_yes (now was made M : List Int) (hM : M.length = 27) (i : Nat) (hi : i < 27) (h : now[i]?.getD 0 = made[i]?.getD 0) : (crossF now was made M i).set i (was[i]?.getD 0) = crossF now was made M (i + 1) :=
  crossF_set now was made M hM i hi _ (by rw [cx, if_pos h])
theorem crossF_no (now was made M : List Int) (hM : M.length = 27) (i : Nat) (hi : i < 27) (h : now[i]?.getD 0 ≠ made[i]?.getD 0) : crossF now was made M i = crossF now was made M (i + 1) := by
  rw [← crossF_set now was made M hM i hi (M[i]?.getD 0) (by rw [cx, if_neg h])]
  apply List.ext_getElem?
  intro j
  by_cases hj : j = i
  · subst hj
    rw [List.getElem?_set_self (by rw [crossF_len _ _ _ _ hM _ (by omega)]; omega)]
    unfold crossF
    rw [List.getElem?_append_right (by simp)]
    simp [List.getElem?_eq_getElem (show j < M.length by omega)]
  · rw [List.getElem?_set_ne (Ne.symm hj)]
theorem crossR_len (now was made M : List Int) : (crossR now was made M).length = 27 := by simp [crossR]
theorem crossR_get (now was made M : List Int) (i : Nat) (hi : i < 27) : (crossR now was made M)[i]?.getD 0 = cx now was made M i := by
  unfold crossR
  rw [List.getElem?_map, List.getElem?_range hi]
  rfl

set_option maxHeartbeats 1000000 in
set_option maxRecDepth 100000 in
theorem cross_core (now was made M : List Int) (F : Nat → List Int) (es : List S42) (A : Option Addr) (c : Nat) (w : World) (hln : now.length = 27) (hlw : was.length = 27) (hlm : made.length = 27) (hM : moveR es now = M) (hlM : M.length = 27) (h0 : F 0 = M) (hlen : ∀ i, i ≤ 27 → (F i).length = 27) (hyes : ∀ i, i < 27 → now[i]?.getD 0 = made[i]?.getD 0 → (F i).set i (was[i]?.getD 0) = F (i + 1)) (hno : ∀ i, i < 27 → now[i]?.getD 0 ≠ made[i]?.getD 0 → F i = F (i + 1)) (hr : k42.C w A es.length es) :
    Calls Try.prog 29 #[mv now, mv was, mv made, .slice A es.length c] w fun e w' => e = .returned (mv (F 27)) ∧ Below w.heap.size w w' := by
  have HLN := Aside0.mk hlen
  have HY := Aside0.mk hyes
  have HNO := Aside0.mk hno
  have H0 := Aside0.mk h0
  have HC := Aside0.mk hr
  have L1 := Aside0.mk hln
  have L2 := Aside0.mk hlw
  have L3 := Aside0.mk hlm
  have LM := Aside0.mk hlM
  have HMV := Aside0.mk (fun W (hW : Below w.heap.size w W) => hM ▸ move_calls now hln es A c W (Kd.C_below hr hW))
  clear hlen hyes hno h0 hr hln hlw hlm hlM hM
  go_enter Try.func29, Try.ntmps29
  go_upto_region 1 with (fail)
  have hb1 := blk_alloc (blk_alloc (blk_alloc (blk_new w (Obj.cells (nums .i64 now).toArray 24)) (Obj.cells (nums .i64 was).toArray 24)) (Obj.cells (nums .i64 made).toArray 24)) (Obj.cells #[.int .i64 0, .int .i64 0, .int .i64 0, .int .i64 0, .int .i64 0, .int .i64 0, .int .i64 0, .int .i64 0, .int .i64 0, .int .i64 0, .int .i64 0, .int .i64 0, .int .i64 0, .int .i64 0, .int .i64 0, .int .i64 0, .int .i64 0, .int .i64 0, .int .i64 0, .int .i64 0, .int .i64 0, .int .i64 0, .int .i64 0, .int .i64 0, .int .i64 0, .int .i64 0, .int .i64 0] 24)
  have hb2 := blk_alloc (blk_alloc (heap_alloc2_new w (Obj.cells (nums .i64 now).toArray 24) (Obj.cells (nums .i64 was).toArray 24)) (Obj.cells (nums .i64 made).toArray 24)) (Obj.cells #[.int .i64 0, .int .i64 0, .int .i64 0, .int .i64 0, .int .i64 0, .int .i64 0, .int .i64 0, .int .i64 0, .int .i64 0, .int .i64 0, .int .i64 0, .int .i64 0, .int .i64 0, .int .i64 0, .int .i64 0, .int .i64 0, .int .i64 0, .int .i64 0, .int .i64 0, .int .i64 0, .int .i64 0, .int .i64 0, .int .i64 0, .int .i64 0, .int .i64 0, .int .i64 0, .int .i64 0] 24)
  have hb3 : ((((w.alloc (Obj.cells (nums .i64 now).toArray 24)).alloc (Obj.cells (nums .i64 was).toArray 24)).alloc (Obj.cells (nums .i64 made).toArray 24)).alloc (Obj.cells #[.int .i64 0, .int .i64 0, .int .i64 0, .int .i64 0, .int .i64 0, .int .i64 0, .int .i64 0, .int .i64 0, .int .i64 0, .int .i64 0, .int .i64 0, .int .i64 0, .int .i64 0, .int .i64 0, .int .i64 0, .int .i64 0, .int .i64 0, .int .i64 0, .int .i64 0, .int .i64 0, .int .i64 0, .int .i64 0, .int .i64 0, .int .i64 0, .int .i64 0, .int .i64 0, .int .i64 0] 24)).heap[w.heap.size + 2]? = some (Obj.cells (nums .i64 made).toArray 24) := by
    have h := blk_alloc (blk_new ((w.alloc (Obj.cells (nums .i64 now).toArray 24)).alloc (Obj.cells (nums .i64 was).toArray 24)) (Obj.cells (nums .i64 made).toArray 24)) (Obj.cells #[.int .i64 0, .int .i64 0, .int .i64 0, .int .i64 0, .int .i64 0, .int .i64 0, .int .i64 0, .int .i64 0, .int .i64 0, .int .i64 0, .int .i64 0, .int .i64 0, .int .i64 0, .int .i64 0, .int .i64 0, .int .i64 0, .int .i64 0, .int .i64 0, .int .i64 0, .int .i64 0, .int .i64 0, .int .i64 0, .int .i64 0, .int .i64 0, .int .i64 0, .int .i64 0, .int .i64 0] 24)
    rw [show ((w.alloc (Obj.cells (nums .i64 now).toArray 24)).alloc (Obj.cells (nums .i64 was).toArray 24)).heap.size = w.heap.size + 2 by simp] at h
    exact h
  have hb4 : ((((w.alloc (Obj.cells (nums .i64 now).toArray 24)).alloc (Obj.cells (nums .i64 was).toArray 24)).alloc (Obj.cells (nums .i64 made).toArray 24)).alloc (Obj.cells #[.int .i64 0, .int .i64 0, .int .i64 0, .int .i64 0, .int .i64 0, .int .i64 0, .int .i64 0, .int .i64 0, .int .i64 0, .int .i64 0, .int .i64 0, .int .i64 0, .int .i64 0, .int .i64 0, .int .i64 0, .int .i64 0, .int .i64 0, .int .i64 0, .int .i64 0, .int .i64 0, .int .i64 0, .int .i64 0, .int .i64 0, .int .i64 0, .int .i64 0, .int .i64 0, .int .i64 0] 24)).heap[w.heap.size + 3]? = some (Obj.cells #[.int .i64 0, .int .i64 0, .int .i64 0, .int .i64 0, .int .i64 0, .int .i64 0, .int .i64 0, .int .i64 0, .int .i64 0, .int .i64 0, .int .i64 0, .int .i64 0, .int .i64 0, .int .i64 0, .int .i64 0, .int .i64 0, .int .i64 0, .int .i64 0, .int .i64 0, .int .i64 0, .int .i64 0, .int .i64 0, .int .i64 0, .int .i64 0, .int .i64 0, .int .i64 0, .int .i64 0] 24 (0, 0)) := by
    have h := blk_new (((w.alloc (Obj.cells (nums .i64 now).toArray 24)).alloc (Obj.cells (nums .i64 was).toArray 24)).alloc (Obj.cells (nums .i64 made).toArray 24)) (Obj.cells #[.int .i64 0, .int .i64 0, .int .i64 0, .int .i64 0, .int .i64 0, .int .i64 0, .int .i64 0, .int .i64 0, .int .i64 0, .int .i64 0, .int .i64 0, .int .i64 0, .int .i64 0, .int .i64 0, .int .i64 0, .int .i64 0, .int .i64 0, .int .i64 0, .int .i64 0, .int .i64 0, .int .i64 0, .int .i64 0, .int .i64 0, .int .i64 0, .int .i64 0, .int .i64 0, .int .i64 0] 24)
    rw [show (((w.alloc (Obj.cells (nums .i64 now).toArray 24)).alloc (Obj.cells (nums .i64 was).toArray 24)).alloc (Obj.cells (nums .i64 made).toArray 24)).heap.size = w.heap.size + 3 by simp] at h
    exact h
  have hb5 := (((((Below.refl w.heap.size w).alloc (Nat.le_refl _) (Obj.cells (nums .i64 now).toArray 24)).alloc (by simp) (Obj.cells (nums .i64 was).toArray 24)).alloc (by simp; omega) (Obj.cells (nums .i64 made).toArray 24)).alloc (by simp; omega) (Obj.cells #[.int .i64 0, .int .i64 0, .int .i64 0, .int .i64 0, .int .i64 0, .int .i64 0, .int .i64 0, .int .i64 0, .int .i64 0, .int .i64 0, .int .i64 0, .int .i64 0, .int .i64 0, .int .i64 0, .int .i64 0, .int .i64 0, .int .i64 0, .int .i64 0, .int .i64 0, .int .i64 0, .int .i64 0, .int .i64 0, .int .i64 0, .int .i64 0, .int .i64 0, .int .i64 0, .int .i64 0] 24))
  generalize ((((w.alloc (Obj.cells (nums .i64 now).toArray 24)).alloc (Obj.cells (nums .i64 was).toArray 24)).alloc (Obj.cells (nums .i64 made).toArray 24)).alloc (Obj.cells #[.int .i64 0, .int .i64 0, .int .i64 0, .int .i64 0, .int .i64 0, .int .i64 0, .int .i64 0, .int .i64 0, .int .i64 0, .int .i64 0, .int .i64 0, .int .i64 0, .int .i64 0, .int .i64 0, .int .i64 0, .int .i64 0, .int .i64 0, .int .i64 0, .int .i64 0, .int .i64 0, .int .i64 0, .int .i64 0, .int .i64 0, .int .i64 0, .int .i64 0, .int .i64 0, .int .i64 0] 24)) = W at hb1 hb2 hb3 hb4 hb5 ⊢
  have HN := Aside0.mk hb1
  have HS := Aside0.mk hb2
  have HM := Aside0.mk hb3
  have HR := Aside0.mk hb4
  have HW := Aside0.mk hb5
  clear hb1 hb2 hb3 hb4 hb5
  go_wp2_with (refine wpList_load_agg rfl 24 (.tmp 4) rfl ⟨w.heap.size, 0, none⟩ ?q1a (nums .i64 now) _ ?q1b Try.underlying24 rfl ?q1c ?q1d)
  case q1a => rfl
  case q1b =>
    intro j v hj
    rw [add_plain', Nat.zero_add, blk_cell HN.out]
    simpa using hj
  case q1c =>
    rw [nums_length, L1.out]
    exact info24
  go_wp2_with fail
  refine (HMV.out _ HW.out).mono ?_
  rintro e wq ⟨rfl, hB1⟩
  have HN1 := Aside0.mk (blk_below HN.out hB1)
  have HS1 := Aside0.mk (blk_below HS.out hB1)
  have HM1 := Aside0.mk (blk_below HM.out hB1)
  have HR1 := Aside0.mk (blk_below HR.out hB1)
  have HW1 := Aside0.mk (below_step HW.out hB1)
  have hsz := blk_lt HR1.out
  clear hB1 HN HS HM HR HW HMV
  go_upto_region 2 with (refine wpList_store_agg rfl 24 (.tmp 9) (.tmp 14) rfl wq.heap.size 0 ?q2a (nums .i64 M) ?q2b _ 24 (blk_new wq (Obj.cells #[.int .i64 0, .int .i64 0, .int .i64 0, .int .i64 0, .int .i64 0, .int .i64 0, .int .i64 0, .int .i64 0, .int .i64 0, .int .i64 0, .int .i64 0, .int .i64 0, .int .i64 0, .int .i64 0, .int .i64 0, .int .i64 0, .int .i64 0, .int .i64 0, .int .i64 0, .int .i64 0, .int .i64 0, .int .i64 0, .int .i64 0, .int .i64 0, .int .i64 0, .int .i64 0, .int .i64 0] 24)) ?q2c (nums_one _) ?q2d ?q2e)
  case q2a => rfl
  case q2b => rfl
  case q2c => rw [nums_length, LM.out]; exact Nat.le_refl _
  case q2d =>
    rw [nums_length, LM.out]
    exact info24
  have h1 := putCells_block (nums .i64 M) (wq.alloc (Obj.cells #[.int .i64 0, .int .i64 0, .int .i64 0, .int .i64 0, .int .i64 0, .int .i64 0, .int .i64 0, .int .i64 0, .int .i64 0, .int .i64 0, .int .i64 0, .int .i64 0, .int .i64 0, .int .i64 0, .int .i64 0, .int .i64 0, .int .i64 0, .int .i64 0, .int .i64 0, .int .i64 0, .int .i64 0, .int .i64 0, .int .i64 0, .int .i64 0, .int .i64 0, .int .i64 0, .int .i64 0] 24)) wq.heap.size 0 _ 24 (blk_new wq (Obj.cells #[.int .i64 0, .int .i64 0, .int .i64 0, .int .i64 0, .int .i64 0, .int .i64 0, .int .i64 0, .int .i64 0, .int .i64 0, .int .i64 0, .int .i64 0, .int .i64 0, .int .i64 0, .int .i64 0, .int .i64 0, .int .i64 0, .int .i64 0, .int .i64 0, .int .i64 0, .int .i64 0, .int .i64 0, .int .i64 0, .int .i64 0, .int .i64 0, .int .i64 0, .int .i64 0, .int .i64 0] 24))
  rw [splice_whole _ (nums .i64 M) (by rw [nums_length, LM.out]; rfl)] at h1
  have h3 := putCells_below (nums .i64 M) w (wq.alloc (Obj.cells #[.int .i64 0, .int .i64 0, .int .i64 0, .int .i64 0, .int .i64 0, .int .i64 0, .int .i64 0, .int .i64 0, .int .i64 0, .int .i64 0, .int .i64 0, .int .i64 0, .int .i64 0, .int .i64 0, .int .i64 0, .int .i64 0, .int .i64 0, .int .i64 0, .int .i64 0, .int .i64 0, .int .i64 0, .int .i64 0, .int .i64 0, .int .i64 0, .int .i64 0, .int .i64 0, .int .i64 0] 24)) w.heap.size wq.heap.size 0 HW1.out.size (HW1.out.alloc HW1.out.size (Obj.cells #[.int .i64 0, .int .i64 0, .int .i64 0, .int .i64 0, .int .i64 0, .int .i64 0, .int .i64 0, .int .i64 0, .int .i64 0, .int .i64 0, .int .i64 0, .int .i64 0, .int .i64 0, .int .i64 0, .int .i64 0, .int .i64 0, .int .i64 0, .int .i64 0, .int .i64 0, .int .i64 0, .int .i64 0, .int .i64 0, .int .i64 0, .int .i64 0, .int .i64 0, .int .i64 0, .int .i64 0] 24))
  have hk0 := (putCells_other (nums .i64 M) (wq.alloc (Obj.cells #[.int .i64 0, .int .i64 0, .int .i64 0, .int .i64 0, .int .i64 0, .int .i64 0, .int .i64 0, .int .i64 0, .int .i64 0, .int .i64 0, .int .i64 0, .int .i64 0, .int .i64 0, .int .i64 0, .int .i64 0, .int .i64 0, .int .i64 0, .int .i64 0, .int .i64 0, .int .i64 0, .int .i64 0, .int .i64 0, .int .i64 0, .int .i64 0, .int .i64 0, .int .i64 0, .int .i64 0] 24)) wq.heap.size 0 _ (Nat.ne_of_lt (blk_lt HN1.out))).trans (blk_alloc HN1.out (Obj.cells #[.int .i64 0, .int .i64 0, .int .i64 0, .int .i64 0, .int .i64 0, .int .i64 0, .int .i64 0, .int .i64 0, .int .i64 0, .int .i64 0, .int .i64 0, .int .i64 0, .int .i64 0, .int .i64 0, .int .i64 0, .int .i64 0, .int .i64 0, .int .i64 0, .int .i64 0, .int .i64 0, .int .i64 0, .int .i64 0, .int .i64 0, .int .i64 0, .int .i64 0, .int .i64 0, .int .i64 0] 24))
  have hk1 := (putCells_other (nums .i64 M) (wq.alloc (Obj.cells #[.int .i64 0, .int .i64 0, .int .i64 0, .int .i64 0, .int .i64 0, .int .i64 0, .int .i64 0, .int .i64 0, .int .i64 0, .int .i64 0, .int .i64 0, .int .i64 0, .int .i64 0, .int .i64 0, .int .i64 0, .int .i64 0, .int .i64 0, .int .i64 0, .int .i64 0, .int .i64 0, .int .i64 0, .int .i64 0, .int .i64 0, .int .i64 0, .int .i64 0, .int .i64 0, .int .i64 0] 24)) wq.heap.size 0 _ (Nat.ne_of_lt (blk_lt HS1.out))).trans (blk_alloc HS1.out (Obj.cells #[.int .i64 0, .int .i64 0, .int .i64 0, .int .i64 0, .int .i64 0, .int .i64 0, .int .i64 0, .int .i64 0, .int .i64 0, .int .i64 0, .int .i64 0, .int .i64 0, .int .i64 0, .int .i64 0, .int .i64 0, .int .i64 0, .int .i64 0, .int .i64 0, .int .i64 0, .int .i64 0, .int .i64 0, .int .i64 0, .int .i64 0, .int .i64 0, .int .i64 0, .int .i64 0, .int .i64 0] 24))
  have hk2 := (putCells_other (nums .i64 M) (wq.alloc (Obj.cells #[.int .i64 0, .int .i64 0, .int .i64 0, .int .i64 0, .int .i64 0, .int .i64 0, .int .i64 0, .int .i64 0, .int .i64 0, .int .i64 0, .int .i64 0, .int .i64 0, .int .i64 0, .int .i64 0, .int .i64 0, .int .i64 0, .int .i64 0, .int .i64 0, .int .i64 0, .int .i64 0, .int .i64 0, .int .i64 0, .int .i64 0, .int .i64 0, .int .i64 0, .int .i64 0, .int .i64 0] 24)) wq.heap.size 0 _ (Nat.ne_of_lt (blk_lt HM1.out))).trans (blk_alloc HM1.out (Obj.cells #[.int .i64 0, .int .i64 0, .int .i64 0, .int .i64 0, .int .i64 0, .int .i64 0, .int .i64 0, .int .i64 0, .int .i64 0, .int .i64 0, .int .i64 0, .int .i64 0, .int .i64 0, .int .i64 0, .int .i64 0, .int .i64 0, .int .i64 0, .int .i64 0, .int .i64 0, .int .i64 0, .int .i64 0, .int .i64 0, .int .i64 0, .int .i64 0, .int .i64 0, .int .i64 0, .int .i64 0] 24))
  have hk3 := (putCells_other (nums .i64 M) (wq.alloc (Obj.cells #[.int .i64 0, .int .i64 0, .int .i64 0, .int .i64 0, .int .i64 0, .int .i64 0, .int .i64 0, .int .i64 0, .int .i64 0, .int .i64 0, .int .i64 0, .int .i64 0, .int .i64 0, .int .i64 0, .int .i64 0, .int .i64 0, .int .i64 0, .int .i64 0, .int .i64 0, .int .i64 0, .int .i64 0, .int .i64 0, .int .i64 0, .int .i64 0, .int .i64 0, .int .i64 0, .int .i64 0] 24)) wq.heap.size 0 _ (Nat.ne_of_lt (blk_lt HR1.out))).trans (blk_alloc HR1.out (Obj.cells #[.int .i64 0, .int .i64 0, .int .i64 0, .int .i64 0, .int .i64 0, .int .i64 0, .int .i64 0, .int .i64 0, .int .i64 0, .int .i64 0, .int .i64 0, .int .i64 0, .int .i64 0, .int .i64 0, .int .i64 0, .int .i64 0, .int .i64 0, .int .i64 0, .int .i64 0, .int .i64 0, .int .i64 0, .int .i64 0, .int .i64 0, .int .i64 0, .int .i64 0, .int .i64 0, .int .i64 0] 24))
  generalize (putCells (wq.alloc (Obj.cells #[.int .i64 0, .int .i64 0, .int .i64 0, .int .i64 0, .int .i64 0, .int .i64 0, .int .i64 0, .int .i64 0, .int .i64 0, .int .i64 0, .int .i64 0, .int .i64 0, .int .i64 0, .int .i64 0, .int .i64 0, .int .i64 0, .int .i64 0, .int .i64 0, .int .i64 0, .int .i64 0, .int .i64 0, .int .i64 0, .int .i64 0, .int .i64 0, .int .i64 0, .int .i64 0, .int .i64 0] 24)) wq.heap.size 0 (nums .i64 M)) = U at h1 h3 hk0 hk1 hk2 hk3 ⊢
  have UN := Aside0.mk h1
  have UB := Aside0.mk h3
  have UK0 := Aside0.mk hk0
  have UK1 := Aside0.mk hk1
  have UK2 := Aside0.mk hk2
  have UK3 := Aside0.mk hk3
  clear h1 h3 hk0 hk1 hk2 hk3
  clear HN1 HS1 HM1 HR1 HW1
  go_wp2_with (refine wpList_load_agg rfl 22 (.tmp 15) rfl ⟨w.heap.size, 0, none⟩ ?hx ((nums .i64 now).take 26) _ ?hc Try.underlying22 rfl ?hi ?hh)
  case hx => rfl
  case hi =>
    have e1 : ((nums .i64 now).take 26).length = 26 := by
      have := L1.out
      simp [nums]
      omega
    have hI : (Try.prog.info? 22).map (fun x => x.size) = some 26 := by kernel_rfl
    rw [e1]
    exact hI
  case hc =>
    intro j v hj
    have hjl : j < 26 := by
      have := (List.getElem?_eq_some_iff.1 hj).1
      rw [List.length_take] at this
      omega
    rw [List.getElem?_take_of_lt hjl] at hj
    rw [add_plain', Nat.zero_add, blk_cell UK0.out]
    simpa using hj
  go_loopw [17] (fun v wr => ∃ i : Nat, i ≤ 26 ∧ v = .int .i64 i ∧ Aside0 (wr.heap[wq.heap.size]? = some (Obj.cells (nums .i64 (F i)).toArray 24)) ∧ Aside0 (wr.heap[w.heap.size]? = some (Obj.cells (nums .i64 now).toArray 24)) ∧ Aside0 (wr.heap[w.heap.size + 1]? = some (Obj.cells (nums .i64 was).toArray 24)) ∧ Aside0 (wr.heap[w.heap.size + 2]? = some (Obj.cells (nums .i64 made).toArray 24)) ∧ Aside0 (wr.heap[w.heap.size + 3]? = some (Obj.cells #[.int .i64 0, .int .i64 0, .int .i64 0, .int .i64 0, .int .i64 0, .int .i64 0, .int .i64 0, .int .i64 0, .int .i64 0, .int .i64 0, .int .i64 0, .int .i64 0, .int .i64 0, .int .i64 0, .int .i64 0, .int .i64 0, .int .i64 0, .int .i64 0, .int .i64 0, .int .i64 0, .int .i64 0, .int .i64 0, .int .i64 0, .int .i64 0, .int .i64 0, .int .i64 0, .int .i64 0] 24 (0, 0))) ∧ Aside0 (Below w.heap.size w wr)) (fun v _ => 26 - (intOf v).toNat)
  case atStart => exact ⟨0, by omega, rfl, ⟨by rw [H0.out]; exact UN.out⟩, UK0, UK1, UK2, UK3, UB⟩
  case round =>
    obtain ⟨i, hi, rfl, HFr, HNr, HSr, HMr, HRr, HWr⟩ := hrel
    clear UN UK0 UK1 UK2 UK3 UB
    by_cases hlt : i < 26
    · have hlt' : ((i : Int) < 26) = True := eq_true (by omega)
      have hi0 : (0 : Int) ≤ (i : Int) := by omega
      have hix : ∀ W, (Instr.index 22 (.agg (List.take 26 (nums .i64 now)).toArray) (.int .i64 (i : Int))).run Try.prog W = .ok (.int .i64 (now[i]?.getD 0)) W := fun W => by
        refine run_index_agg W 22 3 26 i _ _ _ Try.underlying22 Try.underlying3 rfl (by kernel_rfl) hlt ?_
        have h1 : i < now.length := by have := L1.out; omega
        simp [nums, hlt, h1]
      have HYi := Aside0.mk (HY.out i (by omega))
      have HNi := Aside0.mk (HNO.out i (by omega))
      have hcn : wr.cell? ⟨w.heap.size, i, none⟩ = some (.int .i64 (now[i]?.getD 0)) := by
        rw [blk_cell HNr.out]
        exact nums_get now i (by rw [L1.out]; omega)
      have hcw : wr.cell? ⟨w.heap.size + 1, i, none⟩ = some (.int .i64 (was[i]?.getD 0)) := by
        rw [blk_cell HSr.out]
        exact nums_get was i (by rw [L2.out]; omega)
      have hcm : wr.cell? ⟨w.heap.size + 2, i, none⟩ = some (.int .i64 (made[i]?.getD 0)) := by
        rw [blk_cell HMr.out]
        exact nums_get made i (by rw [L3.out]; omega)
      have hcF : wr.cell? ⟨wq.heap.size, i, none⟩ = some (.int .i64 ((F i)[i]?.getD 0)) := by
        rw [blk_cell HFr.out]
        exact nums_get (F i) i (by rw [HLN.out i (by omega)]; omega)
      have hfz := blk_frozen HFr.out i
      generalize now[i]?.getD 0 = x at hix HYi HNi hcn ⊢
      generalize made[i]?.getD 0 = y at HYi HNi hcm ⊢
      generalize was[i]?.getD 0 = z at HYi hcw ⊢
      by_cases hxy : x = y
      · subst hxy
        go_wp2
        have K1 := Aside0.mk (blk_put HFr.out i (.int .i64 z) ((nums_put (F i) i z).trans (by rw [HYi.out rfl])))
        have K2 := Aside0.mk (blk_far (p := ⟨wq.heap.size, i, none⟩) HNr.out (by show w.heap.size ≠ wq.heap.size; omega) (.int .i64 z))
        have K3 := Aside0.mk (blk_far (p := ⟨wq.heap.size, i, none⟩) HSr.out (by show w.heap.size + 1 ≠ wq.heap.size; omega) (.int .i64 z))
        have K4 := Aside0.mk (blk_far (p := ⟨wq.heap.size, i, none⟩) HMr.out (by show w.heap.size + 2 ≠ wq.heap.size; omega) (.int .i64 z))
        have K5 := Aside0.mk (blk_far (p := ⟨wq.heap.size, i, none⟩) HRr.out (by show w.heap.size + 3 ≠ wq.heap.size; omega) (.int .i64 z))
        have K6 := Aside0.mk (HWr.out.setCell (p := ⟨wq.heap.size, i, none⟩) (by show w.heap.size ≤ wq.heap.size; omega) (.int .i64 z))
        clear HFr HNr HSr HMr HRr HWr
        go_roundw
        case measure => simp [intOf]; omega
        case rel => exact ⟨i + 1, by omega, by go_num, K1, K2, K3, K4, K5, K6⟩
      · have hne : (x == y) = false := beq_eq_false_iff_ne.2 hxy
        go_wp2
        go_roundw
        case measure => simp [intOf]; omega
        case rel => exact ⟨i + 1, by omega, by go_num, ⟨by rw [← HNi.out hxy]; exact HFr.out⟩, HNr, HSr, HMr, HRr, HWr⟩
    · have hge : ((i : Int) < 26) = False := eq_false (by omega)
      obtain rfl : i = 26 := by omega
      clear hge
      have HL27 := Aside0.mk (HLN.out 27 (Nat.le_refl _))
      have HYi := Aside0.mk (HY.out 26 (by omega))
      have HNi := Aside0.mk (HNO.out 26 (by omega))
      have hcn : wr.cell? ⟨w.heap.size, 26, none⟩ = some (.int .i64 (now[26]?.getD 0)) := by
        rw [blk_cell HNr.out]
        exact nums_get now 26 (by rw [L1.out]; omega)
      have hcw : wr.cell? ⟨w.heap.size + 1, 26, none⟩ = some (.int .i64 (was[26]?.getD 0)) := by
        rw [blk_cell HSr.out]
        exact nums_get was 26 (by rw [L2.out]; omega)
      have hcm : wr.cell? ⟨w.heap.size + 2, 26, none⟩ = some (.int .i64 (made[26]?.getD 0)) := by
        rw [blk_cell HMr.out]
        exact nums_get made 26 (by rw [L3.out]; omega)
      have hcF : wr.cell? ⟨wq.heap.size, 26, none⟩ = some (.int .i64 ((F 26)[26]?.getD 0)) := by
        rw [blk_cell HFr.out]
        exact nums_get (F 26) 26 (by rw [HLN.out 26 (by omega)]; omega)
      have hfz := blk_frozen HFr.out 26
      generalize now[26]?.getD 0 = x at HYi HNi hcn ⊢
      generalize made[26]?.getD 0 = y at HYi HNi hcm ⊢
      generalize was[26]?.getD 0 = z at HYi hcw ⊢
      by_cases hxy : x = y
      · subst hxy
        go_upto_region 10 with (fail)
        have K1 := Aside0.mk (blk_put HFr.out 26 (.int .i64 z) ((nums_put (F 26) 26 z).trans (by rw [HYi.out rfl])))
        have K2 := Aside0.mk (blk_far (p := ⟨wq.heap.size, 26, none⟩) HNr.out (by show w.heap.size ≠ wq.heap.size; omega) (.int .i64 z))
        have K3 := Aside0.mk (blk_far (p := ⟨wq.heap.size, 26, none⟩) HSr.out (by show w.heap.size + 1 ≠ wq.heap.size; omega) (.int .i64 z))
        have K4 := Aside0.mk (blk_far (p := ⟨wq.heap.size, 26, none⟩) HMr.out (by show w.heap.size + 2 ≠ wq.heap.size; omega) (.int .i64 z))
        have K5 := Aside0.mk (blk_far (p := ⟨wq.heap.size, 26, none⟩) HRr.out (by show w.heap.size + 3 ≠ wq.heap.size; omega) (.int .i64 z))
        have K6 := Aside0.mk (HWr.out.setCell (p := ⟨wq.heap.size, 26, none⟩) (by show w.heap.size ≤ wq.heap.size; omega) (.int .i64 z))
        clear HFr HNr HSr HMr HRr HWr
        generalize wr.setCell ⟨wq.heap.size, 26, none⟩ (.int .i64 z) = V at K1 K2 K3 K4 K5 K6 ⊢
        go_wp2_with (first | (refine wpList_load_agg rfl 24 (.tmp 9) rfl ⟨wq.heap.size, 0, none⟩ ?z2a (nums .i64 (F 27)) _ ?z2b Try.underlying24 rfl ?z2c ?z2d) | (refine wpList_store_agg rfl 24 (.tmp 8) (.tmp 43) rfl ((w.heap.size + 3)) 0 ?z2e (nums .i64 (F 27)) ?z2f _ 24 (K5.out) ?z2h ?z2i ?z2j ?z2k))
        case z2b =>
          intro j v hj
          (first | rw [add_plain', Nat.zero_add] | skip); rw [blk_cell K1.out]
          simpa using hj
        case z2c =>
          rw [nums_length, HL27.out]
          (first | exact info24 | exact Option.map_eq_some_iff.1 info24)
        case z2h => rw [nums_length, HL27.out]; exact Nat.le_refl _
        case z2i => exact nums_one _
        case z2j =>
          rw [nums_length, HL27.out]
          (first | exact info24 | exact Option.map_eq_some_iff.1 info24)
        case z2k =>
          have hW := putCells_block (nums .i64 (F 27)) _ ((w.heap.size + 3)) 0 _ 24 K5.out
          rw [splice_whole _ _ (by rw [nums_length, HL27.out]; rfl)] at hW
          refine bodyPost_ret (results_cell_row rfl _ _ ((w.heap.size + 3)) 24 _ (0, 0) _ rfl hW Try.underlying24 rfl ?_) rfl ⟨rfl, putCells_below _ _ _ _ _ _ (by omega) K6.out⟩
          · rw [List.size_toArray, nums_length, HL27.out]
            (first | exact info24 | exact Option.map_eq_some_iff.1 info24)
      · have hne : (x == y) = false := beq_eq_false_iff_ne.2 hxy
        have K1 : Aside0 (wr.heap[wq.heap.size]? = some (Obj.cells (nums .i64 (F 27)).toArray 24)) := ⟨by rw [← HNi.out hxy]; exact HFr.out⟩
        go_upto_region 10 with (fail)
        clear hcn hcw hcm hcF hfz
        go_wp2_with (first | (refine wpList_load_agg rfl 24 (.tmp 9) rfl ⟨wq.heap.size, 0, none⟩ ?z3a (nums .i64 (F 27)) _ ?z3b Try.underlying24 rfl ?z3c ?z3d) | (refine wpList_store_agg rfl 24 (.tmp 8) (.tmp 43) rfl ((w.heap.size + 3)) 0 ?z3e (nums .i64 (F 27)) ?z3f _ 24 (HRr.out) ?z3h ?z3i ?z3j ?z3k))
        case z3a => rfl
        case z3b =>
          intro j v hj
          rw [add_plain', Nat.zero_add, blk_cell K1.out]
          simpa using hj
        case z3c =>
          rw [nums_length, HL27.out]
          exact info24
        case z3h => rw [nums_length, HL27.out]; exact Nat.le_refl _
        case z3i => exact nums_one _
        case z3j =>
          rw [nums_length, HL27.out]
          exact info24
        case z3k =>
          have hW := putCells_block (nums .i64 (F 27)) _ ((w.heap.size + 3)) 0 _ 24 HRr.out
          rw [splice_whole _ _ (by rw [nums_length, HL27.out]; rfl)] at hW
          refine bodyPost_ret (results_cell_row rfl _ _ ((w.heap.size + 3)) 24 _ (0, 0) _ rfl hW Try.underlying24 rfl ?_) rfl ⟨rfl, putCells_below _ _ _ _ _ _ (by omega) HWr.out⟩
          · rw [List.size_toArray, nums_length, HL27.out]
            exact info24
theorem cross_calls (now was made : List Int) (es : List S42) (A : Option Addr) (c : Nat) (w : World) (hln : now.length = 27) (hlw : was.length = 27) (hlm : made.length = 27) (hr : k42.C w A es.length es) :
    Calls Try.prog 29 #[mv now, mv was, mv made, .slice A es.length c] w fun e w' => e = .returned (mv (crossR now was made (moveR es now))) ∧ Below w.heap.size w w' := by
  have hM : (moveR es now).length = 27 := by rw [moveR_len, hln]
  rw [← crossF_all now was made (moveR es now) hM]
  exact cross_core now was made (moveR es now) (crossF now was made (moveR es now)) es A c w hln hlw hlm rfl hM (crossF_zero _ _ _ _) (fun i hi => crossF_len _ _ _ _ hM i hi) (fun i hi h => crossF_yes _ _ _ _ hM i hi h) (fun i hi h => crossF_no _ _ _ _ hM i hi h) hr

set_option maxHeartbeats 1000000 in
set_option maxRecDepth 100000 in
theorem ref_cross_core (now was made M : List Int) (F : Nat → List Int) (es : List S42) (A : Option Addr) (c : Nat) (w : World) (hln : now.length = 27) (hlw : was.length = 27) (hlm : made.length = 27) (hM : moveR es now = M) (hlM : M.length = 27) (h0 : F 0 = M) (hlen : ∀ i, i ≤ 27 → (F i).length = 27) (hyes : ∀ i, i < 27 → now[i]?.getD 0 = made[i]?.getD 0 → (F i).set i (was[i]?.getD 0) = F (i + 1)) (hno : ∀ i, i < 27 → now[i]?.getD 0 ≠ made[i]?.getD 0 → F i = F (i + 1)) (hr : k42.C w A es.length es) :
    Calls Try.prog 30 #[mv now, mv was, mv made, .slice A es.length c] w fun e w' => e = .returned (mv (F 27)) ∧ Below w.heap.size w w' := by
  have HLN := Aside0.mk hlen
  have HY := Aside0.mk hyes
  have HNO := Aside0.mk hno
  have H0 := Aside0.mk h0
  have HC := Aside0.mk hr
  have L1 := Aside0.mk hln
  have L2 := Aside0.mk hlw
  have L3 := Aside0.mk hlm
  have LM := Aside0.mk hlM
  have HMV := Aside0.mk (fun W (hW : Below w.heap.size w W) => hM ▸ ref_move_calls now hln es A c W (Kd.C_below hr hW))
  clear hlen hyes hno h0 hr hln hlw hlm hlM hM
  go_enter Try.func30, Try.ntmps30
  go_upto_region 1 with (fail)
  have hb1 := blk_alloc (blk_alloc (blk_alloc (blk_new w (Obj.cells (nums .i64 now).toArray 24)) (Obj.cells (nums .i64 was).toArray 24)) (Obj.cells (nums .i64 made).toArray 24)) (Obj.cells #[.int .i64 0, .int .i64 0, .int .i64 0, .int .i64 0, .int .i64 0, .int .i64 0, .int .i64 0, .int .i64 0, .int .i64 0, .int .i64 0, .int .i64 0, .int .i64 0, .int .i64 0, .int .i64 0, .int .i64 0, .int .i64 0, .int .i64 0, .int .i64 0, .int .i64 0, .int .i64 0, .int .i64 0, .int .i64 0, .int .i64 0, .int .i64 0, .int .i64 0, .int .i64 0, .int .i64 0] 24)
  have hb2 := blk_alloc (blk_alloc (heap_alloc2_new w (Obj.cells (nums .i64 now).toArray 24) (Obj.cells (nums .i64 was).toArray 24)) (Obj.cells (nums .i64 made).toArray 24)) (Obj.cells #[.int .i64 0, .int .i64 0, .int .i64 0, .int .i64 0, .int .i64 0, .int .i64 0, .int .i64 0, .int .i64 0, .int .i64 0, .int .i64 0, .int .i64 0, .int .i64 0, .int .i64 0, .int .i64 0, .int .i64 0, .int .i64 0, .int .i64 0, .int .i64 0, .int .i64 0, .int .i64 0, .int .i64 0, .int .i64 0, .int .i64 0, .int .i64 0, .int .i64 0, .int .i64 0, .int .i64 0] 24)
  have hb3 : ((((w.alloc (Obj.cells (nums .i64 now).toArray 24)).alloc (Obj.cells (nums .i64 was).toArray 24)).alloc (Obj.cells (nums .i64 made).toArray 24)).alloc (Obj.cells #[.int .i64 0, .int .i64 0, .int .i64 0, .int .i64 0, .int .i64 0, .int .i64 0, .int .i64 0, .int .i64 0, .int .i64 0, .int .i64 0, .int .i64 0, .int .i64 0, .int .i64 0, .int .i64 0, .int .i64 0, .int .i64 0, .int .i64 0, .int .i64 0, .int .i64 0, .int .i64 0, .int .i64 0, .int .i64 0, .int .i64 0, .int .i64 0, .int .i64 0, .int .i64 0, .int .i64 0] 24)).heap[w.heap.size + 2]? = some (Obj.cells (nums .i64 made).toArray 24) := by
    have h := blk_alloc (blk_new ((w.alloc (Obj.cells (nums .i64 now).toArray 24)).alloc (Obj.cells (nums .i64 was).toArray 24)) (Obj.cells (nums .i64 made).toArray 24)) (Obj.cells #[.int .i64 0, .int .i64 0, .int .i64 0, .int .i64 0, .int .i64 0, .int .i64 0, .int .i64 0, .int .i64 0, .int .i64 0, .int .i64 0, .int .i64 0, .int .i64 0, .int .i64 0, .int .i64 0, .int .i64 0, .int .i64 0, .int .i64 0, .int .i64 0, .int .i64 0, .int .i64 0, .int .i64 0, .int .i64 0, .int .i64 0, .int .i64 0, .int .i64 0, .int .i64 0, .int .i64 0] 24)
    rw [show ((w.alloc (Obj.cells (nums .i64 now).toArray 24)).alloc (Obj.cells (nums .i64 was).toArray 24)).heap.size = w.heap.size + 2 by simp] at h
    exact h
  have hb4 : ((((w.alloc (Obj.cells (nums .i64 now).toArray 24)).alloc (Obj.cells (nums .i64 was).toArray 24)).alloc (Obj.cells (nums .i64 made).toArray 24)).alloc (Obj.cells #[.int .i64 0, .int .i64 0, .int .i64 0, .int .i64 0, .int .i64 0, .int .i64 0, .int .i64 0, .int .i64 0, .int .i64 0, .int .i64 0, .int .i64 0, .int .i64 0, .int .i64 0, .int .i64 0, .int .i64 0, .int .i64 0, .int .i64 0, .int .i64 0, .int .i64 0, .int .i64 0, .int .i64 0, .int .i64 0, .int .i64 0, .int .i64 0, .int .i64 0, .int .i64 0, .int .i64 0] 24)).heap[w.heap.size + 3]? = some (Obj.cells #[.int .i64 0, .int .i64 0, .int .i64 0, .int .i64 0, .int .i64 0, .int .i64 0, .int .i64 0, .int .i64 0, .int .i64 0, .int .i64 0, .int .i64 0, .int .i64 0, .int .i64 0, .int .i64 0, .int .i64 0, .int .i64 0, .int .i64 0, .int .i64 0, .int .i64 0, .int .i64 0, .int .i64 0, .int .i64 0, .int .i64 0, .int .i64 0, .int .i64 0, .int .i64 0, .int .i64 0] 24 (0, 0)) := by
    have h := blk_new (((w.alloc (Obj.cells (nums .i64 now).toArray 24)).alloc (Obj.cells (nums .i64 was).toArray 24)).alloc (Obj.cells (nums .i64 made).toArray 24)) (Obj.cells #[.int .i64 0, .int .i64 0, .int .i64 0, .int .i64 0, .int .i64 0, .int .i64 0, .int .i64 0, .int .i64 0, .int .i64 0, .int .i64 0, .int .i64 0, .int .i64 0, .int .i64 0, .int .i64 0, .int .i64 0, .int .i64 0, .int .i64 0, .int .i64 0, .int .i64 0, .int .i64 0, .int .i64 0, .int .i64 0, .int .i64 0, .int .i64 0, .int .i64 0, .int .i64 0, .int .i64 0] 24)
    rw [show (((w.alloc (Obj.cells (nums .i64 now).toArray 24)).alloc (Obj.cells (nums .i64 was).toArray 24)).alloc (Obj.cells (nums .i64 made).toArray 24)).heap.size = w.heap.size + 3 by simp] at h
    exact h
  have hb5 := (((((Below.refl w.heap.size w).alloc (Nat.le_refl _) (Obj.cells (nums .i64 now).toArray 24)).alloc (by simp) (Obj.cells (nums .i64 was).toArray 24)).alloc (by simp; omega) (Obj.cells (nums .i64 made).toArray 24)).alloc (by simp; omega) (Obj.cells #[.int .i64 0, .int .i64 0, .int .i64 0, .int .i64 0, .int .i64 0, .int .i64 0, .int .i64 0, .int .i64 0, .int .i64 0, .int .i64 0, .int .i64 0, .int .i64 0, .int .i64 0, .int .i64 0, .int .i64 0, .int .i64 0, .int .i64 0, .int .i64 0, .int .i64 0, .int .i64 0, .int .i64 0, .int .i64 0, .int .i64 0, .int .i64 0, .int .i64 0, .int .i64 0, .int .i64 0] 24))
  generalize ((((w.alloc (Obj.cells (nums .i64 now).toArray 24)).alloc (Obj.cells (nums .i64 was).toArray 24)).alloc (Obj.cells (nums .i64 made).toArray 24)).alloc (Obj.cells #[.int .i64 0, .int .i64 0, .int .i64 0, .int .i64 0, .int .i64 0, .int .i64 0, .int .i64 0, .int .i64 0, .int .i64 0, .int .i64 0, .int .i64 0, .int .i64 0, .int .i64 0, .int .i64 0, .int .i64 0, .int .i64 0, .int .i64 0, .int .i64 0, .int .i64 0, .int .i64 0, .int .i64 0, .int .i64 0, .int .i64 0, .int .i64 0, .int .i64 0, .int .i64 0, .int .i64 0] 24)) = W at hb1 hb2 hb3 hb4 hb5 ⊢
  have HN := Aside0.mk hb1
  have HS := Aside0.mk hb2
  have HM := Aside0.mk hb3
  have HR := Aside0.mk hb4
  have HW := Aside0.mk hb5
  clear hb1 hb2 hb3 hb4 hb5
  go_wp2_with (refine wpList_load_agg rfl 24 (.tmp 4) rfl ⟨w.heap.size, 0, none⟩ ?q3a (nums .i64 now) _ ?q3b Try.underlying24 rfl ?q3c ?q3d)
  case q3a => rfl
  case q3b =>
    intro j v hj
    rw [add_plain', Nat.zero_add, blk_cell HN.out]
    simpa using hj
  case q3c =>
    rw [nums_length, L1.out]
    exact info24
  go_wp2_with fail
  refine (HMV.out _ HW.out).mono ?_
  rintro e wq ⟨rfl, hB1⟩
  have HN1 := Aside0.mk (blk_below HN.out hB1)
  have HS1 := Aside0.mk (blk_below HS.out hB1)
  have HM1 := Aside0.mk (blk_below HM.out hB1)
  have HR1 := Aside0.mk (blk_below HR.out hB1)
  have HW1 := Aside0.mk (below_step HW.out hB1)
  have hsz := blk_lt HR1.out
  clear hB1 HN HS HM HR HW HMV
  go_upto_region 2 with (refine wpList_store_agg rfl 24 (.tmp 9) (.tmp 14) rfl wq.heap.size 0 ?q4a (nums .i64 M) ?q4b _ 24 (blk_new wq (Obj.cells #[.int .i64 0, .int .i64 0, .int .i64 0, .int .i64 0, .int .i64 0, .int .i64 0, .int .i64 0, .int .i64 0, .int .i64 0, .int .i64 0, .int .i64 0, .int .i64 0, .int .i64 0, .int .i64 0, .int .i64 0, .int .i64 0, .int .i64 0, .int .i64 0, .int .i64 0, .int .i64 0, .int .i64 0, .int .i64 0, .int .i64 0, .int .i64 0, .int .i64 0, .int .i64 0, .int .i64 0] 24)) ?q4c (nums_one _) ?q4d ?q4e)
  case q4a => rfl
  case q4b => rfl
  case q4c => rw [nums_length, LM.out]; exact Nat.le_refl _
  case q4d =>
    rw [nums_length, LM.out]
    exact info24
  have h1 := putCells_block (nums .i64 M) (wq.alloc (Obj.cells #[.int .i64 0, .int .i64 0, .int .i64 0, .int .i64 0, .int .i64 0, .int .i64 0, .int .i64 0, .int .i64 0, .int .i64 0, .int .i64 0, .int .i64 0, .int .i64 0, .int .i64 0, .int .i64 0, .int .i64 0, .int .i64 0, .int .i64 0, .int .i64 0, .int .i64 0, .int .i64 0, .int .i64 0, .int .i64 0, .int .i64 0, .int .i64 0, .int .i64 0, .int .i64 0, .int .i64 0] 24)) wq.heap.size 0 _ 24 (blk_new wq (Obj.cells #[.int .i64 0, .int .i64 0, .int .i64 0, .int .i64 0, .int .i64 0, .int .i64 0, .int .i64 0, .int .i64 0, .int .i64 0, .int .i64 0, .int .i64 0, .int .i64 0, .int .i64 0, .int .i64 0, .int .i64 0, .int .i64 0, .int .i64 0, .int .i64 0, .int .i64 0, .int .i64 0, .int .i64 0, .int .i64 0, .int .i64 0, .int .i64 0, .int .i64 0, .int .i64 0, .int .i64 0] 24))
  rw [splice_whole _ (nums .i64 M) (by rw [nums_length, LM.out]; rfl)] at h1
  have h3 := putCells_below (nums .i64 M) w (wq.alloc (Obj.cells #[.int .i64 0, .int .i64 0, .int .i64 0, .int .i64 0, .int .i64 0, .int .i64 0, .int .i64 0, .int .i64 0, .int .i64 0, .int .i64 0, .int .i64 0, .int .i64 0, .int .i64 0, .int .i64 0, .int .i64 0, .int .i64 0, .int .i64 0, .int .i64 0, .int .i64 0, .int .i64 0, .int .i64 0, .int .i64 0, .int .i64 0, .int .i64 0, .int .i64 0, .int .i64 0, .int .i64 0] 24)) w.heap.size wq.heap.size 0 HW1.out.size (HW1.out.alloc HW1.out.size (Obj.cells #[.int .i64 0, .int .i64 0, .int .i64 0, .int .i64 0, .int .i64 0, .int .i64 0, .int .i64 0, .int .i64 0, .int .i64 0, .int .i64 0, .int .i64 0, .int .i64 0, .int .i64 0, .int .i64 0, .int .i64 0, .int .i64 0, .int .i64 0, .int .i64 0, .int .i64 0, .int .i64 0, .int .i64 0, .int .i64 0, .int .i64 0, .int .i64 0, .int .i64 0, .int .i64 0, .int .i64 0] 24))
  have hk0 := (putCells_other (nums .i64 M) (wq.alloc (Obj.cells #[.int .i64 0, .int .i64 0, .int .i64 0, .int .i64 0, .int .i64 0, .int .i64 0, .int .i64 0, .int .i64 0, .int .i64 0, .int .i64 0, .int .i64 0, .int .i64 0, .int .i64 0, .int .i64 0, .int .i64 0, .int .i64 0, .int .i64 0, .int .i64 0, .int .i64 0, .int .i64 0, .int .i64 0, .int .i64 0, .int .i64 0, .int .i64 0, .int .i64 0, .int .i64 0, .int .i64 0] 24)) wq.heap.size 0 _ (Nat.ne_of_lt (blk_lt HN1.out))).trans (blk_alloc HN1.out (Obj.cells #[.int .i64 0, .int .i64 0, .int .i64 0, .int .i64 0, .int .i64 0, .int .i64 0, .int .i64 0, .int .i64 0, .int .i64 0, .int .i64 0, .int .i64 0, .int .i64 0, .int .i64 0, .int .i64 0, .int .i64 0, .int .i64 0, .int .i64 0, .int .i64 0, .int .i64 0, .int .i64 0, .int .i64 0, .int .i64 0, .int .i64 0, .int .i64 0, .int .i64 0, .int .i64 0, .int .i64 0] 24))
  have hk1 := (putCells_other (nums .i64 M) (wq.alloc (Obj.cells #[.int .i64 0, .int .i64 0, .int .i64 0, .int .i64 0, .int .i64 0, .int .i64 0, .int .i64 0, .int .i64 0, .int .i64 0, .int .i64 0, .int .i64 0, .int .i64 0, .int .i64 0, .int .i64 0, .int .i64 0, .int .i64 0, .int .i64 0, .int .i64 0, .int .i64 0, .int .i64 0, .int .i64 0, .int .i64 0, .int .i64 0, .int .i64 0, .int .i64 0, .int .i64 0, .int .i64 0] 24)) wq.heap.size 0 _ (Nat.ne_of_lt (blk_lt HS1.out))).trans (blk_alloc HS1.out (Obj.cells #[.int .i64 0, .int .i64 0, .int .i64 0, .int .i64 0, .int .i64 0, .int .i64 0, .int .i64 0, .int .i64 0, .int .i64 0, .int .i64 0, .int .i64 0, .int .i64 0, .int .i64 0, .int .i64 0, .int .i64 0, .int .i64 0, .int .i64 0, .int .i64 0, .int .i64 0, .int .i64 0, .int .i64 0, .int .i64 0, .int .i64 0, .int .i64 0, .int .i64 0, .int .i64 0, .int .i64 0] 24))
  have hk2 := (putCells_other (nums .i64 M) (wq.alloc (Obj.cells #[.int .i64 0, .int .i64 0, .int .i64 0, .int .i64 0, .int .i64 0, .int .i64 0, .int .i64 0, .int .i64 0, .int .i64 0, .int .i64 0, .int .i64 0, .int .i64 0, .int .i64 0, .int .i64 0, .int .i64 0, .int .i64 0, .int .i64 0, .int .i64 0, .int .i64 0, .int .i64 0, .int .i64 0, .int .i64 0, .int .i64 0, .int .i64 0, .int .i64 0, .int .i64 0, .int .i64 0] 24)) wq.heap.size 0 _ (Nat.ne_of_lt (blk_lt HM1.out))).trans (blk_alloc HM1.out (Obj.cells #[.int .i64 0, .int .i64 0, .int .i64 0, .int .i64 0, .int .i64 0, .int .i64 0, .int .i64 0, .int .i64 0, .int .i64 0, .int .i64 0, .int .i64 0, .int .i64 0, .int .i64 0, .int .i64 0, .int .i64 0, .int .i64 0, .int .i64 0, .int .i64 0, .int .i64 0, .int .i64 0, .int .i64 0, .int .i64 0, .int .i64 0, .int .i64 0, .int .i64 0, .int .i64 0, .int .i64 0] 24))
  have hk3 := (putCells_other (nums .i64 M) (wq.alloc (Obj.cells #[.int .i64 0, .int .i64 0, .int .i64 0, .int .i64 0, .int .i64 0, .int .i64 0, .int .i64 0, .int .i64 0, .int .i64 0, .int .i64 0, .int .i64 0, .int .i64 0, .int .i64 0, .int .i64 0, .int .i64 0, .int .i64 0, .int .i64 0, .int .i64 0, .int .i64 0, .int .i64 0, .int .i64 0, .int .i64 0, .int .i64 0, .int .i64 0, .int .i64 0, .int .i64 0, .int .i64 0] 24)) wq.heap.size 0 _ (Nat.ne_of_lt (blk_lt HR1.out))).trans (blk_alloc HR1.out (Obj.cells #[.int .i64 0, .int .i64 0, .int .i64 0, .int .i64 0, .int .i64 0, .int .i64 0, .int .i64 0, .int .i64 0, .int .i64 0, .int .i64 0, .int .i64 0, .int .i64 0, .int .i64 0, .int .i64 0, .int .i64 0, .int .i64 0, .int .i64 0, .int .i64 0, .int .i64 0, .int .i64 0, .int .i64 0, .int .i64 0, .int .i64 0, .int .i64 0, .int .i64 0, .int .i64 0, .int .i64 0] 24))
  generalize (putCells (wq.alloc (Obj.cells #[.int .i64 0, .int .i64 0, .int .i64 0, .int .i64 0, .int .i64 0, .int .i64 0, .int .i64 0, .int .i64 0, .int .i64 0, .int .i64 0, .int .i64 0, .int .i64 0, .int .i64 0, .int .i64 0, .int .i64 0, .int .i64 0, .int .i64 0, .int .i64 0, .int .i64 0, .int .i64 0, .int .i64 0, .int .i64 0, .int .i64 0, .int .i64 0, .int .i64 0, .int .i64 0, .int .i64 0] 24)) wq.heap.size 0 (nums .i64 M)) = U at h1 h3 hk0 hk1 hk2 hk3 ⊢
  have UN := Aside0.mk h1
  have UB := Aside0.mk h3
  have UK0 := Aside0.mk hk0
  have UK1 := Aside0.mk hk1
  have UK2 := Aside0.mk hk2
  have UK3 := Aside0.mk hk3
  clear h1 h3 hk0 hk1 hk2 hk3
  clear HN1 HS1 HM1 HR1 HW1
  go_wp2
  go_loopw [10] (fun v wr => ∃ i : Nat, i ≤ 27 ∧ v = .int .i64 i ∧ Aside0 (wr.heap[wq.heap.size]? = some (Obj.cells (nums .i64 (F i)).toArray 24)) ∧ Aside0 (wr.heap[w.heap.size]? = some (Obj.cells (nums .i64 now).toArray 24)) ∧ Aside0 (wr.heap[w.heap.size + 1]? = some (Obj.cells (nums .i64 was).toArray 24)) ∧ Aside0 (wr.heap[w.heap.size + 2]? = some (Obj.cells (nums .i64 made).toArray 24)) ∧ Aside0 (wr.heap[w.heap.size + 3]? = some (Obj.cells #[.int .i64 0, .int .i64 0, .int .i64 0, .int .i64 0, .int .i64 0, .int .i64 0, .int .i64 0, .int .i64 0, .int .i64 0, .int .i64 0, .int .i64 0, .int .i64 0, .int .i64 0, .int .i64 0, .int .i64 0, .int .i64 0, .int .i64 0, .int .i64 0, .int .i64 0, .int .i64 0, .int .i64 0, .int .i64 0, .int .i64 0, .int .i64 0, .int .i64 0, .int .i64 0, .int .i64 0] 24 (0, 0))) ∧ Aside0 (Below w.heap.size w wr)) (fun v _ => 27 - (intOf v).toNat)
  case atStart => exact ⟨0, by omega, rfl, ⟨by rw [H0.out]; exact UN.out⟩, UK0, UK1, UK2, UK3, UB⟩
  case round =>
    obtain ⟨i, hi, rfl, HFr, HNr, HSr, HMr, HRr, HWr⟩ := hrel
    clear UN UK0 UK1 UK2 UK3 UB
    by_cases hlt : i < 27
    · have hlt' : ((i : Int) ≤ 26) = True := eq_true (by omega)
      have HYi := Aside0.mk (HY.out i hlt)
      have HNi := Aside0.mk (HNO.out i hlt)
      have HLi := Aside0.mk (HLN.out i hi)
      have HLj := Aside0.mk (HLN.out (i + 1) (by omega))
      have HA1 := Aside0.mk (fun W => at_calls now L1.out i (by omega) W)
      have HA2 := Aside0.mk (fun W => at_calls made L3.out i (by omega) W)
      have HA3 := Aside0.mk (fun W => at_calls was L2.out i (by omega) W)
      generalize now[i]?.getD 0 = x at HYi HNi HA1
      generalize made[i]?.getD 0 = y at HYi HNi HA2
      generalize was[i]?.getD 0 = z at HYi HA3
      by_cases hxy : x = y
      · subst hxy
        go_upto_region 5 with (fail)
        refine start_ (n := 7) (S := fun w' => w'.heap[wq.heap.size]? = some (Obj.cells (nums .i64 (F i)).toArray 24) ∧ w'.heap[w.heap.size]? = some (Obj.cells (nums .i64 now).toArray 24) ∧ w'.heap[w.heap.size + 1]? = some (Obj.cells (nums .i64 was).toArray 24) ∧ w'.heap[w.heap.size + 2]? = some (Obj.cells (nums .i64 made).toArray 24) ∧ w'.heap[w.heap.size + 3]? = some (Obj.cells #[.int .i64 0, .int .i64 0, .int .i64 0, .int .i64 0, .int .i64 0, .int .i64 0, .int .i64 0, .int .i64 0, .int .i64 0, .int .i64 0, .int .i64 0, .int .i64 0, .int .i64 0, .int .i64 0, .int .i64 0, .int .i64 0, .int .i64 0, .int .i64 0, .int .i64 0, .int .i64 0, .int .i64 0, .int .i64 0, .int .i64 0, .int .i64 0, .int .i64 0, .int .i64 0, .int .i64 0] 24 (0, 0)) ∧ Below w.heap.size w w') (ds := []) #[false, false, false, false, false, false, false] (by kernel_rfl) rfl rfl ⟨blk_drew HFr.out, blk_drew HNr.out, blk_drew HSr.out, blk_drew HMr.out, blk_drew HRr.out, HWr.out.drew⟩ (fun hHeld => ?_)
        refine take_ (i := 0) (N := some 19) (v := (.agg (nums .i64 now).toArray)) (a' := ?_) #[true, false, false, false, false, false, false] rfl rfl (by kernel_rfl) (fun _ _ _ h => h) (Or.inl ⟨by rfl, by rintro w' ⟨s0, s1, s2, s3, s4, s5⟩; exact run_load_agg_op 24 (.tmp 4) rfl ⟨w.heap.size, 0, none⟩ rfl (nums .i64 now) _ (fun j v hj => by rw [add_plain', Nat.zero_add, blk_cell s1]; simpa using hj) Try.underlying24 rfl (by rw [nums_length, L1.out]; exact info24)⟩) hHeld ?_ ?_
        rotate_left
        · simp only [Act.put, List.setIfInBounds_toArray, List.set_cons_zero, List.set_cons_succ, i64_w, i32_w]
          rfl
        refine pure_ (i := 1) (N := some 20) (v := ?_) (a' := ?_) #[true, true, false, false, false, false, false] rfl rfl (by kernel_rfl) (fun _ _ _ h => h) (Or.inl ⟨by rfl, ?_⟩) ?_ ?_
        rotate_left
        · intro w'
          go_simp
          with_reducible rfl
        rotate_left
        · simp only [Act.put, List.setIfInBounds_toArray, List.set_cons_zero, List.set_cons_succ, i64_w, i32_w]
          rfl
        refine take_ (i := 3) (N := some 22) (v := (.agg (nums .i64 made).toArray)) (a' := ?_) #[true, true, false, true, false, false, false] rfl rfl (by kernel_rfl) (fun _ _ _ h => h) (Or.inl ⟨by rfl, by rintro w' ⟨s0, s1, s2, s3, s4, s5⟩; exact run_load_agg_op 24 (.tmp 6) rfl ⟨w.heap.size + 2, 0, none⟩ rfl (nums .i64 made) _ (fun j v hj => by rw [add_plain', Nat.zero_add, blk_cell s3]; simpa using hj) Try.underlying24 rfl (by rw [nums_length, L3.out]; exact info24)⟩) hHeld ?_ ?_
        rotate_left
        · simp only [Act.put, List.setIfInBounds_toArray, List.set_cons_zero, List.set_cons_succ, i64_w, i32_w]
          rfl
        refine pure_ (i := 4) (N := some 23) (v := ?_) (a' := ?_) #[true, true, false, true, true, false, false] rfl rfl (by kernel_rfl) (fun _ _ _ h => h) (Or.inl ⟨by rfl, ?_⟩) ?_ ?_
        rotate_left
        · intro w'
          go_simp
          with_reducible rfl
        rotate_left
        · simp only [Act.put, List.setIfInBounds_toArray, List.set_cons_zero, List.set_cons_succ, i64_w, i32_w]
          rfl
        refine one_ (i := 2) (N := some 21) #[true, true, true, true, true, false, false] rfl rfl (by kernel_rfl) (by decide) (fun K hK => ?_)
        refine goes_ Try.func36 (by kernel_rfl) rfl #[mv now, .int .i64 i] (by rfl) rfl rfl (by simp [Act.eval]) ?_
        refine (HA1.out _).mono ?_
        rintro e w1 ⟨rfl, hB1⟩
        refine ⟨_, rfl, ?_⟩
        refine hK.out _ _ ⟨blk_below hHeld.1 hB1, blk_below hHeld.2.1 hB1, blk_below hHeld.2.2.1 hB1, blk_below hHeld.2.2.2.1 hB1, blk_below hHeld.2.2.2.2.1 hB1, below_step hHeld.2.2.2.2.2 hB1⟩ (fun hHeld => ?_)
        clear hK K
        refine norm_ (a' := ?_) ?_ ?_
        rotate_left
        · show Act.put _ (some 21) _ = _
          simp only [Act.put, List.setIfInBounds_toArray, List.set_cons_zero, List.set_cons_succ, i64_w, i32_w]
          rfl
        refine one_ (i := 5) (N := some 24) #[true, true, true, true, true, true, false] rfl rfl (by kernel_rfl) (by decide) (fun K hK => ?_)
        refine goes_ Try.func36 (by kernel_rfl) rfl #[mv made, .int .i64 i] (by rfl) rfl rfl (by simp [Act.eval]) ?_
        refine (HA2.out _).mono ?_
        rintro e w1 ⟨rfl, hB1⟩
        refine ⟨_, rfl, ?_⟩
        refine hK.out _ _ ⟨blk_below hHeld.1 hB1, blk_below hHeld.2.1 hB1, blk_below hHeld.2.2.1 hB1, blk_below hHeld.2.2.2.1 hB1, blk_below hHeld.2.2.2.2.1 hB1, below_step hHeld.2.2.2.2.2 hB1⟩ (fun hHeld => ?_)
        clear hK K
        refine norm_ (a' := ?_) ?_ ?_
        rotate_left
        · show Act.put _ (some 24) _ = _
          simp only [Act.put, List.setIfInBounds_toArray, List.set_cons_zero, List.set_cons_succ, i64_w, i32_w]
          rfl
        refine pure_ (i := 6) (N := some 25) (v := ?_) (a' := ?_) #[true, true, true, true, true, true, true] rfl rfl (by kernel_rfl) (fun _ _ _ h => h) (Or.inl ⟨by rfl, ?_⟩) ?_ ?_
        rotate_left
        · intro w'
          go_simp
          with_reducible rfl
        rotate_left
        · simp only [Act.put, List.setIfInBounds_toArray, List.set_cons_zero, List.set_cons_succ, i64_w, i32_w]
          rfl
        refine done_ (by kernel_rfl) ?_
        have K1 := Aside0.mk hHeld.1
        have K2 := Aside0.mk hHeld.2.1
        have K3 := Aside0.mk hHeld.2.2.1
        have K4 := Aside0.mk hHeld.2.2.2.1
        have K5 := Aside0.mk hHeld.2.2.2.2.1
        have K6 := Aside0.mk hHeld.2.2.2.2.2
        clear hHeld HFr HNr HSr HMr HRr HWr
        go_wp2_with (refine wpList_load_agg rfl 24 (.tmp 5) rfl ⟨w.heap.size + 1, 0, none⟩ ?y3a (nums .i64 was) _ ?y3b Try.underlying24 rfl ?y3c ?y3d)
        case y3b =>
          intro j v hj
          (first | rw [add_plain', Nat.zero_add] | skip); rw [blk_cell K3.out]
          simpa using hj
        case y3c =>
          rw [nums_length, L2.out]
          (first | exact info24 | exact Option.map_eq_some_iff.1 info24)
        refine (HA3.out _).mono ?_
        rintro e w2 ⟨rfl, hB2⟩
        have J1 := Aside0.mk (blk_below K1.out hB2)
        have J2 := Aside0.mk (blk_below K2.out hB2)
        have J3 := Aside0.mk (blk_below K3.out hB2)
        have J4 := Aside0.mk (blk_below K4.out hB2)
        have J5 := Aside0.mk (blk_below K5.out hB2)
        have J6 := Aside0.mk (below_step K6.out hB2)
        clear hB2 K1 K2 K3 K4 K5 K6
        go_wp2_with (refine wpList_load_agg rfl 24 (.tmp 9) rfl ⟨wq.heap.size, 0, none⟩ ?y4a (nums .i64 (F i)) _ ?y4b Try.underlying24 rfl ?y4c ?y4d)
        case y4a => rfl
        case y4b =>
          intro j v hj
          rw [add_plain', Nat.zero_add, blk_cell J1.out]
          simpa using hj
        case y4c =>
          rw [nums_length, HLi.out]
          exact info24
        refine (with_calls (F i) HLi.out i (by omega) _ _).mono ?_
        rintro e w3 ⟨rfl, hB3⟩
        rw [HYi.out (by trivial)]
        have I1 := Aside0.mk (blk_below J1.out hB3)
        have I2 := Aside0.mk (blk_below J2.out hB3)
        have I3 := Aside0.mk (blk_below J3.out hB3)
        have I4 := Aside0.mk (blk_below J4.out hB3)
        have I5 := Aside0.mk (blk_below J5.out hB3)
        have I6 := Aside0.mk (below_step J6.out hB3)
        clear hB3 J1 J2 J3 J4 J5 J6
        go_wp2_with (refine wpList_store_agg rfl 24 (.tmp 9) (.tmp 32) rfl (wq.heap.size) 0 ?x5e (nums .i64 (F (i + 1))) ?x5f _ 24 I1.out ?x5h (nums_one _) ?x5j ?x5k)
        case x5e => rfl
        case x5f => rfl
        case x5h => rw [nums_length, HLj.out, List.size_toArray, nums_length, HLi.out]; exact Nat.le_refl _
        case x5j =>
          rw [nums_length, HLj.out]
          exact info24
        have h1 := putCells_block (nums .i64 (F (i + 1))) w3 (wq.heap.size) 0 _ 24 I1.out
        rw [splice_whole _ (nums .i64 (F (i + 1))) (by rw [nums_length, HLj.out, List.size_toArray, nums_length, HLi.out])] at h1
        have M1 := Aside0.mk h1
        have M2 := Aside0.mk ((putCells_other (nums .i64 (F (i + 1))) w3 wq.heap.size 0 (w.heap.size) (by omega)).trans I2.out)
        have M3 := Aside0.mk ((putCells_other (nums .i64 (F (i + 1))) w3 wq.heap.size 0 (w.heap.size + 1) (by omega)).trans I3.out)
        have M4 := Aside0.mk ((putCells_other (nums .i64 (F (i + 1))) w3 wq.heap.size 0 (w.heap.size + 2) (by omega)).trans I4.out)
        have M5 := Aside0.mk ((putCells_other (nums .i64 (F (i + 1))) w3 wq.heap.size 0 (w.heap.size + 3) (by omega)).trans I5.out)
        have M6 := Aside0.mk (putCells_below (nums .i64 (F (i + 1))) w w3 w.heap.size wq.heap.size 0 (by omega) I6.out)
        clear h1 I1 I2 I3 I4 I5 I6
        go_roundw
        case measure => simp [intOf]; omega
        case rel => exact ⟨i + 1, by omega, by go_num, M1, M2, M3, M4, M5, M6⟩
      · have hne : (x == y) = false := beq_eq_false_iff_ne.2 hxy
        go_upto_region 5 with (fail)
        refine start_ (n := 7) (S := fun w' => w'.heap[wq.heap.size]? = some (Obj.cells (nums .i64 (F i)).toArray 24) ∧ w'.heap[w.heap.size]? = some (Obj.cells (nums .i64 now).toArray 24) ∧ w'.heap[w.heap.size + 1]? = some (Obj.cells (nums .i64 was).toArray 24) ∧ w'.heap[w.heap.size + 2]? = some (Obj.cells (nums .i64 made).toArray 24) ∧ w'.heap[w.heap.size + 3]? = some (Obj.cells #[.int .i64 0, .int .i64 0, .int .i64 0, .int .i64 0, .int .i64 0, .int .i64 0, .int .i64 0, .int .i64 0, .int .i64 0, .int .i64 0, .int .i64 0, .int .i64 0, .int .i64 0, .int .i64 0, .int .i64 0, .int .i64 0, .int .i64 0, .int .i64 0, .int .i64 0, .int .i64 0, .int .i64 0, .int .i64 0, .int .i64 0, .int .i64 0, .int .i64 0, .int .i64 0, .int .i64 0] 24 (0, 0)) ∧ Below w.heap.size w w') (ds := []) #[false, false, false, false, false, false, false] (by kernel_rfl) rfl rfl ⟨blk_drew HFr.out, blk_drew HNr.out, blk_drew HSr.out, blk_drew HMr.out, blk_drew HRr.out, HWr.out.drew⟩ (fun hHeld => ?_)
        refine take_ (i := 0) (N := some 19) (v := (.agg (nums .i64 now).toArray)) (a' := ?_) #[true, false, false, false, false, false, false] rfl rfl (by kernel_rfl) (fun _ _ _ h => h) (Or.inl ⟨by rfl, by rintro w' ⟨s0, s1, s2, s3, s4, s5⟩; exact run_load_agg_op 24 (.tmp 4) rfl ⟨w.heap.size, 0, none⟩ rfl (nums .i64 now) _ (fun j v hj => by rw [add_plain', Nat.zero_add, blk_cell s1]; simpa using hj) Try.underlying24 rfl (by rw [nums_length, L1.out]; exact info24)⟩) hHeld ?_ ?_
        rotate_left
        · simp only [Act.put, List.setIfInBounds_toArray, List.set_cons_zero, List.set_cons_succ, i64_w, i32_w]
          rfl
        refine pure_ (i := 1) (N := some 20) (v := ?_) (a' := ?_) #[true, true, false, false, false, false, false] rfl rfl (by kernel_rfl) (fun _ _ _ h => h) (Or.inl ⟨by rfl, ?_⟩) ?_ ?_
        rotate_left
        · intro w'
          go_simp
          with_reducible rfl
        rotate_left
        · simp only [Act.put, List.setIfInBounds_toArray, List.set_cons_zero, List.set_cons_succ, i64_w, i32_w]
          rfl
        refine take_ (i := 3) (N := some 22) (v := (.agg (nums .i64 made).toArray)) (a' := ?_) #[true, true, false, true, false, false, false] rfl rfl (by kernel_rfl) (fun _ _ _ h => h) (Or.inl ⟨by rfl, by rintro w' ⟨s0, s1, s2, s3, s4, s5⟩; exact run_load_agg_op 24 (.tmp 6) rfl ⟨w.heap.size + 2, 0, none⟩ rfl (nums .i64 made) _ (fun j v hj => by rw [add_plain', Nat.zero_add, blk_cell s3]; simpa using hj) Try.underlying24 rfl (by rw [nums_length, L3.out]; exact info24)⟩) hHeld ?_ ?_
        rotate_left
        · simp only [Act.put, List.setIfInBounds_toArray, List.set_cons_zero, List.set_cons_succ, i64_w, i32_w]
          rfl
        refine pure_ (i := 4) (N := some 23) (v := ?_) (a' := ?_) #[true, true, false, true, true, false, false] rfl rfl (by kernel_rfl) (fun _ _ _ h => h) (Or.inl ⟨by rfl, ?_⟩) ?_ ?_
        rotate_left
        · intro w'
          go_simp
          with_reducible rfl
        rotate_left
        · simp only [Act.put, List.setIfInBounds_toArray, List.set_cons_zero, List.set_cons_succ, i64_w, i32_w]
          rfl
        refine one_ (i := 2) (N := some 21) #[true, true, true, true, true, false, false] rfl rfl (by kernel_rfl) (by decide) (fun K hK => ?_)
        refine goes_ Try.func36 (by kernel_rfl) rfl #[mv now, .int .i64 i] (by rfl) rfl rfl (by simp [Act.eval]) ?_
        refine (HA1.out _).mono ?_
        rintro e w1 ⟨rfl, hB1⟩
        refine ⟨_, rfl, ?_⟩
        refine hK.out _ _ ⟨blk_below hHeld.1 hB1, blk_below hHeld.2.1 hB1, blk_below hHeld.2.2.1 hB1, blk_below hHeld.2.2.2.1 hB1, blk_below hHeld.2.2.2.2.1 hB1, below_step hHeld.2.2.2.2.2 hB1⟩ (fun hHeld => ?_)
        clear hK K
        refine norm_ (a' := ?_) ?_ ?_
        rotate_left
        · show Act.put _ (some 21) _ = _
          simp only [Act.put, List.setIfInBounds_toArray, List.set_cons_zero, List.set_cons_succ, i64_w, i32_w]
          rfl
        refine one_ (i := 5) (N := some 24) #[true, true, true, true, true, true, false] rfl rfl (by kernel_rfl) (by decide) (fun K hK => ?_)
        refine goes_ Try.func36 (by kernel_rfl) rfl #[mv made, .int .i64 i] (by rfl) rfl rfl (by simp [Act.eval]) ?_
        refine (HA2.out _).mono ?_
        rintro e w1 ⟨rfl, hB1⟩
        refine ⟨_, rfl, ?_⟩
        refine hK.out _ _ ⟨blk_below hHeld.1 hB1, blk_below hHeld.2.1 hB1, blk_below hHeld.2.2.1 hB1, blk_below hHeld.2.2.2.1 hB1, blk_below hHeld.2.2.2.2.1 hB1, below_step hHeld.2.2.2.2.2 hB1⟩ (fun hHeld => ?_)
        clear hK K
        refine norm_ (a' := ?_) ?_ ?_
        rotate_left
        · show Act.put _ (some 24) _ = _
          simp only [Act.put, List.setIfInBounds_toArray, List.set_cons_zero, List.set_cons_succ, i64_w, i32_w]
          rfl
        refine pure_ (i := 6) (N := some 25) (v := ?_) (a' := ?_) #[true, true, true, true, true, true, true] rfl rfl (by kernel_rfl) (fun _ _ _ h => h) (Or.inl ⟨by rfl, ?_⟩) ?_ ?_
        rotate_left
        · intro w'
          go_simp
          with_reducible rfl
        rotate_left
        · simp only [Act.put, List.setIfInBounds_toArray, List.set_cons_zero, List.set_cons_succ, i64_w, i32_w]
          rfl
        refine done_ (by kernel_rfl) ?_
        have K1 := Aside0.mk hHeld.1
        have K2 := Aside0.mk hHeld.2.1
        have K3 := Aside0.mk hHeld.2.2.1
        have K4 := Aside0.mk hHeld.2.2.2.1
        have K5 := Aside0.mk hHeld.2.2.2.2.1
        have K6 := Aside0.mk hHeld.2.2.2.2.2
        clear hHeld HFr HNr HSr HMr HRr HWr
        go_wp2
        go_roundw
        case measure => simp [intOf]; omega
        case rel => exact ⟨i + 1, by omega, by go_num, ⟨by rw [← HNi.out hxy]; exact K1.out⟩, K2, K3, K4, K5, K6⟩
    · have hge : ((i : Int) ≤ 26) = False := eq_false (by omega)
      obtain rfl : i = 27 := by omega
      clear hge
      have HL27 := Aside0.mk (HLN.out 27 (Nat.le_refl _))
      go_wp2_with (first | (refine wpList_load_agg rfl 24 (.tmp 9) rfl ⟨wq.heap.size, 0, none⟩ ?z4a (nums .i64 (F 27)) _ ?z4b Try.underlying24 rfl ?z4c ?z4d) | (refine wpList_store_agg rfl 24 (.tmp 8) (.tmp 33) rfl ((w.heap.size + 3)) 0 ?z4e (nums .i64 (F 27)) ?z4f _ 24 (HRr.out) ?z4h ?z4i ?z4j ?z4k))
      case z4a => rfl
      case z4b =>
        intro j v hj
        rw [add_plain', Nat.zero_add, blk_cell HFr.out]
        simpa using hj
      case z4c =>
        rw [nums_length, HL27.out]
        exact info24
      case z4h => rw [nums_length, HL27.out]; exact Nat.le_refl _
      case z4i => exact nums_one _
      case z4j =>
        rw [nums_length, HL27.out]
        exact info24
      case z4k =>
        have hW := putCells_block (nums .i64 (F 27)) _ ((w.heap.size + 3)) 0 _ 24 HRr.out
        rw [splice_whole _ _ (by rw [nums_length, HL27.out]; rfl)] at hW
        refine bodyPost_ret (results_cell_row rfl _ _ ((w.heap.size + 3)) 24 _ (0, 0) _ rfl hW Try.underlying24 rfl ?_) rfl ⟨rfl, putCells_below _ _ _ _ _ _ (by omega) HWr.out⟩
        · rw [List.size_toArray, nums_length, HL27.out]
          exact info24
theorem ref_cross_calls (now was made : List Int) (es : List S42) (A : Option Addr) (c : Nat) (w : World) (hln : now.length = 27) (hlw : was.length = 27) (hlm : made.length = 27) (hr : k42.C w A es.length es) :
    Calls Try.prog 30 #[mv now, mv was, mv made, .slice A es.length c] w fun e w' => e = .returned (mv (crossR now was made (moveR es now))) ∧ Below w.heap.size w w' := by
  have hM : (moveR es now).length = 27 := by rw [moveR_len, hln]
  rw [← crossF_all now was made (moveR es now) hM]
  exact ref_cross_core now was made (moveR es now) (crossF now was made (moveR es now)) es A c w hln hlw hlm rfl hM (crossF_zero _ _ _ _) (fun i hi => crossF_len _ _ _ _ hM i hi) (fun i hi h => crossF_yes _ _ _ _ hM i hi h) (fun i hi h => crossF_no _ _ _ _ hM i hi h) hr

end Go.Proofs.Ytjmpmcgdfgfmfaa.Hand
