/- The walk of the law PinsNames: it answers true whatever the marks, the name and the place. No condition. -/
import Derived.Test.YtjmpmcgdfgfmfaaHand6
import Derived.Test.YtjmpmcgdfgfmfaaAwake
import Derived.Test.YtjmpmcgdfgfmfaaMarksEq
namespace Go.Proofs.Ytjmpmcgdfgfmfaa.Hand
open Go.RowKit Go.Proofs.Ytjmpmcgdfgfmfaa.Aggs Go.Proofs.YtjmpmcgdfgfmfaaW.PrintWords Go.Proofs.YtjmpmcgdfgfmfaaW.PrintLast Go.Proofs.YtjmpmcgdfgfmfaaW.PrintMore
set_option linter.unusedVariables false
set_option linter.unusedSimpArgs false
theorem setR_len (l : List Int) (hl : l.length = 27) (c x : Int) : (setR l c x).1.length = 27 := by
  unfold setR
  cases idx c with
  | none => rfl
  | some i =>
    simp only []
    split
    · rfl
    · simpa using hl
set_option maxHeartbeats 1000000 in
set_option maxRecDepth 100000 in
theorem names_core (l M : List Int) (E X F : Int) (hl : l.length = 27) (c x : Int) (h0 : 0 ≤ c) (h1 : c ≤ 255) (hM : M.length = 27) (hs : setR l c x = (M, E)) (hg : getR l c = (X, F)) (w : World) :
    Calls Try.prog 3 #[mv l, .int .u8 c, .int .i64 x] w fun e w' => e = .returned (.bool true) ∧ Below w.heap.size w w' := by
  have hne := fun W => marks_neq allOff rfl W
  have heq : Aside0 (∀ W, (binOp .eql 24 (.agg (nums .i64 M).toArray) (.agg (nums .i64 M).toArray)).run Try.prog W = .ok (.bool true) W) := Aside0.mk (fun W => marks_eql M hM W)
  have HL := Aside0.mk hl
  have HM := Aside0.mk hM
  have HS1 := Aside0.mk (fun W => hs ▸ ref_set_calls l hl c x h0 h1 W)
  have HS2 := Aside0.mk (fun W => hs ▸ set_calls l hl c x h0 h1 W)
  have HG1 := Aside0.mk (fun W => hg ▸ ref_get_calls l hl c h0 h1 W)
  have HG2 := Aside0.mk (fun W => hg ▸ get_calls l hl c h0 h1 W)
  clear hl hM hs hg h0 h1
  go_enter Try.func3, Try.ntmps3
  go_upto_region 1 with (fail)
  have hb := blk_new w (Obj.cells (nums .i64 l).toArray 24)
  have hB := (Below.refl w.heap.size w).alloc (Nat.le_refl _) (Obj.cells (nums .i64 l).toArray 24)
  generalize (w.alloc (Obj.cells (nums .i64 l).toArray 24)) = V at hb hB ⊢
  have HB := Aside0.mk hb
  have HW := Aside0.mk hB
  clear hb hB
  go_wp2_with fail
  refine (awake_calls _).mono ?_
  rintro e w1 ⟨rfl, hB1⟩
  have HB1 := Aside0.mk (blk_below HB.out hB1)
  have HW1 := Aside0.mk (below_step HW.out hB1)
  clear hB1 HB HW
  go_wp2_with fail
  refine (none_calls _).mono ?_
  rintro e w2 ⟨rfl, hB2⟩
  have HB2 := Aside0.mk (blk_below HB1.out hB2)
  have HW2 := Aside0.mk (below_step HW1.out hB2)
  clear hB2 HB1 HW1
  go_wp2_with fail
  refine (ref_none_calls _).mono ?_
  rintro e w3 ⟨rfl, hB3⟩
  have HB3 := Aside0.mk (blk_below HB2.out hB3)
  have HW3 := Aside0.mk (below_step HW2.out hB3)
  clear hB3 HB2 HW2
  go_wp2_with (refine wpList_load_agg rfl 24 (.tmp 3) rfl ⟨w.heap.size, 0, none⟩ ?q1a (nums .i64 l) _ ?q1b Try.underlying24 rfl ?q1c ?q1d)
  case q1a => rfl
  case q1b =>
    intro j v hj
    rw [add_plain', Nat.zero_add, blk_cell HB3.out]
    simpa using hj
  case q1c =>
    rw [nums_length, HL.out]
    exact info24
  refine (HS1.out _).mono ?_
  rintro e w4 ⟨rfl, hB4⟩
  have HB4 := Aside0.mk (blk_below HB3.out hB4)
  have HW4 := Aside0.mk (below_step HW3.out hB4)
  clear hB4 HB3 HW3
  go_upto_region 4 with (refine wpList_store_agg rfl 24 (.tmp 7) (.tmp 27) rfl w4.heap.size 0 ?q2a (nums .i64 M) ?q2b _ 24 (blk_new w4 (Obj.cells #[.int .i64 0, .int .i64 0, .int .i64 0, .int .i64 0, .int .i64 0, .int .i64 0, .int .i64 0, .int .i64 0, .int .i64 0, .int .i64 0, .int .i64 0, .int .i64 0, .int .i64 0, .int .i64 0, .int .i64 0, .int .i64 0, .int .i64 0, .int .i64 0, .int .i64 0, .int .i64 0, .int .i64 0, .int .i64 0, .int .i64 0, .int .i64 0, .int .i64 0, .int .i64 0, .int .i64 0] 24)) ?q2c (nums_one _) ?q2d ?q2e)
  case q2a => rfl
  case q2b => rfl
  case q2c => rw [nums_length, HM.out]; exact Nat.le_refl _
  case q2d =>
    rw [nums_length, HM.out]
    exact info24
  have h1 := putCells_block (nums .i64 M) (w4.alloc (Obj.cells #[.int .i64 0, .int .i64 0, .int .i64 0, .int .i64 0, .int .i64 0, .int .i64 0, .int .i64 0, .int .i64 0, .int .i64 0, .int .i64 0, .int .i64 0, .int .i64 0, .int .i64 0, .int .i64 0, .int .i64 0, .int .i64 0, .int .i64 0, .int .i64 0, .int .i64 0, .int .i64 0, .int .i64 0, .int .i64 0, .int .i64 0, .int .i64 0, .int .i64 0, .int .i64 0, .int .i64 0] 24)) w4.heap.size 0 _ 24 (blk_new w4 (Obj.cells #[.int .i64 0, .int .i64 0, .int .i64 0, .int .i64 0, .int .i64 0, .int .i64 0, .int .i64 0, .int .i64 0, .int .i64 0, .int .i64 0, .int .i64 0, .int .i64 0, .int .i64 0, .int .i64 0, .int .i64 0, .int .i64 0, .int .i64 0, .int .i64 0, .int .i64 0, .int .i64 0, .int .i64 0, .int .i64 0, .int .i64 0, .int .i64 0, .int .i64 0, .int .i64 0, .int .i64 0] 24))
  rw [splice_whole _ (nums .i64 M) (by rw [nums_length, HM.out]; rfl)] at h1
  have h3 := putCells_below (nums .i64 M) w (w4.alloc (Obj.cells #[.int .i64 0, .int .i64 0, .int .i64 0, .int .i64 0, .int .i64 0, .int .i64 0, .int .i64 0, .int .i64 0, .int .i64 0, .int .i64 0, .int .i64 0, .int .i64 0, .int .i64 0, .int .i64 0, .int .i64 0, .int .i64 0, .int .i64 0, .int .i64 0, .int .i64 0, .int .i64 0, .int .i64 0, .int .i64 0, .int .i64 0, .int .i64 0, .int .i64 0, .int .i64 0, .int .i64 0] 24)) w.heap.size w4.heap.size 0 HW4.out.size (HW4.out.alloc HW4.out.size (Obj.cells #[.int .i64 0, .int .i64 0, .int .i64 0, .int .i64 0, .int .i64 0, .int .i64 0, .int .i64 0, .int .i64 0, .int .i64 0, .int .i64 0, .int .i64 0, .int .i64 0, .int .i64 0, .int .i64 0, .int .i64 0, .int .i64 0, .int .i64 0, .int .i64 0, .int .i64 0, .int .i64 0, .int .i64 0, .int .i64 0, .int .i64 0, .int .i64 0, .int .i64 0, .int .i64 0, .int .i64 0] 24))
  have hk0 := (putCells_other (nums .i64 M) (w4.alloc (Obj.cells #[.int .i64 0, .int .i64 0, .int .i64 0, .int .i64 0, .int .i64 0, .int .i64 0, .int .i64 0, .int .i64 0, .int .i64 0, .int .i64 0, .int .i64 0, .int .i64 0, .int .i64 0, .int .i64 0, .int .i64 0, .int .i64 0, .int .i64 0, .int .i64 0, .int .i64 0, .int .i64 0, .int .i64 0, .int .i64 0, .int .i64 0, .int .i64 0, .int .i64 0, .int .i64 0, .int .i64 0] 24)) w4.heap.size 0 _ (Nat.ne_of_lt (blk_lt HB4.out))).trans (blk_alloc HB4.out (Obj.cells #[.int .i64 0, .int .i64 0, .int .i64 0, .int .i64 0, .int .i64 0, .int .i64 0, .int .i64 0, .int .i64 0, .int .i64 0, .int .i64 0, .int .i64 0, .int .i64 0, .int .i64 0, .int .i64 0, .int .i64 0, .int .i64 0, .int .i64 0, .int .i64 0, .int .i64 0, .int .i64 0, .int .i64 0, .int .i64 0, .int .i64 0, .int .i64 0, .int .i64 0, .int .i64 0, .int .i64 0] 24))
  generalize (putCells (w4.alloc (Obj.cells #[.int .i64 0, .int .i64 0, .int .i64 0, .int .i64 0, .int .i64 0, .int .i64 0, .int .i64 0, .int .i64 0, .int .i64 0, .int .i64 0, .int .i64 0, .int .i64 0, .int .i64 0, .int .i64 0, .int .i64 0, .int .i64 0, .int .i64 0, .int .i64 0, .int .i64 0, .int .i64 0, .int .i64 0, .int .i64 0, .int .i64 0, .int .i64 0, .int .i64 0, .int .i64 0, .int .i64 0] 24)) w4.heap.size 0 (nums .i64 M)) = U1 at h1 h3 hk0 ⊢
  have U1N := Aside0.mk h1
  have U1B := Aside0.mk h3
  have U1K0 := Aside0.mk hk0
  clear h1 h3 hk0
  go_wp2_with (refine wpList_load_agg rfl 24 (.tmp 3) rfl ⟨w.heap.size, 0, none⟩ ?q3a (nums .i64 l) _ ?q3b Try.underlying24 rfl ?q3c ?q3d)
  case q3a => rfl
  case q3b =>
    intro j v hj
    rw [add_plain', Nat.zero_add, blk_cell U1K0.out]
    simpa using hj
  case q3c =>
    rw [nums_length, HL.out]
    exact info24
  refine (HS2.out _).mono ?_
  rintro e w5 ⟨rfl, hB5⟩
  have HB5 := Aside0.mk (blk_below U1K0.out hB5)
  have HN5 := Aside0.mk (blk_below U1N.out hB5)
  have HW5 := Aside0.mk (below_step U1B.out hB5)
  clear hB5 U1K0 U1N U1B HB4 HW4
  go_upto_region 5 with (refine wpList_store_agg rfl 24 (.tmp 9) (.tmp 34) rfl w5.heap.size 0 ?q4a (nums .i64 M) ?q4b _ 24 (blk_new w5 (Obj.cells #[.int .i64 0, .int .i64 0, .int .i64 0, .int .i64 0, .int .i64 0, .int .i64 0, .int .i64 0, .int .i64 0, .int .i64 0, .int .i64 0, .int .i64 0, .int .i64 0, .int .i64 0, .int .i64 0, .int .i64 0, .int .i64 0, .int .i64 0, .int .i64 0, .int .i64 0, .int .i64 0, .int .i64 0, .int .i64 0, .int .i64 0, .int .i64 0, .int .i64 0, .int .i64 0, .int .i64 0] 24)) ?q4c (nums_one _) ?q4d ?q4e)
  case q4a => rfl
  case q4b => rfl
  case q4c => rw [nums_length, HM.out]; exact Nat.le_refl _
  case q4d =>
    rw [nums_length, HM.out]
    exact info24
  have h1 := putCells_block (nums .i64 M) (w5.alloc (Obj.cells #[.int .i64 0, .int .i64 0, .int .i64 0, .int .i64 0, .int .i64 0, .int .i64 0, .int .i64 0, .int .i64 0, .int .i64 0, .int .i64 0, .int .i64 0, .int .i64 0, .int .i64 0, .int .i64 0, .int .i64 0, .int .i64 0, .int .i64 0, .int .i64 0, .int .i64 0, .int .i64 0, .int .i64 0, .int .i64 0, .int .i64 0, .int .i64 0, .int .i64 0, .int .i64 0, .int .i64 0] 24)) w5.heap.size 0 _ 24 (blk_new w5 (Obj.cells #[.int .i64 0, .int .i64 0, .int .i64 0, .int .i64 0, .int .i64 0, .int .i64 0, .int .i64 0, .int .i64 0, .int .i64 0, .int .i64 0, .int .i64 0, .int .i64 0, .int .i64 0, .int .i64 0, .int .i64 0, .int .i64 0, .int .i64 0, .int .i64 0, .int .i64 0, .int .i64 0, .int .i64 0, .int .i64 0, .int .i64 0, .int .i64 0, .int .i64 0, .int .i64 0, .int .i64 0] 24))
  rw [splice_whole _ (nums .i64 M) (by rw [nums_length, HM.out]; rfl)] at h1
  have h3 := putCells_below (nums .i64 M) w (w5.alloc (Obj.cells #[.int .i64 0, .int .i64 0, .int .i64 0, .int .i64 0, .int .i64 0, .int .i64 0, .int .i64 0, .int .i64 0, .int .i64 0, .int .i64 0, .int .i64 0, .int .i64 0, .int .i64 0, .int .i64 0, .int .i64 0, .int .i64 0, .int .i64 0, .int .i64 0, .int .i64 0, .int .i64 0, .int .i64 0, .int .i64 0, .int .i64 0, .int .i64 0, .int .i64 0, .int .i64 0, .int .i64 0] 24)) w.heap.size w5.heap.size 0 HW5.out.size (HW5.out.alloc HW5.out.size (Obj.cells #[.int .i64 0, .int .i64 0, .int .i64 0, .int .i64 0, .int .i64 0, .int .i64 0, .int .i64 0, .int .i64 0, .int .i64 0, .int .i64 0, .int .i64 0, .int .i64 0, .int .i64 0, .int .i64 0, .int .i64 0, .int .i64 0, .int .i64 0, .int .i64 0, .int .i64 0, .int .i64 0, .int .i64 0, .int .i64 0, .int .i64 0, .int .i64 0, .int .i64 0, .int .i64 0, .int .i64 0] 24))
  have hk0 := (putCells_other (nums .i64 M) (w5.alloc (Obj.cells #[.int .i64 0, .int .i64 0, .int .i64 0, .int .i64 0, .int .i64 0, .int .i64 0, .int .i64 0, .int .i64 0, .int .i64 0, .int .i64 0, .int .i64 0, .int .i64 0, .int .i64 0, .int .i64 0, .int .i64 0, .int .i64 0, .int .i64 0, .int .i64 0, .int .i64 0, .int .i64 0, .int .i64 0, .int .i64 0, .int .i64 0, .int .i64 0, .int .i64 0, .int .i64 0, .int .i64 0] 24)) w5.heap.size 0 _ (Nat.ne_of_lt (blk_lt HB5.out))).trans (blk_alloc HB5.out (Obj.cells #[.int .i64 0, .int .i64 0, .int .i64 0, .int .i64 0, .int .i64 0, .int .i64 0, .int .i64 0, .int .i64 0, .int .i64 0, .int .i64 0, .int .i64 0, .int .i64 0, .int .i64 0, .int .i64 0, .int .i64 0, .int .i64 0, .int .i64 0, .int .i64 0, .int .i64 0, .int .i64 0, .int .i64 0, .int .i64 0, .int .i64 0, .int .i64 0, .int .i64 0, .int .i64 0, .int .i64 0] 24))
  have hk1 := (putCells_other (nums .i64 M) (w5.alloc (Obj.cells #[.int .i64 0, .int .i64 0, .int .i64 0, .int .i64 0, .int .i64 0, .int .i64 0, .int .i64 0, .int .i64 0, .int .i64 0, .int .i64 0, .int .i64 0, .int .i64 0, .int .i64 0, .int .i64 0, .int .i64 0, .int .i64 0, .int .i64 0, .int .i64 0, .int .i64 0, .int .i64 0, .int .i64 0, .int .i64 0, .int .i64 0, .int .i64 0, .int .i64 0, .int .i64 0, .int .i64 0] 24)) w5.heap.size 0 _ (Nat.ne_of_lt (blk_lt HN5.out))).trans (blk_alloc HN5.out (Obj.cells #[.int .i64 0, .int .i64 0, .int .i64 0, .int .i64 0, .int .i64 0, .int .i64 0, .int .i64 0, .int .i64 0, .int .i64 0, .int .i64 0, .int .i64 0, .int .i64 0, .int .i64 0, .int .i64 0, .int .i64 0, .int .i64 0, .int .i64 0, .int .i64 0, .int .i64 0, .int .i64 0, .int .i64 0, .int .i64 0, .int .i64 0, .int .i64 0, .int .i64 0, .int .i64 0, .int .i64 0] 24))
  generalize (putCells (w5.alloc (Obj.cells #[.int .i64 0, .int .i64 0, .int .i64 0, .int .i64 0, .int .i64 0, .int .i64 0, .int .i64 0, .int .i64 0, .int .i64 0, .int .i64 0, .int .i64 0, .int .i64 0, .int .i64 0, .int .i64 0, .int .i64 0, .int .i64 0, .int .i64 0, .int .i64 0, .int .i64 0, .int .i64 0, .int .i64 0, .int .i64 0, .int .i64 0, .int .i64 0, .int .i64 0, .int .i64 0, .int .i64 0] 24)) w5.heap.size 0 (nums .i64 M)) = U2 at h1 h3 hk0 hk1 ⊢
  have U2N := Aside0.mk h1
  have U2B := Aside0.mk h3
  have U2K0 := Aside0.mk hk0
  have U2K1 := Aside0.mk hk1
  clear h1 h3 hk0 hk1
  go_wp2_with (refine wpList_load_agg rfl 24 (.tmp 3) rfl ⟨w.heap.size, 0, none⟩ ?q5a (nums .i64 l) _ ?q5b Try.underlying24 rfl ?q5c ?q5d)
  case q5a => rfl
  case q5b =>
    intro j v hj
    rw [add_plain', Nat.zero_add, blk_cell U2K0.out]
    simpa using hj
  case q5c =>
    rw [nums_length, HL.out]
    exact info24
  refine (HG1.out _).mono ?_
  rintro e w6 ⟨rfl, hB6⟩
  have HB6 := Aside0.mk (blk_below U2K0.out hB6)
  have HN6 := Aside0.mk (blk_below U2K1.out hB6)
  have HP6 := Aside0.mk (blk_below U2N.out hB6)
  have HW6 := Aside0.mk (below_step U2B.out hB6)
  clear hB6 U2K0 U2K1 U2N U2B HB5 HN5 HW5
  go_wp2_with (refine wpList_load_agg rfl 24 (.tmp 3) rfl ⟨w.heap.size, 0, none⟩ ?q6a (nums .i64 l) _ ?q6b Try.underlying24 rfl ?q6c ?q6d)
  case q6a => rfl
  case q6b =>
    intro j v hj
    rw [add_plain', Nat.zero_add, blk_cell HB6.out]
    simpa using hj
  case q6c =>
    rw [nums_length, HL.out]
    exact info24
  refine (HG2.out _).mono ?_
  rintro e w7 ⟨rfl, hB7⟩
  have HN7 := Aside0.mk (blk_below HN6.out hB7)
  have HP7 := Aside0.mk (blk_below HP6.out hB7)
  have HW7 := Aside0.mk (below_step HW6.out hB7)
  clear hB7 HB6 HN6 HP6 HW6
  go_upto_region 7 with (fail)
  go_step
  refine wpList_load_agg rfl 24 (.tmp 9) rfl ⟨w5.heap.size, 0, none⟩ rfl (nums .i64 M) _ ?r2 Try.underlying24 rfl ?r3 ?r4
  case r2 =>
    intro j v hj
    rw [add_plain', Nat.zero_add, blk_cell HP7.out]
    simpa using hj
  case r3 =>
    rw [nums_length, HM.out]
    exact info24
  refine wpList_load_agg rfl 24 (.tmp 7) rfl ⟨w4.heap.size, 0, none⟩ rfl (nums .i64 M) _ ?r6 Try.underlying24 rfl ?r7 ?r8
  case r6 =>
    intro j v hj
    rw [add_plain', Nat.zero_add, blk_cell HN7.out]
    simpa using hj
  case r7 =>
    rw [nums_length, HM.out]
    exact info24
  refine wpList_eq_agg rfl .eql 24 24 (.tmp 48) (.tmp 49) rfl (nums .i64 M).toArray (nums .i64 M).toArray rfl rfl ?r11 (.bool true) (heq.out _) ?r12
  case r11 => kernel_rfl
  go_wp2
  go_ret
  exact ⟨rfl, HW7.out⟩
/-- The law, at any marks, name and place. -/
theorem names_calls (l : List Int) (c x : Int) (w : World) (hl : l.length = 27) (h0 : 0 ≤ c) (h1 : c ≤ 255) :
    Calls Try.prog 3 #[mv l, .int .u8 c, .int .i64 x] w fun e w' => e = .returned (.bool true) ∧ Below w.heap.size w w' :=
  names_core l _ _ _ _ hl c x h0 h1 (setR_len l hl c x) rfl rfl w
theorem u8_bounds {x : Int} (h : (Lit.int .u8 x).wf = true) : 0 ≤ x ∧ x ≤ 255 := by
  simpa [Lit.wf, IntKind.min, IntKind.max, IntKind.signed, IntKind.bits] using h
theorem names_row (ls : List Int) (n c x : Int) (w : World) (g1 : (ls.length = 26 ∧ ∀ x ∈ ls, (Lit.int .i64 x).wf = true) ∧ (Lit.int .i64 n).wf = true) (g2 : (Lit.int .u8 c).wf = true) (g3 : (Lit.int .i64 x).wf = true) :
    Calls Try.prog 3 #[.agg (nums .i64 ls ++ [Value.int .i64 n]).toArray, .int .u8 c, .int .i64 x] w fun e w' => e = .returned (.bool true) ∧ Below w.heap.size w w' := by
  have h := names_calls (ls ++ [n]) c x w (by simp [g1.1.1]) (u8_bounds g2).1 (u8_bounds g2).2
  have e : mv (ls ++ [n]) = .agg (nums .i64 ls ++ [Value.int .i64 n]).toArray := by
    show Value.agg (nums .i64 (ls ++ [n])).toArray = _
    simp [nums]
  rw [e] at h
  exact h
end Go.Proofs.Ytjmpmcgdfgfmfaa.Hand
