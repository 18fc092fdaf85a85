/- word.Move: what it answers. No condition but the sizes. -/
import Derived.Test.YtghoeadmimgfnaaMv
import Derived.Scope
namespace Go.Proofs.Ytghoeadmimgfnaa.Hand
open Go.RowKit Go.Proofs.Ytghoeadmimgfnaa.PWa Go.Proofs.Ytghoeadmimgfnaa.Aggs Go.Proofs.YtghoeadmimgfnaaW.PrintWords Go.Proofs.YtghoeadmimgfnaaW.PrintLast Go.Proofs.YtghoeadmimgfnaaW.PrintMore
set_option linter.unusedVariables false
set_option linter.unusedSimpArgs false
theorem max2_mx (k k' : IntKind) (x y : Int) : Builtin.max2 (.int k x) (.int k' y) = pure (.int k (mx x y)) := max2_int k k' x y
attribute [local go_sem] max2_mx max_two
/-- the number of a key -/
def kix (key : ByteArray) : Option Nat := if key.toList = ([119] : List UInt8) then some 0 else if key.toList = ([98] : List UInt8) then some 1 else if key.toList = ([101] : List UInt8) then some 2 else if key.toList = ([103, 101] : List UInt8) then some 3 else if key.toList = ([87] : List UInt8) then some 4 else if key.toList = ([66] : List UInt8) then some 5 else if key.toList = ([69] : List UInt8) then some 6 else if key.toList = ([103, 69] : List UInt8) then some 7 else none
def mwF (l : List Int) (at_ count : Int) (key : ByteArray) : Int × Int × Int × Int :=
  if at_ < 0 ∨ (l.length : Int) < at_ ∨ count < 0 ∨ 9999 < count then (0, 0, 0, 2) else match kix key with
    | some j => mvF l (decide (3 < j)) at_.toNat (mx count 1).toNat (j % 4)
    | none => (0, 0, 0, 2)
set_option maxHeartbeats 1000000 in
set_option maxRecDepth 100000 in
theorem Move0_ok (A : Option Addr) (c : Nat) (l : List Int) (at_ count : Nat) (w : World) (hr : Kd.C (Kd.int .u8) w A l.length l) (hl : l.length ≤ 1048576) (ha : at_ ≤ l.length) (hn2 : count ≤ 9999) :
    Calls Try.prog 10 #[.slice A l.length c, .int .i64 at_, .int .i64 count, .string ⟨#[119]⟩] w fun e w' => e = .returned (mvV (mvF l false at_ (max count 1) 0)) ∧ Below w.heap.size w w' := by
  have HR := Aside0.mk hr
  have HLn := Aside0.mk hl
  have f1 : decide ((at_ : Int) < 0) = false := decide_eq_false (by omega)
  have f2 : decide ((at_ : Int) > (l.length : Int)) = false := decide_eq_false (by omega)
  have f3 : decide ((count : Int) < 0) = false := decide_eq_false (by omega)
  have f4 : decide ((count : Int) > 9999) = false := decide_eq_false (by omega)
  have f5 : ((l.length : Int) < (at_ : Int)) = False := eq_false (by omega)
  have f6 : ((9999 : Int) < (count : Int)) = False := eq_false (by omega)
  have Ha := Aside0.mk ha
  have Hn := Aside0.mk hn2
  clear hr hl ha hn2
  go_enter Try.func10, Try.ntmps10
  go_wp2
  refine wp_scope_straight ?_
  go_wp2
  refine wp_label ?_
  go_wp2
  refine wp_loop_rounds 3 ?_
  rw [rounds_succ]
  go_wp2
  refine wp_loop_rounds 9 ?_
  rw [rounds_succ]
  go_wp2_with fail
  rw [show mx (count : Int) 1 = ((max count 1 : Nat) : Int) by unfold mx; split <;> omega]
  have hb1 := blk_new w (Obj.cells #[Value.int .i64 0, Value.int .i64 0, Value.int .i64 0] 27)
  have hB1 := (Below.refl w.heap.size w).alloc (Nat.le_refl _) (Obj.cells #[Value.int .i64 0, Value.int .i64 0, Value.int .i64 0] 27)
  have hb2 := blk_alloc (blk_alloc hb1 (Obj.cells #[Value.bool false, Value.bool true] 4)) (Obj.cells #[Value.string { data := #[119] }, Value.string { data := #[98] }, Value.string { data := #[101] }, Value.string { data := #[103, 101] }, Value.string { data := #[87] }, Value.string { data := #[66] }, Value.string { data := #[69] }, Value.string { data := #[103, 69] }] 9)
  have hB2 := (hB1.alloc (by simp) (Obj.cells #[Value.bool false, Value.bool true] 4)).alloc (by simp <;> omega) (Obj.cells #[Value.string { data := #[119] }, Value.string { data := #[98] }, Value.string { data := #[101] }, Value.string { data := #[103, 101] }, Value.string { data := #[87] }, Value.string { data := #[66] }, Value.string { data := #[69] }, Value.string { data := #[103, 69] }] 9)
  generalize ((w.alloc (Obj.cells #[Value.int .i64 0, Value.int .i64 0, Value.int .i64 0] 27)).alloc (Obj.cells #[Value.bool false, Value.bool true] 4)).alloc (Obj.cells #[Value.string { data := #[119] }, Value.string { data := #[98] }, Value.string { data := #[101] }, Value.string { data := #[103, 101] }, Value.string { data := #[87] }, Value.string { data := #[66] }, Value.string { data := #[69] }, Value.string { data := #[103, 69] }] 9) = W at hb2 hB2 ⊢
  have HB := Aside0.mk hb2
  have HW := Aside0.mk hB2
  clear hb1 hB1 hb2 hB2
  refine (move0_calls A c l false at_ (max count 1) W (Kd.C_below HR.out HW.out) HLn.out Ha.out (by omega) (by have := Hn.out; omega)).mono ?_
  rintro e w1 ⟨rfl, hB⟩
  have hb := blk_below HB.out hB
  have hW := below_step HW.out hB
  generalize hre : mvF l false at_ (max count 1) 0 = r
  obtain ⟨r0, r1, r2, r3⟩ := r
  have HB1 := Aside0.mk hb
  have HW1 := Aside0.mk hW
  clear hb hW hB HB HW
  unfold mvV
  simp only []
  go_wp2_with (first | (refine wpList_store_agg rfl 27 (.tmp 8) (.tmp 61) rfl w.heap.size 0 ?ze [.int .i64 r0, .int .i64 r1, .int .i64 r2] ?zf _ 27 HB1.out ?zh ?zi ?zj ?zk))
  case ze => rfl
  case zf => rfl
  case zh => exact Nat.le_refl _
  case zi => simp [Value.oneCell']
  case zj => kernel_rfl
  · skip
    have hW := putCells_block [.int .i64 r0, .int .i64 r1, .int .i64 r2] w1 w.heap.size 0 _ 27 (HB1.out)
    rw [splice_whole _ [.int .i64 r0, .int .i64 r1, .int .i64 r2] (by rfl)] at hW
    simp only [Exit.noGoto]
    refine bodyPost_ret (results_ct rfl _ _ w.heap.size 27 _ (0, 0) _ rfl hW Try.underlying27 rfl (by kernel_rfl)) rfl ⟨by rw [hre]; rfl, putCells_below _ _ _ _ _ _ (Nat.le_refl _) (HW1.out)⟩
set_option maxHeartbeats 1000000 in
set_option maxRecDepth 100000 in
theorem Move1_ok (A : Option Addr) (c : Nat) (l : List Int) (at_ count : Nat) (w : World) (hr : Kd.C (Kd.int .u8) w A l.length l) (hl : l.length ≤ 1048576) (ha : at_ ≤ l.length) (hn2 : count ≤ 9999) :
    Calls Try.prog 10 #[.slice A l.length c, .int .i64 at_, .int .i64 count, .string ⟨#[98]⟩] w fun e w' => e = .returned (mvV (mvF l false at_ (max count 1) 1)) ∧ Below w.heap.size w w' := by
  have HR := Aside0.mk hr
  have HLn := Aside0.mk hl
  have f1 : decide ((at_ : Int) < 0) = false := decide_eq_false (by omega)
  have f2 : decide ((at_ : Int) > (l.length : Int)) = false := decide_eq_false (by omega)
  have f3 : decide ((count : Int) < 0) = false := decide_eq_false (by omega)
  have f4 : decide ((count : Int) > 9999) = false := decide_eq_false (by omega)
  have f5 : ((l.length : Int) < (at_ : Int)) = False := eq_false (by omega)
  have f6 : ((9999 : Int) < (count : Int)) = False := eq_false (by omega)
  have Ha := Aside0.mk ha
  have Hn := Aside0.mk hn2
  clear hr hl ha hn2
  go_enter Try.func10, Try.ntmps10
  go_wp2
  refine wp_scope_straight ?_
  go_wp2
  refine wp_label ?_
  go_wp2
  refine wp_loop_rounds 3 ?_
  rw [rounds_succ]
  go_wp2
  refine wp_loop_rounds 9 ?_
  rw [rounds_succ]
  go_wp2_with fail
  rw [rounds_succ]
  go_wp2_with fail
  rw [show mx (count : Int) 1 = ((max count 1 : Nat) : Int) by unfold mx; split <;> omega]
  have hb1 := blk_new w (Obj.cells #[Value.int .i64 0, Value.int .i64 0, Value.int .i64 0] 27)
  have hB1 := (Below.refl w.heap.size w).alloc (Nat.le_refl _) (Obj.cells #[Value.int .i64 0, Value.int .i64 0, Value.int .i64 0] 27)
  have hb2 := blk_alloc (blk_alloc hb1 (Obj.cells #[Value.bool false, Value.bool true] 4)) (Obj.cells #[Value.string { data := #[119] }, Value.string { data := #[98] }, Value.string { data := #[101] }, Value.string { data := #[103, 101] }, Value.string { data := #[87] }, Value.string { data := #[66] }, Value.string { data := #[69] }, Value.string { data := #[103, 69] }] 9)
  have hB2 := (hB1.alloc (by simp) (Obj.cells #[Value.bool false, Value.bool true] 4)).alloc (by simp <;> omega) (Obj.cells #[Value.string { data := #[119] }, Value.string { data := #[98] }, Value.string { data := #[101] }, Value.string { data := #[103, 101] }, Value.string { data := #[87] }, Value.string { data := #[66] }, Value.string { data := #[69] }, Value.string { data := #[103, 69] }] 9)
  generalize ((w.alloc (Obj.cells #[Value.int .i64 0, Value.int .i64 0, Value.int .i64 0] 27)).alloc (Obj.cells #[Value.bool false, Value.bool true] 4)).alloc (Obj.cells #[Value.string { data := #[119] }, Value.string { data := #[98] }, Value.string { data := #[101] }, Value.string { data := #[103, 101] }, Value.string { data := #[87] }, Value.string { data := #[66] }, Value.string { data := #[69] }, Value.string { data := #[103, 69] }] 9) = W at hb2 hB2 ⊢
  have HB := Aside0.mk hb2
  have HW := Aside0.mk hB2
  clear hb1 hB1 hb2 hB2
  refine (move1_calls A c l false at_ (max count 1) W (Kd.C_below HR.out HW.out) HLn.out Ha.out (by omega) (by have := Hn.out; omega)).mono ?_
  rintro e w1 ⟨rfl, hB⟩
  have hb := blk_below HB.out hB
  have hW := below_step HW.out hB
  generalize hre : mvF l false at_ (max count 1) 1 = r
  obtain ⟨r0, r1, r2, r3⟩ := r
  have HB1 := Aside0.mk hb
  have HW1 := Aside0.mk hW
  clear hb hW hB HB HW
  unfold mvV
  simp only []
  go_wp2_with (first | (refine wpList_store_agg rfl 27 (.tmp 8) (.tmp 61) rfl w.heap.size 0 ?ze [.int .i64 r0, .int .i64 r1, .int .i64 r2] ?zf _ 27 HB1.out ?zh ?zi ?zj ?zk))
  case ze => rfl
  case zf => rfl
  case zh => exact Nat.le_refl _
  case zi => simp [Value.oneCell']
  case zj => kernel_rfl
  · skip
    have hW := putCells_block [.int .i64 r0, .int .i64 r1, .int .i64 r2] w1 w.heap.size 0 _ 27 (HB1.out)
    rw [splice_whole _ [.int .i64 r0, .int .i64 r1, .int .i64 r2] (by rfl)] at hW
    simp only [Exit.noGoto]
    refine bodyPost_ret (results_ct rfl _ _ w.heap.size 27 _ (0, 0) _ rfl hW Try.underlying27 rfl (by kernel_rfl)) rfl ⟨by rw [hre]; rfl, putCells_below _ _ _ _ _ _ (Nat.le_refl _) (HW1.out)⟩
set_option maxHeartbeats 1000000 in
set_option maxRecDepth 100000 in
theorem Move2_ok (A : Option Addr) (c : Nat) (l : List Int) (at_ count : Nat) (w : World) (hr : Kd.C (Kd.int .u8) w A l.length l) (hl : l.length ≤ 1048576) (ha : at_ ≤ l.length) (hn2 : count ≤ 9999) :
    Calls Try.prog 10 #[.slice A l.length c, .int .i64 at_, .int .i64 count, .string ⟨#[101]⟩] w fun e w' => e = .returned (mvV (mvF l false at_ (max count 1) 2)) ∧ Below w.heap.size w w' := by
  have HR := Aside0.mk hr
  have HLn := Aside0.mk hl
  have f1 : decide ((at_ : Int) < 0) = false := decide_eq_false (by omega)
  have f2 : decide ((at_ : Int) > (l.length : Int)) = false := decide_eq_false (by omega)
  have f3 : decide ((count : Int) < 0) = false := decide_eq_false (by omega)
  have f4 : decide ((count : Int) > 9999) = false := decide_eq_false (by omega)
  have f5 : ((l.length : Int) < (at_ : Int)) = False := eq_false (by omega)
  have f6 : ((9999 : Int) < (count : Int)) = False := eq_false (by omega)
  have Ha := Aside0.mk ha
  have Hn := Aside0.mk hn2
  clear hr hl ha hn2
  go_enter Try.func10, Try.ntmps10
  go_wp2
  refine wp_scope_straight ?_
  go_wp2
  refine wp_label ?_
  go_wp2
  refine wp_loop_rounds 3 ?_
  rw [rounds_succ]
  go_wp2
  refine wp_loop_rounds 9 ?_
  rw [rounds_succ]
  go_wp2_with fail
  rw [rounds_succ]
  go_wp2_with fail
  rw [rounds_succ]
  go_wp2_with fail
  rw [show mx (count : Int) 1 = ((max count 1 : Nat) : Int) by unfold mx; split <;> omega]
  have hb1 := blk_new w (Obj.cells #[Value.int .i64 0, Value.int .i64 0, Value.int .i64 0] 27)
  have hB1 := (Below.refl w.heap.size w).alloc (Nat.le_refl _) (Obj.cells #[Value.int .i64 0, Value.int .i64 0, Value.int .i64 0] 27)
  have hb2 := blk_alloc (blk_alloc hb1 (Obj.cells #[Value.bool false, Value.bool true] 4)) (Obj.cells #[Value.string { data := #[119] }, Value.string { data := #[98] }, Value.string { data := #[101] }, Value.string { data := #[103, 101] }, Value.string { data := #[87] }, Value.string { data := #[66] }, Value.string { data := #[69] }, Value.string { data := #[103, 69] }] 9)
  have hB2 := (hB1.alloc (by simp) (Obj.cells #[Value.bool false, Value.bool true] 4)).alloc (by simp <;> omega) (Obj.cells #[Value.string { data := #[119] }, Value.string { data := #[98] }, Value.string { data := #[101] }, Value.string { data := #[103, 101] }, Value.string { data := #[87] }, Value.string { data := #[66] }, Value.string { data := #[69] }, Value.string { data := #[103, 69] }] 9)
  generalize ((w.alloc (Obj.cells #[Value.int .i64 0, Value.int .i64 0, Value.int .i64 0] 27)).alloc (Obj.cells #[Value.bool false, Value.bool true] 4)).alloc (Obj.cells #[Value.string { data := #[119] }, Value.string { data := #[98] }, Value.string { data := #[101] }, Value.string { data := #[103, 101] }, Value.string { data := #[87] }, Value.string { data := #[66] }, Value.string { data := #[69] }, Value.string { data := #[103, 69] }] 9) = W at hb2 hB2 ⊢
  have HB := Aside0.mk hb2
  have HW := Aside0.mk hB2
  clear hb1 hB1 hb2 hB2
  refine (move2_calls A c l false at_ (max count 1) W (Kd.C_below HR.out HW.out) HLn.out Ha.out (by omega) (by have := Hn.out; omega)).mono ?_
  rintro e w1 ⟨rfl, hB⟩
  have hb := blk_below HB.out hB
  have hW := below_step HW.out hB
  generalize hre : mvF l false at_ (max count 1) 2 = r
  obtain ⟨r0, r1, r2, r3⟩ := r
  have HB1 := Aside0.mk hb
  have HW1 := Aside0.mk hW
  clear hb hW hB HB HW
  unfold mvV
  simp only []
  go_wp2_with (first | (refine wpList_store_agg rfl 27 (.tmp 8) (.tmp 61) rfl w.heap.size 0 ?ze [.int .i64 r0, .int .i64 r1, .int .i64 r2] ?zf _ 27 HB1.out ?zh ?zi ?zj ?zk))
  case ze => rfl
  case zf => rfl
  case zh => exact Nat.le_refl _
  case zi => simp [Value.oneCell']
  case zj => kernel_rfl
  · skip
    have hW := putCells_block [.int .i64 r0, .int .i64 r1, .int .i64 r2] w1 w.heap.size 0 _ 27 (HB1.out)
    rw [splice_whole _ [.int .i64 r0, .int .i64 r1, .int .i64 r2] (by rfl)] at hW
    simp only [Exit.noGoto]
    refine bodyPost_ret (results_ct rfl _ _ w.heap.size 27 _ (0, 0) _ rfl hW Try.underlying27 rfl (by kernel_rfl)) rfl ⟨by rw [hre]; rfl, putCells_below _ _ _ _ _ _ (Nat.le_refl _) (HW1.out)⟩
set_option maxHeartbeats 1000000 in
set_option maxRecDepth 100000 in
theorem Move3_ok (A : Option Addr) (c : Nat) (l : List Int) (at_ count : Nat) (w : World) (hr : Kd.C (Kd.int .u8) w A l.length l) (hl : l.length ≤ 1048576) (ha : at_ ≤ l.length) (hn2 : count ≤ 9999) :
    Calls Try.prog 10 #[.slice A l.length c, .int .i64 at_, .int .i64 count, .string ⟨#[103, 101]⟩] w fun e w' => e = .returned (mvV (mvF l false at_ (max count 1) 3)) ∧ Below w.heap.size w w' := by
  have HR := Aside0.mk hr
  have HLn := Aside0.mk hl
  have f1 : decide ((at_ : Int) < 0) = false := decide_eq_false (by omega)
  have f2 : decide ((at_ : Int) > (l.length : Int)) = false := decide_eq_false (by omega)
  have f3 : decide ((count : Int) < 0) = false := decide_eq_false (by omega)
  have f4 : decide ((count : Int) > 9999) = false := decide_eq_false (by omega)
  have f5 : ((l.length : Int) < (at_ : Int)) = False := eq_false (by omega)
  have f6 : ((9999 : Int) < (count : Int)) = False := eq_false (by omega)
  have Ha := Aside0.mk ha
  have Hn := Aside0.mk hn2
  clear hr hl ha hn2
  go_enter Try.func10, Try.ntmps10
  go_wp2
  refine wp_scope_straight ?_
  go_wp2
  refine wp_label ?_
  go_wp2
  refine wp_loop_rounds 3 ?_
  rw [rounds_succ]
  go_wp2
  refine wp_loop_rounds 9 ?_
  rw [rounds_succ]
  go_wp2_with fail
  rw [rounds_succ]
  go_wp2_with fail
  rw [rounds_succ]
  go_wp2_with fail
  rw [rounds_succ]
  go_wp2_with fail
  rw [show mx (count : Int) 1 = ((max count 1 : Nat) : Int) by unfold mx; split <;> omega]
  have hb1 := blk_new w (Obj.cells #[Value.int .i64 0, Value.int .i64 0, Value.int .i64 0] 27)
  have hB1 := (Below.refl w.heap.size w).alloc (Nat.le_refl _) (Obj.cells #[Value.int .i64 0, Value.int .i64 0, Value.int .i64 0] 27)
  have hb2 := blk_alloc (blk_alloc hb1 (Obj.cells #[Value.bool false, Value.bool true] 4)) (Obj.cells #[Value.string { data := #[119] }, Value.string { data := #[98] }, Value.string { data := #[101] }, Value.string { data := #[103, 101] }, Value.string { data := #[87] }, Value.string { data := #[66] }, Value.string { data := #[69] }, Value.string { data := #[103, 69] }] 9)
  have hB2 := (hB1.alloc (by simp) (Obj.cells #[Value.bool false, Value.bool true] 4)).alloc (by simp <;> omega) (Obj.cells #[Value.string { data := #[119] }, Value.string { data := #[98] }, Value.string { data := #[101] }, Value.string { data := #[103, 101] }, Value.string { data := #[87] }, Value.string { data := #[66] }, Value.string { data := #[69] }, Value.string { data := #[103, 69] }] 9)
  generalize ((w.alloc (Obj.cells #[Value.int .i64 0, Value.int .i64 0, Value.int .i64 0] 27)).alloc (Obj.cells #[Value.bool false, Value.bool true] 4)).alloc (Obj.cells #[Value.string { data := #[119] }, Value.string { data := #[98] }, Value.string { data := #[101] }, Value.string { data := #[103, 101] }, Value.string { data := #[87] }, Value.string { data := #[66] }, Value.string { data := #[69] }, Value.string { data := #[103, 69] }] 9) = W at hb2 hB2 ⊢
  have HB := Aside0.mk hb2
  have HW := Aside0.mk hB2
  clear hb1 hB1 hb2 hB2
  refine (move3_calls A c l false at_ (max count 1) W (Kd.C_below HR.out HW.out) HLn.out Ha.out (by omega) (by have := Hn.out; omega)).mono ?_
  rintro e w1 ⟨rfl, hB⟩
  have hb := blk_below HB.out hB
  have hW := below_step HW.out hB
  generalize hre : mvF l false at_ (max count 1) 3 = r
  obtain ⟨r0, r1, r2, r3⟩ := r
  have HB1 := Aside0.mk hb
  have HW1 := Aside0.mk hW
  clear hb hW hB HB HW
  unfold mvV
  simp only []
  go_wp2_with (first | (refine wpList_store_agg rfl 27 (.tmp 8) (.tmp 61) rfl w.heap.size 0 ?ze [.int .i64 r0, .int .i64 r1, .int .i64 r2] ?zf _ 27 HB1.out ?zh ?zi ?zj ?zk))
  case ze => rfl
  case zf => rfl
  case zh => exact Nat.le_refl _
  case zi => simp [Value.oneCell']
  case zj => kernel_rfl
  · skip
    have hW := putCells_block [.int .i64 r0, .int .i64 r1, .int .i64 r2] w1 w.heap.size 0 _ 27 (HB1.out)
    rw [splice_whole _ [.int .i64 r0, .int .i64 r1, .int .i64 r2] (by rfl)] at hW
    simp only [Exit.noGoto]
    refine bodyPost_ret (results_ct rfl _ _ w.heap.size 27 _ (0, 0) _ rfl hW Try.underlying27 rfl (by kernel_rfl)) rfl ⟨by rw [hre]; rfl, putCells_below _ _ _ _ _ _ (Nat.le_refl _) (HW1.out)⟩
set_option maxHeartbeats 1000000 in
set_option maxRecDepth 100000 in
theorem Move4_ok (A : Option Addr) (c : Nat) (l : List Int) (at_ count : Nat) (w : World) (hr : Kd.C (Kd.int .u8) w A l.length l) (hl : l.length ≤ 1048576) (ha : at_ ≤ l.length) (hn2 : count ≤ 9999) :
    Calls Try.prog 10 #[.slice A l.length c, .int .i64 at_, .int .i64 count, .string ⟨#[87]⟩] w fun e w' => e = .returned (mvV (mvF l true at_ (max count 1) 0)) ∧ Below w.heap.size w w' := by
  have HR := Aside0.mk hr
  have HLn := Aside0.mk hl
  have f1 : decide ((at_ : Int) < 0) = false := decide_eq_false (by omega)
  have f2 : decide ((at_ : Int) > (l.length : Int)) = false := decide_eq_false (by omega)
  have f3 : decide ((count : Int) < 0) = false := decide_eq_false (by omega)
  have f4 : decide ((count : Int) > 9999) = false := decide_eq_false (by omega)
  have f5 : ((l.length : Int) < (at_ : Int)) = False := eq_false (by omega)
  have f6 : ((9999 : Int) < (count : Int)) = False := eq_false (by omega)
  have Ha := Aside0.mk ha
  have Hn := Aside0.mk hn2
  clear hr hl ha hn2
  go_enter Try.func10, Try.ntmps10
  go_wp2
  refine wp_scope_straight ?_
  go_wp2
  refine wp_label ?_
  go_wp2
  refine wp_loop_rounds 3 ?_
  rw [rounds_succ]
  go_wp2
  refine wp_loop_rounds 9 ?_
  rw [rounds_succ]
  go_wp2_with fail
  rw [rounds_succ]
  go_wp2_with fail
  rw [rounds_succ]
  go_wp2_with fail
  rw [rounds_succ]
  go_wp2_with fail
  rw [rounds_succ]
  go_wp2_with fail
  rw [rounds_succ]
  go_wp2
  refine wp_loop_rounds 9 ?_
  rw [rounds_succ]
  go_wp2_with fail
  rw [rounds_succ]
  go_wp2_with fail
  rw [rounds_succ]
  go_wp2_with fail
  rw [rounds_succ]
  go_wp2_with fail
  rw [rounds_succ]
  go_wp2_with fail
  rw [show mx (count : Int) 1 = ((max count 1 : Nat) : Int) by unfold mx; split <;> omega]
  have hb1 := blk_new w (Obj.cells #[Value.int .i64 0, Value.int .i64 0, Value.int .i64 0] 27)
  have hB1 := (Below.refl w.heap.size w).alloc (Nat.le_refl _) (Obj.cells #[Value.int .i64 0, Value.int .i64 0, Value.int .i64 0] 27)
  have hb2 := blk_alloc (blk_alloc hb1 (Obj.cells #[Value.bool false, Value.bool true] 4)) (Obj.cells #[Value.string { data := #[119] }, Value.string { data := #[98] }, Value.string { data := #[101] }, Value.string { data := #[103, 101] }, Value.string { data := #[87] }, Value.string { data := #[66] }, Value.string { data := #[69] }, Value.string { data := #[103, 69] }] 9)
  have hB2 := (hB1.alloc (by simp) (Obj.cells #[Value.bool false, Value.bool true] 4)).alloc (by simp <;> omega) (Obj.cells #[Value.string { data := #[119] }, Value.string { data := #[98] }, Value.string { data := #[101] }, Value.string { data := #[103, 101] }, Value.string { data := #[87] }, Value.string { data := #[66] }, Value.string { data := #[69] }, Value.string { data := #[103, 69] }] 9)
  have hb3 := blk_alloc hb2 (Obj.cells #[Value.string { data := #[119] }, Value.string { data := #[98] }, Value.string { data := #[101] }, Value.string { data := #[103, 101] }, Value.string { data := #[87] }, Value.string { data := #[66] }, Value.string { data := #[69] }, Value.string { data := #[103, 69] }] 9)
  have hB3 := hB2.alloc (by simp <;> omega) (Obj.cells #[Value.string { data := #[119] }, Value.string { data := #[98] }, Value.string { data := #[101] }, Value.string { data := #[103, 101] }, Value.string { data := #[87] }, Value.string { data := #[66] }, Value.string { data := #[69] }, Value.string { data := #[103, 69] }] 9)
  generalize (((w.alloc (Obj.cells #[Value.int .i64 0, Value.int .i64 0, Value.int .i64 0] 27)).alloc (Obj.cells #[Value.bool false, Value.bool true] 4)).alloc (Obj.cells #[Value.string { data := #[119] }, Value.string { data := #[98] }, Value.string { data := #[101] }, Value.string { data := #[103, 101] }, Value.string { data := #[87] }, Value.string { data := #[66] }, Value.string { data := #[69] }, Value.string { data := #[103, 69] }] 9)).alloc (Obj.cells #[Value.string { data := #[119] }, Value.string { data := #[98] }, Value.string { data := #[101] }, Value.string { data := #[103, 101] }, Value.string { data := #[87] }, Value.string { data := #[66] }, Value.string { data := #[69] }, Value.string { data := #[103, 69] }] 9) = W at hb3 hB3 ⊢
  have HB := Aside0.mk hb3
  have HW := Aside0.mk hB3
  clear hb1 hB1 hb2 hB2 hb3 hB3
  refine (move0_calls A c l true at_ (max count 1) W (Kd.C_below HR.out HW.out) HLn.out Ha.out (by omega) (by have := Hn.out; omega)).mono ?_
  rintro e w1 ⟨rfl, hB⟩
  have hb := blk_below HB.out hB
  have hW := below_step HW.out hB
  generalize hre : mvF l true at_ (max count 1) 0 = r
  obtain ⟨r0, r1, r2, r3⟩ := r
  have HB1 := Aside0.mk hb
  have HW1 := Aside0.mk hW
  clear hb hW hB HB HW
  unfold mvV
  simp only []
  go_wp2_with (first | (refine wpList_store_agg rfl 27 (.tmp 8) (.tmp 61) rfl w.heap.size 0 ?ze [.int .i64 r0, .int .i64 r1, .int .i64 r2] ?zf _ 27 HB1.out ?zh ?zi ?zj ?zk))
  case ze => rfl
  case zf => rfl
  case zh => exact Nat.le_refl _
  case zi => simp [Value.oneCell']
  case zj => kernel_rfl
  · skip
    have hW := putCells_block [.int .i64 r0, .int .i64 r1, .int .i64 r2] w1 w.heap.size 0 _ 27 (HB1.out)
    rw [splice_whole _ [.int .i64 r0, .int .i64 r1, .int .i64 r2] (by rfl)] at hW
    simp only [Exit.noGoto]
    refine bodyPost_ret (results_ct rfl _ _ w.heap.size 27 _ (0, 0) _ rfl hW Try.underlying27 rfl (by kernel_rfl)) rfl ⟨by rw [hre]; rfl, putCells_below _ _ _ _ _ _ (Nat.le_refl _) (HW1.out)⟩
set_option maxHeartbeats 1000000 in
set_option maxRecDepth 100000 in
theorem Move5_ok (A : Option Addr) (c : Nat) (l : List Int) (at_ count : Nat) (w : World) (hr : Kd.C (Kd.int .u8) w A l.length l) (hl : l.length ≤ 1048576) (ha : at_ ≤ l.length) (hn2 : count ≤ 9999) :
    Calls Try.prog 10 #[.slice A l.length c, .int .i64 at_, .int .i64 count, .string ⟨#[66]⟩] w fun e w' => e = .returned (mvV (mvF l true at_ (max count 1) 1)) ∧ Below w.heap.size w w' := by
  have HR := Aside0.mk hr
  have HLn := Aside0.mk hl
  have f1 : decide ((at_ : Int) < 0) = false := decide_eq_false (by omega)
  have f2 : decide ((at_ : Int) > (l.length : Int)) = false := decide_eq_false (by omega)
  have f3 : decide ((count : Int) < 0) = false := decide_eq_false (by omega)
  have f4 : decide ((count : Int) > 9999) = false := decide_eq_false (by omega)
  have f5 : ((l.length : Int) < (at_ : Int)) = False := eq_false (by omega)
  have f6 : ((9999 : Int) < (count : Int)) = False := eq_false (by omega)
  have Ha := Aside0.mk ha
  have Hn := Aside0.mk hn2
  clear hr hl ha hn2
  go_enter Try.func10, Try.ntmps10
  go_wp2
  refine wp_scope_straight ?_
  go_wp2
  refine wp_label ?_
  go_wp2
  refine wp_loop_rounds 3 ?_
  rw [rounds_succ]
  go_wp2
  refine wp_loop_rounds 9 ?_
  rw [rounds_succ]
  go_wp2_with fail
  rw [rounds_succ]
  go_wp2_with fail
  rw [rounds_succ]
  go_wp2_with fail
  rw [rounds_succ]
  go_wp2_with fail
  rw [rounds_succ]
  go_wp2_with fail
  rw [rounds_succ]
  go_wp2_with fail
  rw [rounds_succ]
  go_wp2
  refine wp_loop_rounds 9 ?_
  rw [rounds_succ]
  go_wp2_with fail
  rw [rounds_succ]
  go_wp2_with fail
  rw [rounds_succ]
  go_wp2_with fail
  rw [rounds_succ]
  go_wp2_with fail
  rw [rounds_succ]
  go_wp2_with fail
  rw [rounds_succ]
  go_wp2_with fail
  rw [show mx (count : Int) 1 = ((max count 1 : Nat) : Int) by unfold mx; split <;> omega]
  have hb1 := blk_new w (Obj.cells #[Value.int .i64 0, Value.int .i64 0, Value.int .i64 0] 27)
  have hB1 := (Below.refl w.heap.size w).alloc (Nat.le_refl _) (Obj.cells #[Value.int .i64 0, Value.int .i64 0, Value.int .i64 0] 27)
  have hb2 := blk_alloc (blk_alloc hb1 (Obj.cells #[Value.bool false, Value.bool true] 4)) (Obj.cells #[Value.string { data := #[119] }, Value.string { data := #[98] }, Value.string { data := #[101] }, Value.string { data := #[103, 101] }, Value.string { data := #[87] }, Value.string { data := #[66] }, Value.string { data := #[69] }, Value.string { data := #[103, 69] }] 9)
  have hB2 := (hB1.alloc (by simp) (Obj.cells #[Value.bool false, Value.bool true] 4)).alloc (by simp <;> omega) (Obj.cells #[Value.string { data := #[119] }, Value.string { data := #[98] }, Value.string { data := #[101] }, Value.string { data := #[103, 101] }, Value.string { data := #[87] }, Value.string { data := #[66] }, Value.string { data := #[69] }, Value.string { data := #[103, 69] }] 9)
  have hb3 := blk_alloc hb2 (Obj.cells #[Value.string { data := #[119] }, Value.string { data := #[98] }, Value.string { data := #[101] }, Value.string { data := #[103, 101] }, Value.string { data := #[87] }, Value.string { data := #[66] }, Value.string { data := #[69] }, Value.string { data := #[103, 69] }] 9)
  have hB3 := hB2.alloc (by simp <;> omega) (Obj.cells #[Value.string { data := #[119] }, Value.string { data := #[98] }, Value.string { data := #[101] }, Value.string { data := #[103, 101] }, Value.string { data := #[87] }, Value.string { data := #[66] }, Value.string { data := #[69] }, Value.string { data := #[103, 69] }] 9)
  generalize (((w.alloc (Obj.cells #[Value.int .i64 0, Value.int .i64 0, Value.int .i64 0] 27)).alloc (Obj.cells #[Value.bool false, Value.bool true] 4)).alloc (Obj.cells #[Value.string { data := #[119] }, Value.string { data := #[98] }, Value.string { data := #[101] }, Value.string { data := #[103, 101] }, Value.string { data := #[87] }, Value.string { data := #[66] }, Value.string { data := #[69] }, Value.string { data := #[103, 69] }] 9)).alloc (Obj.cells #[Value.string { data := #[119] }, Value.string { data := #[98] }, Value.string { data := #[101] }, Value.string { data := #[103, 101] }, Value.string { data := #[87] }, Value.string { data := #[66] }, Value.string { data := #[69] }, Value.string { data := #[103, 69] }] 9) = W at hb3 hB3 ⊢
  have HB := Aside0.mk hb3
  have HW := Aside0.mk hB3
  clear hb1 hB1 hb2 hB2 hb3 hB3
  refine (move1_calls A c l true at_ (max count 1) W (Kd.C_below HR.out HW.out) HLn.out Ha.out (by omega) (by have := Hn.out; omega)).mono ?_
  rintro e w1 ⟨rfl, hB⟩
  have hb := blk_below HB.out hB
  have hW := below_step HW.out hB
  generalize hre : mvF l true at_ (max count 1) 1 = r
  obtain ⟨r0, r1, r2, r3⟩ := r
  have HB1 := Aside0.mk hb
  have HW1 := Aside0.mk hW
  clear hb hW hB HB HW
  unfold mvV
  simp only []
  go_wp2_with (first | (refine wpList_store_agg rfl 27 (.tmp 8) (.tmp 61) rfl w.heap.size 0 ?ze [.int .i64 r0, .int .i64 r1, .int .i64 r2] ?zf _ 27 HB1.out ?zh ?zi ?zj ?zk))
  case ze => rfl
  case zf => rfl
  case zh => exact Nat.le_refl _
  case zi => simp [Value.oneCell']
  case zj => kernel_rfl
  · skip
    have hW := putCells_block [.int .i64 r0, .int .i64 r1, .int .i64 r2] w1 w.heap.size 0 _ 27 (HB1.out)
    rw [splice_whole _ [.int .i64 r0, .int .i64 r1, .int .i64 r2] (by rfl)] at hW
    simp only [Exit.noGoto]
    refine bodyPost_ret (results_ct rfl _ _ w.heap.size 27 _ (0, 0) _ rfl hW Try.underlying27 rfl (by kernel_rfl)) rfl ⟨by rw [hre]; rfl, putCells_below _ _ _ _ _ _ (Nat.le_refl _) (HW1.out)⟩
set_option maxHeartbeats 1000000 in
set_option maxRecDepth 100000 in
theorem Move6_ok (A : Option Addr) (c : Nat) (l : List Int) (at_ count : Nat) (w : World) (hr : Kd.C (Kd.int .u8) w A l.length l) (hl : l.length ≤ 1048576) (ha : at_ ≤ l.length) (hn2 : count ≤ 9999) :
    Calls Try.prog 10 #[.slice A l.length c, .int .i64 at_, .int .i64 count, .string ⟨#[69]⟩] w fun e w' => e = .returned (mvV (mvF l true at_ (max count 1) 2)) ∧ Below w.heap.size w w' := by
  have HR := Aside0.mk hr
  have HLn := Aside0.mk hl
  have f1 : decide ((at_ : Int) < 0) = false := decide_eq_false (by omega)
  have f2 : decide ((at_ : Int) > (l.length : Int)) = false := decide_eq_false (by omega)
  have f3 : decide ((count : Int) < 0) = false := decide_eq_false (by omega)
  have f4 : decide ((count : Int) > 9999) = false := decide_eq_false (by omega)
  have f5 : ((l.length : Int) < (at_ : Int)) = False := eq_false (by omega)
  have f6 : ((9999 : Int) < (count : Int)) = False := eq_false (by omega)
  have Ha := Aside0.mk ha
  have Hn := Aside0.mk hn2
  clear hr hl ha hn2
  go_enter Try.func10, Try.ntmps10
  go_wp2
  refine wp_scope_straight ?_
  go_wp2
  refine wp_label ?_
  go_wp2
  refine wp_loop_rounds 3 ?_
  rw [rounds_succ]
  go_wp2
  refine wp_loop_rounds 9 ?_
  rw [rounds_succ]
  go_wp2_with fail
  rw [rounds_succ]
  go_wp2_with fail
  rw [rounds_succ]
  go_wp2_with fail
  rw [rounds_succ]
  go_wp2_with fail
  rw [rounds_succ]
  go_wp2_with fail
  rw [rounds_succ]
  go_wp2_with fail
  rw [rounds_succ]
  go_wp2_with fail
  rw [rounds_succ]
  go_wp2
  refine wp_loop_rounds 9 ?_
  rw [rounds_succ]
  go_wp2_with fail
  rw [rounds_succ]
  go_wp2_with fail
  rw [rounds_succ]
  go_wp2_with fail
  rw [rounds_succ]
  go_wp2_with fail
  rw [rounds_succ]
  go_wp2_with fail
  rw [rounds_succ]
  go_wp2_with fail
  rw [rounds_succ]
  go_wp2_with fail
  rw [show mx (count : Int) 1 = ((max count 1 : Nat) : Int) by unfold mx; split <;> omega]
  have hb1 := blk_new w (Obj.cells #[Value.int .i64 0, Value.int .i64 0, Value.int .i64 0] 27)
  have hB1 := (Below.refl w.heap.size w).alloc (Nat.le_refl _) (Obj.cells #[Value.int .i64 0, Value.int .i64 0, Value.int .i64 0] 27)
  have hb2 := blk_alloc (blk_alloc hb1 (Obj.cells #[Value.bool false, Value.bool true] 4)) (Obj.cells #[Value.string { data := #[119] }, Value.string { data := #[98] }, Value.string { data := #[101] }, Value.string { data := #[103, 101] }, Value.string { data := #[87] }, Value.string { data := #[66] }, Value.string { data := #[69] }, Value.string { data := #[103, 69] }] 9)
  have hB2 := (hB1.alloc (by simp) (Obj.cells #[Value.bool false, Value.bool true] 4)).alloc (by simp <;> omega) (Obj.cells #[Value.string { data := #[119] }, Value.string { data := #[98] }, Value.string { data := #[101] }, Value.string { data := #[103, 101] }, Value.string { data := #[87] }, Value.string { data := #[66] }, Value.string { data := #[69] }, Value.string { data := #[103, 69] }] 9)
  have hb3 := blk_alloc hb2 (Obj.cells #[Value.string { data := #[119] }, Value.string { data := #[98] }, Value.string { data := #[101] }, Value.string { data := #[103, 101] }, Value.string { data := #[87] }, Value.string { data := #[66] }, Value.string { data := #[69] }, Value.string { data := #[103, 69] }] 9)
  have hB3 := hB2.alloc (by simp <;> omega) (Obj.cells #[Value.string { data := #[119] }, Value.string { data := #[98] }, Value.string { data := #[101] }, Value.string { data := #[103, 101] }, Value.string { data := #[87] }, Value.string { data := #[66] }, Value.string { data := #[69] }, Value.string { data := #[103, 69] }] 9)
  generalize (((w.alloc (Obj.cells #[Value.int .i64 0, Value.int .i64 0, Value.int .i64 0] 27)).alloc (Obj.cells #[Value.bool false, Value.bool true] 4)).alloc (Obj.cells #[Value.string { data := #[119] }, Value.string { data := #[98] }, Value.string { data := #[101] }, Value.string { data := #[103, 101] }, Value.string { data := #[87] }, Value.string { data := #[66] }, Value.string { data := #[69] }, Value.string { data := #[103, 69] }] 9)).alloc (Obj.cells #[Value.string { data := #[119] }, Value.string { data := #[98] }, Value.string { data := #[101] }, Value.string { data := #[103, 101] }, Value.string { data := #[87] }, Value.string { data := #[66] }, Value.string { data := #[69] }, Value.string { data := #[103, 69] }] 9) = W at hb3 hB3 ⊢
  have HB := Aside0.mk hb3
  have HW := Aside0.mk hB3
  clear hb1 hB1 hb2 hB2 hb3 hB3
  refine (move2_calls A c l true at_ (max count 1) W (Kd.C_below HR.out HW.out) HLn.out Ha.out (by omega) (by have := Hn.out; omega)).mono ?_
  rintro e w1 ⟨rfl, hB⟩
  have hb := blk_below HB.out hB
  have hW := below_step HW.out hB
  generalize hre : mvF l true at_ (max count 1) 2 = r
  obtain ⟨r0, r1, r2, r3⟩ := r
  have HB1 := Aside0.mk hb
  have HW1 := Aside0.mk hW
  clear hb hW hB HB HW
  unfold mvV
  simp only []
  go_wp2_with (first | (refine wpList_store_agg rfl 27 (.tmp 8) (.tmp 61) rfl w.heap.size 0 ?ze [.int .i64 r0, .int .i64 r1, .int .i64 r2] ?zf _ 27 HB1.out ?zh ?zi ?zj ?zk))
  case ze => rfl
  case zf => rfl
  case zh => exact Nat.le_refl _
  case zi => simp [Value.oneCell']
  case zj => kernel_rfl
  · skip
    have hW := putCells_block [.int .i64 r0, .int .i64 r1, .int .i64 r2] w1 w.heap.size 0 _ 27 (HB1.out)
    rw [splice_whole _ [.int .i64 r0, .int .i64 r1, .int .i64 r2] (by rfl)] at hW
    simp only [Exit.noGoto]
    refine bodyPost_ret (results_ct rfl _ _ w.heap.size 27 _ (0, 0) _ rfl hW Try.underlying27 rfl (by kernel_rfl)) rfl ⟨by rw [hre]; rfl, putCells_below _ _ _ _ _ _ (Nat.le_refl _) (HW1.out)⟩
set_option maxHeartbeats 1000000 in
set_option maxRecDepth 100000 in
theorem Move7_ok (A : Option Addr) (c : Nat) (l : List Int) (at_ count : Nat) (w : World) (hr : Kd.C (Kd.int .u8) w A l.length l) (hl : l.length ≤ 1048576) (ha : at_ ≤ l.length) (hn2 : count ≤ 9999) :
    Calls Try.prog 10 #[.slice A l.length c, .int .i64 at_, .int .i64 count, .string ⟨#[103, 69]⟩] w fun e w' => e = .returned (mvV (mvF l true at_ (max count 1) 3)) ∧ Below w.heap.size w w' := by
  have HR := Aside0.mk hr
  have HLn := Aside0.mk hl
  have f1 : decide ((at_ : Int) < 0) = false := decide_eq_false (by omega)
  have f2 : decide ((at_ : Int) > (l.length : Int)) = false := decide_eq_false (by omega)
  have f3 : decide ((count : Int) < 0) = false := decide_eq_false (by omega)
  have f4 : decide ((count : Int) > 9999) = false := decide_eq_false (by omega)
  have f5 : ((l.length : Int) < (at_ : Int)) = False := eq_false (by omega)
  have f6 : ((9999 : Int) < (count : Int)) = False := eq_false (by omega)
  have Ha := Aside0.mk ha
  have Hn := Aside0.mk hn2
  clear hr hl ha hn2
  go_enter Try.func10, Try.ntmps10
  go_wp2
  refine wp_scope_straight ?_
  go_wp2
  refine wp_label ?_
  go_wp2
  refine wp_loop_rounds 3 ?_
  rw [rounds_succ]
  go_wp2
  refine wp_loop_rounds 9 ?_
  rw [rounds_succ]
  go_wp2_with fail
  rw [rounds_succ]
  go_wp2_with fail
  rw [rounds_succ]
  go_wp2_with fail
  rw [rounds_succ]
  go_wp2_with fail
  rw [rounds_succ]
  go_wp2_with fail
  rw [rounds_succ]
  go_wp2_with fail
  rw [rounds_succ]
  go_wp2_with fail
  rw [rounds_succ]
  go_wp2_with fail
  rw [rounds_succ]
  go_wp2
  refine wp_loop_rounds 9 ?_
  rw [rounds_succ]
  go_wp2_with fail
  rw [rounds_succ]
  go_wp2_with fail
  rw [rounds_succ]
  go_wp2_with fail
  rw [rounds_succ]
  go_wp2_with fail
  rw [rounds_succ]
  go_wp2_with fail
  rw [rounds_succ]
  go_wp2_with fail
  rw [rounds_succ]
  go_wp2_with fail
  rw [rounds_succ]
  go_wp2_with fail
  rw [show mx (count : Int) 1 = ((max count 1 : Nat) : Int) by unfold mx; split <;> omega]
  have hb1 := blk_new w (Obj.cells #[Value.int .i64 0, Value.int .i64 0, Value.int .i64 0] 27)
  have hB1 := (Below.refl w.heap.size w).alloc (Nat.le_refl _) (Obj.cells #[Value.int .i64 0, Value.int .i64 0, Value.int .i64 0] 27)
  have hb2 := blk_alloc (blk_alloc hb1 (Obj.cells #[Value.bool false, Value.bool true] 4)) (Obj.cells #[Value.string { data := #[119] }, Value.string { data := #[98] }, Value.string { data := #[101] }, Value.string { data := #[103, 101] }, Value.string { data := #[87] }, Value.string { data := #[66] }, Value.string { data := #[69] }, Value.string { data := #[103, 69] }] 9)
  have hB2 := (hB1.alloc (by simp) (Obj.cells #[Value.bool false, Value.bool true] 4)).alloc (by simp <;> omega) (Obj.cells #[Value.string { data := #[119] }, Value.string { data := #[98] }, Value.string { data := #[101] }, Value.string { data := #[103, 101] }, Value.string { data := #[87] }, Value.string { data := #[66] }, Value.string { data := #[69] }, Value.string { data := #[103, 69] }] 9)
  have hb3 := blk_alloc hb2 (Obj.cells #[Value.string { data := #[119] }, Value.string { data := #[98] }, Value.string { data := #[101] }, Value.string { data := #[103, 101] }, Value.string { data := #[87] }, Value.string { data := #[66] }, Value.string { data := #[69] }, Value.string { data := #[103, 69] }] 9)
  have hB3 := hB2.alloc (by simp <;> omega) (Obj.cells #[Value.string { data := #[119] }, Value.string { data := #[98] }, Value.string { data := #[101] }, Value.string { data := #[103, 101] }, Value.string { data := #[87] }, Value.string { data := #[66] }, Value.string { data := #[69] }, Value.string { data := #[103, 69] }] 9)
  generalize (((w.alloc (Obj.cells #[Value.int .i64 0, Value.int .i64 0, Value.int .i64 0] 27)).alloc (Obj.cells #[Value.bool false, Value.bool true] 4)).alloc (Obj.cells #[Value.string { data := #[119] }, Value.string { data := #[98] }, Value.string { data := #[101] }, Value.string { data := #[103, 101] }, Value.string { data := #[87] }, Value.string { data := #[66] }, Value.string { data := #[69] }, Value.string { data := #[103, 69] }] 9)).alloc (Obj.cells #[Value.string { data := #[119] }, Value.string { data := #[98] }, Value.string { data := #[101] }, Value.string { data := #[103, 101] }, Value.string { data := #[87] }, Value.string { data := #[66] }, Value.string { data := #[69] }, Value.string { data := #[103, 69] }] 9) = W at hb3 hB3 ⊢
  have HB := Aside0.mk hb3
  have HW := Aside0.mk hB3
  clear hb1 hB1 hb2 hB2 hb3 hB3
  refine (move3_calls A c l true at_ (max count 1) W (Kd.C_below HR.out HW.out) HLn.out Ha.out (by omega) (by have := Hn.out; omega)).mono ?_
  rintro e w1 ⟨rfl, hB⟩
  have hb := blk_below HB.out hB
  have hW := below_step HW.out hB
  generalize hre : mvF l true at_ (max count 1) 3 = r
  obtain ⟨r0, r1, r2, r3⟩ := r
  have HB1 := Aside0.mk hb
  have HW1 := Aside0.mk hW
  clear hb hW hB HB HW
  unfold mvV
  simp only []
  go_wp2_with (first | (refine wpList_store_agg rfl 27 (.tmp 8) (.tmp 61) rfl w.heap.size 0 ?ze [.int .i64 r0, .int .i64 r1, .int .i64 r2] ?zf _ 27 HB1.out ?zh ?zi ?zj ?zk))
  case ze => rfl
  case zf => rfl
  case zh => exact Nat.le_refl _
  case zi => simp [Value.oneCell']
  case zj => kernel_rfl
  · skip
    have hW := putCells_block [.int .i64 r0, .int .i64 r1, .int .i64 r2] w1 w.heap.size 0 _ 27 (HB1.out)
    rw [splice_whole _ [.int .i64 r0, .int .i64 r1, .int .i64 r2] (by rfl)] at hW
    simp only [Exit.noGoto]
    refine bodyPost_ret (results_ct rfl _ _ w.heap.size 27 _ (0, 0) _ rfl hW Try.underlying27 rfl (by kernel_rfl)) rfl ⟨by rw [hre]; rfl, putCells_below _ _ _ _ _ _ (Nat.le_refl _) (HW1.out)⟩
set_option maxHeartbeats 1000000 in
set_option maxRecDepth 100000 in
theorem Moven_ok (A : Option Addr) (c : Nat) (l : List Int) (at_ count : Nat) (w : World) (hr : Kd.C (Kd.int .u8) w A l.length l) (hl : l.length ≤ 1048576) (ha : at_ ≤ l.length) (hn2 : count ≤ 9999) (key : ByteArray) (k0 : key.toList ≠ ([119] : List UInt8)) (k1 : key.toList ≠ ([98] : List UInt8)) (k2 : key.toList ≠ ([101] : List UInt8)) (k3 : key.toList ≠ ([103, 101] : List UInt8)) (k4 : key.toList ≠ ([87] : List UInt8)) (k5 : key.toList ≠ ([66] : List UInt8)) (k6 : key.toList ≠ ([69] : List UInt8)) (k7 : key.toList ≠ ([103, 69] : List UInt8)) :
    Calls Try.prog 10 #[.slice A l.length c, .int .i64 at_, .int .i64 count, .string key] w fun e w' => e = .returned (mvV (((0, 0, 0, 2) : Int × Int × Int × Int))) ∧ Below w.heap.size w w' := by
  have q0 : (([119] : List UInt8) != key.toList) = true := bne_iff_ne.mpr (Ne.symm k0)
  have q1 : (([98] : List UInt8) != key.toList) = true := bne_iff_ne.mpr (Ne.symm k1)
  have q2 : (([101] : List UInt8) != key.toList) = true := bne_iff_ne.mpr (Ne.symm k2)
  have q3 : (([103, 101] : List UInt8) != key.toList) = true := bne_iff_ne.mpr (Ne.symm k3)
  have q4 : (([87] : List UInt8) != key.toList) = true := bne_iff_ne.mpr (Ne.symm k4)
  have q5 : (([66] : List UInt8) != key.toList) = true := bne_iff_ne.mpr (Ne.symm k5)
  have q6 : (([69] : List UInt8) != key.toList) = true := bne_iff_ne.mpr (Ne.symm k6)
  have q7 : (([103, 69] : List UInt8) != key.toList) = true := bne_iff_ne.mpr (Ne.symm k7)
  have p0 : (([119] : List UInt8) == key.toList) = false := beq_eq_false_iff_ne.mpr (Ne.symm k0)
  have p1 : (([98] : List UInt8) == key.toList) = false := beq_eq_false_iff_ne.mpr (Ne.symm k1)
  have p2 : (([101] : List UInt8) == key.toList) = false := beq_eq_false_iff_ne.mpr (Ne.symm k2)
  have p3 : (([103, 101] : List UInt8) == key.toList) = false := beq_eq_false_iff_ne.mpr (Ne.symm k3)
  have p4 : (([87] : List UInt8) == key.toList) = false := beq_eq_false_iff_ne.mpr (Ne.symm k4)
  have p5 : (([66] : List UInt8) == key.toList) = false := beq_eq_false_iff_ne.mpr (Ne.symm k5)
  have p6 : (([69] : List UInt8) == key.toList) = false := beq_eq_false_iff_ne.mpr (Ne.symm k6)
  have p7 : (([103, 69] : List UInt8) == key.toList) = false := beq_eq_false_iff_ne.mpr (Ne.symm k7)
  clear k0 k1 k2 k3 k4 k5 k6 k7
  have HR := Aside0.mk hr
  have HLn := Aside0.mk hl
  have f1 : decide ((at_ : Int) < 0) = false := decide_eq_false (by omega)
  have f2 : decide ((at_ : Int) > (l.length : Int)) = false := decide_eq_false (by omega)
  have f3 : decide ((count : Int) < 0) = false := decide_eq_false (by omega)
  have f4 : decide ((count : Int) > 9999) = false := decide_eq_false (by omega)
  have f5 : ((l.length : Int) < (at_ : Int)) = False := eq_false (by omega)
  have f6 : ((9999 : Int) < (count : Int)) = False := eq_false (by omega)
  have Ha := Aside0.mk ha
  have Hn := Aside0.mk hn2
  clear hr hl ha hn2
  go_enter Try.func10, Try.ntmps10
  go_wp2
  refine wp_scope_straight ?_
  go_wp2
  refine wp_label ?_
  go_wp2
  refine wp_loop_rounds 3 ?_
  rw [rounds_succ]
  go_wp2
  refine wp_loop_rounds 10 ?_
  rw [rounds_succ]
  go_wp2_with fail
  rw [rounds_succ]
  go_wp2_with fail
  rw [rounds_succ]
  go_wp2_with fail
  rw [rounds_succ]
  go_wp2_with fail
  rw [rounds_succ]
  go_wp2_with fail
  rw [rounds_succ]
  go_wp2_with fail
  rw [rounds_succ]
  go_wp2_with fail
  rw [rounds_succ]
  go_wp2_with fail
  rw [rounds_succ]
  go_wp2_with fail
  rw [rounds_succ]
  go_wp2
  refine wp_loop_rounds 10 ?_
  rw [rounds_succ]
  go_wp2_with fail
  rw [rounds_succ]
  go_wp2_with fail
  rw [rounds_succ]
  go_wp2_with fail
  rw [rounds_succ]
  go_wp2_with fail
  rw [rounds_succ]
  go_wp2_with fail
  rw [rounds_succ]
  go_wp2_with fail
  rw [rounds_succ]
  go_wp2_with fail
  rw [rounds_succ]
  go_wp2_with fail
  rw [rounds_succ]
  go_wp2_with fail
  rw [rounds_succ]
  go_upto_region 15 with (fail)
  have hb1 := blk_new w (Obj.cells #[Value.int .i64 0, Value.int .i64 0, Value.int .i64 0] 27)
  have hB1 := (Below.refl w.heap.size w).alloc (Nat.le_refl _) (Obj.cells #[Value.int .i64 0, Value.int .i64 0, Value.int .i64 0] 27)
  have hb2 := blk_alloc (blk_alloc hb1 (Obj.cells #[Value.bool false, Value.bool true] 4)) (Obj.cells #[Value.string { data := #[119] }, Value.string { data := #[98] }, Value.string { data := #[101] }, Value.string { data := #[103, 101] }, Value.string { data := #[87] }, Value.string { data := #[66] }, Value.string { data := #[69] }, Value.string { data := #[103, 69] }] 9)
  have hB2 := (hB1.alloc (by simp) (Obj.cells #[Value.bool false, Value.bool true] 4)).alloc (by simp <;> omega) (Obj.cells #[Value.string { data := #[119] }, Value.string { data := #[98] }, Value.string { data := #[101] }, Value.string { data := #[103, 101] }, Value.string { data := #[87] }, Value.string { data := #[66] }, Value.string { data := #[69] }, Value.string { data := #[103, 69] }] 9)
  have hb3 := blk_alloc hb2 (Obj.cells #[Value.string { data := #[119] }, Value.string { data := #[98] }, Value.string { data := #[101] }, Value.string { data := #[103, 101] }, Value.string { data := #[87] }, Value.string { data := #[66] }, Value.string { data := #[69] }, Value.string { data := #[103, 69] }] 9)
  have hB3 := hB2.alloc (by simp <;> omega) (Obj.cells #[Value.string { data := #[119] }, Value.string { data := #[98] }, Value.string { data := #[101] }, Value.string { data := #[103, 101] }, Value.string { data := #[87] }, Value.string { data := #[66] }, Value.string { data := #[69] }, Value.string { data := #[103, 69] }] 9)
  generalize (((w.alloc (Obj.cells #[Value.int .i64 0, Value.int .i64 0, Value.int .i64 0] 27)).alloc (Obj.cells #[Value.bool false, Value.bool true] 4)).alloc (Obj.cells #[Value.string { data := #[119] }, Value.string { data := #[98] }, Value.string { data := #[101] }, Value.string { data := #[103, 101] }, Value.string { data := #[87] }, Value.string { data := #[66] }, Value.string { data := #[69] }, Value.string { data := #[103, 69] }] 9)).alloc (Obj.cells #[Value.string { data := #[119] }, Value.string { data := #[98] }, Value.string { data := #[101] }, Value.string { data := #[103, 101] }, Value.string { data := #[87] }, Value.string { data := #[66] }, Value.string { data := #[69] }, Value.string { data := #[103, 69] }] 9) = W at hb3 hB3 ⊢
  have HB := Aside0.mk hb3
  have HW := Aside0.mk hB3
  clear hb1 hb2 hb3 hB1 hB2 hB3
  go_wp2_with (first | (refine wpList_store_agg rfl 27 (.tmp 8) (.tmp 65) rfl w.heap.size 0 ?ze [.int .i64 0, .int .i64 0, .int .i64 0] ?zf _ 27 HB.out ?zh ?zi ?zj ?zk))
  case ze => rfl
  case zf => rfl
  case zh => exact Nat.le_refl _
  case zi => simp [Value.oneCell']
  case zj => kernel_rfl
  · skip
    have hW := putCells_block [.int .i64 0, .int .i64 0, .int .i64 0] W w.heap.size 0 _ 27 (HB.out)
    rw [splice_whole _ [.int .i64 0, .int .i64 0, .int .i64 0] (by rfl)] at hW
    simp only [Exit.noGoto]
    refine bodyPost_ret (results_ct rfl _ _ w.heap.size 27 _ (0, 0) _ rfl hW Try.underlying27 rfl (by kernel_rfl)) rfl ⟨rfl, putCells_below _ _ _ _ _ _ (Nat.le_refl _) (HW.out)⟩
set_option maxHeartbeats 1000000 in
set_option maxRecDepth 100000 in
theorem Movexa_ok (A : Option Addr) (c : Nat) (l : List Int) (at_ count : Int) (w : World) (key : ByteArray) (hx : at_ < 0) :
    Calls Try.prog 10 #[.slice A l.length c, .int .i64 at_, .int .i64 count, .string key] w fun e w' => e = .returned (mvV (((0, 0, 0, 2) : Int × Int × Int × Int))) ∧ Below w.heap.size w w' := by
  have f0 : decide (at_ < 0) = true := decide_eq_true (by omega)
  clear hx
  go_enter Try.func10, Try.ntmps10
  go_wp2
  refine wp_scope_straight ?_
  go_upto_region 2 with (fail)
  have hb1 := blk_new w (Obj.cells #[Value.int .i64 0, Value.int .i64 0, Value.int .i64 0] 27)
  have hB1 := (Below.refl w.heap.size w).alloc (Nat.le_refl _) (Obj.cells #[Value.int .i64 0, Value.int .i64 0, Value.int .i64 0] 27)
  generalize w.alloc (Obj.cells #[Value.int .i64 0, Value.int .i64 0, Value.int .i64 0] 27) = W at hb1 hB1 ⊢
  have HB := Aside0.mk hb1
  have HW := Aside0.mk hB1
  clear hb1 hB1
  go_wp2_with (first | (refine wpList_store_agg rfl 27 (.tmp 8) (.tmp 31) rfl w.heap.size 0 ?ze [.int .i64 0, .int .i64 0, .int .i64 0] ?zf _ 27 HB.out ?zh ?zi ?zj ?zk))
  case ze => rfl
  case zf => rfl
  case zh => exact Nat.le_refl _
  case zi => simp [Value.oneCell']
  case zj => kernel_rfl
  · skip
    have hW := putCells_block [.int .i64 0, .int .i64 0, .int .i64 0] W w.heap.size 0 _ 27 (HB.out)
    rw [splice_whole _ [.int .i64 0, .int .i64 0, .int .i64 0] (by rfl)] at hW
    simp only [Exit.noGoto]
    refine bodyPost_ret (results_ct rfl _ _ w.heap.size 27 _ (0, 0) _ rfl hW Try.underlying27 rfl (by kernel_rfl)) rfl ⟨rfl, putCells_below _ _ _ _ _ _ (Nat.le_refl _) (HW.out)⟩
set_option maxHeartbeats 1000000 in
set_option maxRecDepth 100000 in
theorem Movexb_ok (A : Option Addr) (c : Nat) (l : List Int) (at_ count : Int) (w : World) (key : ByteArray) (hx : ¬ at_ < 0 ∧ (l.length : Int) < at_) :
    Calls Try.prog 10 #[.slice A l.length c, .int .i64 at_, .int .i64 count, .string key] w fun e w' => e = .returned (mvV (((0, 0, 0, 2) : Int × Int × Int × Int))) ∧ Below w.heap.size w w' := by
  have f0 : decide (at_ < 0) = false := decide_eq_false (by omega)
  have f1 : decide (at_ > (l.length : Int)) = true := decide_eq_true (by omega)
  have g2 : ((l.length : Int) < at_) = True := eq_true (by omega)
  clear hx
  go_enter Try.func10, Try.ntmps10
  go_wp2
  refine wp_scope_straight ?_
  go_upto_region 2 with (fail)
  have hb1 := blk_new w (Obj.cells #[Value.int .i64 0, Value.int .i64 0, Value.int .i64 0] 27)
  have hB1 := (Below.refl w.heap.size w).alloc (Nat.le_refl _) (Obj.cells #[Value.int .i64 0, Value.int .i64 0, Value.int .i64 0] 27)
  generalize w.alloc (Obj.cells #[Value.int .i64 0, Value.int .i64 0, Value.int .i64 0] 27) = W at hb1 hB1 ⊢
  have HB := Aside0.mk hb1
  have HW := Aside0.mk hB1
  clear hb1 hB1
  go_wp2_with (first | (refine wpList_store_agg rfl 27 (.tmp 8) (.tmp 31) rfl w.heap.size 0 ?ze [.int .i64 0, .int .i64 0, .int .i64 0] ?zf _ 27 HB.out ?zh ?zi ?zj ?zk))
  case ze => rfl
  case zf => rfl
  case zh => exact Nat.le_refl _
  case zi => simp [Value.oneCell']
  case zj => kernel_rfl
  · skip
    have hW := putCells_block [.int .i64 0, .int .i64 0, .int .i64 0] W w.heap.size 0 _ 27 (HB.out)
    rw [splice_whole _ [.int .i64 0, .int .i64 0, .int .i64 0] (by rfl)] at hW
    simp only [Exit.noGoto]
    refine bodyPost_ret (results_ct rfl _ _ w.heap.size 27 _ (0, 0) _ rfl hW Try.underlying27 rfl (by kernel_rfl)) rfl ⟨rfl, putCells_below _ _ _ _ _ _ (Nat.le_refl _) (HW.out)⟩
set_option maxHeartbeats 1000000 in
set_option maxRecDepth 100000 in
theorem Movexc_ok (A : Option Addr) (c : Nat) (l : List Int) (at_ count : Int) (w : World) (key : ByteArray) (hx : ¬ at_ < 0 ∧ ¬ (l.length : Int) < at_ ∧ count < 0) :
    Calls Try.prog 10 #[.slice A l.length c, .int .i64 at_, .int .i64 count, .string key] w fun e w' => e = .returned (mvV (((0, 0, 0, 2) : Int × Int × Int × Int))) ∧ Below w.heap.size w w' := by
  have f0 : decide (at_ < 0) = false := decide_eq_false (by omega)
  have f1 : decide (at_ > (l.length : Int)) = false := decide_eq_false (by omega)
  have f2 : decide (count < 0) = true := decide_eq_true (by omega)
  have g2 : ((l.length : Int) < at_) = False := eq_false (by omega)
  clear hx
  go_enter Try.func10, Try.ntmps10
  go_wp2
  refine wp_scope_straight ?_
  go_upto_region 2 with (fail)
  have hb1 := blk_new w (Obj.cells #[Value.int .i64 0, Value.int .i64 0, Value.int .i64 0] 27)
  have hB1 := (Below.refl w.heap.size w).alloc (Nat.le_refl _) (Obj.cells #[Value.int .i64 0, Value.int .i64 0, Value.int .i64 0] 27)
  generalize w.alloc (Obj.cells #[Value.int .i64 0, Value.int .i64 0, Value.int .i64 0] 27) = W at hb1 hB1 ⊢
  have HB := Aside0.mk hb1
  have HW := Aside0.mk hB1
  clear hb1 hB1
  go_wp2_with (first | (refine wpList_store_agg rfl 27 (.tmp 8) (.tmp 31) rfl w.heap.size 0 ?ze [.int .i64 0, .int .i64 0, .int .i64 0] ?zf _ 27 HB.out ?zh ?zi ?zj ?zk))
  case ze => rfl
  case zf => rfl
  case zh => exact Nat.le_refl _
  case zi => simp [Value.oneCell']
  case zj => kernel_rfl
  · skip
    have hW := putCells_block [.int .i64 0, .int .i64 0, .int .i64 0] W w.heap.size 0 _ 27 (HB.out)
    rw [splice_whole _ [.int .i64 0, .int .i64 0, .int .i64 0] (by rfl)] at hW
    simp only [Exit.noGoto]
    refine bodyPost_ret (results_ct rfl _ _ w.heap.size 27 _ (0, 0) _ rfl hW Try.underlying27 rfl (by kernel_rfl)) rfl ⟨rfl, putCells_below _ _ _ _ _ _ (Nat.le_refl _) (HW.out)⟩
set_option maxHeartbeats 1000000 in
set_option maxRecDepth 100000 in
theorem Movexd_ok (A : Option Addr) (c : Nat) (l : List Int) (at_ count : Int) (w : World) (key : ByteArray) (hx : ¬ at_ < 0 ∧ ¬ (l.length : Int) < at_ ∧ ¬ count < 0 ∧ 9999 < count) :
    Calls Try.prog 10 #[.slice A l.length c, .int .i64 at_, .int .i64 count, .string key] w fun e w' => e = .returned (mvV (((0, 0, 0, 2) : Int × Int × Int × Int))) ∧ Below w.heap.size w w' := by
  have f0 : decide (at_ < 0) = false := decide_eq_false (by omega)
  have f1 : decide (at_ > (l.length : Int)) = false := decide_eq_false (by omega)
  have f2 : decide (count < 0) = false := decide_eq_false (by omega)
  have f3 : decide (count > 9999) = true := decide_eq_true (by omega)
  have g2 : ((l.length : Int) < at_) = False := eq_false (by omega)
  have g4 : ((9999 : Int) < count) = True := eq_true (by omega)
  clear hx
  go_enter Try.func10, Try.ntmps10
  go_wp2
  refine wp_scope_straight ?_
  go_upto_region 2 with (fail)
  have hb1 := blk_new w (Obj.cells #[Value.int .i64 0, Value.int .i64 0, Value.int .i64 0] 27)
  have hB1 := (Below.refl w.heap.size w).alloc (Nat.le_refl _) (Obj.cells #[Value.int .i64 0, Value.int .i64 0, Value.int .i64 0] 27)
  generalize w.alloc (Obj.cells #[Value.int .i64 0, Value.int .i64 0, Value.int .i64 0] 27) = W at hb1 hB1 ⊢
  have HB := Aside0.mk hb1
  have HW := Aside0.mk hB1
  clear hb1 hB1
  go_wp2_with (first | (refine wpList_store_agg rfl 27 (.tmp 8) (.tmp 31) rfl w.heap.size 0 ?ze [.int .i64 0, .int .i64 0, .int .i64 0] ?zf _ 27 HB.out ?zh ?zi ?zj ?zk))
  case ze => rfl
  case zf => rfl
  case zh => exact Nat.le_refl _
  case zi => simp [Value.oneCell']
  case zj => kernel_rfl
  · skip
    have hW := putCells_block [.int .i64 0, .int .i64 0, .int .i64 0] W w.heap.size 0 _ 27 (HB.out)
    rw [splice_whole _ [.int .i64 0, .int .i64 0, .int .i64 0] (by rfl)] at hW
    simp only [Exit.noGoto]
    refine bodyPost_ret (results_ct rfl _ _ w.heap.size 27 _ (0, 0) _ rfl hW Try.underlying27 rfl (by kernel_rfl)) rfl ⟨rfl, putCells_below _ _ _ _ _ _ (Nat.le_refl _) (HW.out)⟩
theorem eq_of_toList {s : ByteArray} {l : List UInt8} (h : s.toList = l) : s = ⟨l.toArray⟩ := by
  subst h
  exact ByteArray.ext (by rw [ByteArray.toList_eq])
theorem Move_calls (A : Option Addr) (c : Nat) (l : List Int) (at_ count : Int) (key : ByteArray) (w : World) (hr : Kd.C (Kd.int .u8) w A l.length l) (hl : l.length ≤ 1048576) :
    Calls Try.prog 10 #[.slice A l.length c, .int .i64 at_, .int .i64 count, .string key] w fun e w' => e = .returned (mvV (mwF l at_ count key)) ∧ Below w.heap.size w w' := by
  unfold mwF
  by_cases h1 : at_ < 0
  · rw [if_pos (Or.inl h1)]; exact Movexa_ok A c l at_ count w key h1
  by_cases h2 : (l.length : Int) < at_
  · rw [if_pos (Or.inr (Or.inl h2))]; exact Movexb_ok A c l at_ count w key ⟨h1, h2⟩
  by_cases h3 : count < 0
  · rw [if_pos (Or.inr (Or.inr (Or.inl h3)))]; exact Movexc_ok A c l at_ count w key ⟨h1, h2, h3⟩
  by_cases h4 : 9999 < count
  · rw [if_pos (Or.inr (Or.inr (Or.inr h4)))]; exact Movexd_ok A c l at_ count w key ⟨h1, h2, h3, h4⟩
  rw [if_neg (by omega)]
  obtain ⟨a, rfl⟩ := Int.eq_ofNat_of_zero_le (Int.not_lt.1 h1)
  obtain ⟨n, rfl⟩ := Int.eq_ofNat_of_zero_le (Int.not_lt.1 h3)
  have e1 : (mx (n : Int) 1).toNat = max n 1 := by unfold mx; split <;> omega
  simp only [e1, Int.toNat_natCast]
  unfold kix
  by_cases k0 : key.toList = ([119] : List UInt8)
  · obtain rfl := eq_of_toList k0
    simp only [if_pos k0]
    exact Move0_ok A c l a n w hr hl (by omega) (by omega)
  by_cases k1 : key.toList = ([98] : List UInt8)
  · obtain rfl := eq_of_toList k1
    simp only [if_neg k0, if_pos k1]
    exact Move1_ok A c l a n w hr hl (by omega) (by omega)
  by_cases k2 : key.toList = ([101] : List UInt8)
  · obtain rfl := eq_of_toList k2
    simp only [if_neg k0, if_neg k1, if_pos k2]
    exact Move2_ok A c l a n w hr hl (by omega) (by omega)
  by_cases k3 : key.toList = ([103, 101] : List UInt8)
  · obtain rfl := eq_of_toList k3
    simp only [if_neg k0, if_neg k1, if_neg k2, if_pos k3]
    exact Move3_ok A c l a n w hr hl (by omega) (by omega)
  by_cases k4 : key.toList = ([87] : List UInt8)
  · obtain rfl := eq_of_toList k4
    simp only [if_neg k0, if_neg k1, if_neg k2, if_neg k3, if_pos k4]
    exact Move4_ok A c l a n w hr hl (by omega) (by omega)
  by_cases k5 : key.toList = ([66] : List UInt8)
  · obtain rfl := eq_of_toList k5
    simp only [if_neg k0, if_neg k1, if_neg k2, if_neg k3, if_neg k4, if_pos k5]
    exact Move5_ok A c l a n w hr hl (by omega) (by omega)
  by_cases k6 : key.toList = ([69] : List UInt8)
  · obtain rfl := eq_of_toList k6
    simp only [if_neg k0, if_neg k1, if_neg k2, if_neg k3, if_neg k4, if_neg k5, if_pos k6]
    exact Move6_ok A c l a n w hr hl (by omega) (by omega)
  by_cases k7 : key.toList = ([103, 69] : List UInt8)
  · obtain rfl := eq_of_toList k7
    simp only [if_neg k0, if_neg k1, if_neg k2, if_neg k3, if_neg k4, if_neg k5, if_neg k6, if_pos k7]
    exact Move7_ok A c l a n w hr hl (by omega) (by omega)
  simp only [if_neg k0, if_neg k1, if_neg k2, if_neg k3, if_neg k4, if_neg k5, if_neg k6, if_neg k7]
  exact Moven_ok A c l a n w hr hl (by omega) (by omega) key k0 k1 k2 k3 k4 k5 k6 k7
end Go.Proofs.Ytghoeadmimgfnaa.Hand
