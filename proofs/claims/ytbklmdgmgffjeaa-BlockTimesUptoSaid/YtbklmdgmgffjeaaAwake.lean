/- awake of layer 10 answers true. No condition. -/
import Derived.Test.YtbklmdgmgffjeaaPBlx6
import Derived.Test.YtbklmdgmgffjeaaAgg
import Derived.Outline
namespace Go.Proofs.Ytbklmdgmgffjeaa.Hand
open Go.RowKit Go.Proofs.Ytbklmdgmgffjeaa.PBl Go.Proofs.Ytbklmdgmgffjeaa.Aggs Go.Proofs.YtbklmdgmgffjeaaW.PrintWords Go.Proofs.YtbklmdgmgffjeaaW.PrintLast Go.Proofs.YtbklmdgmgffjeaaW.PrintMore
set_option linter.unusedVariables false
set_option linter.unusedSimpArgs false
attribute [local go_sem high] PBl.eqA30
abbrev tx : List Int := [97, 46, 32, 40, 98, 41]
theorem tx1 : block_Move.f 100 tx 3 1 ⟨#[37]⟩ = some (3, 5, 2, 0) := by kernel_rfl
theorem tx2 : block_Move.f 100 tx 0 1 ⟨#[41]⟩ = some (0, 3, 1, 0) := by kernel_rfl
/-- a conversion of bytes to their own type marks the place behind the block -/
theorem mark_run (w : World) (g n : Nat) (cs : Array Value) (e : TypeId) (h : w.heap[g]? = some (.cells cs e (0, 0))) :
    (convert 22 22 (.slice (some ⟨g, 0, none⟩) n n)).run Try.prog w = .ok (.slice (some ⟨g, 0, none⟩) n n) (w.freeze ⟨g, cs.size, none⟩ 1) := by
  have hs : w.shape? g = some (e, cs.size) := by unfold World.shape?; rw [h]
  unfold convert markStringish
  simp only [Sem.run_bind, run_underlying Try.underlying22, Result.andThen_ok, beq_self_eq_true, run_underlying Try.underlying5, run_shape, hs, run_freeze, Sem.run_pure]
theorem mark_other (w : World) (g n b : Nat) (h : b ≠ g) : (w.freeze ⟨g, n, none⟩ 1).heap[b]? = w.heap[b]? := by
  simp only [World.freeze, Nat.one_ne_zero, if_false, Array.getElem?_modify]
  rw [if_neg (fun h' => h h'.symm)]
theorem mark_same (w : World) (g n : Nat) (cs : Array Value) (e : TypeId) (h : w.heap[g]? = some (.cells cs e (0, 0))) : (w.freeze ⟨g, n, none⟩ 1).heap[g]? = some (.cells cs e (n, n + 1)) := by
  simp only [World.freeze, Nat.one_ne_zero, if_false, Array.getElem?_modify, if_true, h, Option.map_some]
  rfl
theorem mark_below (w : World) (B g n : Nat) (hg : B ≤ g) {w0 : World} (h : Below B w0 w) : Below B w0 (w.freeze ⟨g, n, none⟩ 1) :=
  ⟨h.os, h.tape, h.output, by simp [World.freeze]; exact h.size, fun k hk => (mark_other w g n k (by omega)).trans (h.block k hk)⟩
theorem bytes_C (w : World) (g : Nat) (l : List Int) (e : TypeId) (fr : Nat × Nat) (hl : l.length ≤ 1048576) (h : w.heap[g]? = some (.cells (l.map (Value.int .u8)).toArray e fr)) : Kd.C (Kd.int .u8) w (some ⟨g, 0, none⟩) l.length l := by
  refine ⟨rfl, by omega, fun _ => ⟨_, rfl, fun j p hj => ⟨[.int .u8 p], rfl, rfl, fun i u hi => ?_⟩⟩⟩
  match i, hi with
  | 0, hi =>
    simp only [List.getElem?_cons_zero, Option.some.injEq] at hi
    subst hi
    have h1 : (Kd.int .u8).sz = 1 := rfl
    rw [add_plain', h1, cell_of_row w g _ _ e fr h]
    simp [hj]
  | i + 1, hi => simp at hi
set_option maxHeartbeats 1000000 in
set_option maxRecDepth 100000 in
theorem awake_calls (w : World) : Calls Try.prog 7 #[] w fun e w' => e = .returned (.bool true) ∧ Below w.heap.size w w' := by
  go_enter Try.func7, Try.ntmps7
  go_wp2_with fail
  have hb1 := blk_new w (Obj.cells #[Value.int .u8 97, Value.int .u8 46, Value.int .u8 32, Value.int .u8 40, Value.int .u8 98, Value.int .u8 41] 5)
  have hB1 := (Below.refl w.heap.size w).alloc (Below.refl w.heap.size w).size (Obj.cells #[Value.int .u8 97, Value.int .u8 46, Value.int .u8 32, Value.int .u8 40, Value.int .u8 98, Value.int .u8 41] 5)
  have hcv1 := mark_run (w.alloc (Obj.cells #[Value.int .u8 97, Value.int .u8 46, Value.int .u8 32, Value.int .u8 40, Value.int .u8 98, Value.int .u8 41] 5)) w.heap.size 6 _ 5 hb1
  rw [hcv1]
  have hbm1 := mark_same (w.alloc (Obj.cells #[Value.int .u8 97, Value.int .u8 46, Value.int .u8 32, Value.int .u8 40, Value.int .u8 98, Value.int .u8 41] 5)) w.heap.size 6 _ 5 hb1
  have hBm1 := mark_below (w.alloc (Obj.cells #[Value.int .u8 97, Value.int .u8 46, Value.int .u8 32, Value.int .u8 40, Value.int .u8 98, Value.int .u8 41] 5)) w.heap.size w.heap.size 6 (Below.refl w.heap.size w).size hB1
  generalize hW : (w.alloc (Obj.cells #[Value.int .u8 97, Value.int .u8 46, Value.int .u8 32, Value.int .u8 40, Value.int .u8 98, Value.int .u8 41] 5)).freeze _ 1 = W
  have hbm' : W.heap[w.heap.size]? = some (Obj.cells #[Value.int .u8 97, Value.int .u8 46, Value.int .u8 32, Value.int .u8 40, Value.int .u8 98, Value.int .u8 41] 5 (6, 7)) := by rw [← hW]; exact hbm1
  have hBm' : Below w.heap.size w W := by rw [← hW]; exact hBm1
  clear hW hb1 hB1 hbm1 hBm1 hcv1
  have HC := Aside0.mk (bytes_C W w.heap.size tx 5 _ (by decide) hbm')
  have HB := Aside0.mk hBm'
  clear hBm' hbm'
  go_wp2_with fail
  refine (block_Move.calls 100 (some ⟨w.heap.size, 0, none⟩) 6 tx 3 1 ⟨#[37]⟩ 3 5 2 0 W HC.out (by decide) tx1).mono ?_
  rintro e w1 ⟨rfl, h1⟩
  have HB1 := Aside0.mk (below_step HB.out h1)
  clear h1 HC HB
  go_upto_region 2 with (fail)
  have hR := blk_new w1 (Obj.cells #[Value.int .i64 3, Value.int .i64 5, Value.int .i64 2] 30)
  have hBx := HB1.out.alloc HB1.out.size (Obj.cells #[Value.int .i64 3, Value.int .i64 5, Value.int .i64 2] 30)
  generalize w1.alloc (Obj.cells #[Value.int .i64 3, Value.int .i64 5, Value.int .i64 2] 30) = w2 at hR hBx ⊢
  have HR := Aside0.mk hR
  have HB2 := Aside0.mk hBx
  clear hR hBx HB1
  go_wp2_with fail
  have hb2 := blk_new w2 (Obj.cells #[Value.int .u8 97, Value.int .u8 46, Value.int .u8 32, Value.int .u8 40, Value.int .u8 98, Value.int .u8 41] 5)
  have hB2 := (HB2.out).alloc (HB2.out).size (Obj.cells #[Value.int .u8 97, Value.int .u8 46, Value.int .u8 32, Value.int .u8 40, Value.int .u8 98, Value.int .u8 41] 5)
  have hcv2 := mark_run (w2.alloc (Obj.cells #[Value.int .u8 97, Value.int .u8 46, Value.int .u8 32, Value.int .u8 40, Value.int .u8 98, Value.int .u8 41] 5)) w2.heap.size 6 _ 5 hb2
  rw [hcv2]
  have hbm2 := mark_same (w2.alloc (Obj.cells #[Value.int .u8 97, Value.int .u8 46, Value.int .u8 32, Value.int .u8 40, Value.int .u8 98, Value.int .u8 41] 5)) w2.heap.size 6 _ 5 hb2
  have hBm2 := mark_below (w2.alloc (Obj.cells #[Value.int .u8 97, Value.int .u8 46, Value.int .u8 32, Value.int .u8 40, Value.int .u8 98, Value.int .u8 41] 5)) w.heap.size w2.heap.size 6 (HB2.out).size hB2
  have hr2 : ((w2.alloc (Obj.cells #[Value.int .u8 97, Value.int .u8 46, Value.int .u8 32, Value.int .u8 40, Value.int .u8 98, Value.int .u8 41] 5)).freeze ⟨w2.heap.size, 6, none⟩ 1).heap[w1.heap.size]? = _ := (mark_other (w2.alloc (Obj.cells #[Value.int .u8 97, Value.int .u8 46, Value.int .u8 32, Value.int .u8 40, Value.int .u8 98, Value.int .u8 41] 5)) w2.heap.size 6 w1.heap.size (by have := blk_lt HR.out; omega)).trans (blk_alloc HR.out (Obj.cells #[Value.int .u8 97, Value.int .u8 46, Value.int .u8 32, Value.int .u8 40, Value.int .u8 98, Value.int .u8 41] 5))
  generalize hW : (w2.alloc (Obj.cells #[Value.int .u8 97, Value.int .u8 46, Value.int .u8 32, Value.int .u8 40, Value.int .u8 98, Value.int .u8 41] 5)).freeze _ 1 = W2
  have hbm' : W2.heap[w2.heap.size]? = some (Obj.cells #[Value.int .u8 97, Value.int .u8 46, Value.int .u8 32, Value.int .u8 40, Value.int .u8 98, Value.int .u8 41] 5 (6, 7)) := by rw [← hW]; exact hbm2
  have hBm' : Below w.heap.size w W2 := by rw [← hW]; exact hBm2
  have hr3 : W2.heap[w1.heap.size]? = some (Obj.cells #[Value.int .i64 3, Value.int .i64 5, Value.int .i64 2] 30 (0, 0)) := by rw [← hW]; exact hr2
  clear hW hb2 hB2 hbm2 hBm2 hcv2 hr2
  have HC := Aside0.mk (bytes_C W2 w2.heap.size tx 5 _ (by decide) hbm')
  have HB := Aside0.mk hBm'
  have HR3 := Aside0.mk hr3
  clear hBm' hbm' hr3
  go_wp2_with fail
  refine (block_Move.calls 100 (some ⟨w2.heap.size, 0, none⟩) 6 tx 0 1 ⟨#[41]⟩ 0 3 1 0 W2 HC.out (by decide) tx2).mono ?_
  rintro e w3 ⟨rfl, h3⟩
  have ha := blk_alloc (blk_below HR3.out h3) (Obj.cells #[Value.int .i64 0, Value.int .i64 3, Value.int .i64 1] 30)
  have hb := blk_new w3 (Obj.cells #[Value.int .i64 0, Value.int .i64 3, Value.int .i64 1] 30)
  have hB4 := below_step HB.out h3
  have hB5 := hB4.alloc hB4.size (Obj.cells #[Value.int .i64 0, Value.int .i64 3, Value.int .i64 1] 30)
  clear hB4 h3 HC HB HR3 HR HB2
  go_upto_region 3 with (fail)
  generalize w3.alloc (Obj.cells #[Value.int .i64 0, Value.int .i64 3, Value.int .i64 1] 30) = W4 at ha hb hB5 ⊢
  have HB5 := Aside0.mk hB5
  have ha0 := blk_cell ha 0
  have ha1 := blk_cell ha 1
  have ha2 := blk_cell ha 2
  have hb0 := blk_cell hb 0
  have hb1 := blk_cell hb 1
  have hb2 := blk_cell hb 2
  simp only [List.getElem?_toArray, List.getElem?_cons_zero, List.getElem?_cons_succ] at ha0 ha1 ha2 hb0 hb1 hb2
  clear ha hb hB5
  go_wp2_with fail
  go_ret
  exact ⟨rfl, HB5.out⟩
end Go.Proofs.Ytbklmdgmgffjeaa.Hand
