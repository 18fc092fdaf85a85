/- alive of layer 8 answers true. No condition. -/
import Derived.Test.YtghoeadmimgfnaaMw
namespace Go.Proofs.Ytghoeadmimgfnaa.Hand
open Go.RowKit Go.Proofs.Ytghoeadmimgfnaa.PWa Go.Proofs.Ytghoeadmimgfnaa.Aggs Go.Proofs.YtghoeadmimgfnaaW.PrintWords Go.Proofs.YtghoeadmimgfnaaW.PrintLast Go.Proofs.YtghoeadmimgfnaaW.PrintMore
set_option linter.unusedVariables false
set_option linter.unusedSimpArgs false
abbrev tx : List Int := [105, 102, 32, 40, 120, 41, 32, 103, 111, 10, 10, 101, 110, 100]
theorem tx1 : mwF tx 7 2 ⟨#[119]⟩ = (7, 11, 1, 0) := by
  have h : kix ⟨#[119]⟩ = some 0 := by simp [kix, ByteArray.toList_eq]
  unfold mwF
  rw [h]
  decide
theorem tx2 : mwF tx 10 0 ⟨#[103, 101]⟩ = (10, 8, 2, 0) := by
  have h : kix ⟨#[103, 101]⟩ = some 3 := by simp [kix, ByteArray.toList_eq]
  unfold mwF
  rw [h]
  decide
theorem tx3 : mwF tx 13 1 ⟨#[101]⟩ = (0, 0, 0, 70) := by
  have h : kix ⟨#[101]⟩ = some 2 := by simp [kix, ByteArray.toList_eq]
  unfold mwF
  rw [h]
  decide
/-- a conversion of bytes to their own type marks the place behind the block -/
theorem mark_run (w : World) (g n : Nat) (cs : Array Value) (e : TypeId) (h : w.heap[g]? = some (.cells cs e (0, 0))) :
    (convert 22 22 (.slice (some ⟨g, 0, none⟩) n n)).run Try.prog w = .ok (.slice (some ⟨g, 0, none⟩) n n) (w.freeze ⟨g, cs.size, none⟩ 1) := by
  have hs : w.shape? g = some (e, cs.size) := by unfold World.shape?; rw [h]
  unfold convert markStringish
  simp only [Sem.run_bind, run_underlying Try.underlying22, Result.andThen_ok, beq_self_eq_true, run_underlying Try.underlying5, run_shape, hs, run_freeze, Sem.run_pure]
theorem mark_other (w : World) (g n b : Nat) (h : b ≠ g) : (w.freeze ⟨g, n, none⟩ 1).heap[b]? = w.heap[b]? := by
  simp only [World.freeze, Nat.one_ne_zero, if_false, Array.getElem?_modify]
  rw [if_neg (fun h' => h h'.symm)]
theorem mark_same (w : World) (g n : Nat) (cs : Array Value) (e : TypeId) (h : w.heap[g]? = some (.cells cs e (0, 0))) : (w.freeze ⟨g, n, none⟩ 1).heap[g]? = some (.cells cs e (n, n + 1)) := by
  simp only [World.freeze, Nat.one_ne_zero, if_false, Array.getElem?_modify, if_true, h, Option.map_some]
  rfl
theorem mark_below (w : World) (B g n : Nat) (hg : B ≤ g) {w0 : World} (h : Below B w0 w) : Below B w0 (w.freeze ⟨g, n, none⟩ 1) :=
  ⟨h.os, h.tape, h.output, by simp [World.freeze]; exact h.size, fun k hk => (mark_other w g n k (by omega)).trans (h.block k hk)⟩
theorem bytes_C (w : World) (g : Nat) (l : List Int) (e : TypeId) (fr : Nat × Nat) (hl : l.length ≤ 1048576) (h : w.heap[g]? = some (.cells (l.map (Value.int .u8)).toArray e fr)) : Kd.C (Kd.int .u8) w (some ⟨g, 0, none⟩) l.length l := by
  refine ⟨rfl, by omega, fun _ => ⟨_, rfl, fun j p hj => ⟨[.int .u8 p], rfl, rfl, fun i u hi => ?_⟩⟩⟩
  match i, hi with
  | 0, hi =>
    simp only [List.getElem?_cons_zero, Option.some.injEq] at hi
    subst hi
    have h1 : (Kd.int .u8).sz = 1 := rfl
    rw [add_plain', h1, cell_of_row w g _ _ e fr h]
    simp [hj]
  | i + 1, hi => simp at hi
set_option maxHeartbeats 1000000 in
set_option maxRecDepth 100000 in
theorem alive_calls (w : World) : Calls Try.prog 8 #[] w fun e w' => e = .returned (.bool true) ∧ Below w.heap.size w w' := by
  go_enter Try.func8, Try.ntmps8
  go_wp2_with fail
  have hb := blk_new w (Obj.cells #[Value.int .u8 105, Value.int .u8 102, Value.int .u8 32, Value.int .u8 40, Value.int .u8 120, Value.int .u8 41, Value.int .u8 32, Value.int .u8 103, Value.int .u8 111, Value.int .u8 10, Value.int .u8 10, Value.int .u8 101, Value.int .u8 110, Value.int .u8 100] 5)
  have hB := (Below.refl w.heap.size w).alloc (Nat.le_refl _) (Obj.cells #[Value.int .u8 105, Value.int .u8 102, Value.int .u8 32, Value.int .u8 40, Value.int .u8 120, Value.int .u8 41, Value.int .u8 32, Value.int .u8 103, Value.int .u8 111, Value.int .u8 10, Value.int .u8 10, Value.int .u8 101, Value.int .u8 110, Value.int .u8 100] 5)
  have hcv := mark_run (w.alloc (Obj.cells #[Value.int .u8 105, Value.int .u8 102, Value.int .u8 32, Value.int .u8 40, Value.int .u8 120, Value.int .u8 41, Value.int .u8 32, Value.int .u8 103, Value.int .u8 111, Value.int .u8 10, Value.int .u8 10, Value.int .u8 101, Value.int .u8 110, Value.int .u8 100] 5)) w.heap.size 14 _ 5 hb
  rw [hcv]
  have hbm := mark_same (w.alloc (Obj.cells #[Value.int .u8 105, Value.int .u8 102, Value.int .u8 32, Value.int .u8 40, Value.int .u8 120, Value.int .u8 41, Value.int .u8 32, Value.int .u8 103, Value.int .u8 111, Value.int .u8 10, Value.int .u8 10, Value.int .u8 101, Value.int .u8 110, Value.int .u8 100] 5)) w.heap.size 14 _ 5 hb
  have hBm := mark_below (w.alloc (Obj.cells #[Value.int .u8 105, Value.int .u8 102, Value.int .u8 32, Value.int .u8 40, Value.int .u8 120, Value.int .u8 41, Value.int .u8 32, Value.int .u8 103, Value.int .u8 111, Value.int .u8 10, Value.int .u8 10, Value.int .u8 101, Value.int .u8 110, Value.int .u8 100] 5)) w.heap.size w.heap.size 14 (Nat.le_refl _) hB
  clear hcv
  generalize hW : (w.alloc (Obj.cells #[Value.int .u8 105, Value.int .u8 102, Value.int .u8 32, Value.int .u8 40, Value.int .u8 120, Value.int .u8 41, Value.int .u8 32, Value.int .u8 103, Value.int .u8 111, Value.int .u8 10, Value.int .u8 10, Value.int .u8 101, Value.int .u8 110, Value.int .u8 100] 5)).freeze _ 1 = W
  have hbm' : W.heap[w.heap.size]? = some (Obj.cells #[Value.int .u8 105, Value.int .u8 102, Value.int .u8 32, Value.int .u8 40, Value.int .u8 120, Value.int .u8 41, Value.int .u8 32, Value.int .u8 103, Value.int .u8 111, Value.int .u8 10, Value.int .u8 10, Value.int .u8 101, Value.int .u8 110, Value.int .u8 100] 5 (14, 15)) := by rw [← hW]; exact hbm
  have hBm' : Below w.heap.size w W := by rw [← hW]; exact hBm
  clear hW hb hB hbm hBm
  have hC := bytes_C W w.heap.size tx 5 _ (by decide) hbm'
  have HC := Aside0.mk hC
  have HB := Aside0.mk hBm'
  clear hC hBm' hbm'
  go_wp2_with fail
  refine (Move_calls (some ⟨w.heap.size, 0, none⟩) 14 tx 7 2 ⟨#[119]⟩ W HC.out (by decide)).mono ?_
  rw [tx1]
  rintro e w1 ⟨rfl, h1⟩
  unfold mvV
  simp only []
  have HC1 := Aside0.mk (Kd.C_below HC.out h1)
  have HB1 := Aside0.mk (below_step HB.out h1)
  clear h1 HC HB
  go_wp2_with fail
  refine (Move_calls (some ⟨w.heap.size, 0, none⟩) 14 tx 10 0 ⟨#[103, 101]⟩ _ (Kd.C_alloc HC1.out _) (by decide)).mono ?_
  rw [tx2]
  rintro e w2 ⟨rfl, h2⟩
  unfold mvV
  simp only []
  have HA2 := Aside0.mk (blk_below (blk_new w1 _) h2)
  have HC2 := Aside0.mk (Kd.C_below (Kd.C_alloc HC1.out _) h2)
  have HB2 := Aside0.mk (below_step (HB1.out.alloc (HB1.out.size) _) h2)
  clear h2 HC1 HB1
  go_wp2_with fail
  refine (Move_calls (some ⟨w.heap.size, 0, none⟩) 14 tx 13 1 ⟨#[101]⟩ _ (Kd.C_alloc HC2.out _) (by decide)).mono ?_
  rw [tx3]
  rintro e w3 ⟨rfl, h3⟩
  unfold mvV
  simp only []
  have Z := (Obj.cells #[Value.int .i64 0, Value.int .i64 0, Value.int .i64 0] 27)
  have ha := blk_alloc (blk_below (blk_alloc HA2.out _) h3) (Obj.cells #[Value.int .i64 0, Value.int .i64 0, Value.int .i64 0] 27)
  have hb := blk_alloc (blk_below (blk_new w2 _) h3) (Obj.cells #[Value.int .i64 0, Value.int .i64 0, Value.int .i64 0] 27)
  have hB4 := below_step (HB2.out.alloc (HB2.out.size) _) h3
  have hB3 := hB4.alloc hB4.size (Obj.cells #[Value.int .i64 0, Value.int .i64 0, Value.int .i64 0] 27)
  clear hB4 Z
  go_upto_region 5 with (fail)
  generalize w3.alloc (Obj.cells #[Value.int .i64 0, Value.int .i64 0, Value.int .i64 0] 27) = W4 at ha hb hB3 ⊢
  have HB3 := Aside0.mk hB3
  have ha1 := blk_cell ha 1
  have ha2 := blk_cell ha 2
  have hb1 := blk_cell hb 1
  have hb2 := blk_cell hb 2
  simp only [List.getElem?_toArray, List.getElem?_cons_zero, List.getElem?_cons_succ] at ha1 ha2 hb1 hb2
  clear h3 HC2 HB2 HA2 ha hb hB3
  go_wp2_with fail
  go_ret
  exact ⟨rfl, HB3.out⟩
end Go.Proofs.Ytghoeadmimgfnaa.Hand
