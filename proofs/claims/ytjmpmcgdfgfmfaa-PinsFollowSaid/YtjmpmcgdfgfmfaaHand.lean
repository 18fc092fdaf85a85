/- pins: hand walks -/
import Derived.Test.YtjmpmcgdfgfmfaaProg
import Derived.Below
import Derived.Deep.Draws
import Derived.Deep.AppendLies
import Derived.Maps.AppendAt
import Derived.OwnWalk
import Derived.Laws.BytesArg
import Derived.Laws.MakeOwn
import Derived.Laws.OwnMore
import Derived.Deep.OwnRows
import Derived.Tactics
import Derived.Lib.ConvBytes
import Derived.Laws.Slices
import Derived.WalkKit
import Derived.KernelRfl
import Derived.RowKit3
import Derived.Deep.LoopGhost
import Derived.Deep.QuietTactic
import Derived.BigQuiet
import Derived.WideLaws
import Derived.Deep.DeepCutAuto
import Derived.Deep.CutBlock
import Derived.Deep.RegionHeld3
import Derived.Laws.Rows
import Derived.Lib.AppendStr
import Derived.ArgAppend
import Derived.Laws.IdiomCopy
import Derived.OrdersHeld
import Derived.Laws.BitsLemmas
import Derived.RowKit
import Derived.Test.YtjmpmcgdfgfmfaaWMore
import Derived.Test.YtjmpmcgdfgfmfaaAgg
import Derived.Outline
namespace Go.Proofs.Ytjmpmcgdfgfmfaa.Hand
open Go.RowKit Go.Proofs.Ytjmpmcgdfgfmfaa.Aggs Go.Proofs.YtjmpmcgdfgfmfaaW.PrintWords Go.Proofs.YtjmpmcgdfgfmfaaW.PrintLast Go.Proofs.YtjmpmcgdfgfmfaaW.PrintMore
set_option linter.unusedVariables false
set_option linter.unusedSimpArgs false

abbrev mv (l : List Int) : Value := .agg (nums .i64 l).toArray
def upd (g : Int → Int) (l : List Int) (i : Nat) : List Int := (l.take i).map g ++ l.drop i
theorem upd_succ (g : Int → Int) : ∀ (l : List Int) (i : Nat), i < l.length → upd g l (i + 1) = (upd g l i).set i (g (l[i]?.getD 0))
  | [], i, h => by simp at h
  | x :: l, 0, h => by simp [upd]
  | x :: l, i + 1, h => by
    have := upd_succ g l i (by simpa using h)
    simp only [upd, List.take_succ_cons, List.drop_succ_cons, List.map_cons, List.cons_append, List.set_cons_succ, List.getElem?_cons_succ] at this ⊢
    rw [this]
theorem upd_cells (g : Int → Int) (l : List Int) (i : Nat) (h : i < l.length) : (nums .i64 (upd g l i)).toArray.setIfInBounds i (.int .i64 (g (l[i]?.getD 0))) = (nums .i64 (upd g l (i + 1))).toArray := by
  rw [upd_succ g l i h, List.setIfInBounds_toArray]
  simp only [nums, List.map_set]
theorem upd_all (g : Int → Int) (l : List Int) : upd g l l.length = l.map g := by simp [upd]
set_option maxHeartbeats 1000000 in
set_option maxRecDepth 100000 in
theorem each_calls (K : FuncId) (caps : Array Value) (gf : Int → Int) (l : List Int) (hl : l.length = 27) (w : World) (Inv : Nat → World → Prop)
    (hkeep : ∀ i W W', Inv i W → Below w.heap.size W W' → Inv i W')
    (hstep : ∀ (i : Nat) (W : World), i < 27 → Inv i W → Calls Try.prog K (#[.int .i64 (l[i]?.getD 0)] ++ caps) W
      (fun e W' => e = .returned (.int .i64 (gf (l[i]?.getD 0))) ∧ Inv (i + 1) W' ∧ W.heap.size ≤ W'.heap.size ∧ (∀ b, w.heap.size ≤ b → b < W.heap.size → W'.heap[b]? = W.heap[b]?)))
    (hcall : ∀ (xs : Array Value) (W : World), (callFunc K xs).run Try.prog W = .ok (.enter K xs) W) (h0 : Inv 0 w) :
    Calls Try.prog 31 #[mv l, .func (.func K) #[] caps] w fun e w' => e = .returned (mv (l.map gf)) ∧ Inv 27 w' := by
  have HL := Aside0.mk hl
  have HKP := Aside0.mk hkeep
  have HST := Aside0.mk hstep
  have HI := Aside0.mk h0
  clear hl hkeep hstep h0
  go_enter Try.func31, Try.ntmps31
  go_wp2_with (refine wpList_load_agg rfl 22 (.tmp 7) rfl ⟨w.heap.size, 0, none⟩ ?hx ((nums .i64 l).take 26) _ ?hc Try.underlying22 rfl ?hi ?hh)
  case hx => rfl
  case hi =>
    have e1 : ((nums .i64 l).take 26).length = 26 := by
      have := HL.out
      simp [nums]
      omega
    have hI : (Try.prog.info? 22).map (fun x => x.size) = some 26 := by kernel_rfl
    rw [e1]
    exact hI
  case hc =>
    intro j v hj
    have hjl : j < 26 := by
      have := (List.getElem?_eq_some_iff.1 hj).1
      rw [List.length_take] at this
      omega
    rw [List.getElem?_take_of_lt hjl] at hj
    rw [add_plain', Nat.zero_add, blk_cell (blk_alloc (blk_new w _) _)]
    simpa using hj
  have H0 : Below w.heap.size w ((w.alloc (Obj.cells (nums .i64 l).toArray 24)).alloc (Obj.cells #[.int .i64 0, .int .i64 0, .int .i64 0, .int .i64 0, .int .i64 0, .int .i64 0, .int .i64 0, .int .i64 0, .int .i64 0, .int .i64 0, .int .i64 0, .int .i64 0, .int .i64 0, .int .i64 0, .int .i64 0, .int .i64 0, .int .i64 0, .int .i64 0, .int .i64 0, .int .i64 0, .int .i64 0, .int .i64 0, .int .i64 0, .int .i64 0, .int .i64 0, .int .i64 0, .int .i64 0] 24)) :=
    ((Below.refl _ _).alloc (Nat.le_refl _) _).alloc (by simp) _
  have HIs := Aside0.mk (HKP.out 0 _ _ HI.out H0)
  have HB0 := Aside0.mk H0
  clear H0
  go_loopw [9] (fun v9 wr => ∃ i : Nat, i ≤ 26 ∧ v9 = .int .i64 i ∧ Aside0 (Inv i wr) ∧ Aside0 (wr.heap[w.heap.size]? = some (.cells (nums .i64 (upd gf l i)).toArray 24 (0, 0))) ∧
      Aside0 (∃ cs : Array Value, cs.size = 27 ∧ wr.heap[w.heap.size + 1]? = some (.cells cs 24 (0, 0)))) (fun v9 _ => 26 - (intOf v9).toNat)
  case atStart =>
    refine ⟨0, by omega, rfl, HIs, ⟨?_⟩, ⟨_, ?_, heap_alloc2_new w _ _⟩⟩
    · rw [show upd gf l 0 = l by simp [upd]]
      exact blk_alloc (blk_new w _) _
    · rfl
  case round =>
    clear HIs HB0
    obtain ⟨i, hi, rfl, HIr, HBr, HRr⟩ := hrel
    by_cases hlt : i < 26
    · have hlt' : ((i : Int) < 26) = True := eq_true (by omega)
      have hix : ∀ W, (Instr.index 22 (.agg (List.take 26 (nums .i64 l)).toArray) (.int .i64 (i : Int))).run Try.prog W = .ok (.int .i64 (l[i]?.getD 0)) W := fun W => by
        refine run_index_agg W 22 3 26 i _ _ _ Try.underlying22 Try.underlying3 rfl (by kernel_rfl) hlt ?_
        have h1 : i < l.length := by have := HL.out; omega
        simp [nums, hlt, h1]
      go_wp2_with fail
      refine (HST.out i wr (by omega) HIr.out).mono ?_
      rintro e w1 ⟨rfl, hI1, hsz, hkp⟩
      have hb1 : w1.heap[w.heap.size]? = some (.cells (nums .i64 (upd gf l i)).toArray 24 (0, 0)) := (hkp _ (Nat.le_refl _) (blk_lt HBr.out)).trans HBr.out
      have hb2 : ∃ cs : Array Value, cs.size = 27 ∧ w1.heap[w.heap.size + 1]? = some (.cells cs 24 (0, 0)) := by
        obtain ⟨cs, h1, h2⟩ := HRr.out
        exact ⟨cs, h1, (hkp _ (by omega) (blk_lt h2)).trans h2⟩
      have hx : w1.cell? ⟨w.heap.size, i, none⟩ = some (.int .i64 (l[i]?.getD 0)) := by
        rw [blk_cell hb1]
        have h1 : i < l.length := by have := HL.out; omega
        simp [nums, upd, h1, List.getElem?_append_right, Nat.min_eq_left (Nat.le_of_lt h1)]
      have hf := blk_frozen hb1 i
      have HX1 := Aside0.mk hI1
      have HX2 := Aside0.mk hb1
      have HX3 := Aside0.mk hb2
      clear hI1 hb1 hb2 hsz hkp HIr HBr HRr
      go_wp2
      go_roundw
      case measure => simp [intOf]; omega
      case rel =>
        refine ⟨i + 1, by omega, by go_num, ⟨HKP.out _ _ _ HX1.out ?_⟩, ⟨?_⟩, ⟨?_⟩⟩
        · exact (Below.refl _ _).setCell (p := ⟨w.heap.size, i, none⟩) (Nat.le_refl _) _
        · refine blk_put HX2.out i _ ?_
          have h1 : i < l.length := by have := HL.out; omega
          exact upd_cells gf l i h1
        · obtain ⟨cs, h1, h2⟩ := HX3.out
          exact ⟨cs, h1, blk_far h2 (by simp) _⟩
    · have hge : ((i : Int) < 26) = False := eq_false (by omega)
      obtain rfl : i = 26 := by omega
      clear hge
      have hb1 := HBr.out
      have hx : wr.cell? ⟨w.heap.size, 26, none⟩ = some (.int .i64 (l[26]?.getD 0)) := by
        rw [blk_cell hb1]
        have h1 : 26 < l.length := by have := HL.out; omega
        simp [nums, upd, h1, List.getElem?_append_right, Nat.min_eq_left (Nat.le_of_lt h1)]
      clear hb1
      go_wp2_with fail
      refine (HST.out 26 wr (by omega) HIr.out).mono ?_
      rintro e w1 ⟨rfl, hI1, hsz, hkp⟩
      have hb1 : w1.heap[w.heap.size]? = some (.cells (nums .i64 (upd gf l 26)).toArray 24 (0, 0)) := (hkp _ (Nat.le_refl _) (blk_lt HBr.out)).trans HBr.out
      obtain ⟨csr, hcr, hbr⟩ : ∃ cs : Array Value, cs.size = 27 ∧ w1.heap[w.heap.size + 1]? = some (.cells cs 24 (0, 0)) := by
        obtain ⟨cs, h1, h2⟩ := HRr.out
        exact ⟨cs, h1, (hkp _ (by omega) (blk_lt h2)).trans h2⟩
      have hx1 : w1.cell? ⟨w.heap.size, 26, none⟩ = some (.int .i64 (l[26]?.getD 0)) := by
        rw [blk_cell hb1]
        have h1 : 26 < l.length := by have := HL.out; omega
        simp [nums, upd, h1, List.getElem?_append_right, Nat.min_eq_left (Nat.le_of_lt h1)]
      have hf := blk_frozen hb1 26
      have HX1 := Aside0.mk hI1
      have HX2 := Aside0.mk (show (w1.setCell ⟨w.heap.size, 26, none⟩ (.int .i64 (gf (l[26]?.getD 0)))).heap[w.heap.size]? = some (.cells (nums .i64 (l.map gf)).toArray 24 (0, 0)) by
        refine blk_put hb1 26 _ ?_
        have hl := HL.out
        rw [upd_cells gf l 26 (by omega), show upd gf l (26 + 1) = l.map gf by rw [← upd_all, hl]])
      have HX3 := Aside0.mk hbr
      have HX4 := Aside0.mk hcr
      clear hI1 hb1 hbr hcr hsz hkp HIr HBr HRr hx
      go_wp2_with (first | (refine wpList_load_agg rfl 24 (.tmp 2) rfl ⟨w.heap.size, 0, none⟩ ?kx (nums .i64 (l.map gf)) _ ?kc Try.underlying24 rfl ?ki ?kk) | (refine wpList_store_agg rfl 24 (.tmp 4) (.tmp 25) rfl (w.heap.size + 1) 0 ?sx (nums .i64 (l.map gf)) ?sy csr 24 ?sb ?sl ?s1 ?si ?ss))
      case kx => rfl
      case kc =>
        intro j v hj
        rw [add_plain', Nat.zero_add, blk_cell HX2.out]
        simpa using hj
      case ki =>
        have hI : (Try.prog.info? 24).map (fun x => x.size) = some 27 := by kernel_rfl
        rw [show (nums .i64 (l.map gf)).length = 27 by have := HL.out; simp [nums]; omega]
        exact hI
      case sb => exact blk_far HX3.out (by simp) _
      case sl => rw [HX4.out]; have := HL.out; simp [nums]; omega
      case s1 => intro v hv; obtain ⟨x, _, rfl⟩ := List.mem_map.1 hv; rfl
      case si =>
        have hI : (Try.prog.info? 24).map (fun x => x.size) = some 27 := by kernel_rfl
        rw [show (nums .i64 (l.map gf)).length = 27 by have := HL.out; simp [nums]; omega]
        exact hI
      case ss =>
        have hW := putCells_block (nums .i64 (l.map gf)) _ (w.heap.size + 1) 0 csr 24 (blk_far HX3.out (show w.heap.size + 1 ≠ (⟨w.heap.size, 26, none⟩ : Addr).block by simp) (.int .i64 (gf (l[26]?.getD 0))))
        rw [splice_whole _ _ (by rw [HX4.out]; have := HL.out; simp [nums]; omega)] at hW
        refine bodyPost_ret (results_cell_row rfl _ _ (w.heap.size + 1) 24 _ (0, 0) _ rfl hW Try.underlying24 rfl ?_) rfl ⟨rfl, HKP.out _ _ _ HX1.out ?_⟩
        · have hI : (Try.prog.info? 24).map (fun x => x.size) = some 27 := by kernel_rfl
          rw [show (nums .i64 (l.map gf)).toArray.size = 27 by have := HL.out; simp [nums]; omega]
          exact hI
        · exact putCells_below _ _ _ _ _ _ (by omega) ((Below.refl _ _).setCell (p := ⟨w.heap.size, 26, none⟩) (Nat.le_refl _) _)
end Go.Proofs.Ytjmpmcgdfgfmfaa.Hand
