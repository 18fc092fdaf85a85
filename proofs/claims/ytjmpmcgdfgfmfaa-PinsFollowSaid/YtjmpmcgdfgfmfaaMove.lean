/- pins: edits; Move of pins and of the reference. No condition. -/
import Derived.Test.YtjmpmcgdfgfmfaaHand9
namespace Go.Proofs.Ytjmpmcgdfgfmfaa.Hand
open Go.RowKit Go.Proofs.Ytjmpmcgdfgfmfaa.Aggs Go.Proofs.YtjmpmcgdfgfmfaaW.PrintWords Go.Proofs.YtjmpmcgdfgfmfaaW.PrintLast Go.Proofs.YtjmpmcgdfgfmfaaW.PrintMore
set_option linter.unusedVariables false
set_option linter.unusedSimpArgs false
/-- an edit: where, what goes, what comes -/
structure S42 where
  f0 : Int
  f1 : List Int
  f2 : List Int
def k42 : Kd S42 := Kd.iso (Kd.pair (Kd.int .i64) (Kd.pair (Kd.slice 5 (Kd.int .u8)) (Kd.slice 5 (Kd.int .u8)))) (fun x : S42 => (x.f0, x.f1, x.f2))
theorem k42_open {w : World} {x : S42} {cs : List Value} (h : k42.K w x cs) : ∃ A c B d, cs = [.int .i64 x.f0, .slice A x.f1.length c, .slice B x.f2.length d] ∧ x.f1.length ≤ c ∧ x.f2.length ≤ d ∧ (Kd.int .u8).C w A x.f1.length x.f1 ∧ (Kd.int .u8).C w B x.f2.length x.f2 := by
  obtain ⟨_, _, rfl, rfl, _, _, rfl, ⟨A, c, rfl, h1, h2⟩, ⟨B, d, rfl, h3, h4⟩⟩ := h
  exact ⟨A, c, B, d, rfl, h1, h3, h2, h4⟩
def step1 (l : List Int) (e : S42) : List Int := l.map (behindI e.f0 e.f1.length e.f2.length)
def moveR (es : List S42) (l : List Int) : List Int := es.foldl step1 l
theorem step1_len (l : List Int) (e : S42) : (step1 l e).length = l.length := by simp [step1]
theorem moveR_len : ∀ (es : List S42) (l : List Int), (moveR es l).length = l.length
  | [], l => rfl
  | e :: es, l => by
    show (moveR es (step1 l e)).length = _
    rw [moveR_len es, step1_len]
theorem moveR_take (es : List S42) (l : List Int) (i : Nat) (h : i < es.length) : step1 (moveR (es.take i) l) es[i] = moveR (es.take (i + 1)) l := by
  unfold moveR
  rw [List.take_add_one, List.foldl_append, List.getElem?_eq_getElem h]
  rfl
/-- Edit i, read. -/
theorem edit_at {w : World} {A : Option Addr} {es : List S42} (h : k42.C w A es.length es) (i : Nat) (hi : i < es.length) :
    ∃ ad Ao o Bo n, A = some ad ∧ ∀ j v, [Value.int .i64 es[i].f0, Value.slice Ao es[i].f1.length o, Value.slice Bo es[i].f2.length n][j]? = some v → w.cell? ((ad.add (i * 3)).add j) = some v := by
  obtain ⟨ad, c, rfl, hl, hk, hc⟩ := Kd.C_get h es[i] (i : Int) (by omega) (by omega)
  have e1 : es.getD (i : Int).toNat es[i] = es[i] := by simp [List.getD_eq_getElem?_getD, List.getElem?_eq_getElem hi]
  rw [e1] at hk
  obtain ⟨Ao, o, Bo, n, rfl, _⟩ := k42_open hk
  refine ⟨ad, Ao, o, Bo, n, rfl, fun j v hj => ?_⟩
  have := hc j v hj
  rw [Addr.add_add]
  exact this

set_option maxHeartbeats 1000000 in
set_option maxRecDepth 100000 in
theorem move_core (l : List Int) (es : List S42) (F : Nat → List Int) (A : Option Addr) (c : Nat) (w : World) (h0 : F 0 = l) (hlen : ∀ i, (F i).length = 27) (hstep : ∀ (i : Nat) (h : i < es.length), (F i).map (behindI es[i].f0 es[i].f1.length es[i].f2.length) = F (i + 1)) (hr : k42.C w A es.length es) :
    Calls Try.prog 21 #[mv l, .slice A es.length c] w fun e w' => e = .returned (mv (F es.length)) ∧ Below w.heap.size w w' := by
  have HLN := Aside0.mk hlen
  have HS := Aside0.mk hstep
  have H0 := Aside0.mk h0
  have HC := Aside0.mk hr
  have hbig : es.length ≤ 9223372036854775807 := hr.2.1
  clear hlen hstep h0 hr
  go_enter Try.func21, Try.ntmps21
  go_upto_region 1 with (fail)
  have hb1 := blk_alloc (blk_new w (Obj.cells (nums .i64 l).toArray 24)) (Obj.cells #[.int .i64 0, .int .i64 0, .int .i64 0, .int .i64 0, .int .i64 0, .int .i64 0, .int .i64 0, .int .i64 0, .int .i64 0, .int .i64 0, .int .i64 0, .int .i64 0, .int .i64 0, .int .i64 0, .int .i64 0, .int .i64 0, .int .i64 0, .int .i64 0, .int .i64 0, .int .i64 0, .int .i64 0, .int .i64 0, .int .i64 0, .int .i64 0, .int .i64 0, .int .i64 0, .int .i64 0] 24)
  have hb2 := heap_alloc2_new w (Obj.cells (nums .i64 l).toArray 24) (Obj.cells #[.int .i64 0, .int .i64 0, .int .i64 0, .int .i64 0, .int .i64 0, .int .i64 0, .int .i64 0, .int .i64 0, .int .i64 0, .int .i64 0, .int .i64 0, .int .i64 0, .int .i64 0, .int .i64 0, .int .i64 0, .int .i64 0, .int .i64 0, .int .i64 0, .int .i64 0, .int .i64 0, .int .i64 0, .int .i64 0, .int .i64 0, .int .i64 0, .int .i64 0, .int .i64 0, .int .i64 0] 24)
  have hb3 := (((Below.refl w.heap.size w).alloc (Nat.le_refl _) (Obj.cells (nums .i64 l).toArray 24)).alloc (by simp) (Obj.cells #[.int .i64 0, .int .i64 0, .int .i64 0, .int .i64 0, .int .i64 0, .int .i64 0, .int .i64 0, .int .i64 0, .int .i64 0, .int .i64 0, .int .i64 0, .int .i64 0, .int .i64 0, .int .i64 0, .int .i64 0, .int .i64 0, .int .i64 0, .int .i64 0, .int .i64 0, .int .i64 0, .int .i64 0, .int .i64 0, .int .i64 0, .int .i64 0, .int .i64 0, .int .i64 0, .int .i64 0] 24))
  generalize ((w.alloc (Obj.cells (nums .i64 l).toArray 24)).alloc (Obj.cells #[.int .i64 0, .int .i64 0, .int .i64 0, .int .i64 0, .int .i64 0, .int .i64 0, .int .i64 0, .int .i64 0, .int .i64 0, .int .i64 0, .int .i64 0, .int .i64 0, .int .i64 0, .int .i64 0, .int .i64 0, .int .i64 0, .int .i64 0, .int .i64 0, .int .i64 0, .int .i64 0, .int .i64 0, .int .i64 0, .int .i64 0, .int .i64 0, .int .i64 0, .int .i64 0, .int .i64 0] 24)) = W at hb1 hb2 hb3 ⊢
  have HB := Aside0.mk hb1
  have HR := Aside0.mk hb2
  have HW := Aside0.mk hb3
  clear hb1 hb2 hb3
  go_wp2
  go_loopw [9, 6] (fun v _ wr => ∃ i : Nat, i ≤ es.length ∧ v = .int .i64 i ∧ Aside0 (wr.heap[w.heap.size]? = some (Obj.cells (nums .i64 (F i)).toArray 24)) ∧ Aside0 (wr.heap[w.heap.size + 1]? = some (Obj.cells #[.int .i64 0, .int .i64 0, .int .i64 0, .int .i64 0, .int .i64 0, .int .i64 0, .int .i64 0, .int .i64 0, .int .i64 0, .int .i64 0, .int .i64 0, .int .i64 0, .int .i64 0, .int .i64 0, .int .i64 0, .int .i64 0, .int .i64 0, .int .i64 0, .int .i64 0, .int .i64 0, .int .i64 0, .int .i64 0, .int .i64 0, .int .i64 0, .int .i64 0, .int .i64 0, .int .i64 0] 24 (0, 0))) ∧ Aside0 (Below w.heap.size w wr)) (fun v _ _ => es.length - (intOf v).toNat)
  case atStart => exact ⟨0, by omega, rfl, ⟨by rw [H0.out]; exact HB.out⟩, HR, HW⟩
  case round =>
    obtain ⟨i, hi, rfl, HBr, HRr, HWr⟩ := hrel
    clear HB HR HW
    by_cases hlt : i < es.length
    · have hlt' : ((i : Int) < es.length) = True := eq_true (by omega)
      have HL := Aside0.mk (HLN.out i)
      have HL2 := Aside0.mk (HLN.out (i + 1))
      have HS1 := Aside0.mk (HS.out i hlt)
      obtain ⟨ad, Ao, o, Bo, n, rfl, hcell⟩ := edit_at (Kd.C_below HC.out HWr.out) i hlt
      trace_state
      go_upto_region 4 with (refine wpList_load_agg rfl 42 (.tmp 11) rfl (ad.add (i * 3)) ?a1 [Value.int .i64 es[i].f0, Value.slice Ao es[i].f1.length o, Value.slice Bo es[i].f2.length n] _ ?a2 Try.underlying42 rfl ?a3 ?a4)
      case a1 => rfl
      case a2 => exact hcell
      case a3 => kernel_rfl
      have k1 := blk_alloc HBr.out (Obj.cells #[Value.int .i64 es[i].f0, Value.slice Ao es[i].f1.length o, Value.slice Bo es[i].f2.length n] 42)
      have k2 := blk_alloc HRr.out (Obj.cells #[Value.int .i64 es[i].f0, Value.slice Ao es[i].f1.length o, Value.slice Bo es[i].f2.length n] 42)
      have k3 := blk_new wr (Obj.cells #[Value.int .i64 es[i].f0, Value.slice Ao es[i].f1.length o, Value.slice Bo es[i].f2.length n] 42)
      have k4 := HWr.out.alloc HWr.out.size (Obj.cells #[Value.int .i64 es[i].f0, Value.slice Ao es[i].f1.length o, Value.slice Bo es[i].f2.length n] 42)
      generalize (wr.alloc (Obj.cells #[Value.int .i64 es[i].f0, Value.slice Ao es[i].f1.length o, Value.slice Bo es[i].f2.length n] 42)) = V at k1 k2 k3 k4 ⊢
      have K1 := Aside0.mk k1
      have K2 := Aside0.mk k2
      have K3 := Aside0.mk k3
      have K4 := Aside0.mk k4
      clear k1 k2 k3 k4 HBr HRr HWr hcell
      go_wp2_with (first | (refine wpList_load_agg rfl 24 (.tmp 2) rfl ⟨w.heap.size, 0, none⟩ ?b1 (nums .i64 (F i)) _ ?b2 Try.underlying24 rfl ?b3 ?b4) | (refine wpList_load_agg rfl 42 (.tmp 6) rfl ⟨wr.heap.size, 0, none⟩ ?c1 [Value.int .i64 es[i].f0, Value.slice Ao es[i].f1.length o, Value.slice Bo es[i].f2.length n] _ ?c2 Try.underlying42 rfl ?c3 ?c4))
      case b1 => rfl
      case b2 =>
        intro j v hj
        rw [add_plain', Nat.zero_add, blk_cell K1.out]
        simpa using hj
      case b3 =>
        rw [nums_length, HL.out]
        exact info24
      case c2 =>
        intro j v hj
        rw [add_plain', Nat.zero_add, blk_cell K3.out]
        simpa using hj
      case c3 => kernel_rfl
      refine (shift_calls (F i) HL.out _ _ _ _ _ _ _ _).mono ?_
      rintro e w2 ⟨rfl, hB2⟩
      rw [HS1.out]
      have HB2 := Aside0.mk (blk_below K1.out hB2)
      have HR2 := Aside0.mk (blk_below K2.out hB2)
      have HW2 := Aside0.mk (below_step K4.out hB2)
      clear hB2 K1 K2 K3 K4
      go_wp2_with (refine wpList_store_agg rfl 24 (.tmp 2) (.tmp 15) rfl (w.heap.size) 0 ?x5e (nums .i64 (F (i + 1))) ?x5f _ 24 HB2.out ?x5h (nums_one _) ?x5j ?x5k)
      case x5e => rfl
      case x5f => rfl
      case x5h => rw [nums_length, HL2.out, List.size_toArray, nums_length, HL.out]; exact Nat.le_refl _
      case x5j =>
        rw [nums_length, HL2.out]
        exact info24
      have h1 := putCells_block (nums .i64 (F (i + 1))) w2 (w.heap.size) 0 _ 24 HB2.out
      rw [splice_whole _ (nums .i64 (F (i + 1))) (by rw [nums_length, HL2.out, List.size_toArray, nums_length, HL.out])] at h1
      have h2 := (putCells_other (nums .i64 (F (i + 1))) w2 w.heap.size 0 (w.heap.size + 1) (by omega)).trans HR2.out
      have h3 := putCells_below (nums .i64 (F (i + 1))) w w2 w.heap.size w.heap.size 0 (Nat.le_refl _) HW2.out
      have h1 := Aside0.mk h1
      have h2 := Aside0.mk h2
      have h3 := Aside0.mk h3
      go_roundw
      case measure => simp [intOf]; omega
      case rel => exact ⟨i + 1, by omega, by go_num, h1, h2, h3⟩
    · have hge : ((i : Int) < es.length) = False := eq_false (by omega)
      obtain rfl : i = es.length := by omega
      clear hge
      have HL := Aside0.mk (HLN.out es.length)
      go_wp2_with (first | (refine wpList_load_agg rfl 24 (.tmp 2) rfl ⟨w.heap.size, 0, none⟩ ?z2a (nums .i64 (F es.length)) _ ?z2b Try.underlying24 rfl ?z2c ?z2d) | (refine wpList_store_agg rfl 24 (.tmp 4) (.tmp 17) rfl ((w.heap.size + 1)) 0 ?z2e (nums .i64 (F es.length)) ?z2f _ 24 (HRr.out) ?z2h ?z2i ?z2j ?z2k))
      case z2a => rfl
      case z2b =>
        intro j v hj
        rw [add_plain', Nat.zero_add, blk_cell HBr.out]
        simpa using hj
      case z2c =>
        rw [nums_length, HL.out]
        exact info24
      case z2h => rw [nums_length, HL.out]; exact Nat.le_refl _
      case z2i => exact nums_one _
      case z2j =>
        rw [nums_length, HL.out]
        exact info24
      case z2k =>
        have hW := putCells_block (nums .i64 (F es.length)) _ ((w.heap.size + 1)) 0 _ 24 HRr.out
        rw [splice_whole _ _ (by rw [nums_length, HL.out]; rfl)] at hW
        refine bodyPost_ret (results_cell_row rfl _ _ ((w.heap.size + 1)) 24 _ (0, 0) _ rfl hW Try.underlying24 rfl ?_) rfl ⟨rfl, putCells_below _ _ _ _ _ _ (by omega) HWr.out⟩
        · rw [List.size_toArray, nums_length, HL.out]
          exact info24
theorem move_calls (l : List Int) (hl : l.length = 27) (es : List S42) (A : Option Addr) (c : Nat) (w : World) (hr : k42.C w A es.length es) :
    Calls Try.prog 21 #[mv l, .slice A es.length c] w fun e w' => e = .returned (mv (moveR es l)) ∧ Below w.heap.size w w' := by
  have h := move_core l es (fun i => moveR (es.take i) l) A c w rfl (fun i => by rw [moveR_len, hl]) (fun i h => moveR_take es l i h) hr
  rw [List.take_length] at h
  exact h

end Go.Proofs.Ytjmpmcgdfgfmfaa.Hand
