/- The walk of the law PinsBack. No condition. -/
import Derived.Test.YtjmpmcgdfgfmfaaCross
namespace Go.Proofs.Ytjmpmcgdfgfmfaa.Hand
open Go.RowKit Go.Proofs.Ytjmpmcgdfgfmfaa.Aggs Go.Proofs.YtjmpmcgdfgfmfaaW.PrintWords Go.Proofs.YtjmpmcgdfgfmfaaW.PrintLast Go.Proofs.YtjmpmcgdfgfmfaaW.PrintMore
set_option linter.unusedVariables false
set_option linter.unusedSimpArgs false
/-- an edit taken back -/
def flipE (e : S42) : S42 := ⟨e.f0, e.f2, e.f1⟩
def backE (es : List S42) : List S42 := es.reverse.map flipE
theorem backE_len (es : List S42) : (backE es).length = es.length := by simp [backE]
theorem backE_step (es : List S42) (j : Nat) (h : j < es.length) : backE (es.drop (j + 1)) ++ [flipE es[j]] = backE (es.drop j) := by
  unfold backE
  rw [List.drop_eq_getElem_cons h, List.reverse_cons, List.map_append]
  rfl
theorem k42_mk {w : World} {x : S42} {A B : Option Addr} {c d : Nat} (h1 : x.f1.length ≤ c) (h2 : x.f2.length ≤ d) (h3 : (Kd.int .u8).C w A x.f1.length x.f1) (h4 : (Kd.int .u8).C w B x.f2.length x.f2) :
    k42.K w x [.int .i64 x.f0, .slice A x.f1.length c, .slice B x.f2.length d] := ⟨_, _, rfl, rfl, _, _, rfl, ⟨A, c, rfl, h1, h3⟩, ⟨B, d, rfl, h2, h4⟩⟩
/-- Edit i, read, and turned round. -/
theorem edit_flip {w : World} {A : Option Addr} {es : List S42} (h : k42.C w A es.length es) (i : Nat) (hi : i < es.length) :
    ∃ ad Ao o Bo n, A = some ad ∧ k42.K w (flipE es[i]) [Value.int .i64 es[i].f0, Value.slice Bo es[i].f2.length n, Value.slice Ao es[i].f1.length o] ∧ ∀ j v, [Value.int .i64 es[i].f0, Value.slice Ao es[i].f1.length o, Value.slice Bo es[i].f2.length n][j]? = some v → w.cell? ((ad.add (i * 3)).add j) = some v := by
  obtain ⟨ad, c, rfl, hl, hk, hc⟩ := Kd.C_get h es[i] (i : Int) (by omega) (by omega)
  have e1 : es.getD (i : Int).toNat es[i] = es[i] := by simp [List.getD_eq_getElem?_getD, List.getElem?_eq_getElem hi]
  rw [e1] at hk
  obtain ⟨Ao, o, Bo, n, rfl, g1, g2, g3, g4⟩ := k42_open hk
  refine ⟨ad, Ao, o, Bo, n, rfl, k42_mk (x := flipE es[i]) g2 g1 g4 g3, fun j v hj => ?_⟩
  have := hc j v hj
  rw [Addr.add_add]
  exact this
theorem crossR_same (made m X : List Int) (hm : m.length = 27) : crossR made m made X = m := by
  apply List.ext_getElem?
  intro j
  by_cases hj : j < 27
  · unfold crossR
    rw [List.getElem?_map, List.getElem?_range hj, List.getElem?_eq_getElem (show j < m.length by omega)]
    simp [cx, List.getElem?_eq_getElem (show j < m.length by omega)]
  · rw [List.getElem?_eq_none (by rw [crossR_len]; omega), List.getElem?_eq_none (by omega)]
theorem crossR_set (made m X : List Int) (a : Int) (hm : m.length = 27) (hd : made.length = 27) (ha : a ≠ made[4]?.getD 0) : crossR (made.set 4 a) m made X = m.set 4 (X[4]?.getD 0) := by
  apply List.ext_getElem?
  intro j
  by_cases hj : j < 27
  · unfold crossR
    rw [List.getElem?_map, List.getElem?_range hj]
    by_cases h4 : j = 4
    · subst h4
      rw [List.getElem?_set_self (by omega)]
      simp only [Option.map_some, cx, List.getElem?_set_self (show 4 < made.length by omega), Option.getD_some, if_neg ha]
    · rw [List.getElem?_set_ne (Ne.symm h4), List.getElem?_eq_getElem (show j < m.length by omega)]
      simp only [Option.map_some, cx, List.getElem?_set_ne (Ne.symm h4), if_true, List.getElem?_eq_getElem (show j < m.length by omega), Option.getD_some]
  · rw [List.getElem?_eq_none (by rw [crossR_len]; omega), List.getElem?_eq_none (by simp; omega)]
theorem field_names (l : List Int) (hl : l.length = 27) (w : World) : (Instr.field 24 (mv l) 0).run Try.prog w = .ok (.agg (nums .i64 (l.take 26)).toArray) w := by
  unfold Instr.field
  rw [Sem.run_bind, run_underlying Try.underlying24 w]
  exact part_names l hl w
theorem index_four (l : List Int) (hl : l.length = 27) (w : World) : (Instr.index 22 (.agg (nums .i64 (l.take 26)).toArray) (.int .i64 4)).run Try.prog w = .ok (.int .i64 (l[4]?.getD 0)) w :=
  run_index_agg w 22 3 26 4 _ _ _ Try.underlying22 Try.underlying3 rfl (by kernel_rfl) (by omega) (by simp [nums, List.getElem?_eq_getElem (show 4 < l.length by omega)])

set_option maxHeartbeats 1000000 in
set_option maxRecDepth 100000 in
theorem back_great (l : List Int) (es : List S42) (A : Option Addr) (c : Nat) (a : Int) (w : World) (hr : k42.C w A es.length es) (hd : ∀ e ∈ es, goodE e) (hg : greatB es = true) :
    Calls Try.prog 9 #[mv l, .slice A es.length c, .int .i64 a] w fun e w' => e = .returned (.bool true) ∧ Below w.heap.size w w' := by
  have HG1 := Aside0.mk (fun W (hW : Below w.heap.size w W) => hg ▸ great_calls es A c W (Kd.C_below hr hW) hd)
  go_enter Try.func9, Try.ntmps9
  go_upto_region 1 with (fail)
  have hb := blk_new w (Obj.cells (nums .i64 l).toArray 24)
  have hB := (Below.refl w.heap.size w).alloc (Nat.le_refl _) (Obj.cells (nums .i64 l).toArray 24)
  generalize (w.alloc (Obj.cells (nums .i64 l).toArray 24)) = V at hb hB ⊢
  have HB := Aside0.mk hb
  have HW := Aside0.mk hB
  clear hb hB
  go_wp2_with fail
  refine (awake_calls _).mono ?_
  rintro e w1 ⟨rfl, hB1⟩
  have HV1 := Aside0.mk hB1
  clear hB1
  go_wp2_with fail
  refine (HG1.out _ (below_step HW.out HV1.out)).mono ?_
  rintro e w2 ⟨rfl, hB2⟩
  have HV2 := Aside0.mk (below_step HV1.out hB2)
  clear hB2 HV1
  go_wp2
  go_ret
  exact ⟨rfl, below_step HW.out HV2.out⟩

set_option maxHeartbeats 8000000 in
set_option maxRecDepth 100000 in
theorem back_neg (l MD : List Int) (es : List S42) (A : Option Addr) (c : Nat) (a : Int) (w : World) (hl : l.length = 27) (hr : k42.C w A es.length es) (hd : ∀ e ∈ es, goodE e) (hg : greatB es = false) (hMD : moveR es l = MD) (hML : MD.length = 27) (ha : a < 0) :
    Calls Try.prog 9 #[mv l, .slice A es.length c, .int .i64 a] w fun e w' => e = .returned (.bool true) ∧ Below w.heap.size w w' := by
  have HG1 := Aside0.mk (fun W (hW : Below w.heap.size w W) => hg ▸ great_calls es A c W (Kd.C_below hr hW) hd)
  have HL := Aside0.mk hl
  have HML := Aside0.mk hML
  have EM := Aside0.mk hMD
  have HRR := Aside0.mk hr
  have hn1 : es.length ≤ 1048576 := by
    have h := sumE_len es
    have := of_decide_eq_false hg
    omega
  clear hML hMD hr hd hg
  go_enter Try.func9, Try.ntmps9
  go_upto_region 1 with (fail)
  have hb := blk_new w (Obj.cells (nums .i64 l).toArray 24)
  have hB := (Below.refl w.heap.size w).alloc (Nat.le_refl _) (Obj.cells (nums .i64 l).toArray 24)
  generalize (w.alloc (Obj.cells (nums .i64 l).toArray 24)) = V at hb hB ⊢
  have HB := Aside0.mk hb
  have HW := Aside0.mk hB
  clear hb hB
  go_wp2_with fail
  refine (awake_calls _).mono ?_
  rintro e w1 ⟨rfl, hB1⟩
  have HV1 := Aside0.mk hB1
  clear hB1
  go_wp2_with fail
  refine (HG1.out _ (below_step HW.out HV1.out)).mono ?_
  rintro e w2 ⟨rfl, hB2⟩
  have HV2 := Aside0.mk (below_step HV1.out hB2)
  clear hB2 HV1
  go_wp2
  go_loopw [7, 8] (fun v7 v8 wr => ∃ (k : Nat) (news : List Value), k ≤ es.length ∧ v8 = .int .i64 ((k : Int) - 1) ∧ Aside0 (wr.ownsRow V.heap.size 42 3 v7 (es.length - k) news) ∧ Aside0 (Reps (k42.K w) 3 (backE (es.drop k)) news) ∧ Aside0 (Below V.heap.size V wr)) (fun _ v8 _ => (intOf v8 + 1).toNat)
  case atStart => exact ⟨es.length, [], Nat.le_refl _, rfl, ⟨by rw [Nat.sub_self]; exact ⟨rfl, .inl ⟨rfl, rfl⟩⟩⟩, ⟨by rw [List.drop_length]; exact Reps.none _ _⟩, HV2⟩
  case round =>
    obtain ⟨k, news, hk, rfl, HOr, HQr, HWr⟩ := hrel
    rcases k with _ | j
    · rw [Nat.sub_zero] at HOr
      rw [List.drop_zero] at HQr
      have hbl := backE_len es
      generalize hbs : backE es = bs at HQr hbl
      rw [← hbl] at HOr
      have hrd := own_reads_row HOr.out HQr.out rfl
      obtain ⟨A3, c3, hv, hrd⟩ := hrd
      subst hv
      have HWW := Aside0.mk (below_then HW.out HW.out.size HWr.out)
      have HC3 : Aside0 (k42.C wr A3 bs.length bs) := Aside0.mk (ReadsRow.imp_ hrd (Below.refl _ _) (fun p c hk => k42.K_below HWW.out hk))
      have HBr := Aside0.mk (blk_below HB.out HWr.out)
      have HMV := Aside0.mk (fun W (hW : Below wr.heap.size wr W) => EM.out ▸ move_calls l HL.out es A c W (Kd.C_below HRR.out (below_step HWW.out hW)))
      have HX1 : Aside0 (∀ W, Below wr.heap.size wr W → Calls Try.prog 29 #[mv MD, mv l, mv MD, .slice A3 bs.length c3] W fun e w' => e = .returned (mv l) ∧ Below W.heap.size W w') := Aside0.mk (fun W hW => by
        have h := cross_calls MD l MD bs A3 c3 W HML.out HL.out HML.out (Kd.C_below HC3.out hW)
        rw [crossR_same MD l _ HL.out] at h
        exact h)
      have HX2 : Aside0 (∀ W, Below wr.heap.size wr W → Calls Try.prog 29 #[mv l, mv MD, mv l, .slice A es.length c] W fun e w' => e = .returned (mv MD) ∧ Below W.heap.size W w') := Aside0.mk (fun W hW => by
        have h := cross_calls l MD l es A c W HL.out HML.out HL.out (Kd.C_below HRR.out (below_step HWW.out hW))
        rw [crossR_same l MD _ HML.out] at h
        exact h)
      have HST := Aside0.mk (fun W => set_calls MD HML.out 101 a (by omega) (by omega) W)
      have HND : Aside0 ((List.replicate 27 (0 : Int)).length = 27) := ⟨rfl⟩
      have hset : setR MD 101 a = (List.replicate 27 (0 : Int), 2) := by
        unfold setR
        rw [show idx 101 = some 4 by rfl]
        simp [ha]
      rw [hset] at HST
      replace HST : Aside0 (∀ W, Calls Try.prog 14 #[mv MD, .int .u8 101, .int .i64 a] W fun e w' => e = .returned (.tuple #[mv (List.replicate 27 (0 : Int)), .int .i64 2]) ∧ Below W.heap.size W w') := HST
      generalize List.replicate 27 (0 : Int) = ND at HST HND
      clear hset
      clear HB HWr HOr HQr hrd hbs HRR hbl
      go_wp2_with (refine wpList_load_agg rfl 24 (.tmp 3) rfl ⟨w.heap.size, 0, none⟩ ?q1a (nums .i64 l) _ ?q1b Try.underlying24 rfl ?q1c ?q1d)
      try (case q1a => rfl)
      case q1b =>
        intro j v hj
        (first | rw [add_plain', Nat.zero_add] | skip)
        rw [blk_cell HBr.out]
        simpa using hj
      case q1c =>
        rw [nums_length, HL.out]
        (first | exact info24 | exact Option.map_eq_some_iff.1 info24)
      go_wp2_with fail
      refine (HMV.out _ (Below.refl _ _)).mono ?_
      rintro e w4 ⟨rfl, hB4⟩
      have HB4 := Aside0.mk (blk_below HBr.out hB4)
      have HW4 := Aside0.mk hB4
      clear hB4 HBr
      go_upto_region 11 with (refine wpList_store_agg rfl 24 (.tmp 9) (.tmp 46) rfl w4.heap.size 0 ?q2a (nums .i64 MD) ?q2b _ 24 (blk_new w4 (Obj.cells #[.int .i64 0, .int .i64 0, .int .i64 0, .int .i64 0, .int .i64 0, .int .i64 0, .int .i64 0, .int .i64 0, .int .i64 0, .int .i64 0, .int .i64 0, .int .i64 0, .int .i64 0, .int .i64 0, .int .i64 0, .int .i64 0, .int .i64 0, .int .i64 0, .int .i64 0, .int .i64 0, .int .i64 0, .int .i64 0, .int .i64 0, .int .i64 0, .int .i64 0, .int .i64 0, .int .i64 0] 24)) ?q2c (nums_one _) ?q2d ?q2e)
      try (case q2a => rfl)
      try (case q2b => rfl)
      case q2c => rw [nums_length, HML.out]; exact Nat.le_refl _
      case q2d =>
        rw [nums_length, HML.out]
        (first | exact info24 | exact Option.map_eq_some_iff.1 info24)
      have h1 := putCells_block (nums .i64 MD) (w4.alloc (Obj.cells #[.int .i64 0, .int .i64 0, .int .i64 0, .int .i64 0, .int .i64 0, .int .i64 0, .int .i64 0, .int .i64 0, .int .i64 0, .int .i64 0, .int .i64 0, .int .i64 0, .int .i64 0, .int .i64 0, .int .i64 0, .int .i64 0, .int .i64 0, .int .i64 0, .int .i64 0, .int .i64 0, .int .i64 0, .int .i64 0, .int .i64 0, .int .i64 0, .int .i64 0, .int .i64 0, .int .i64 0] 24)) w4.heap.size 0 _ 24 (blk_new w4 (Obj.cells #[.int .i64 0, .int .i64 0, .int .i64 0, .int .i64 0, .int .i64 0, .int .i64 0, .int .i64 0, .int .i64 0, .int .i64 0, .int .i64 0, .int .i64 0, .int .i64 0, .int .i64 0, .int .i64 0, .int .i64 0, .int .i64 0, .int .i64 0, .int .i64 0, .int .i64 0, .int .i64 0, .int .i64 0, .int .i64 0, .int .i64 0, .int .i64 0, .int .i64 0, .int .i64 0, .int .i64 0] 24))
      rw [splice_whole _ (nums .i64 MD) (by rw [nums_length, HML.out]; rfl)] at h1
      have h3 := putCells_below (nums .i64 MD) wr (w4.alloc (Obj.cells #[.int .i64 0, .int .i64 0, .int .i64 0, .int .i64 0, .int .i64 0, .int .i64 0, .int .i64 0, .int .i64 0, .int .i64 0, .int .i64 0, .int .i64 0, .int .i64 0, .int .i64 0, .int .i64 0, .int .i64 0, .int .i64 0, .int .i64 0, .int .i64 0, .int .i64 0, .int .i64 0, .int .i64 0, .int .i64 0, .int .i64 0, .int .i64 0, .int .i64 0, .int .i64 0, .int .i64 0] 24)) wr.heap.size w4.heap.size 0 HW4.out.size (HW4.out.alloc HW4.out.size (Obj.cells #[.int .i64 0, .int .i64 0, .int .i64 0, .int .i64 0, .int .i64 0, .int .i64 0, .int .i64 0, .int .i64 0, .int .i64 0, .int .i64 0, .int .i64 0, .int .i64 0, .int .i64 0, .int .i64 0, .int .i64 0, .int .i64 0, .int .i64 0, .int .i64 0, .int .i64 0, .int .i64 0, .int .i64 0, .int .i64 0, .int .i64 0, .int .i64 0, .int .i64 0, .int .i64 0, .int .i64 0] 24))
      have hk0 := (putCells_other (nums .i64 MD) (w4.alloc (Obj.cells #[.int .i64 0, .int .i64 0, .int .i64 0, .int .i64 0, .int .i64 0, .int .i64 0, .int .i64 0, .int .i64 0, .int .i64 0, .int .i64 0, .int .i64 0, .int .i64 0, .int .i64 0, .int .i64 0, .int .i64 0, .int .i64 0, .int .i64 0, .int .i64 0, .int .i64 0, .int .i64 0, .int .i64 0, .int .i64 0, .int .i64 0, .int .i64 0, .int .i64 0, .int .i64 0, .int .i64 0] 24)) w4.heap.size 0 _ (Nat.ne_of_lt (blk_lt HB4.out))).trans (blk_alloc HB4.out (Obj.cells #[.int .i64 0, .int .i64 0, .int .i64 0, .int .i64 0, .int .i64 0, .int .i64 0, .int .i64 0, .int .i64 0, .int .i64 0, .int .i64 0, .int .i64 0, .int .i64 0, .int .i64 0, .int .i64 0, .int .i64 0, .int .i64 0, .int .i64 0, .int .i64 0, .int .i64 0, .int .i64 0, .int .i64 0, .int .i64 0, .int .i64 0, .int .i64 0, .int .i64 0, .int .i64 0, .int .i64 0] 24))
      generalize (putCells (w4.alloc (Obj.cells #[.int .i64 0, .int .i64 0, .int .i64 0, .int .i64 0, .int .i64 0, .int .i64 0, .int .i64 0, .int .i64 0, .int .i64 0, .int .i64 0, .int .i64 0, .int .i64 0, .int .i64 0, .int .i64 0, .int .i64 0, .int .i64 0, .int .i64 0, .int .i64 0, .int .i64 0, .int .i64 0, .int .i64 0, .int .i64 0, .int .i64 0, .int .i64 0, .int .i64 0, .int .i64 0, .int .i64 0] 24)) w4.heap.size 0 (nums .i64 MD)) = U at h1 h3 hk0 ⊢
      have UN := Aside0.mk h1
      have UB := Aside0.mk h3
      have UK0 := Aside0.mk hk0
      clear h1 h3 hk0
      clear HB4 HW4
      refine start_ (n := 16) (S := fun w' => w'.heap[w.heap.size]? = some (Obj.cells (nums .i64 l).toArray 24) ∧ w'.heap[w4.heap.size]? = some (Obj.cells (nums .i64 MD).toArray 24) ∧ Below wr.heap.size wr w') (ds := []) #[false, false, false, false, false, false, false, false, false, false, false, false, false, false, false, false] (by kernel_rfl) rfl rfl ⟨blk_drew UK0.out, blk_drew UN.out, UB.out.drew⟩ (fun hHeld => ?_)
      refine take_ (i := 0) (N := some 47) (v := (.agg (nums .i64 MD).toArray)) (a' := ?_) #[true, false, false, false, false, false, false, false, false, false, false, false, false, false, false, false] rfl rfl (by kernel_rfl) (fun _ _ _ h => h) (Or.inl ⟨by rfl, by rintro w' ⟨s0, s1, s2⟩; exact run_load_agg_op 24 (.tmp 9) rfl ⟨w4.heap.size, 0, none⟩ rfl (nums .i64 MD) _ (fun j v hj => by rw [add_plain', Nat.zero_add, blk_cell s1]; simpa using hj) Try.underlying24 rfl (by rw [nums_length, HML.out]; exact info24)⟩) hHeld ?_ ?_
      rotate_left
      · simp only [Act.put, List.setIfInBounds_toArray, List.set_cons_zero, List.set_cons_succ, i64_w, i32_w]
        rfl
      refine take_ (i := 1) (N := some 48) (v := (.agg (nums .i64 l).toArray)) (a' := ?_) #[true, true, false, false, false, false, false, false, false, false, false, false, false, false, false, false] rfl rfl (by kernel_rfl) (fun _ _ _ h => h) (Or.inl ⟨by rfl, by rintro w' ⟨s0, s1, s2⟩; exact run_load_agg_op 24 (.tmp 3) rfl ⟨w.heap.size, 0, none⟩ rfl (nums .i64 l) _ (fun j v hj => by rw [add_plain', Nat.zero_add, blk_cell s0]; simpa using hj) Try.underlying24 rfl (by rw [nums_length, HL.out]; exact info24)⟩) hHeld ?_ ?_
      rotate_left
      · simp only [Act.put, List.setIfInBounds_toArray, List.set_cons_zero, List.set_cons_succ, i64_w, i32_w]
        rfl
      refine take_ (i := 2) (N := some 49) (v := (.agg (nums .i64 MD).toArray)) (a' := ?_) #[true, true, true, false, false, false, false, false, false, false, false, false, false, false, false, false] rfl rfl (by kernel_rfl) (fun _ _ _ h => h) (Or.inl ⟨by rfl, by rintro w' ⟨s0, s1, s2⟩; exact run_load_agg_op 24 (.tmp 9) rfl ⟨w4.heap.size, 0, none⟩ rfl (nums .i64 MD) _ (fun j v hj => by rw [add_plain', Nat.zero_add, blk_cell s1]; simpa using hj) Try.underlying24 rfl (by rw [nums_length, HML.out]; exact info24)⟩) hHeld ?_ ?_
      rotate_left
      · simp only [Act.put, List.setIfInBounds_toArray, List.set_cons_zero, List.set_cons_succ, i64_w, i32_w]
        rfl
      refine pure_ (i := 3) (N := some 50) (v := ?_) (a' := ?_) #[true, true, true, true, false, false, false, false, false, false, false, false, false, false, false, false] rfl rfl (by kernel_rfl) (fun _ _ _ h => h) (Or.inl ⟨by rfl, ?_⟩) ?_ ?_
      rotate_left
      · intro w'
        go_simp
        with_reducible rfl
      rotate_left
      · simp only [Act.put, List.setIfInBounds_toArray, List.set_cons_zero, List.set_cons_succ, i64_w, i32_w]
        rfl
      refine take_ (i := 5) (N := some 52) (v := (.agg (nums .i64 l).toArray)) (a' := ?_) #[true, true, true, true, false, true, false, false, false, false, false, false, false, false, false, false] rfl rfl (by kernel_rfl) (fun _ _ _ h => h) (Or.inl ⟨by rfl, by rintro w' ⟨s0, s1, s2⟩; exact run_load_agg_op 24 (.tmp 3) rfl ⟨w.heap.size, 0, none⟩ rfl (nums .i64 l) _ (fun j v hj => by rw [add_plain', Nat.zero_add, blk_cell s0]; simpa using hj) Try.underlying24 rfl (by rw [nums_length, HL.out]; exact info24)⟩) hHeld ?_ ?_
      rotate_left
      · simp only [Act.put, List.setIfInBounds_toArray, List.set_cons_zero, List.set_cons_succ, i64_w, i32_w]
        rfl
      refine one_ (i := 4) (N := some 51) #[true, true, true, true, true, true, false, false, false, false, false, false, false, false, false, false] rfl rfl (by kernel_rfl) (by decide) (fun K hK => ?_)
      refine goes_ Try.func29 (by kernel_rfl) rfl #[mv MD, mv l, mv MD, .slice A3 bs.length c3] (by rfl) rfl rfl (by simp [Act.eval]) ?_
      refine (HX1.out _ hHeld.2.2).mono ?_
      rintro e w1 ⟨rfl, hB1⟩
      refine ⟨_, rfl, ?_⟩
      refine hK.out _ _ ⟨blk_below hHeld.1 hB1, blk_below hHeld.2.1 hB1, below_step hHeld.2.2 hB1⟩ (fun hHeld => ?_)
      clear hK K
      refine norm_ (a' := ?_) ?_ ?_
      rotate_left
      · show Act.put _ (some 51) _ = _
        simp only [Act.put, List.setIfInBounds_toArray, List.set_cons_zero, List.set_cons_succ, i64_w, i32_w]
        rfl
      refine pure_ (i := 6) (N := some 53) (v := (.bool false)) (a' := ?_) #[true, true, true, true, true, true, true, false, false, false, false, false, false, false, false, false] rfl rfl (by kernel_rfl) (fun _ _ _ h => h) (Or.inl ⟨by rfl, by intro w'; exact run_eq_agg_op .neq 24 24 (.tmp 51) (.tmp 52) rfl (nums .i64 l).toArray (nums .i64 l).toArray rfl rfl (by kernel_rfl) (.bool false) (marks_neq l HL.out w')⟩) ?_ ?_
      rotate_left
      · simp only [Act.put, List.setIfInBounds_toArray, List.set_cons_zero, List.set_cons_succ, i64_w, i32_w]
        rfl
      refine pure_ (i := 7) (N := some 54) (v := ?_) (a' := ?_) #[true, true, true, true, true, true, true, true, false, false, false, false, false, false, false, false] rfl rfl (by kernel_rfl) (fun _ _ _ h => h) (Or.inl ⟨by rfl, ?_⟩) ?_ ?_
      rotate_left
      · intro w'
        go_simp
        with_reducible rfl
      rotate_left
      · simp only [Act.put, List.setIfInBounds_toArray, List.set_cons_zero, List.set_cons_succ, i64_w, i32_w]
        rfl
      refine take_ (i := 8) (N := some 55) (v := (.agg (nums .i64 l).toArray)) (a' := ?_) #[true, true, true, true, true, true, true, true, true, false, false, false, false, false, false, false] rfl rfl (by kernel_rfl) (fun _ _ _ h => h) (Or.inl ⟨by rfl, by rintro w' ⟨s0, s1, s2⟩; exact run_load_agg_op 24 (.tmp 3) rfl ⟨w.heap.size, 0, none⟩ rfl (nums .i64 l) _ (fun j v hj => by rw [add_plain', Nat.zero_add, blk_cell s0]; simpa using hj) Try.underlying24 rfl (by rw [nums_length, HL.out]; exact info24)⟩) hHeld ?_ ?_
      rotate_left
      · simp only [Act.put, List.setIfInBounds_toArray, List.set_cons_zero, List.set_cons_succ, i64_w, i32_w]
        rfl
      refine take_ (i := 9) (N := some 56) (v := (.agg (nums .i64 MD).toArray)) (a' := ?_) #[true, true, true, true, true, true, true, true, true, true, false, false, false, false, false, false] rfl rfl (by kernel_rfl) (fun _ _ _ h => h) (Or.inl ⟨by rfl, by rintro w' ⟨s0, s1, s2⟩; exact run_load_agg_op 24 (.tmp 9) rfl ⟨w4.heap.size, 0, none⟩ rfl (nums .i64 MD) _ (fun j v hj => by rw [add_plain', Nat.zero_add, blk_cell s1]; simpa using hj) Try.underlying24 rfl (by rw [nums_length, HML.out]; exact info24)⟩) hHeld ?_ ?_
      rotate_left
      · simp only [Act.put, List.setIfInBounds_toArray, List.set_cons_zero, List.set_cons_succ, i64_w, i32_w]
        rfl
      refine take_ (i := 10) (N := some 57) (v := (.agg (nums .i64 l).toArray)) (a' := ?_) #[true, true, true, true, true, true, true, true, true, true, true, false, false, false, false, false] rfl rfl (by kernel_rfl) (fun _ _ _ h => h) (Or.inl ⟨by rfl, by rintro w' ⟨s0, s1, s2⟩; exact run_load_agg_op 24 (.tmp 3) rfl ⟨w.heap.size, 0, none⟩ rfl (nums .i64 l) _ (fun j v hj => by rw [add_plain', Nat.zero_add, blk_cell s0]; simpa using hj) Try.underlying24 rfl (by rw [nums_length, HL.out]; exact info24)⟩) hHeld ?_ ?_
      rotate_left
      · simp only [Act.put, List.setIfInBounds_toArray, List.set_cons_zero, List.set_cons_succ, i64_w, i32_w]
        rfl
      refine pure_ (i := 11) (N := some 58) (v := ?_) (a' := ?_) #[true, true, true, true, true, true, true, true, true, true, true, true, false, false, false, false] rfl rfl (by kernel_rfl) (fun _ _ _ h => h) (Or.inl ⟨by rfl, ?_⟩) ?_ ?_
      rotate_left
      · intro w'
        go_simp
        with_reducible rfl
      rotate_left
      · simp only [Act.put, List.setIfInBounds_toArray, List.set_cons_zero, List.set_cons_succ, i64_w, i32_w]
        rfl
      refine take_ (i := 13) (N := some 60) (v := (.agg (nums .i64 MD).toArray)) (a' := ?_) #[true, true, true, true, true, true, true, true, true, true, true, true, false, true, false, false] rfl rfl (by kernel_rfl) (fun _ _ _ h => h) (Or.inl ⟨by rfl, by rintro w' ⟨s0, s1, s2⟩; exact run_load_agg_op 24 (.tmp 9) rfl ⟨w4.heap.size, 0, none⟩ rfl (nums .i64 MD) _ (fun j v hj => by rw [add_plain', Nat.zero_add, blk_cell s1]; simpa using hj) Try.underlying24 rfl (by rw [nums_length, HML.out]; exact info24)⟩) hHeld ?_ ?_
      rotate_left
      · simp only [Act.put, List.setIfInBounds_toArray, List.set_cons_zero, List.set_cons_succ, i64_w, i32_w]
        rfl
      refine one_ (i := 12) (N := some 59) #[true, true, true, true, true, true, true, true, true, true, true, true, true, true, false, false] rfl rfl (by kernel_rfl) (by decide) (fun K hK => ?_)
      refine goes_ Try.func29 (by kernel_rfl) rfl #[mv l, mv MD, mv l, .slice A es.length c] (by rfl) rfl rfl (by simp [Act.eval]) ?_
      refine (HX2.out _ hHeld.2.2).mono ?_
      rintro e w1 ⟨rfl, hB1⟩
      refine ⟨_, rfl, ?_⟩
      refine hK.out _ _ ⟨blk_below hHeld.1 hB1, blk_below hHeld.2.1 hB1, below_step hHeld.2.2 hB1⟩ (fun hHeld => ?_)
      clear hK K
      refine norm_ (a' := ?_) ?_ ?_
      rotate_left
      · show Act.put _ (some 59) _ = _
        simp only [Act.put, List.setIfInBounds_toArray, List.set_cons_zero, List.set_cons_succ, i64_w, i32_w]
        rfl
      refine pure_ (i := 14) (N := some 61) (v := (.bool false)) (a' := ?_) #[true, true, true, true, true, true, true, true, true, true, true, true, true, true, true, false] rfl rfl (by kernel_rfl) (fun _ _ _ h => h) (Or.inl ⟨by rfl, by intro w'; exact run_eq_agg_op .neq 24 24 (.tmp 59) (.tmp 60) rfl (nums .i64 MD).toArray (nums .i64 MD).toArray rfl rfl (by kernel_rfl) (.bool false) (marks_neq MD HML.out w')⟩) ?_ ?_
      rotate_left
      · simp only [Act.put, List.setIfInBounds_toArray, List.set_cons_zero, List.set_cons_succ, i64_w, i32_w]
        rfl
      refine pure_ (i := 15) (N := some 62) (v := ?_) (a' := ?_) #[true, true, true, true, true, true, true, true, true, true, true, true, true, true, true, true] rfl rfl (by kernel_rfl) (fun _ _ _ h => h) (Or.inl ⟨by rfl, ?_⟩) ?_ ?_
      rotate_left
      · intro w'
        go_simp
        with_reducible rfl
      rotate_left
      · simp only [Act.put, List.setIfInBounds_toArray, List.set_cons_zero, List.set_cons_succ, i64_w, i32_w]
        rfl
      refine done_ (by kernel_rfl) ?_
      have HB7 := Aside0.mk hHeld.1
      have HM7 := Aside0.mk hHeld.2.1
      have HW7 := Aside0.mk hHeld.2.2
      clear hHeld UN UB UK0 HX1 HX2
      go_wp2_with (refine wpList_load_agg rfl 24 (.tmp 9) rfl ⟨w4.heap.size, 0, none⟩ ?q3a (nums .i64 MD) _ ?q3b Try.underlying24 rfl ?q3c ?q3d)
      try (case q3a => rfl)
      case q3b =>
        intro j v hj
        (first | rw [add_plain', Nat.zero_add] | skip)
        rw [blk_cell HM7.out]
        simpa using hj
      case q3c =>
        rw [nums_length, HML.out]
        (first | exact info24 | exact Option.map_eq_some_iff.1 info24)
      go_wp2_with fail
      refine (HST.out _).mono ?_
      rintro e w6 ⟨rfl, hB6⟩
      have HB6 := Aside0.mk (blk_below HB7.out hB6)
      have HM6 := Aside0.mk (blk_below HM7.out hB6)
      have HW6 := Aside0.mk (below_step HW7.out hB6)
      clear hB6 HB7 HM7 HW7
      go_upto_region 14 with (refine wpList_store_agg rfl 24 (.tmp 10) (.tmp 67) rfl w6.heap.size 0 ?q4a (nums .i64 ND) ?q4b _ 24 (blk_new w6 (Obj.cells #[.int .i64 0, .int .i64 0, .int .i64 0, .int .i64 0, .int .i64 0, .int .i64 0, .int .i64 0, .int .i64 0, .int .i64 0, .int .i64 0, .int .i64 0, .int .i64 0, .int .i64 0, .int .i64 0, .int .i64 0, .int .i64 0, .int .i64 0, .int .i64 0, .int .i64 0, .int .i64 0, .int .i64 0, .int .i64 0, .int .i64 0, .int .i64 0, .int .i64 0, .int .i64 0, .int .i64 0] 24)) ?q4c (nums_one _) ?q4d ?q4e)
      try (case q4a => rfl)
      try (case q4b => rfl)
      case q4c => rw [nums_length, HND.out]; exact Nat.le_refl _
      case q4d =>
        rw [nums_length, HND.out]
        (first | exact info24 | exact Option.map_eq_some_iff.1 info24)
      have h1 := putCells_block (nums .i64 ND) (w6.alloc (Obj.cells #[.int .i64 0, .int .i64 0, .int .i64 0, .int .i64 0, .int .i64 0, .int .i64 0, .int .i64 0, .int .i64 0, .int .i64 0, .int .i64 0, .int .i64 0, .int .i64 0, .int .i64 0, .int .i64 0, .int .i64 0, .int .i64 0, .int .i64 0, .int .i64 0, .int .i64 0, .int .i64 0, .int .i64 0, .int .i64 0, .int .i64 0, .int .i64 0, .int .i64 0, .int .i64 0, .int .i64 0] 24)) w6.heap.size 0 _ 24 (blk_new w6 (Obj.cells #[.int .i64 0, .int .i64 0, .int .i64 0, .int .i64 0, .int .i64 0, .int .i64 0, .int .i64 0, .int .i64 0, .int .i64 0, .int .i64 0, .int .i64 0, .int .i64 0, .int .i64 0, .int .i64 0, .int .i64 0, .int .i64 0, .int .i64 0, .int .i64 0, .int .i64 0, .int .i64 0, .int .i64 0, .int .i64 0, .int .i64 0, .int .i64 0, .int .i64 0, .int .i64 0, .int .i64 0] 24))
      rw [splice_whole _ (nums .i64 ND) (by rw [nums_length, HND.out]; rfl)] at h1
      have h3 := putCells_below (nums .i64 ND) wr (w6.alloc (Obj.cells #[.int .i64 0, .int .i64 0, .int .i64 0, .int .i64 0, .int .i64 0, .int .i64 0, .int .i64 0, .int .i64 0, .int .i64 0, .int .i64 0, .int .i64 0, .int .i64 0, .int .i64 0, .int .i64 0, .int .i64 0, .int .i64 0, .int .i64 0, .int .i64 0, .int .i64 0, .int .i64 0, .int .i64 0, .int .i64 0, .int .i64 0, .int .i64 0, .int .i64 0, .int .i64 0, .int .i64 0] 24)) wr.heap.size w6.heap.size 0 HW6.out.size (HW6.out.alloc HW6.out.size (Obj.cells #[.int .i64 0, .int .i64 0, .int .i64 0, .int .i64 0, .int .i64 0, .int .i64 0, .int .i64 0, .int .i64 0, .int .i64 0, .int .i64 0, .int .i64 0, .int .i64 0, .int .i64 0, .int .i64 0, .int .i64 0, .int .i64 0, .int .i64 0, .int .i64 0, .int .i64 0, .int .i64 0, .int .i64 0, .int .i64 0, .int .i64 0, .int .i64 0, .int .i64 0, .int .i64 0, .int .i64 0] 24))
      have hk0 := (putCells_other (nums .i64 ND) (w6.alloc (Obj.cells #[.int .i64 0, .int .i64 0, .int .i64 0, .int .i64 0, .int .i64 0, .int .i64 0, .int .i64 0, .int .i64 0, .int .i64 0, .int .i64 0, .int .i64 0, .int .i64 0, .int .i64 0, .int .i64 0, .int .i64 0, .int .i64 0, .int .i64 0, .int .i64 0, .int .i64 0, .int .i64 0, .int .i64 0, .int .i64 0, .int .i64 0, .int .i64 0, .int .i64 0, .int .i64 0, .int .i64 0] 24)) w6.heap.size 0 _ (Nat.ne_of_lt (blk_lt HB6.out))).trans (blk_alloc HB6.out (Obj.cells #[.int .i64 0, .int .i64 0, .int .i64 0, .int .i64 0, .int .i64 0, .int .i64 0, .int .i64 0, .int .i64 0, .int .i64 0, .int .i64 0, .int .i64 0, .int .i64 0, .int .i64 0, .int .i64 0, .int .i64 0, .int .i64 0, .int .i64 0, .int .i64 0, .int .i64 0, .int .i64 0, .int .i64 0, .int .i64 0, .int .i64 0, .int .i64 0, .int .i64 0, .int .i64 0, .int .i64 0] 24))
      have hk1 := (putCells_other (nums .i64 ND) (w6.alloc (Obj.cells #[.int .i64 0, .int .i64 0, .int .i64 0, .int .i64 0, .int .i64 0, .int .i64 0, .int .i64 0, .int .i64 0, .int .i64 0, .int .i64 0, .int .i64 0, .int .i64 0, .int .i64 0, .int .i64 0, .int .i64 0, .int .i64 0, .int .i64 0, .int .i64 0, .int .i64 0, .int .i64 0, .int .i64 0, .int .i64 0, .int .i64 0, .int .i64 0, .int .i64 0, .int .i64 0, .int .i64 0] 24)) w6.heap.size 0 _ (Nat.ne_of_lt (blk_lt HM6.out))).trans (blk_alloc HM6.out (Obj.cells #[.int .i64 0, .int .i64 0, .int .i64 0, .int .i64 0, .int .i64 0, .int .i64 0, .int .i64 0, .int .i64 0, .int .i64 0, .int .i64 0, .int .i64 0, .int .i64 0, .int .i64 0, .int .i64 0, .int .i64 0, .int .i64 0, .int .i64 0, .int .i64 0, .int .i64 0, .int .i64 0, .int .i64 0, .int .i64 0, .int .i64 0, .int .i64 0, .int .i64 0, .int .i64 0, .int .i64 0] 24))
      generalize (putCells (w6.alloc (Obj.cells #[.int .i64 0, .int .i64 0, .int .i64 0, .int .i64 0, .int .i64 0, .int .i64 0, .int .i64 0, .int .i64 0, .int .i64 0, .int .i64 0, .int .i64 0, .int .i64 0, .int .i64 0, .int .i64 0, .int .i64 0, .int .i64 0, .int .i64 0, .int .i64 0, .int .i64 0, .int .i64 0, .int .i64 0, .int .i64 0, .int .i64 0, .int .i64 0, .int .i64 0, .int .i64 0, .int .i64 0] 24)) w6.heap.size 0 (nums .i64 ND)) = U6 at h1 h3 hk0 hk1 ⊢
      have U6N := Aside0.mk h1
      have U6B := Aside0.mk h3
      have U6K0 := Aside0.mk hk0
      have U6K1 := Aside0.mk hk1
      clear h1 h3 hk0 hk1
      clear HB6 HM6 HW6
      have hat : (a < 0) = True := eq_true ha
      have hdc := decide_eq_true ha
      go_wp2
      go_ret
      exact ⟨rfl, below_step HWW.out U6B.out⟩
    · have ej : (((j + 1 : Nat) : Int) - 1) = (j : Int) := by omega
      rw [ej] at *
      have hlt' : ((j : Int) < es.length) = True := eq_true (by omega)
      have hge' : ((0 : Int) ≤ (j : Int)) = True := eq_true (by omega)
      obtain ⟨ad, Ao, o, Bo, n, rfl, hflip, hcell⟩ := edit_flip HRR.out j (by omega)
      replace hcell := Aside0.mk hcell
      replace hflip := Aside0.mk hflip
      go_upto_region 9 with (fail)
      refine start_ (n := 20) (S := fun w' => w'.ownsRow V.heap.size 42 3 u7 (es.length - (j + 1)) news ∧ Below V.heap.size V w') (ds := [18]) #[false, false, false, false, false, false, false, false, false, false, false, false, false, false, false, false, false, false, false, false] (by kernel_rfl) rfl rfl ⟨HOr.out, HWr.out.drew⟩ (fun hHeld => ?_)
      refine pure_ (i := 0) (N := some 25) (v := ?_) (a' := ?_) #[true, false, false, false, false, false, false, false, false, false, false, false, false, false, false, false, false, false, false, false] rfl rfl (by kernel_rfl) (fun _ _ _ h => h) (Or.inl ⟨by rfl, ?_⟩) ?_ ?_
      rotate_left
      · intro w'
        go_simp
        with_reducible rfl
      rotate_left
      · simp only [Act.put, List.setIfInBounds_toArray, List.set_cons_zero, List.set_cons_succ, i64_w, i32_w]
        rfl
      refine pure_ (i := 1) (N := some 26) (v := ?_) (a' := ?_) #[true, true, false, false, false, false, false, false, false, false, false, false, false, false, false, false, false, false, false, false] rfl rfl (by kernel_rfl) (fun _ _ _ h => h) (Or.inl ⟨by rfl, ?_⟩) ?_ ?_
      rotate_left
      · intro w'
        go_simp
        with_reducible rfl
      rotate_left
      · simp only [Act.put, List.setIfInBounds_toArray, List.set_cons_zero, List.set_cons_succ, i64_w, i32_w]
        rfl
      refine pure_ (i := 2) (N := some 27) (v := ?_) (a' := ?_) #[true, true, true, false, false, false, false, false, false, false, false, false, false, false, false, false, false, false, false, false] rfl rfl (by kernel_rfl) (fun _ _ _ h => h) (Or.inl ⟨by rfl, ?_⟩) ?_ ?_
      rotate_left
      · intro w'
        go_simp
        with_reducible rfl
      rotate_left
      · simp only [Act.put, List.setIfInBounds_toArray, List.set_cons_zero, List.set_cons_succ, i64_w, i32_w]
        rfl
      refine pure_ (i := 3) (N := some 28) (v := ?_) (a' := ?_) #[true, true, true, true, false, false, false, false, false, false, false, false, false, false, false, false, false, false, false, false] rfl rfl (by kernel_rfl) (fun _ _ _ h => h) (Or.inl ⟨by rfl, ?_⟩) ?_ ?_
      rotate_left
      · intro w'
        go_simp
        with_reducible rfl
      rotate_left
      · simp only [Act.put, List.setIfInBounds_toArray, List.set_cons_zero, List.set_cons_succ, i64_w, i32_w]
        rfl
      refine pure_ (i := 4) (N := some 29) (v := ?_) (a' := ?_) #[true, true, true, true, true, false, false, false, false, false, false, false, false, false, false, false, false, false, false, false] rfl rfl (by kernel_rfl) (fun _ _ _ h => h) (Or.inl ⟨by rfl, ?_⟩) ?_ ?_
      rotate_left
      · intro w'
        go_simp
        with_reducible rfl
      rotate_left
      · simp only [Act.put, List.setIfInBounds_toArray, List.set_cons_zero, List.set_cons_succ, i64_w, i32_w]
        rfl
      refine take_ (i := 5) (N := some 30) (v := (.int .i64 es[j].f0)) (a' := ?_) #[true, true, true, true, true, true, false, false, false, false, false, false, false, false, false, false, false, false, false, false] rfl rfl (by kernel_rfl) (fun _ _ _ h => h) (Or.inl ⟨by rfl, by rintro w' ⟨s0, s1⟩; exact run_load_one_op 3 (.tmp 29) rfl (ad.add (j * 3)) rfl _ _ (pw_cell_below (below_then HW.out HW.out.size s1) (hcell.out 0 _ rfl)) Try.underlying3 rfl⟩) hHeld ?_ ?_
      rotate_left
      · simp only [Act.put, List.setIfInBounds_toArray, List.set_cons_zero, List.set_cons_succ, i64_w, i32_w]
        rfl
      refine pure_ (i := 6) (N := some 31) (v := ?_) (a' := ?_) #[true, true, true, true, true, true, true, false, false, false, false, false, false, false, false, false, false, false, false, false] rfl rfl (by kernel_rfl) (fun _ _ _ h => h) (Or.inl ⟨by rfl, ?_⟩) ?_ ?_
      rotate_left
      · intro w'
        go_simp
        with_reducible rfl
      rotate_left
      · simp only [Act.put, List.setIfInBounds_toArray, List.set_cons_zero, List.set_cons_succ, i64_w, i32_w]
        rfl
      refine pure_ (i := 7) (N := some 32) (v := ?_) (a' := ?_) #[true, true, true, true, true, true, true, true, false, false, false, false, false, false, false, false, false, false, false, false] rfl rfl (by kernel_rfl) (fun _ _ _ h => h) (Or.inl ⟨by rfl, ?_⟩) ?_ ?_
      rotate_left
      · intro w'
        go_simp
        with_reducible rfl
      rotate_left
      · simp only [Act.put, List.setIfInBounds_toArray, List.set_cons_zero, List.set_cons_succ, i64_w, i32_w]
        rfl
      refine pure_ (i := 8) (N := some 33) (v := ?_) (a' := ?_) #[true, true, true, true, true, true, true, true, true, false, false, false, false, false, false, false, false, false, false, false] rfl rfl (by kernel_rfl) (fun _ _ _ h => h) (Or.inl ⟨by rfl, ?_⟩) ?_ ?_
      rotate_left
      · intro w'
        go_simp
        with_reducible rfl
      rotate_left
      · simp only [Act.put, List.setIfInBounds_toArray, List.set_cons_zero, List.set_cons_succ, i64_w, i32_w]
        rfl
      refine pure_ (i := 9) (N := some 34) (v := ?_) (a' := ?_) #[true, true, true, true, true, true, true, true, true, true, false, false, false, false, false, false, false, false, false, false] rfl rfl (by kernel_rfl) (fun _ _ _ h => h) (Or.inl ⟨by rfl, ?_⟩) ?_ ?_
      rotate_left
      · intro w'
        go_simp
        with_reducible rfl
      rotate_left
      · simp only [Act.put, List.setIfInBounds_toArray, List.set_cons_zero, List.set_cons_succ, i64_w, i32_w]
        rfl
      refine take_ (i := 10) (N := some 35) (v := (.slice Bo es[j].f2.length n)) (a' := ?_) #[true, true, true, true, true, true, true, true, true, true, true, false, false, false, false, false, false, false, false, false] rfl rfl (by kernel_rfl) (fun _ _ _ h => h) (Or.inl ⟨by rfl, by rintro w' ⟨s0, s1⟩; exact run_load_one_op 40 (.tmp 34) rfl ((ad.add (j * 3)).add 2) rfl _ _ (pw_cell_below (below_then HW.out HW.out.size s1) (hcell.out 2 _ rfl)) Try.underlying40 rfl⟩) hHeld ?_ ?_
      rotate_left
      · simp only [Act.put, List.setIfInBounds_toArray, List.set_cons_zero, List.set_cons_succ, i64_w, i32_w]
        rfl
      refine pure_ (i := 11) (N := some 36) (v := ?_) (a' := ?_) #[true, true, true, true, true, true, true, true, true, true, true, true, false, false, false, false, false, false, false, false] rfl rfl (by kernel_rfl) (fun _ _ _ h => h) (Or.inl ⟨by rfl, ?_⟩) ?_ ?_
      rotate_left
      · intro w'
        go_simp
        with_reducible rfl
      rotate_left
      · simp only [Act.put, List.setIfInBounds_toArray, List.set_cons_zero, List.set_cons_succ, i64_w, i32_w]
        rfl
      refine pure_ (i := 12) (N := some 37) (v := ?_) (a' := ?_) #[true, true, true, true, true, true, true, true, true, true, true, true, true, false, false, false, false, false, false, false] rfl rfl (by kernel_rfl) (fun _ _ _ h => h) (Or.inl ⟨by rfl, ?_⟩) ?_ ?_
      rotate_left
      · intro w'
        go_simp
        with_reducible rfl
      rotate_left
      · simp only [Act.put, List.setIfInBounds_toArray, List.set_cons_zero, List.set_cons_succ, i64_w, i32_w]
        rfl
      refine pure_ (i := 13) (N := some 38) (v := ?_) (a' := ?_) #[true, true, true, true, true, true, true, true, true, true, true, true, true, true, false, false, false, false, false, false] rfl rfl (by kernel_rfl) (fun _ _ _ h => h) (Or.inl ⟨by rfl, ?_⟩) ?_ ?_
      rotate_left
      · intro w'
        go_simp
        with_reducible rfl
      rotate_left
      · simp only [Act.put, List.setIfInBounds_toArray, List.set_cons_zero, List.set_cons_succ, i64_w, i32_w]
        rfl
      refine pure_ (i := 14) (N := some 39) (v := ?_) (a' := ?_) #[true, true, true, true, true, true, true, true, true, true, true, true, true, true, true, false, false, false, false, false] rfl rfl (by kernel_rfl) (fun _ _ _ h => h) (Or.inl ⟨by rfl, ?_⟩) ?_ ?_
      rotate_left
      · intro w'
        go_simp
        with_reducible rfl
      rotate_left
      · simp only [Act.put, List.setIfInBounds_toArray, List.set_cons_zero, List.set_cons_succ, i64_w, i32_w]
        rfl
      refine take_ (i := 15) (N := some 40) (v := (.slice Ao es[j].f1.length o)) (a' := ?_) #[true, true, true, true, true, true, true, true, true, true, true, true, true, true, true, true, false, false, false, false] rfl rfl (by kernel_rfl) (fun _ _ _ h => h) (Or.inl ⟨by rfl, by rintro w' ⟨s0, s1⟩; exact run_load_one_op 40 (.tmp 39) rfl ((ad.add (j * 3)).add 1) rfl _ _ (pw_cell_below (below_then HW.out HW.out.size s1) (hcell.out 1 _ rfl)) Try.underlying40 rfl⟩) hHeld ?_ ?_
      rotate_left
      · simp only [Act.put, List.setIfInBounds_toArray, List.set_cons_zero, List.set_cons_succ, i64_w, i32_w]
        rfl
      refine pure_ (i := 16) (N := some 41) (v := ?_) (a' := ?_) #[true, true, true, true, true, true, true, true, true, true, true, true, true, true, true, true, true, false, false, false] rfl rfl (by kernel_rfl) (fun _ _ _ h => h) (Or.inl ⟨by rfl, ?_⟩) ?_ ?_
      rotate_left
      · intro w'
        go_simp
        with_reducible rfl
      rotate_left
      · simp only [Act.put, List.setIfInBounds_toArray, List.set_cons_zero, List.set_cons_succ, i64_w, i32_w]
        rfl
      refine one_ (i := 17) (N := some 42) #[true, true, true, true, true, true, true, true, true, true, true, true, true, true, true, true, true, true, false, false] rfl rfl (by kernel_rfl) (by decide) (fun K hK => ?_)
      refine value_ (w1 := ?_) (v := ?_) (by rfl) rfl ?_ ?_
      rotate_left 2
      · go_simp
        constructor
        · rfl
        · rfl
      refine hK.out _ _ ⟨own_alloc hHeld.1 _, hHeld.2.alloc hHeld.2.size _⟩ (fun hHeld => ?_)
      clear hK K
      refine norm_ (a' := ?_) ?_ ?_
      rotate_left
      · show Act.put _ (some 42) _ = _
        simp only [Act.put, List.setIfInBounds_toArray, List.set_cons_zero, List.set_cons_succ, i64_w, i32_w]
        rfl
      refine last_ (i := 18) (N := some 43) #[true, true, true, true, true, true, true, true, true, true, true, true, true, true, true, true, true, true, true, false] rfl rfl (by kernel_rfl) (by decide) (fun K hK => ?_)
      refine step_append_cells (W := wr.drew) V.heap.size rfl (.tmp 25) (.tmp 42) 37 42 (.agg #[.int .i64 0, .slice none 0 0, .slice none 0 0]) 3 56 rfl Try.underlying37 (by kernel_rfl) (by rfl) (by decide) (by decide) u7 (es.length - (j + 1)) news [Value.int .i64 es[j].f0, Value.slice Bo es[j].f2.length n, Value.slice Ao es[j].f1.length o] rfl rfl rfl (by simp [Value.oneCell']) HOr.out HWr.out.drew HWr.out.size (by omega) ?_
      intro v1 W1 ho hb hg' hat
      have HO1 := Aside0.mk ho
      have HW1 := Aside0.mk hb
      clear ho hb hg' hat HOr HWr hHeld
      refine hK.out _ _ ?_
      clear hK K
      refine norm_ (a' := ?_) ?_ ?_
      rotate_left
      · show Act.put _ (some 43) _ = _
        simp only [Act.put, List.setIfInBounds_toArray, List.set_cons_zero, List.set_cons_succ, i64_w, i32_w]
        rfl
      refine pure_ (i := 19) (N := some 7) (v := ?_) (a' := ?_) #[true, true, true, true, true, true, true, true, true, true, true, true, true, true, true, true, true, true, true, true] rfl rfl (by kernel_rfl) (fun _ _ _ h => h) (Or.inl ⟨by rfl, ?_⟩) ?_ ?_
      rotate_left
      · intro w'
        go_simp
        with_reducible rfl
      rotate_left
      · simp only [Act.put, List.setIfInBounds_toArray, List.set_cons_zero, List.set_cons_succ, i64_w, i32_w]
        rfl
      refine done_ (by kernel_rfl) ?_
      have HQ1 := Aside0.mk (HQr.out.snoc hflip.out rfl)
      rw [backE_step es j (by omega)] at HQ1
      rw [show es.length - (j + 1) + 1 = es.length - j by omega] at HO1
      go_wp2
      go_roundw
      case measure => simp [intOf] <;> omega
      case rel => exact ⟨j, _, by omega, by go_num, HO1, HQ1, HW1⟩

set_option maxHeartbeats 8000000 in
set_option maxRecDepth 100000 in
theorem back_pos (l MD : List Int) (es : List S42) (A : Option Addr) (c : Nat) (a : Int) (w : World) (hl : l.length = 27) (hr : k42.C w A es.length es) (hd : ∀ e ∈ es, goodE e) (hg : greatB es = false) (hMD : moveR es l = MD) (hML : MD.length = 27) (ha : ¬ a < 0) :
    Calls Try.prog 9 #[mv l, .slice A es.length c, .int .i64 a] w fun e w' => e = .returned (.bool true) ∧ Below w.heap.size w w' := by
  have HG1 := Aside0.mk (fun W (hW : Below w.heap.size w W) => hg ▸ great_calls es A c W (Kd.C_below hr hW) hd)
  have HL := Aside0.mk hl
  have HML := Aside0.mk hML
  have EM := Aside0.mk hMD
  have HRR := Aside0.mk hr
  have hn1 : es.length ≤ 1048576 := by
    have h := sumE_len es
    have := of_decide_eq_false hg
    omega
  clear hML hMD hr hd hg
  go_enter Try.func9, Try.ntmps9
  go_upto_region 1 with (fail)
  have hb := blk_new w (Obj.cells (nums .i64 l).toArray 24)
  have hB := (Below.refl w.heap.size w).alloc (Nat.le_refl _) (Obj.cells (nums .i64 l).toArray 24)
  generalize (w.alloc (Obj.cells (nums .i64 l).toArray 24)) = V at hb hB ⊢
  have HB := Aside0.mk hb
  have HW := Aside0.mk hB
  clear hb hB
  go_wp2_with fail
  refine (awake_calls _).mono ?_
  rintro e w1 ⟨rfl, hB1⟩
  have HV1 := Aside0.mk hB1
  clear hB1
  go_wp2_with fail
  refine (HG1.out _ (below_step HW.out HV1.out)).mono ?_
  rintro e w2 ⟨rfl, hB2⟩
  have HV2 := Aside0.mk (below_step HV1.out hB2)
  clear hB2 HV1
  go_wp2
  go_loopw [7, 8] (fun v7 v8 wr => ∃ (k : Nat) (news : List Value), k ≤ es.length ∧ v8 = .int .i64 ((k : Int) - 1) ∧ Aside0 (wr.ownsRow V.heap.size 42 3 v7 (es.length - k) news) ∧ Aside0 (Reps (k42.K w) 3 (backE (es.drop k)) news) ∧ Aside0 (Below V.heap.size V wr)) (fun _ v8 _ => (intOf v8 + 1).toNat)
  case atStart => exact ⟨es.length, [], Nat.le_refl _, rfl, ⟨by rw [Nat.sub_self]; exact ⟨rfl, .inl ⟨rfl, rfl⟩⟩⟩, ⟨by rw [List.drop_length]; exact Reps.none _ _⟩, HV2⟩
  case round =>
    obtain ⟨k, news, hk, rfl, HOr, HQr, HWr⟩ := hrel
    rcases k with _ | j
    · rw [Nat.sub_zero] at HOr
      rw [List.drop_zero] at HQr
      have hbl := backE_len es
      generalize hbs : backE es = bs at HQr hbl
      rw [← hbl] at HOr
      have hrd := own_reads_row HOr.out HQr.out rfl
      obtain ⟨A3, c3, hv, hrd⟩ := hrd
      subst hv
      have HWW := Aside0.mk (below_then HW.out HW.out.size HWr.out)
      have HC3 : Aside0 (k42.C wr A3 bs.length bs) := Aside0.mk (ReadsRow.imp_ hrd (Below.refl _ _) (fun p c hk => k42.K_below HWW.out hk))
      have HBr := Aside0.mk (blk_below HB.out HWr.out)
      have HMV := Aside0.mk (fun W (hW : Below wr.heap.size wr W) => EM.out ▸ move_calls l HL.out es A c W (Kd.C_below HRR.out (below_step HWW.out hW)))
      have HX1 : Aside0 (∀ W, Below wr.heap.size wr W → Calls Try.prog 29 #[mv MD, mv l, mv MD, .slice A3 bs.length c3] W fun e w' => e = .returned (mv l) ∧ Below W.heap.size W w') := Aside0.mk (fun W hW => by
        have h := cross_calls MD l MD bs A3 c3 W HML.out HL.out HML.out (Kd.C_below HC3.out hW)
        rw [crossR_same MD l _ HL.out] at h
        exact h)
      have HX2 : Aside0 (∀ W, Below wr.heap.size wr W → Calls Try.prog 29 #[mv l, mv MD, mv l, .slice A es.length c] W fun e w' => e = .returned (mv MD) ∧ Below W.heap.size W w') := Aside0.mk (fun W hW => by
        have h := cross_calls l MD l es A c W HL.out HML.out HL.out (Kd.C_below HRR.out (below_step HWW.out hW))
        rw [crossR_same l MD _ HML.out] at h
        exact h)
      have HST := Aside0.mk (fun W => set_calls MD HML.out 101 a (by omega) (by omega) W)
      have hset : setR MD 101 a = (MD.set 4 a, 0) := by
        unfold setR
        rw [show idx 101 = some 4 by rfl]
        simp [ha]
      rw [hset] at HST
      replace HST : Aside0 (∀ W, Calls Try.prog 14 #[mv MD, .int .u8 101, .int .i64 a] W fun e w' => e = .returned (.tuple #[mv (MD.set 4 a), .int .i64 0]) ∧ Below W.heap.size W w') := HST
      have HND := Aside0.mk (show (MD.set 4 a).length = 27 by rw [List.length_set]; exact HML.out)
      have hne := crossR_set MD l (moveR bs (MD.set 4 a)) a HL.out HML.out
      have heq : a = MD[4]?.getD 0 → crossR (MD.set 4 a) l MD (moveR bs (MD.set 4 a)) = l := fun h => by
        have e : MD.set 4 a = MD := by
          rw [h, List.getElem?_eq_getElem (by rw [HML.out]; omega)]
          simp
        rw [e]
        exact crossR_same MD l _ HL.out
      have HX3 := Aside0.mk (fun W (hW : Below wr.heap.size wr W) => cross_calls (MD.set 4 a) l MD bs A3 c3 W HND.out HL.out HML.out (Kd.C_below HC3.out hW))
      have HX4 := Aside0.mk (fun W (hW : Below wr.heap.size wr W) => move_calls (MD.set 4 a) HND.out bs A3 c3 W (Kd.C_below HC3.out hW))
      have HGL := Aside0.mk (crossR_len (MD.set 4 a) l MD (moveR bs (MD.set 4 a)))
      have HBL := Aside0.mk (show (moveR bs (MD.set 4 a)).length = 27 by rw [moveR_len]; exact HND.out)
      generalize crossR (MD.set 4 a) l MD (moveR bs (MD.set 4 a)) = G at hne heq HX3 HGL
      generalize moveR bs (MD.set 4 a) = MB at hne HX4 HBL
      generalize MD.set 4 a = ND at HST HND HX3 HX4
      obtain ⟨y, hy⟩ : ∃ y, y = MD[4]?.getD 0 := ⟨_, rfl⟩
      rw [← hy] at hne heq
      replace hne := Aside0.mk hne
      replace heq := Aside0.mk heq
      replace hy := Aside0.mk hy
      clear hset
      clear HB HWr HOr HQr hrd hbs HRR hbl
      go_wp2_with (refine wpList_load_agg rfl 24 (.tmp 3) rfl ⟨w.heap.size, 0, none⟩ ?q1a (nums .i64 l) _ ?q1b Try.underlying24 rfl ?q1c ?q1d)
      try (case q1a => rfl)
      case q1b =>
        intro j v hj
        (first | rw [add_plain', Nat.zero_add] | skip)
        rw [blk_cell HBr.out]
        simpa using hj
      case q1c =>
        rw [nums_length, HL.out]
        (first | exact info24 | exact Option.map_eq_some_iff.1 info24)
      go_wp2_with fail
      refine (HMV.out _ (Below.refl _ _)).mono ?_
      rintro e w4 ⟨rfl, hB4⟩
      have HB4 := Aside0.mk (blk_below HBr.out hB4)
      have HW4 := Aside0.mk hB4
      clear hB4 HBr
      go_upto_region 11 with (refine wpList_store_agg rfl 24 (.tmp 9) (.tmp 46) rfl w4.heap.size 0 ?q2a (nums .i64 MD) ?q2b _ 24 (blk_new w4 (Obj.cells #[.int .i64 0, .int .i64 0, .int .i64 0, .int .i64 0, .int .i64 0, .int .i64 0, .int .i64 0, .int .i64 0, .int .i64 0, .int .i64 0, .int .i64 0, .int .i64 0, .int .i64 0, .int .i64 0, .int .i64 0, .int .i64 0, .int .i64 0, .int .i64 0, .int .i64 0, .int .i64 0, .int .i64 0, .int .i64 0, .int .i64 0, .int .i64 0, .int .i64 0, .int .i64 0, .int .i64 0] 24)) ?q2c (nums_one _) ?q2d ?q2e)
      try (case q2a => rfl)
      try (case q2b => rfl)
      case q2c => rw [nums_length, HML.out]; exact Nat.le_refl _
      case q2d =>
        rw [nums_length, HML.out]
        (first | exact info24 | exact Option.map_eq_some_iff.1 info24)
      have h1 := putCells_block (nums .i64 MD) (w4.alloc (Obj.cells #[.int .i64 0, .int .i64 0, .int .i64 0, .int .i64 0, .int .i64 0, .int .i64 0, .int .i64 0, .int .i64 0, .int .i64 0, .int .i64 0, .int .i64 0, .int .i64 0, .int .i64 0, .int .i64 0, .int .i64 0, .int .i64 0, .int .i64 0, .int .i64 0, .int .i64 0, .int .i64 0, .int .i64 0, .int .i64 0, .int .i64 0, .int .i64 0, .int .i64 0, .int .i64 0, .int .i64 0] 24)) w4.heap.size 0 _ 24 (blk_new w4 (Obj.cells #[.int .i64 0, .int .i64 0, .int .i64 0, .int .i64 0, .int .i64 0, .int .i64 0, .int .i64 0, .int .i64 0, .int .i64 0, .int .i64 0, .int .i64 0, .int .i64 0, .int .i64 0, .int .i64 0, .int .i64 0, .int .i64 0, .int .i64 0, .int .i64 0, .int .i64 0, .int .i64 0, .int .i64 0, .int .i64 0, .int .i64 0, .int .i64 0, .int .i64 0, .int .i64 0, .int .i64 0] 24))
      rw [splice_whole _ (nums .i64 MD) (by rw [nums_length, HML.out]; rfl)] at h1
      have h3 := putCells_below (nums .i64 MD) wr (w4.alloc (Obj.cells #[.int .i64 0, .int .i64 0, .int .i64 0, .int .i64 0, .int .i64 0, .int .i64 0, .int .i64 0, .int .i64 0, .int .i64 0, .int .i64 0, .int .i64 0, .int .i64 0, .int .i64 0, .int .i64 0, .int .i64 0, .int .i64 0, .int .i64 0, .int .i64 0, .int .i64 0, .int .i64 0, .int .i64 0, .int .i64 0, .int .i64 0, .int .i64 0, .int .i64 0, .int .i64 0, .int .i64 0] 24)) wr.heap.size w4.heap.size 0 HW4.out.size (HW4.out.alloc HW4.out.size (Obj.cells #[.int .i64 0, .int .i64 0, .int .i64 0, .int .i64 0, .int .i64 0, .int .i64 0, .int .i64 0, .int .i64 0, .int .i64 0, .int .i64 0, .int .i64 0, .int .i64 0, .int .i64 0, .int .i64 0, .int .i64 0, .int .i64 0, .int .i64 0, .int .i64 0, .int .i64 0, .int .i64 0, .int .i64 0, .int .i64 0, .int .i64 0, .int .i64 0, .int .i64 0, .int .i64 0, .int .i64 0] 24))
      have hk0 := (putCells_other (nums .i64 MD) (w4.alloc (Obj.cells #[.int .i64 0, .int .i64 0, .int .i64 0, .int .i64 0, .int .i64 0, .int .i64 0, .int .i64 0, .int .i64 0, .int .i64 0, .int .i64 0, .int .i64 0, .int .i64 0, .int .i64 0, .int .i64 0, .int .i64 0, .int .i64 0, .int .i64 0, .int .i64 0, .int .i64 0, .int .i64 0, .int .i64 0, .int .i64 0, .int .i64 0, .int .i64 0, .int .i64 0, .int .i64 0, .int .i64 0] 24)) w4.heap.size 0 _ (Nat.ne_of_lt (blk_lt HB4.out))).trans (blk_alloc HB4.out (Obj.cells #[.int .i64 0, .int .i64 0, .int .i64 0, .int .i64 0, .int .i64 0, .int .i64 0, .int .i64 0, .int .i64 0, .int .i64 0, .int .i64 0, .int .i64 0, .int .i64 0, .int .i64 0, .int .i64 0, .int .i64 0, .int .i64 0, .int .i64 0, .int .i64 0, .int .i64 0, .int .i64 0, .int .i64 0, .int .i64 0, .int .i64 0, .int .i64 0, .int .i64 0, .int .i64 0, .int .i64 0] 24))
      generalize (putCells (w4.alloc (Obj.cells #[.int .i64 0, .int .i64 0, .int .i64 0, .int .i64 0, .int .i64 0, .int .i64 0, .int .i64 0, .int .i64 0, .int .i64 0, .int .i64 0, .int .i64 0, .int .i64 0, .int .i64 0, .int .i64 0, .int .i64 0, .int .i64 0, .int .i64 0, .int .i64 0, .int .i64 0, .int .i64 0, .int .i64 0, .int .i64 0, .int .i64 0, .int .i64 0, .int .i64 0, .int .i64 0, .int .i64 0] 24)) w4.heap.size 0 (nums .i64 MD)) = U at h1 h3 hk0 ⊢
      have UN := Aside0.mk h1
      have UB := Aside0.mk h3
      have UK0 := Aside0.mk hk0
      clear h1 h3 hk0
      clear HB4 HW4
      refine start_ (n := 16) (S := fun w' => w'.heap[w.heap.size]? = some (Obj.cells (nums .i64 l).toArray 24) ∧ w'.heap[w4.heap.size]? = some (Obj.cells (nums .i64 MD).toArray 24) ∧ Below wr.heap.size wr w') (ds := []) #[false, false, false, false, false, false, false, false, false, false, false, false, false, false, false, false] (by kernel_rfl) rfl rfl ⟨blk_drew UK0.out, blk_drew UN.out, UB.out.drew⟩ (fun hHeld => ?_)
      refine take_ (i := 0) (N := some 47) (v := (.agg (nums .i64 MD).toArray)) (a' := ?_) #[true, false, false, false, false, false, false, false, false, false, false, false, false, false, false, false] rfl rfl (by kernel_rfl) (fun _ _ _ h => h) (Or.inl ⟨by rfl, by rintro w' ⟨s0, s1, s2⟩; exact run_load_agg_op 24 (.tmp 9) rfl ⟨w4.heap.size, 0, none⟩ rfl (nums .i64 MD) _ (fun j v hj => by rw [add_plain', Nat.zero_add, blk_cell s1]; simpa using hj) Try.underlying24 rfl (by rw [nums_length, HML.out]; exact info24)⟩) hHeld ?_ ?_
      rotate_left
      · simp only [Act.put, List.setIfInBounds_toArray, List.set_cons_zero, List.set_cons_succ, i64_w, i32_w]
        rfl
      refine take_ (i := 1) (N := some 48) (v := (.agg (nums .i64 l).toArray)) (a' := ?_) #[true, true, false, false, false, false, false, false, false, false, false, false, false, false, false, false] rfl rfl (by kernel_rfl) (fun _ _ _ h => h) (Or.inl ⟨by rfl, by rintro w' ⟨s0, s1, s2⟩; exact run_load_agg_op 24 (.tmp 3) rfl ⟨w.heap.size, 0, none⟩ rfl (nums .i64 l) _ (fun j v hj => by rw [add_plain', Nat.zero_add, blk_cell s0]; simpa using hj) Try.underlying24 rfl (by rw [nums_length, HL.out]; exact info24)⟩) hHeld ?_ ?_
      rotate_left
      · simp only [Act.put, List.setIfInBounds_toArray, List.set_cons_zero, List.set_cons_succ, i64_w, i32_w]
        rfl
      refine take_ (i := 2) (N := some 49) (v := (.agg (nums .i64 MD).toArray)) (a' := ?_) #[true, true, true, false, false, false, false, false, false, false, false, false, false, false, false, false] rfl rfl (by kernel_rfl) (fun _ _ _ h => h) (Or.inl ⟨by rfl, by rintro w' ⟨s0, s1, s2⟩; exact run_load_agg_op 24 (.tmp 9) rfl ⟨w4.heap.size, 0, none⟩ rfl (nums .i64 MD) _ (fun j v hj => by rw [add_plain', Nat.zero_add, blk_cell s1]; simpa using hj) Try.underlying24 rfl (by rw [nums_length, HML.out]; exact info24)⟩) hHeld ?_ ?_
      rotate_left
      · simp only [Act.put, List.setIfInBounds_toArray, List.set_cons_zero, List.set_cons_succ, i64_w, i32_w]
        rfl
      refine pure_ (i := 3) (N := some 50) (v := ?_) (a' := ?_) #[true, true, true, true, false, false, false, false, false, false, false, false, false, false, false, false] rfl rfl (by kernel_rfl) (fun _ _ _ h => h) (Or.inl ⟨by rfl, ?_⟩) ?_ ?_
      rotate_left
      · intro w'
        go_simp
        with_reducible rfl
      rotate_left
      · simp only [Act.put, List.setIfInBounds_toArray, List.set_cons_zero, List.set_cons_succ, i64_w, i32_w]
        rfl
      refine take_ (i := 5) (N := some 52) (v := (.agg (nums .i64 l).toArray)) (a' := ?_) #[true, true, true, true, false, true, false, false, false, false, false, false, false, false, false, false] rfl rfl (by kernel_rfl) (fun _ _ _ h => h) (Or.inl ⟨by rfl, by rintro w' ⟨s0, s1, s2⟩; exact run_load_agg_op 24 (.tmp 3) rfl ⟨w.heap.size, 0, none⟩ rfl (nums .i64 l) _ (fun j v hj => by rw [add_plain', Nat.zero_add, blk_cell s0]; simpa using hj) Try.underlying24 rfl (by rw [nums_length, HL.out]; exact info24)⟩) hHeld ?_ ?_
      rotate_left
      · simp only [Act.put, List.setIfInBounds_toArray, List.set_cons_zero, List.set_cons_succ, i64_w, i32_w]
        rfl
      refine one_ (i := 4) (N := some 51) #[true, true, true, true, true, true, false, false, false, false, false, false, false, false, false, false] rfl rfl (by kernel_rfl) (by decide) (fun K hK => ?_)
      refine goes_ Try.func29 (by kernel_rfl) rfl #[mv MD, mv l, mv MD, .slice A3 bs.length c3] (by rfl) rfl rfl (by simp [Act.eval]) ?_
      refine (HX1.out _ hHeld.2.2).mono ?_
      rintro e w1 ⟨rfl, hB1⟩
      refine ⟨_, rfl, ?_⟩
      refine hK.out _ _ ⟨blk_below hHeld.1 hB1, blk_below hHeld.2.1 hB1, below_step hHeld.2.2 hB1⟩ (fun hHeld => ?_)
      clear hK K
      refine norm_ (a' := ?_) ?_ ?_
      rotate_left
      · show Act.put _ (some 51) _ = _
        simp only [Act.put, List.setIfInBounds_toArray, List.set_cons_zero, List.set_cons_succ, i64_w, i32_w]
        rfl
      refine pure_ (i := 6) (N := some 53) (v := (.bool false)) (a' := ?_) #[true, true, true, true, true, true, true, false, false, false, false, false, false, false, false, false] rfl rfl (by kernel_rfl) (fun _ _ _ h => h) (Or.inl ⟨by rfl, by intro w'; exact run_eq_agg_op .neq 24 24 (.tmp 51) (.tmp 52) rfl (nums .i64 l).toArray (nums .i64 l).toArray rfl rfl (by kernel_rfl) (.bool false) (marks_neq l HL.out w')⟩) ?_ ?_
      rotate_left
      · simp only [Act.put, List.setIfInBounds_toArray, List.set_cons_zero, List.set_cons_succ, i64_w, i32_w]
        rfl
      refine pure_ (i := 7) (N := some 54) (v := ?_) (a' := ?_) #[true, true, true, true, true, true, true, true, false, false, false, false, false, false, false, false] rfl rfl (by kernel_rfl) (fun _ _ _ h => h) (Or.inl ⟨by rfl, ?_⟩) ?_ ?_
      rotate_left
      · intro w'
        go_simp
        with_reducible rfl
      rotate_left
      · simp only [Act.put, List.setIfInBounds_toArray, List.set_cons_zero, List.set_cons_succ, i64_w, i32_w]
        rfl
      refine take_ (i := 8) (N := some 55) (v := (.agg (nums .i64 l).toArray)) (a' := ?_) #[true, true, true, true, true, true, true, true, true, false, false, false, false, false, false, false] rfl rfl (by kernel_rfl) (fun _ _ _ h => h) (Or.inl ⟨by rfl, by rintro w' ⟨s0, s1, s2⟩; exact run_load_agg_op 24 (.tmp 3) rfl ⟨w.heap.size, 0, none⟩ rfl (nums .i64 l) _ (fun j v hj => by rw [add_plain', Nat.zero_add, blk_cell s0]; simpa using hj) Try.underlying24 rfl (by rw [nums_length, HL.out]; exact info24)⟩) hHeld ?_ ?_
      rotate_left
      · simp only [Act.put, List.setIfInBounds_toArray, List.set_cons_zero, List.set_cons_succ, i64_w, i32_w]
        rfl
      refine take_ (i := 9) (N := some 56) (v := (.agg (nums .i64 MD).toArray)) (a' := ?_) #[true, true, true, true, true, true, true, true, true, true, false, false, false, false, false, false] rfl rfl (by kernel_rfl) (fun _ _ _ h => h) (Or.inl ⟨by rfl, by rintro w' ⟨s0, s1, s2⟩; exact run_load_agg_op 24 (.tmp 9) rfl ⟨w4.heap.size, 0, none⟩ rfl (nums .i64 MD) _ (fun j v hj => by rw [add_plain', Nat.zero_add, blk_cell s1]; simpa using hj) Try.underlying24 rfl (by rw [nums_length, HML.out]; exact info24)⟩) hHeld ?_ ?_
      rotate_left
      · simp only [Act.put, List.setIfInBounds_toArray, List.set_cons_zero, List.set_cons_succ, i64_w, i32_w]
        rfl
      refine take_ (i := 10) (N := some 57) (v := (.agg (nums .i64 l).toArray)) (a' := ?_) #[true, true, true, true, true, true, true, true, true, true, true, false, false, false, false, false] rfl rfl (by kernel_rfl) (fun _ _ _ h => h) (Or.inl ⟨by rfl, by rintro w' ⟨s0, s1, s2⟩; exact run_load_agg_op 24 (.tmp 3) rfl ⟨w.heap.size, 0, none⟩ rfl (nums .i64 l) _ (fun j v hj => by rw [add_plain', Nat.zero_add, blk_cell s0]; simpa using hj) Try.underlying24 rfl (by rw [nums_length, HL.out]; exact info24)⟩) hHeld ?_ ?_
      rotate_left
      · simp only [Act.put, List.setIfInBounds_toArray, List.set_cons_zero, List.set_cons_succ, i64_w, i32_w]
        rfl
      refine pure_ (i := 11) (N := some 58) (v := ?_) (a' := ?_) #[true, true, true, true, true, true, true, true, true, true, true, true, false, false, false, false] rfl rfl (by kernel_rfl) (fun _ _ _ h => h) (Or.inl ⟨by rfl, ?_⟩) ?_ ?_
      rotate_left
      · intro w'
        go_simp
        with_reducible rfl
      rotate_left
      · simp only [Act.put, List.setIfInBounds_toArray, List.set_cons_zero, List.set_cons_succ, i64_w, i32_w]
        rfl
      refine take_ (i := 13) (N := some 60) (v := (.agg (nums .i64 MD).toArray)) (a' := ?_) #[true, true, true, true, true, true, true, true, true, true, true, true, false, true, false, false] rfl rfl (by kernel_rfl) (fun _ _ _ h => h) (Or.inl ⟨by rfl, by rintro w' ⟨s0, s1, s2⟩; exact run_load_agg_op 24 (.tmp 9) rfl ⟨w4.heap.size, 0, none⟩ rfl (nums .i64 MD) _ (fun j v hj => by rw [add_plain', Nat.zero_add, blk_cell s1]; simpa using hj) Try.underlying24 rfl (by rw [nums_length, HML.out]; exact info24)⟩) hHeld ?_ ?_
      rotate_left
      · simp only [Act.put, List.setIfInBounds_toArray, List.set_cons_zero, List.set_cons_succ, i64_w, i32_w]
        rfl
      refine one_ (i := 12) (N := some 59) #[true, true, true, true, true, true, true, true, true, true, true, true, true, true, false, false] rfl rfl (by kernel_rfl) (by decide) (fun K hK => ?_)
      refine goes_ Try.func29 (by kernel_rfl) rfl #[mv l, mv MD, mv l, .slice A es.length c] (by rfl) rfl rfl (by simp [Act.eval]) ?_
      refine (HX2.out _ hHeld.2.2).mono ?_
      rintro e w1 ⟨rfl, hB1⟩
      refine ⟨_, rfl, ?_⟩
      refine hK.out _ _ ⟨blk_below hHeld.1 hB1, blk_below hHeld.2.1 hB1, below_step hHeld.2.2 hB1⟩ (fun hHeld => ?_)
      clear hK K
      refine norm_ (a' := ?_) ?_ ?_
      rotate_left
      · show Act.put _ (some 59) _ = _
        simp only [Act.put, List.setIfInBounds_toArray, List.set_cons_zero, List.set_cons_succ, i64_w, i32_w]
        rfl
      refine pure_ (i := 14) (N := some 61) (v := (.bool false)) (a' := ?_) #[true, true, true, true, true, true, true, true, true, true, true, true, true, true, true, false] rfl rfl (by kernel_rfl) (fun _ _ _ h => h) (Or.inl ⟨by rfl, by intro w'; exact run_eq_agg_op .neq 24 24 (.tmp 59) (.tmp 60) rfl (nums .i64 MD).toArray (nums .i64 MD).toArray rfl rfl (by kernel_rfl) (.bool false) (marks_neq MD HML.out w')⟩) ?_ ?_
      rotate_left
      · simp only [Act.put, List.setIfInBounds_toArray, List.set_cons_zero, List.set_cons_succ, i64_w, i32_w]
        rfl
      refine pure_ (i := 15) (N := some 62) (v := ?_) (a' := ?_) #[true, true, true, true, true, true, true, true, true, true, true, true, true, true, true, true] rfl rfl (by kernel_rfl) (fun _ _ _ h => h) (Or.inl ⟨by rfl, ?_⟩) ?_ ?_
      rotate_left
      · intro w'
        go_simp
        with_reducible rfl
      rotate_left
      · simp only [Act.put, List.setIfInBounds_toArray, List.set_cons_zero, List.set_cons_succ, i64_w, i32_w]
        rfl
      refine done_ (by kernel_rfl) ?_
      have HB7 := Aside0.mk hHeld.1
      have HM7 := Aside0.mk hHeld.2.1
      have HW7 := Aside0.mk hHeld.2.2
      clear hHeld UN UB UK0 HX1 HX2
      go_wp2_with (refine wpList_load_agg rfl 24 (.tmp 9) rfl ⟨w4.heap.size, 0, none⟩ ?q3a (nums .i64 MD) _ ?q3b Try.underlying24 rfl ?q3c ?q3d)
      try (case q3a => rfl)
      case q3b =>
        intro j v hj
        (first | rw [add_plain', Nat.zero_add] | skip)
        rw [blk_cell HM7.out]
        simpa using hj
      case q3c =>
        rw [nums_length, HML.out]
        (first | exact info24 | exact Option.map_eq_some_iff.1 info24)
      go_wp2_with fail
      refine (HST.out _).mono ?_
      rintro e w6 ⟨rfl, hB6⟩
      have HB6 := Aside0.mk (blk_below HB7.out hB6)
      have HM6 := Aside0.mk (blk_below HM7.out hB6)
      have HW6 := Aside0.mk (below_step HW7.out hB6)
      clear hB6 HB7 HM7 HW7
      go_upto_region 14 with (refine wpList_store_agg rfl 24 (.tmp 10) (.tmp 67) rfl w6.heap.size 0 ?q4a (nums .i64 ND) ?q4b _ 24 (blk_new w6 (Obj.cells #[.int .i64 0, .int .i64 0, .int .i64 0, .int .i64 0, .int .i64 0, .int .i64 0, .int .i64 0, .int .i64 0, .int .i64 0, .int .i64 0, .int .i64 0, .int .i64 0, .int .i64 0, .int .i64 0, .int .i64 0, .int .i64 0, .int .i64 0, .int .i64 0, .int .i64 0, .int .i64 0, .int .i64 0, .int .i64 0, .int .i64 0, .int .i64 0, .int .i64 0, .int .i64 0, .int .i64 0] 24)) ?q4c (nums_one _) ?q4d ?q4e)
      try (case q4a => rfl)
      try (case q4b => rfl)
      case q4c => rw [nums_length, HND.out]; exact Nat.le_refl _
      case q4d =>
        rw [nums_length, HND.out]
        (first | exact info24 | exact Option.map_eq_some_iff.1 info24)
      have h1 := putCells_block (nums .i64 ND) (w6.alloc (Obj.cells #[.int .i64 0, .int .i64 0, .int .i64 0, .int .i64 0, .int .i64 0, .int .i64 0, .int .i64 0, .int .i64 0, .int .i64 0, .int .i64 0, .int .i64 0, .int .i64 0, .int .i64 0, .int .i64 0, .int .i64 0, .int .i64 0, .int .i64 0, .int .i64 0, .int .i64 0, .int .i64 0, .int .i64 0, .int .i64 0, .int .i64 0, .int .i64 0, .int .i64 0, .int .i64 0, .int .i64 0] 24)) w6.heap.size 0 _ 24 (blk_new w6 (Obj.cells #[.int .i64 0, .int .i64 0, .int .i64 0, .int .i64 0, .int .i64 0, .int .i64 0, .int .i64 0, .int .i64 0, .int .i64 0, .int .i64 0, .int .i64 0, .int .i64 0, .int .i64 0, .int .i64 0, .int .i64 0, .int .i64 0, .int .i64 0, .int .i64 0, .int .i64 0, .int .i64 0, .int .i64 0, .int .i64 0, .int .i64 0, .int .i64 0, .int .i64 0, .int .i64 0, .int .i64 0] 24))
      rw [splice_whole _ (nums .i64 ND) (by rw [nums_length, HND.out]; rfl)] at h1
      have h3 := putCells_below (nums .i64 ND) wr (w6.alloc (Obj.cells #[.int .i64 0, .int .i64 0, .int .i64 0, .int .i64 0, .int .i64 0, .int .i64 0, .int .i64 0, .int .i64 0, .int .i64 0, .int .i64 0, .int .i64 0, .int .i64 0, .int .i64 0, .int .i64 0, .int .i64 0, .int .i64 0, .int .i64 0, .int .i64 0, .int .i64 0, .int .i64 0, .int .i64 0, .int .i64 0, .int .i64 0, .int .i64 0, .int .i64 0, .int .i64 0, .int .i64 0] 24)) wr.heap.size w6.heap.size 0 HW6.out.size (HW6.out.alloc HW6.out.size (Obj.cells #[.int .i64 0, .int .i64 0, .int .i64 0, .int .i64 0, .int .i64 0, .int .i64 0, .int .i64 0, .int .i64 0, .int .i64 0, .int .i64 0, .int .i64 0, .int .i64 0, .int .i64 0, .int .i64 0, .int .i64 0, .int .i64 0, .int .i64 0, .int .i64 0, .int .i64 0, .int .i64 0, .int .i64 0, .int .i64 0, .int .i64 0, .int .i64 0, .int .i64 0, .int .i64 0, .int .i64 0] 24))
      have hk0 := (putCells_other (nums .i64 ND) (w6.alloc (Obj.cells #[.int .i64 0, .int .i64 0, .int .i64 0, .int .i64 0, .int .i64 0, .int .i64 0, .int .i64 0, .int .i64 0, .int .i64 0, .int .i64 0, .int .i64 0, .int .i64 0, .int .i64 0, .int .i64 0, .int .i64 0, .int .i64 0, .int .i64 0, .int .i64 0, .int .i64 0, .int .i64 0, .int .i64 0, .int .i64 0, .int .i64 0, .int .i64 0, .int .i64 0, .int .i64 0, .int .i64 0] 24)) w6.heap.size 0 _ (Nat.ne_of_lt (blk_lt HB6.out))).trans (blk_alloc HB6.out (Obj.cells #[.int .i64 0, .int .i64 0, .int .i64 0, .int .i64 0, .int .i64 0, .int .i64 0, .int .i64 0, .int .i64 0, .int .i64 0, .int .i64 0, .int .i64 0, .int .i64 0, .int .i64 0, .int .i64 0, .int .i64 0, .int .i64 0, .int .i64 0, .int .i64 0, .int .i64 0, .int .i64 0, .int .i64 0, .int .i64 0, .int .i64 0, .int .i64 0, .int .i64 0, .int .i64 0, .int .i64 0] 24))
      have hk1 := (putCells_other (nums .i64 ND) (w6.alloc (Obj.cells #[.int .i64 0, .int .i64 0, .int .i64 0, .int .i64 0, .int .i64 0, .int .i64 0, .int .i64 0, .int .i64 0, .int .i64 0, .int .i64 0, .int .i64 0, .int .i64 0, .int .i64 0, .int .i64 0, .int .i64 0, .int .i64 0, .int .i64 0, .int .i64 0, .int .i64 0, .int .i64 0, .int .i64 0, .int .i64 0, .int .i64 0, .int .i64 0, .int .i64 0, .int .i64 0, .int .i64 0] 24)) w6.heap.size 0 _ (Nat.ne_of_lt (blk_lt HM6.out))).trans (blk_alloc HM6.out (Obj.cells #[.int .i64 0, .int .i64 0, .int .i64 0, .int .i64 0, .int .i64 0, .int .i64 0, .int .i64 0, .int .i64 0, .int .i64 0, .int .i64 0, .int .i64 0, .int .i64 0, .int .i64 0, .int .i64 0, .int .i64 0, .int .i64 0, .int .i64 0, .int .i64 0, .int .i64 0, .int .i64 0, .int .i64 0, .int .i64 0, .int .i64 0, .int .i64 0, .int .i64 0, .int .i64 0, .int .i64 0] 24))
      generalize (putCells (w6.alloc (Obj.cells #[.int .i64 0, .int .i64 0, .int .i64 0, .int .i64 0, .int .i64 0, .int .i64 0, .int .i64 0, .int .i64 0, .int .i64 0, .int .i64 0, .int .i64 0, .int .i64 0, .int .i64 0, .int .i64 0, .int .i64 0, .int .i64 0, .int .i64 0, .int .i64 0, .int .i64 0, .int .i64 0, .int .i64 0, .int .i64 0, .int .i64 0, .int .i64 0, .int .i64 0, .int .i64 0, .int .i64 0] 24)) w6.heap.size 0 (nums .i64 ND)) = U6 at h1 h3 hk0 hk1 ⊢
      have U6N := Aside0.mk h1
      have U6B := Aside0.mk h3
      have U6K0 := Aside0.mk hk0
      have U6K1 := Aside0.mk hk1
      clear h1 h3 hk0 hk1
      clear HB6 HM6 HW6
      go_wp2_with (first | (refine wpList_load_agg rfl 24 (.tmp 10) rfl ⟨w6.heap.size, 0, none⟩ ?q5a (nums .i64 ND) _ ?q5b Try.underlying24 rfl ?q5c ?q5d) | (refine wpList_load_agg rfl 24 (.tmp 3) rfl ⟨w.heap.size, 0, none⟩ ?q6a (nums .i64 l) _ ?q6b Try.underlying24 rfl ?q6c ?q6d) | (refine wpList_load_agg rfl 24 (.tmp 9) rfl ⟨w4.heap.size, 0, none⟩ ?q7a (nums .i64 MD) _ ?q7b Try.underlying24 rfl ?q7c ?q7d))
      try (case q5a => rfl)
      case q5b =>
        intro j v hj
        (first | rw [add_plain', Nat.zero_add] | skip)
        rw [blk_cell U6N.out]
        simpa using hj
      case q5c =>
        rw [nums_length, HND.out]
        (first | exact info24 | exact Option.map_eq_some_iff.1 info24)
      try (case q6a => rfl)
      case q6b =>
        intro j v hj
        (first | rw [add_plain', Nat.zero_add] | skip)
        rw [blk_cell U6K0.out]
        simpa using hj
      case q6c =>
        rw [nums_length, HL.out]
        (first | exact info24 | exact Option.map_eq_some_iff.1 info24)
      try (case q7a => rfl)
      case q7b =>
        intro j v hj
        (first | rw [add_plain', Nat.zero_add] | skip)
        rw [blk_cell U6K1.out]
        simpa using hj
      case q7c =>
        rw [nums_length, HML.out]
        (first | exact info24 | exact Option.map_eq_some_iff.1 info24)
      refine (HX3.out _ U6B.out).mono ?_
      rintro e w7 ⟨rfl, hB7⟩
      have HB7 := Aside0.mk (blk_below U6K0.out hB7)
      have HM7 := Aside0.mk (blk_below U6K1.out hB7)
      have HN7 := Aside0.mk (blk_below U6N.out hB7)
      have HW7 := Aside0.mk (below_step U6B.out hB7)
      clear hB7 U6K0 U6K1 U6N U6B
      go_upto_region 17 with (refine wpList_store_agg rfl 24 (.tmp 12) (.tmp 81) rfl w7.heap.size 0 ?q8a (nums .i64 G) ?q8b _ 24 (blk_new w7 (Obj.cells #[.int .i64 0, .int .i64 0, .int .i64 0, .int .i64 0, .int .i64 0, .int .i64 0, .int .i64 0, .int .i64 0, .int .i64 0, .int .i64 0, .int .i64 0, .int .i64 0, .int .i64 0, .int .i64 0, .int .i64 0, .int .i64 0, .int .i64 0, .int .i64 0, .int .i64 0, .int .i64 0, .int .i64 0, .int .i64 0, .int .i64 0, .int .i64 0, .int .i64 0, .int .i64 0, .int .i64 0] 24)) ?q8c (nums_one _) ?q8d ?q8e)
      try (case q8a => rfl)
      try (case q8b => rfl)
      case q8c => rw [nums_length, HGL.out]; exact Nat.le_refl _
      case q8d =>
        rw [nums_length, HGL.out]
        (first | exact info24 | exact Option.map_eq_some_iff.1 info24)
      have h1 := putCells_block (nums .i64 G) (w7.alloc (Obj.cells #[.int .i64 0, .int .i64 0, .int .i64 0, .int .i64 0, .int .i64 0, .int .i64 0, .int .i64 0, .int .i64 0, .int .i64 0, .int .i64 0, .int .i64 0, .int .i64 0, .int .i64 0, .int .i64 0, .int .i64 0, .int .i64 0, .int .i64 0, .int .i64 0, .int .i64 0, .int .i64 0, .int .i64 0, .int .i64 0, .int .i64 0, .int .i64 0, .int .i64 0, .int .i64 0, .int .i64 0] 24)) w7.heap.size 0 _ 24 (blk_new w7 (Obj.cells #[.int .i64 0, .int .i64 0, .int .i64 0, .int .i64 0, .int .i64 0, .int .i64 0, .int .i64 0, .int .i64 0, .int .i64 0, .int .i64 0, .int .i64 0, .int .i64 0, .int .i64 0, .int .i64 0, .int .i64 0, .int .i64 0, .int .i64 0, .int .i64 0, .int .i64 0, .int .i64 0, .int .i64 0, .int .i64 0, .int .i64 0, .int .i64 0, .int .i64 0, .int .i64 0, .int .i64 0] 24))
      rw [splice_whole _ (nums .i64 G) (by rw [nums_length, HGL.out]; rfl)] at h1
      have h3 := putCells_below (nums .i64 G) wr (w7.alloc (Obj.cells #[.int .i64 0, .int .i64 0, .int .i64 0, .int .i64 0, .int .i64 0, .int .i64 0, .int .i64 0, .int .i64 0, .int .i64 0, .int .i64 0, .int .i64 0, .int .i64 0, .int .i64 0, .int .i64 0, .int .i64 0, .int .i64 0, .int .i64 0, .int .i64 0, .int .i64 0, .int .i64 0, .int .i64 0, .int .i64 0, .int .i64 0, .int .i64 0, .int .i64 0, .int .i64 0, .int .i64 0] 24)) wr.heap.size w7.heap.size 0 HW7.out.size (HW7.out.alloc HW7.out.size (Obj.cells #[.int .i64 0, .int .i64 0, .int .i64 0, .int .i64 0, .int .i64 0, .int .i64 0, .int .i64 0, .int .i64 0, .int .i64 0, .int .i64 0, .int .i64 0, .int .i64 0, .int .i64 0, .int .i64 0, .int .i64 0, .int .i64 0, .int .i64 0, .int .i64 0, .int .i64 0, .int .i64 0, .int .i64 0, .int .i64 0, .int .i64 0, .int .i64 0, .int .i64 0, .int .i64 0, .int .i64 0] 24))
      have hk0 := (putCells_other (nums .i64 G) (w7.alloc (Obj.cells #[.int .i64 0, .int .i64 0, .int .i64 0, .int .i64 0, .int .i64 0, .int .i64 0, .int .i64 0, .int .i64 0, .int .i64 0, .int .i64 0, .int .i64 0, .int .i64 0, .int .i64 0, .int .i64 0, .int .i64 0, .int .i64 0, .int .i64 0, .int .i64 0, .int .i64 0, .int .i64 0, .int .i64 0, .int .i64 0, .int .i64 0, .int .i64 0, .int .i64 0, .int .i64 0, .int .i64 0] 24)) w7.heap.size 0 _ (Nat.ne_of_lt (blk_lt HB7.out))).trans (blk_alloc HB7.out (Obj.cells #[.int .i64 0, .int .i64 0, .int .i64 0, .int .i64 0, .int .i64 0, .int .i64 0, .int .i64 0, .int .i64 0, .int .i64 0, .int .i64 0, .int .i64 0, .int .i64 0, .int .i64 0, .int .i64 0, .int .i64 0, .int .i64 0, .int .i64 0, .int .i64 0, .int .i64 0, .int .i64 0, .int .i64 0, .int .i64 0, .int .i64 0, .int .i64 0, .int .i64 0, .int .i64 0, .int .i64 0] 24))
      have hk1 := (putCells_other (nums .i64 G) (w7.alloc (Obj.cells #[.int .i64 0, .int .i64 0, .int .i64 0, .int .i64 0, .int .i64 0, .int .i64 0, .int .i64 0, .int .i64 0, .int .i64 0, .int .i64 0, .int .i64 0, .int .i64 0, .int .i64 0, .int .i64 0, .int .i64 0, .int .i64 0, .int .i64 0, .int .i64 0, .int .i64 0, .int .i64 0, .int .i64 0, .int .i64 0, .int .i64 0, .int .i64 0, .int .i64 0, .int .i64 0, .int .i64 0] 24)) w7.heap.size 0 _ (Nat.ne_of_lt (blk_lt HM7.out))).trans (blk_alloc HM7.out (Obj.cells #[.int .i64 0, .int .i64 0, .int .i64 0, .int .i64 0, .int .i64 0, .int .i64 0, .int .i64 0, .int .i64 0, .int .i64 0, .int .i64 0, .int .i64 0, .int .i64 0, .int .i64 0, .int .i64 0, .int .i64 0, .int .i64 0, .int .i64 0, .int .i64 0, .int .i64 0, .int .i64 0, .int .i64 0, .int .i64 0, .int .i64 0, .int .i64 0, .int .i64 0, .int .i64 0, .int .i64 0] 24))
      have hk2 := (putCells_other (nums .i64 G) (w7.alloc (Obj.cells #[.int .i64 0, .int .i64 0, .int .i64 0, .int .i64 0, .int .i64 0, .int .i64 0, .int .i64 0, .int .i64 0, .int .i64 0, .int .i64 0, .int .i64 0, .int .i64 0, .int .i64 0, .int .i64 0, .int .i64 0, .int .i64 0, .int .i64 0, .int .i64 0, .int .i64 0, .int .i64 0, .int .i64 0, .int .i64 0, .int .i64 0, .int .i64 0, .int .i64 0, .int .i64 0, .int .i64 0] 24)) w7.heap.size 0 _ (Nat.ne_of_lt (blk_lt HN7.out))).trans (blk_alloc HN7.out (Obj.cells #[.int .i64 0, .int .i64 0, .int .i64 0, .int .i64 0, .int .i64 0, .int .i64 0, .int .i64 0, .int .i64 0, .int .i64 0, .int .i64 0, .int .i64 0, .int .i64 0, .int .i64 0, .int .i64 0, .int .i64 0, .int .i64 0, .int .i64 0, .int .i64 0, .int .i64 0, .int .i64 0, .int .i64 0, .int .i64 0, .int .i64 0, .int .i64 0, .int .i64 0, .int .i64 0, .int .i64 0] 24))
      generalize (putCells (w7.alloc (Obj.cells #[.int .i64 0, .int .i64 0, .int .i64 0, .int .i64 0, .int .i64 0, .int .i64 0, .int .i64 0, .int .i64 0, .int .i64 0, .int .i64 0, .int .i64 0, .int .i64 0, .int .i64 0, .int .i64 0, .int .i64 0, .int .i64 0, .int .i64 0, .int .i64 0, .int .i64 0, .int .i64 0, .int .i64 0, .int .i64 0, .int .i64 0, .int .i64 0, .int .i64 0, .int .i64 0, .int .i64 0] 24)) w7.heap.size 0 (nums .i64 G)) = U8 at h1 h3 hk0 hk1 hk2 ⊢
      have U8N := Aside0.mk h1
      have U8B := Aside0.mk h3
      have U8K0 := Aside0.mk hk0
      have U8K1 := Aside0.mk hk1
      have U8K2 := Aside0.mk hk2
      clear h1 h3 hk0 hk1 hk2
      clear HB7 HM7 HN7 HW7
      go_upto_region 18 with (first | (refine wpList_load_agg rfl 24 (.tmp 3) rfl ⟨w.heap.size, 0, none⟩ ?q9a (nums .i64 l) _ ?q9b Try.underlying24 rfl ?q9c ?q9d) | (refine wpList_store_agg rfl 24 (.tmp 13) (.tmp 82) rfl U8.heap.size 0 ?q10a (nums .i64 l) ?q10b _ 24 (blk_new U8 (Obj.cells #[.int .i64 0, .int .i64 0, .int .i64 0, .int .i64 0, .int .i64 0, .int .i64 0, .int .i64 0, .int .i64 0, .int .i64 0, .int .i64 0, .int .i64 0, .int .i64 0, .int .i64 0, .int .i64 0, .int .i64 0, .int .i64 0, .int .i64 0, .int .i64 0, .int .i64 0, .int .i64 0, .int .i64 0, .int .i64 0, .int .i64 0, .int .i64 0, .int .i64 0, .int .i64 0, .int .i64 0] 24)) ?q10c (nums_one _) ?q10d ?q10e))
      try (case q9a => rfl)
      case q9b =>
        intro j v hj
        (first | rw [add_plain', Nat.zero_add] | skip)
        rw [blk_cell U8K0.out]
        simpa using hj
      case q9c =>
        rw [nums_length, HL.out]
        (first | exact info24 | exact Option.map_eq_some_iff.1 info24)
      try (case q10a => rfl)
      try (case q10b => rfl)
      case q10c => rw [nums_length, HL.out]; exact Nat.le_refl _
      case q10d =>
        rw [nums_length, HL.out]
        (first | exact info24 | exact Option.map_eq_some_iff.1 info24)
      have h1 := putCells_block (nums .i64 l) (U8.alloc (Obj.cells #[.int .i64 0, .int .i64 0, .int .i64 0, .int .i64 0, .int .i64 0, .int .i64 0, .int .i64 0, .int .i64 0, .int .i64 0, .int .i64 0, .int .i64 0, .int .i64 0, .int .i64 0, .int .i64 0, .int .i64 0, .int .i64 0, .int .i64 0, .int .i64 0, .int .i64 0, .int .i64 0, .int .i64 0, .int .i64 0, .int .i64 0, .int .i64 0, .int .i64 0, .int .i64 0, .int .i64 0] 24)) U8.heap.size 0 _ 24 (blk_new U8 (Obj.cells #[.int .i64 0, .int .i64 0, .int .i64 0, .int .i64 0, .int .i64 0, .int .i64 0, .int .i64 0, .int .i64 0, .int .i64 0, .int .i64 0, .int .i64 0, .int .i64 0, .int .i64 0, .int .i64 0, .int .i64 0, .int .i64 0, .int .i64 0, .int .i64 0, .int .i64 0, .int .i64 0, .int .i64 0, .int .i64 0, .int .i64 0, .int .i64 0, .int .i64 0, .int .i64 0, .int .i64 0] 24))
      rw [splice_whole _ (nums .i64 l) (by rw [nums_length, HL.out]; rfl)] at h1
      have h3 := putCells_below (nums .i64 l) wr (U8.alloc (Obj.cells #[.int .i64 0, .int .i64 0, .int .i64 0, .int .i64 0, .int .i64 0, .int .i64 0, .int .i64 0, .int .i64 0, .int .i64 0, .int .i64 0, .int .i64 0, .int .i64 0, .int .i64 0, .int .i64 0, .int .i64 0, .int .i64 0, .int .i64 0, .int .i64 0, .int .i64 0, .int .i64 0, .int .i64 0, .int .i64 0, .int .i64 0, .int .i64 0, .int .i64 0, .int .i64 0, .int .i64 0] 24)) wr.heap.size U8.heap.size 0 U8B.out.size (U8B.out.alloc U8B.out.size (Obj.cells #[.int .i64 0, .int .i64 0, .int .i64 0, .int .i64 0, .int .i64 0, .int .i64 0, .int .i64 0, .int .i64 0, .int .i64 0, .int .i64 0, .int .i64 0, .int .i64 0, .int .i64 0, .int .i64 0, .int .i64 0, .int .i64 0, .int .i64 0, .int .i64 0, .int .i64 0, .int .i64 0, .int .i64 0, .int .i64 0, .int .i64 0, .int .i64 0, .int .i64 0, .int .i64 0, .int .i64 0] 24))
      have hk0 := (putCells_other (nums .i64 l) (U8.alloc (Obj.cells #[.int .i64 0, .int .i64 0, .int .i64 0, .int .i64 0, .int .i64 0, .int .i64 0, .int .i64 0, .int .i64 0, .int .i64 0, .int .i64 0, .int .i64 0, .int .i64 0, .int .i64 0, .int .i64 0, .int .i64 0, .int .i64 0, .int .i64 0, .int .i64 0, .int .i64 0, .int .i64 0, .int .i64 0, .int .i64 0, .int .i64 0, .int .i64 0, .int .i64 0, .int .i64 0, .int .i64 0] 24)) U8.heap.size 0 _ (Nat.ne_of_lt (blk_lt U8N.out))).trans (blk_alloc U8N.out (Obj.cells #[.int .i64 0, .int .i64 0, .int .i64 0, .int .i64 0, .int .i64 0, .int .i64 0, .int .i64 0, .int .i64 0, .int .i64 0, .int .i64 0, .int .i64 0, .int .i64 0, .int .i64 0, .int .i64 0, .int .i64 0, .int .i64 0, .int .i64 0, .int .i64 0, .int .i64 0, .int .i64 0, .int .i64 0, .int .i64 0, .int .i64 0, .int .i64 0, .int .i64 0, .int .i64 0, .int .i64 0] 24))
      have hk1 := (putCells_other (nums .i64 l) (U8.alloc (Obj.cells #[.int .i64 0, .int .i64 0, .int .i64 0, .int .i64 0, .int .i64 0, .int .i64 0, .int .i64 0, .int .i64 0, .int .i64 0, .int .i64 0, .int .i64 0, .int .i64 0, .int .i64 0, .int .i64 0, .int .i64 0, .int .i64 0, .int .i64 0, .int .i64 0, .int .i64 0, .int .i64 0, .int .i64 0, .int .i64 0, .int .i64 0, .int .i64 0, .int .i64 0, .int .i64 0, .int .i64 0] 24)) U8.heap.size 0 _ (Nat.ne_of_lt (blk_lt U8K1.out))).trans (blk_alloc U8K1.out (Obj.cells #[.int .i64 0, .int .i64 0, .int .i64 0, .int .i64 0, .int .i64 0, .int .i64 0, .int .i64 0, .int .i64 0, .int .i64 0, .int .i64 0, .int .i64 0, .int .i64 0, .int .i64 0, .int .i64 0, .int .i64 0, .int .i64 0, .int .i64 0, .int .i64 0, .int .i64 0, .int .i64 0, .int .i64 0, .int .i64 0, .int .i64 0, .int .i64 0, .int .i64 0, .int .i64 0, .int .i64 0] 24))
      have hk2 := (putCells_other (nums .i64 l) (U8.alloc (Obj.cells #[.int .i64 0, .int .i64 0, .int .i64 0, .int .i64 0, .int .i64 0, .int .i64 0, .int .i64 0, .int .i64 0, .int .i64 0, .int .i64 0, .int .i64 0, .int .i64 0, .int .i64 0, .int .i64 0, .int .i64 0, .int .i64 0, .int .i64 0, .int .i64 0, .int .i64 0, .int .i64 0, .int .i64 0, .int .i64 0, .int .i64 0, .int .i64 0, .int .i64 0, .int .i64 0, .int .i64 0] 24)) U8.heap.size 0 _ (Nat.ne_of_lt (blk_lt U8K2.out))).trans (blk_alloc U8K2.out (Obj.cells #[.int .i64 0, .int .i64 0, .int .i64 0, .int .i64 0, .int .i64 0, .int .i64 0, .int .i64 0, .int .i64 0, .int .i64 0, .int .i64 0, .int .i64 0, .int .i64 0, .int .i64 0, .int .i64 0, .int .i64 0, .int .i64 0, .int .i64 0, .int .i64 0, .int .i64 0, .int .i64 0, .int .i64 0, .int .i64 0, .int .i64 0, .int .i64 0, .int .i64 0, .int .i64 0, .int .i64 0] 24))
      generalize (putCells (U8.alloc (Obj.cells #[.int .i64 0, .int .i64 0, .int .i64 0, .int .i64 0, .int .i64 0, .int .i64 0, .int .i64 0, .int .i64 0, .int .i64 0, .int .i64 0, .int .i64 0, .int .i64 0, .int .i64 0, .int .i64 0, .int .i64 0, .int .i64 0, .int .i64 0, .int .i64 0, .int .i64 0, .int .i64 0, .int .i64 0, .int .i64 0, .int .i64 0, .int .i64 0, .int .i64 0, .int .i64 0, .int .i64 0] 24)) U8.heap.size 0 (nums .i64 l)) = U9 at h1 h3 hk0 hk1 hk2 ⊢
      have U9N := Aside0.mk h1
      have U9B := Aside0.mk h3
      have U9K0 := Aside0.mk hk0
      have U9K1 := Aside0.mk hk1
      have U9K2 := Aside0.mk hk2
      clear h1 h3 hk0 hk1 hk2
      have hlt9 := Aside0.mk (blk_lt U8N.out)
      have hsz8 := Aside0.mk U8B.out.size
      clear U8B U8K0 U8K1 U8K2 U8N
      have hcy : U9.cell? ⟨w4.heap.size, 4, none⟩ = some (.int .i64 y) := by
        rw [blk_cell U9K1.out, nums_get MD 4 (by rw [HML.out]; omega), hy.out]
      by_cases hay : a = y
      · obtain rfl : G = l := heq.out hay
        subst hay
        have HG_ := HGL
        go_upto_region 20 with (fail)
        go_step
        refine wpList_load_agg rfl 24 (.tmp 12) rfl ⟨w7.heap.size, 0, none⟩ rfl (nums .i64 G) _ ?r2 Try.underlying24 rfl ?r3 ?r4
        case r2 =>
          intro j v hj
          rw [add_plain', Nat.zero_add, blk_cell U9K0.out]
          simpa using hj
        case r3 =>
          rw [nums_length, HG_.out]
          exact info24
        refine wpList_load_agg rfl 24 (.tmp 13) rfl ⟨U8.heap.size, 0, none⟩ rfl (nums .i64 G) _ ?r6 Try.underlying24 rfl ?r7 ?r8
        case r6 =>
          intro j v hj
          rw [add_plain', Nat.zero_add, blk_cell U9N.out]
          simpa using hj
        case r7 =>
          rw [nums_length, HG_.out]
          exact info24
        refine wpList_eq_agg rfl .eql 24 24 (.tmp 95) (.tmp 96) rfl (nums .i64 G).toArray (nums .i64 G).toArray rfl rfl ?r11 (.bool true) (marks_eql _ HG_.out _) ?r12
        case r11 => kernel_rfl
        go_wp2
        go_ret
        exact ⟨rfl, below_step HWW.out U9B.out⟩
      · have hnb : (a != y) = true := bne_iff_ne.2 hay
        have hz : ∃ z, z = MB[4]?.getD 0 := ⟨_, rfl⟩
        obtain ⟨z, hz⟩ := hz
        have hG := hne.out hay
        have hfn := fun W => field_names MB HBL.out W
        have hix := fun W => index_four MB HBL.out W
        rw [← hz] at hG hix
        subst hG
        have HG_ := HGL
        clear hz hne heq
        go_wp2_with (refine wpList_load_agg rfl 24 (.tmp 10) rfl ⟨w6.heap.size, 0, none⟩ ?q11a (nums .i64 ND) _ ?q11b Try.underlying24 rfl ?q11c ?q11d)
        try (case q11a => rfl)
        case q11b =>
          intro j v hj
          (first | rw [add_plain', Nat.zero_add] | skip)
          rw [blk_cell U9K2.out]
          simpa using hj
        case q11c =>
          rw [nums_length, HND.out]
          (first | exact info24 | exact Option.map_eq_some_iff.1 info24)
        refine (HX4.out _ U9B.out).mono ?_
        rintro e w8 ⟨rfl, hB8⟩
        have HG8 := Aside0.mk (blk_below U9K0.out hB8)
        have HL8 := Aside0.mk (blk_below U9N.out hB8)
        have HW8 := Aside0.mk (below_step U9B.out hB8)
        have hcl : w8.cell? ⟨U8.heap.size, 4, none⟩ = some (.int .i64 (l[4]?.getD 0)) := by
          rw [blk_cell HL8.out, nums_get l 4 (by rw [HL.out]; omega)]
        have hfz := blk_frozen HL8.out 4
        clear hB8 U9K0 U9K1 U9K2 U9N U9B hcy HX4 HX3
        go_upto_region 20 with (fail)
        have K1 := Aside0.mk (blk_put HL8.out 4 (.int .i64 z) (nums_put l 4 z))
        have K2 := Aside0.mk (blk_far (p := ⟨U8.heap.size, 4, none⟩) HG8.out (Nat.ne_of_lt hlt9.out) (.int .i64 z))
        have K3 := Aside0.mk (HW8.out.setCell (p := ⟨U8.heap.size, 4, none⟩) hsz8.out (.int .i64 z))
        clear hcl hfz HG8 HL8 HW8
        generalize w8.setCell ⟨U8.heap.size, 4, none⟩ (.int .i64 z) = U10 at K1 K2 K3 ⊢
        go_step
        refine wpList_load_agg rfl 24 (.tmp 12) rfl ⟨w7.heap.size, 0, none⟩ rfl (nums .i64 (l.set 4 z)) _ ?s2 Try.underlying24 rfl ?s3 ?s4
        case s2 =>
          intro j v hj
          rw [add_plain', Nat.zero_add, blk_cell K2.out]
          simpa using hj
        case s3 =>
          rw [nums_length, HG_.out]
          exact info24
        refine wpList_load_agg rfl 24 (.tmp 13) rfl ⟨U8.heap.size, 0, none⟩ rfl (nums .i64 (l.set 4 z)) _ ?s6 Try.underlying24 rfl ?s7 ?s8
        case s6 =>
          intro j v hj
          rw [add_plain', Nat.zero_add, blk_cell K1.out]
          simpa using hj
        case s7 =>
          rw [nums_length, HG_.out]
          exact info24
        refine wpList_eq_agg rfl .eql 24 24 (.tmp 95) (.tmp 96) rfl (nums .i64 (l.set 4 z)).toArray (nums .i64 (l.set 4 z)).toArray rfl rfl ?s11 (.bool true) (marks_eql _ HG_.out _) ?s12
        case s11 => kernel_rfl
        go_wp2
        go_ret
        exact ⟨rfl, below_step HWW.out K3.out⟩
    · have ej : (((j + 1 : Nat) : Int) - 1) = (j : Int) := by omega
      rw [ej] at *
      have hlt' : ((j : Int) < es.length) = True := eq_true (by omega)
      have hge' : ((0 : Int) ≤ (j : Int)) = True := eq_true (by omega)
      obtain ⟨ad, Ao, o, Bo, n, rfl, hflip, hcell⟩ := edit_flip HRR.out j (by omega)
      replace hcell := Aside0.mk hcell
      replace hflip := Aside0.mk hflip
      go_upto_region 9 with (fail)
      refine start_ (n := 20) (S := fun w' => w'.ownsRow V.heap.size 42 3 u7 (es.length - (j + 1)) news ∧ Below V.heap.size V w') (ds := [18]) #[false, false, false, false, false, false, false, false, false, false, false, false, false, false, false, false, false, false, false, false] (by kernel_rfl) rfl rfl ⟨HOr.out, HWr.out.drew⟩ (fun hHeld => ?_)
      refine pure_ (i := 0) (N := some 25) (v := ?_) (a' := ?_) #[true, false, false, false, false, false, false, false, false, false, false, false, false, false, false, false, false, false, false, false] rfl rfl (by kernel_rfl) (fun _ _ _ h => h) (Or.inl ⟨by rfl, ?_⟩) ?_ ?_
      rotate_left
      · intro w'
        go_simp
        with_reducible rfl
      rotate_left
      · simp only [Act.put, List.setIfInBounds_toArray, List.set_cons_zero, List.set_cons_succ, i64_w, i32_w]
        rfl
      refine pure_ (i := 1) (N := some 26) (v := ?_) (a' := ?_) #[true, true, false, false, false, false, false, false, false, false, false, false, false, false, false, false, false, false, false, false] rfl rfl (by kernel_rfl) (fun _ _ _ h => h) (Or.inl ⟨by rfl, ?_⟩) ?_ ?_
      rotate_left
      · intro w'
        go_simp
        with_reducible rfl
      rotate_left
      · simp only [Act.put, List.setIfInBounds_toArray, List.set_cons_zero, List.set_cons_succ, i64_w, i32_w]
        rfl
      refine pure_ (i := 2) (N := some 27) (v := ?_) (a' := ?_) #[true, true, true, false, false, false, false, false, false, false, false, false, false, false, false, false, false, false, false, false] rfl rfl (by kernel_rfl) (fun _ _ _ h => h) (Or.inl ⟨by rfl, ?_⟩) ?_ ?_
      rotate_left
      · intro w'
        go_simp
        with_reducible rfl
      rotate_left
      · simp only [Act.put, List.setIfInBounds_toArray, List.set_cons_zero, List.set_cons_succ, i64_w, i32_w]
        rfl
      refine pure_ (i := 3) (N := some 28) (v := ?_) (a' := ?_) #[true, true, true, true, false, false, false, false, false, false, false, false, false, false, false, false, false, false, false, false] rfl rfl (by kernel_rfl) (fun _ _ _ h => h) (Or.inl ⟨by rfl, ?_⟩) ?_ ?_
      rotate_left
      · intro w'
        go_simp
        with_reducible rfl
      rotate_left
      · simp only [Act.put, List.setIfInBounds_toArray, List.set_cons_zero, List.set_cons_succ, i64_w, i32_w]
        rfl
      refine pure_ (i := 4) (N := some 29) (v := ?_) (a' := ?_) #[true, true, true, true, true, false, false, false, false, false, false, false, false, false, false, false, false, false, false, false] rfl rfl (by kernel_rfl) (fun _ _ _ h => h) (Or.inl ⟨by rfl, ?_⟩) ?_ ?_
      rotate_left
      · intro w'
        go_simp
        with_reducible rfl
      rotate_left
      · simp only [Act.put, List.setIfInBounds_toArray, List.set_cons_zero, List.set_cons_succ, i64_w, i32_w]
        rfl
      refine take_ (i := 5) (N := some 30) (v := (.int .i64 es[j].f0)) (a' := ?_) #[true, true, true, true, true, true, false, false, false, false, false, false, false, false, false, false, false, false, false, false] rfl rfl (by kernel_rfl) (fun _ _ _ h => h) (Or.inl ⟨by rfl, by rintro w' ⟨s0, s1⟩; exact run_load_one_op 3 (.tmp 29) rfl (ad.add (j * 3)) rfl _ _ (pw_cell_below (below_then HW.out HW.out.size s1) (hcell.out 0 _ rfl)) Try.underlying3 rfl⟩) hHeld ?_ ?_
      rotate_left
      · simp only [Act.put, List.setIfInBounds_toArray, List.set_cons_zero, List.set_cons_succ, i64_w, i32_w]
        rfl
      refine pure_ (i := 6) (N := some 31) (v := ?_) (a' := ?_) #[true, true, true, true, true, true, true, false, false, false, false, false, false, false, false, false, false, false, false, false] rfl rfl (by kernel_rfl) (fun _ _ _ h => h) (Or.inl ⟨by rfl, ?_⟩) ?_ ?_
      rotate_left
      · intro w'
        go_simp
        with_reducible rfl
      rotate_left
      · simp only [Act.put, List.setIfInBounds_toArray, List.set_cons_zero, List.set_cons_succ, i64_w, i32_w]
        rfl
      refine pure_ (i := 7) (N := some 32) (v := ?_) (a' := ?_) #[true, true, true, true, true, true, true, true, false, false, false, false, false, false, false, false, false, false, false, false] rfl rfl (by kernel_rfl) (fun _ _ _ h => h) (Or.inl ⟨by rfl, ?_⟩) ?_ ?_
      rotate_left
      · intro w'
        go_simp
        with_reducible rfl
      rotate_left
      · simp only [Act.put, List.setIfInBounds_toArray, List.set_cons_zero, List.set_cons_succ, i64_w, i32_w]
        rfl
      refine pure_ (i := 8) (N := some 33) (v := ?_) (a' := ?_) #[true, true, true, true, true, true, true, true, true, false, false, false, false, false, false, false, false, false, false, false] rfl rfl (by kernel_rfl) (fun _ _ _ h => h) (Or.inl ⟨by rfl, ?_⟩) ?_ ?_
      rotate_left
      · intro w'
        go_simp
        with_reducible rfl
      rotate_left
      · simp only [Act.put, List.setIfInBounds_toArray, List.set_cons_zero, List.set_cons_succ, i64_w, i32_w]
        rfl
      refine pure_ (i := 9) (N := some 34) (v := ?_) (a' := ?_) #[true, true, true, true, true, true, true, true, true, true, false, false, false, false, false, false, false, false, false, false] rfl rfl (by kernel_rfl) (fun _ _ _ h => h) (Or.inl ⟨by rfl, ?_⟩) ?_ ?_
      rotate_left
      · intro w'
        go_simp
        with_reducible rfl
      rotate_left
      · simp only [Act.put, List.setIfInBounds_toArray, List.set_cons_zero, List.set_cons_succ, i64_w, i32_w]
        rfl
      refine take_ (i := 10) (N := some 35) (v := (.slice Bo es[j].f2.length n)) (a' := ?_) #[true, true, true, true, true, true, true, true, true, true, true, false, false, false, false, false, false, false, false, false] rfl rfl (by kernel_rfl) (fun _ _ _ h => h) (Or.inl ⟨by rfl, by rintro w' ⟨s0, s1⟩; exact run_load_one_op 40 (.tmp 34) rfl ((ad.add (j * 3)).add 2) rfl _ _ (pw_cell_below (below_then HW.out HW.out.size s1) (hcell.out 2 _ rfl)) Try.underlying40 rfl⟩) hHeld ?_ ?_
      rotate_left
      · simp only [Act.put, List.setIfInBounds_toArray, List.set_cons_zero, List.set_cons_succ, i64_w, i32_w]
        rfl
      refine pure_ (i := 11) (N := some 36) (v := ?_) (a' := ?_) #[true, true, true, true, true, true, true, true, true, true, true, true, false, false, false, false, false, false, false, false] rfl rfl (by kernel_rfl) (fun _ _ _ h => h) (Or.inl ⟨by rfl, ?_⟩) ?_ ?_
      rotate_left
      · intro w'
        go_simp
        with_reducible rfl
      rotate_left
      · simp only [Act.put, List.setIfInBounds_toArray, List.set_cons_zero, List.set_cons_succ, i64_w, i32_w]
        rfl
      refine pure_ (i := 12) (N := some 37) (v := ?_) (a' := ?_) #[true, true, true, true, true, true, true, true, true, true, true, true, true, false, false, false, false, false, false, false] rfl rfl (by kernel_rfl) (fun _ _ _ h => h) (Or.inl ⟨by rfl, ?_⟩) ?_ ?_
      rotate_left
      · intro w'
        go_simp
        with_reducible rfl
      rotate_left
      · simp only [Act.put, List.setIfInBounds_toArray, List.set_cons_zero, List.set_cons_succ, i64_w, i32_w]
        rfl
      refine pure_ (i := 13) (N := some 38) (v := ?_) (a' := ?_) #[true, true, true, true, true, true, true, true, true, true, true, true, true, true, false, false, false, false, false, false] rfl rfl (by kernel_rfl) (fun _ _ _ h => h) (Or.inl ⟨by rfl, ?_⟩) ?_ ?_
      rotate_left
      · intro w'
        go_simp
        with_reducible rfl
      rotate_left
      · simp only [Act.put, List.setIfInBounds_toArray, List.set_cons_zero, List.set_cons_succ, i64_w, i32_w]
        rfl
      refine pure_ (i := 14) (N := some 39) (v := ?_) (a' := ?_) #[true, true, true, true, true, true, true, true, true, true, true, true, true, true, true, false, false, false, false, false] rfl rfl (by kernel_rfl) (fun _ _ _ h => h) (Or.inl ⟨by rfl, ?_⟩) ?_ ?_
      rotate_left
      · intro w'
        go_simp
        with_reducible rfl
      rotate_left
      · simp only [Act.put, List.setIfInBounds_toArray, List.set_cons_zero, List.set_cons_succ, i64_w, i32_w]
        rfl
      refine take_ (i := 15) (N := some 40) (v := (.slice Ao es[j].f1.length o)) (a' := ?_) #[true, true, true, true, true, true, true, true, true, true, true, true, true, true, true, true, false, false, false, false] rfl rfl (by kernel_rfl) (fun _ _ _ h => h) (Or.inl ⟨by rfl, by rintro w' ⟨s0, s1⟩; exact run_load_one_op 40 (.tmp 39) rfl ((ad.add (j * 3)).add 1) rfl _ _ (pw_cell_below (below_then HW.out HW.out.size s1) (hcell.out 1 _ rfl)) Try.underlying40 rfl⟩) hHeld ?_ ?_
      rotate_left
      · simp only [Act.put, List.setIfInBounds_toArray, List.set_cons_zero, List.set_cons_succ, i64_w, i32_w]
        rfl
      refine pure_ (i := 16) (N := some 41) (v := ?_) (a' := ?_) #[true, true, true, true, true, true, true, true, true, true, true, true, true, true, true, true, true, false, false, false] rfl rfl (by kernel_rfl) (fun _ _ _ h => h) (Or.inl ⟨by rfl, ?_⟩) ?_ ?_
      rotate_left
      · intro w'
        go_simp
        with_reducible rfl
      rotate_left
      · simp only [Act.put, List.setIfInBounds_toArray, List.set_cons_zero, List.set_cons_succ, i64_w, i32_w]
        rfl
      refine one_ (i := 17) (N := some 42) #[true, true, true, true, true, true, true, true, true, true, true, true, true, true, true, true, true, true, false, false] rfl rfl (by kernel_rfl) (by decide) (fun K hK => ?_)
      refine value_ (w1 := ?_) (v := ?_) (by rfl) rfl ?_ ?_
      rotate_left 2
      · go_simp
        constructor
        · rfl
        · rfl
      refine hK.out _ _ ⟨own_alloc hHeld.1 _, hHeld.2.alloc hHeld.2.size _⟩ (fun hHeld => ?_)
      clear hK K
      refine norm_ (a' := ?_) ?_ ?_
      rotate_left
      · show Act.put _ (some 42) _ = _
        simp only [Act.put, List.setIfInBounds_toArray, List.set_cons_zero, List.set_cons_succ, i64_w, i32_w]
        rfl
      refine last_ (i := 18) (N := some 43) #[true, true, true, true, true, true, true, true, true, true, true, true, true, true, true, true, true, true, true, false] rfl rfl (by kernel_rfl) (by decide) (fun K hK => ?_)
      refine step_append_cells (W := wr.drew) V.heap.size rfl (.tmp 25) (.tmp 42) 37 42 (.agg #[.int .i64 0, .slice none 0 0, .slice none 0 0]) 3 56 rfl Try.underlying37 (by kernel_rfl) (by rfl) (by decide) (by decide) u7 (es.length - (j + 1)) news [Value.int .i64 es[j].f0, Value.slice Bo es[j].f2.length n, Value.slice Ao es[j].f1.length o] rfl rfl rfl (by simp [Value.oneCell']) HOr.out HWr.out.drew HWr.out.size (by omega) ?_
      intro v1 W1 ho hb hg' hat
      have HO1 := Aside0.mk ho
      have HW1 := Aside0.mk hb
      clear ho hb hg' hat HOr HWr hHeld
      refine hK.out _ _ ?_
      clear hK K
      refine norm_ (a' := ?_) ?_ ?_
      rotate_left
      · show Act.put _ (some 43) _ = _
        simp only [Act.put, List.setIfInBounds_toArray, List.set_cons_zero, List.set_cons_succ, i64_w, i32_w]
        rfl
      refine pure_ (i := 19) (N := some 7) (v := ?_) (a' := ?_) #[true, true, true, true, true, true, true, true, true, true, true, true, true, true, true, true, true, true, true, true] rfl rfl (by kernel_rfl) (fun _ _ _ h => h) (Or.inl ⟨by rfl, ?_⟩) ?_ ?_
      rotate_left
      · intro w'
        go_simp
        with_reducible rfl
      rotate_left
      · simp only [Act.put, List.setIfInBounds_toArray, List.set_cons_zero, List.set_cons_succ, i64_w, i32_w]
        rfl
      refine done_ (by kernel_rfl) ?_
      have HQ1 := Aside0.mk (HQr.out.snoc hflip.out rfl)
      rw [backE_step es j (by omega)] at HQ1
      rw [show es.length - (j + 1) + 1 = es.length - j by omega] at HO1
      go_wp2
      go_roundw
      case measure => simp [intOf] <;> omega
      case rel => exact ⟨j, _, by omega, by go_num, HO1, HQ1, HW1⟩

theorem good_edits (es : List S42) (h : ∀ x ∈ es, (Lit.int .i64 x.f0).wf = true ∧ (x.f1.length * Try.prog.bytesOf 5 ≤ reachBytes ∧ ∀ y ∈ x.f1, (Lit.int .u8 y).wf = true) ∧ (x.f2.length * Try.prog.bytesOf 5 ≤ reachBytes ∧ ∀ y ∈ x.f2, (Lit.int .u8 y).wf = true)) : ∀ e ∈ es, goodE e := by
  have hb : Try.prog.bytesOf 5 = 1 := by kernel_rfl
  intro e he
  obtain ⟨_, ⟨h1, _⟩, ⟨h2, _⟩⟩ := h e he
  rw [hb, Nat.mul_one] at h1 h2
  exact ⟨h1, h2⟩
/-- The law, at any marks, list and place. -/
theorem back_calls (l : List Int) (es : List S42) (A : Option Addr) (c : Nat) (a : Int) (w : World) (hl : l.length = 27) (hr : k42.C w A es.length es) (hd : ∀ e ∈ es, goodE e) :
    Calls Try.prog 9 #[mv l, .slice A es.length c, .int .i64 a] w fun e w' => e = .returned (.bool true) ∧ Below w.heap.size w w' := by
  by_cases h1 : greatB es = true
  · exact back_great l es A c a w hr hd h1
  · replace h1 := eq_false_of_ne_true h1
    by_cases ha : a < 0
    · exact back_neg l _ es A c a w hl hr hd h1 rfl (by rw [moveR_len, hl]) ha
    · exact back_pos l _ es A c a w hl hr hd h1 rfl (by rw [moveR_len, hl]) ha
theorem back_row (ls : List Int) (n : Int) (A1 : Option Addr) (c1 : Nat) (e1 : List S42) (a : Int) (w : World) (hr1 : k42.C w A1 e1.length e1) (hc1 : e1.length ≤ c1)
    (g0 : (ls.length = 26 ∧ ∀ x ∈ ls, (Lit.int .i64 x).wf = true) ∧ (Lit.int .i64 n).wf = true)
    (g1 : e1.length * Try.prog.bytesOf 42 ≤ reachBytes ∧ ∀ x ∈ e1, (Lit.int .i64 x.f0).wf = true ∧ (x.f1.length * Try.prog.bytesOf 5 ≤ reachBytes ∧ ∀ y ∈ x.f1, (Lit.int .u8 y).wf = true) ∧ (x.f2.length * Try.prog.bytesOf 5 ≤ reachBytes ∧ ∀ y ∈ x.f2, (Lit.int .u8 y).wf = true)) (g2 : (Lit.int .i64 a).wf = true) :
    Calls Try.prog 9 #[.agg (nums .i64 ls ++ [Value.int .i64 n]).toArray, .slice A1 e1.length c1, .int .i64 a] w fun e w' => e = .returned (.bool true) ∧ Below w.heap.size w w' := by
  have h := back_calls (ls ++ [n]) e1 A1 c1 a w (by simp [g0.1.1]) hr1 (good_edits e1 g1.2)
  have e : mv (ls ++ [n]) = .agg (nums .i64 ls ++ [Value.int .i64 n]).toArray := by
    show Value.agg (nums .i64 (ls ++ [n])).toArray = _
    simp [nums]
  rw [e] at h
  exact h

end Go.Proofs.Ytjmpmcgdfgfmfaa.Hand
