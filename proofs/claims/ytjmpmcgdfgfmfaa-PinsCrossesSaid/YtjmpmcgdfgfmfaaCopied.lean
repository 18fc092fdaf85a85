/- The verifier's copied: a copy of the edits. No condition. -/
import Derived.Test.YtjmpmcgdfgfmfaaLent
namespace Go.Proofs.Ytjmpmcgdfgfmfaa.Hand
open Go.RowKit Go.Proofs.Ytjmpmcgdfgfmfaa.Aggs Go.Proofs.YtjmpmcgdfgfmfaaW.PrintWords Go.Proofs.YtjmpmcgdfgfmfaaW.PrintLast Go.Proofs.YtjmpmcgdfgfmfaaW.PrintMore
set_option linter.unusedVariables false
set_option linter.unusedSimpArgs false
theorem edit_read {w : World} {A : Option Addr} {es : List S42} (h : k42.C w A es.length es) (i : Nat) (hi : i < es.length) :
    ∃ ad Ao o Bo n, A = some ad ∧ (Kd.int .u8).C w Ao es[i].f1.length es[i].f1 ∧ (Kd.int .u8).C w Bo es[i].f2.length es[i].f2 ∧ ∀ j v, [Value.int .i64 es[i].f0, Value.slice Ao es[i].f1.length o, Value.slice Bo es[i].f2.length n][j]? = some v → w.cell? ((ad.add (i * 3)).add j) = some v := by
  obtain ⟨ad, c, rfl, hl, hk, hc⟩ := Kd.C_get h es[i] (i : Int) (by omega) (by omega)
  have e1 : es.getD (i : Int).toNat es[i] = es[i] := by simp [List.getD_eq_getElem?_getD, List.getElem?_eq_getElem hi]
  rw [e1] at hk
  obtain ⟨Ao, o, Bo, n, rfl, g1, g2, g3, g4⟩ := k42_open hk
  refine ⟨ad, Ao, o, Bo, n, rfl, g3, g4, fun j v hj => ?_⟩
  have := hc j v hj
  rw [Addr.add_add]
  exact this
/-- One edit of the copy, beside block g. -/
def lentK (W : World) (g : Nat) (e : S42) (cs : List Value) : Prop := ∃ g1 c1 g2 c2, cs = [.int .i64 e.f0, .slice (some ⟨g1, 0, none⟩) e.f1.length c1, .slice (some ⟨g2, 0, none⟩) e.f2.length c2] ∧ lentB W g1 c1 e.f1 ∧ lentB W g2 c2 e.f2 ∧ g ≠ g1 ∧ g ≠ g2
/-- The copy's block: the first i edits, zeros behind. -/
def copyB (W : World) (g cap i : Nat) (es : List S42) : Prop := ∃ cur : Array Value, W.heap[g]? = some (.cells cur 42 (0, 0)) ∧ cur.size = cap * 3 ∧ (∀ (k : Nat) (e : S42), es[k]? = some e → k < i → ∃ cs, lentK W g e cs ∧ ∀ (j : Nat) (v : Value), cs[j]? = some v → cur[k * 3 + j]? = some v) ∧
  (∀ k, i ≤ k → k < cap → ∀ (j : Nat) (v : Value), [Value.int .i64 0, Value.slice none 0 0, Value.slice none 0 0][j]? = some v → cur[k * 3 + j]? = some v)
theorem lentK_below {W W' : World} {g : Nat} {e : S42} {cs : List Value} (h : lentK W g e cs) (hb : Below W.heap.size W W') : lentK W' g e cs := by
  obtain ⟨g1, c1, g2, c2, rfl, h1, h2, h3⟩ := h
  exact ⟨g1, c1, g2, c2, rfl, lentB_below h1 hb, lentB_below h2 hb, h3⟩
theorem copyB_below {W W' : World} {g cap i : Nat} {es : List S42} (h : copyB W g cap i es) (hb : Below W.heap.size W W') : copyB W' g cap i es := by
  obtain ⟨cur, h1, h2, h3, h4⟩ := h
  refine ⟨cur, blk_below h1 hb, h2, fun k e he hk => ?_, h4⟩
  obtain ⟨cs, h5, h6⟩ := h3 k e he hk
  exact ⟨cs, lentK_below h5 hb, h6⟩
theorem lentB_put {W : World} {g g1 cap o : Nat} {xs : List Int} {vs : List Value} (h : lentB W g1 cap xs) (hne : g ≠ g1) : lentB (putCells W g o vs) g1 cap xs := by
  obtain ⟨cs, h1, h2⟩ := h
  exact ⟨cs, (putCells_other vs W g o g1 (Ne.symm hne)).trans h1, h2⟩
theorem lentK_put {W : World} {g o : Nat} {e : S42} {cs vs : List Value} (h : lentK W g e cs) : lentK (putCells W g o vs) g e cs := by
  obtain ⟨g1, c1, g2, c2, rfl, h1, h2, h3, h4⟩ := h
  exact ⟨g1, c1, g2, c2, rfl, lentB_put h1 h3, lentB_put h2 h4, h3, h4⟩
theorem lentK_len {W : World} {g : Nat} {e : S42} {cs : List Value} (h : lentK W g e cs) : cs.length = 3 := by
  obtain ⟨g1, c1, g2, c2, rfl, _⟩ := h
  rfl
theorem copyB_put {W : World} {g cap i : Nat} {es : List S42} {e : S42} {cs : List Value} (h : copyB W g cap i es) (he : es[i]? = some e) (hk : lentK W g e cs) (hi : i < cap) : copyB (putCells W g (i * 3) cs) g cap (i + 1) es := by
  obtain ⟨cur, h1, h2, h3, h4⟩ := h
  have hl := lentK_len hk
  refine ⟨_, putCells_block cs W g (i * 3) cur 42 h1, by rw [splice_size, h2], fun k e' he' hlt => ?_, fun k hle hlt j v hj => ?_⟩
  · by_cases hki : k = i
    · subst hki
      rw [he] at he'
      cases he'
      refine ⟨cs, lentK_put hk, fun j v hj => ?_⟩
      have hjl := (List.getElem?_eq_some_iff.1 hj).1
      rw [splice_get, if_pos ⟨by omega, by omega, by rw [h2]; omega⟩, Nat.add_sub_cancel_left]
      exact hj
    · obtain ⟨cs', h5, h6⟩ := h3 k e' he' (by omega)
      refine ⟨cs', lentK_put h5, fun j v hj => ?_⟩
      have hjl := (List.getElem?_eq_some_iff.1 hj).1
      rw [lentK_len h5] at hjl
      rw [splice_get, if_neg (by omega)]
      exact h6 j v hj
  · have hjl := (List.getElem?_eq_some_iff.1 hj).1
    have hjl3 : j < 3 := hjl
    rw [splice_get, if_neg (by omega)]
    exact h4 k (by omega) hlt j v hj
theorem made_get (k j m : Nat) (v : Value) (hk : k < m) (hj : [Value.int .i64 0, Value.slice none 0 0, Value.slice none 0 0][j]? = some v) : (madeCells #[Value.int .i64 0, Value.slice none 0 0, Value.slice none 0 0] (m * 3))[k * 3 + j]? = some v := by
  have hjl : j < 3 := (List.getElem?_eq_some_iff.1 hj).1
  have hlt : k * 3 + j < m * 3 := by omega
  unfold madeCells
  rw [Array.getElem?_map, Array.getElem?_range, if_pos hlt]
  have e : (k * 3 + j) % 3 = j := by omega
  simp only [Option.map_some, List.size_toArray, List.length_cons, List.length_nil, Nat.zero_add, e]
  match j, hj with
  | 0, hj => cases hj; rfl
  | 1, hj => cases hj; rfl
  | 2, hj => cases hj; rfl
theorem copyB_made (W : World) (n : Nat) (es : List S42) : copyB (W.alloc (Obj.cells (madeCells #[Value.int .i64 0, Value.slice none 0 0, Value.slice none 0 0] (n * 3)) 42)) W.heap.size n 0 es :=
  ⟨_, blk_new W _, size_madeCells _ _, fun k e _ h => absurd h (by omega), fun k _ hk j v hj => made_get k j n v hk hj⟩
theorem copyB_reads {W : World} {g cap : Nat} {es : List S42} (h : copyB W g cap es.length es) (hn : es.length ≤ 1048576) (hd : ∀ e ∈ es, goodE e) : k42.C W (some ⟨g, 0, none⟩) es.length es := by
  obtain ⟨cur, h1, h2, h3, h4⟩ := h
  refine ⟨rfl, by omega, fun _ => ⟨_, rfl, fun j p hj => ?_⟩⟩
  obtain ⟨cs, ⟨g1, c1, g2, c2, rfl, h5, h6, _⟩, h7⟩ := h3 j p hj (List.getElem?_eq_some_iff.1 hj).1
  have hg := hd p (List.mem_of_getElem? hj)
  obtain ⟨_, _, _, hc1, _⟩ := id h5
  obtain ⟨_, _, _, hc2, _⟩ := id h6
  refine ⟨[.int .i64 p.f0, .slice (some ⟨g1, 0, none⟩) p.f1.length c1, .slice (some ⟨g2, 0, none⟩) p.f2.length c2], rfl, k42_mk (by omega) (by omega) (lentB_reads h5 (by have := hg.1; omega)) (lentB_reads h6 (by have := hg.2; omega)), fun i u hu => ?_⟩
  rw [add_plain', Nat.zero_add, blk_cell h1]
  exact h7 i u hu

theorem copyB_lt {W : World} {g cap i : Nat} {es : List S42} (h : copyB W g cap i es) : g < W.heap.size := by
  obtain ⟨cur, h1, _⟩ := h
  exact blk_lt h1
set_option maxHeartbeats 1000000 in
set_option maxRecDepth 100000 in
theorem copied_calls (es : List S42) (A : Option Addr) (c : Nat) (w : World) (hr : k42.C w A es.length es) (hd : ∀ e ∈ es, goodE e) (hn : es.length ≤ 1048576) :
    Calls Try.prog 18 #[.slice A es.length c] w fun e w' => ∃ g, e = .returned (.slice (some ⟨g, 0, none⟩) es.length (es.length + 1)) ∧ w.heap.size ≤ g ∧ copyB w' g (es.length + 1) es.length es ∧ Below w.heap.size w w' := by
  have hmk : ∀ W, (Instr.makeSlice 37 (.int .i64 0) (.int .i64 ((es.length : Int) + 1))).run Try.prog W = .ok (.slice (some ⟨W.heap.size, 0, none⟩) 0 (es.length + 1)) (W.alloc (Obj.cells (madeCells #[Value.int .i64 0, Value.slice none 0 0, Value.slice none 0 0] ((es.length + 1) * 3)) 42)) := fun W => by
    have hi : (Try.prog.info? 42).map (fun i => (i.zero, i.size, i.bytes)) = some (some (.agg #[.int .i64 0, .slice none 0 0, .slice none 0 0]), 3, 56) := by kernel_rfl
    obtain ⟨i0, hi0, hz⟩ := Option.map_eq_some_iff.1 hi
    simp only [Prod.mk.injEq] at hz
    obtain ⟨z0, z1, z2⟩ := hz
    have h := run_make (P := Try.prog) W 37 42 i0 _ Try.underlying37 hi0 z0 .i64 .i64 0 ((es.length : Int) + 1) (by omega) (by omega) (by rw [z2]; omega) (by omega)
    rw [h, z1]
    rfl
  have HC := Aside0.mk hr
  have HD := Aside0.mk hd
  clear hr hd
  go_enter Try.func18, Try.ntmps18
  go_upto_region 2 with (fail)
  have hb1 := copyB_made w (es.length + 1) es
  have hb2 := (Below.refl w.heap.size w).alloc (Nat.le_refl _) (Obj.cells (madeCells #[Value.int .i64 0, Value.slice none 0 0, Value.slice none 0 0] ((es.length + 1) * 3)) 42)
  generalize (w.alloc (Obj.cells (madeCells #[Value.int .i64 0, Value.slice none 0 0, Value.slice none 0 0] ((es.length + 1) * 3)) 42)) = V at hb1 hb2 ⊢
  have HB := Aside0.mk hb1
  have HW := Aside0.mk hb2
  clear hb1 hb2 hmk
  go_wp2
  go_loopw [3, 12] (fun v3 v12 wr => ∃ i : Nat, i ≤ es.length ∧ v3 = .slice (some ⟨w.heap.size, 0, none⟩) i (es.length + 1) ∧ v12 = .int .i64 i ∧ Aside0 (copyB wr w.heap.size (es.length + 1) i es) ∧ Aside0 (Below w.heap.size w wr)) (fun _ v12 _ => es.length - (intOf v12).toNat)
  case atStart => exact ⟨0, by omega, rfl, rfl, HB, HW⟩
  case round =>
    obtain ⟨i, hi, rfl, rfl, HBr, HWr⟩ := hrel
    clear HB HW
    by_cases hlt : i < es.length
    · have hlt' : ((i : Int) < es.length) = True := eq_true (by omega)
      obtain ⟨ad, Ao, o, Bo, n, rfl, hcA, hcB, hcell⟩ := edit_read HC.out i hlt
      have HCAo := Aside0.mk hcA
      have HCBo := Aside0.mk hcB
      have HGAo := Aside0.mk (HD.out es[i] (List.getElem_mem hlt)).1
      have HGBo := Aside0.mk (HD.out es[i] (List.getElem_mem hlt)).2
      replace hcell : ∀ j v, [Value.int .i64 es[i].f0, Value.slice Ao es[i].f1.length o, Value.slice Bo es[i].f2.length n][j]? = some v → wr.cell? ((ad.add (i * 3)).add j) = some v := fun j v hj => pw_cell_below HWr.out (hcell j v hj)
      clear hcA hcB
      go_upto_region 5 with (refine wpList_load_agg rfl 42 (.tmp 14) rfl (ad.add (i * 3)) ?a1 [Value.int .i64 es[i].f0, Value.slice Ao es[i].f1.length o, Value.slice Bo es[i].f2.length n] _ ?a2 Try.underlying42 rfl ?a3 ?a4)
      case a1 => rfl
      case a2 => exact hcell
      case a3 => kernel_rfl
      have k1 := copyB_below HBr.out ((Below.refl wr.heap.size wr).alloc (Nat.le_refl _) (Obj.cells #[Value.int .i64 es[i].f0, Value.slice Ao es[i].f1.length o, Value.slice Bo es[i].f2.length n] 42))
      have k3 := blk_new wr (Obj.cells #[Value.int .i64 es[i].f0, Value.slice Ao es[i].f1.length o, Value.slice Bo es[i].f2.length n] 42)
      have k4 := HWr.out.alloc HWr.out.size (Obj.cells #[Value.int .i64 es[i].f0, Value.slice Ao es[i].f1.length o, Value.slice Bo es[i].f2.length n] 42)
      generalize (wr.alloc (Obj.cells #[Value.int .i64 es[i].f0, Value.slice Ao es[i].f1.length o, Value.slice Bo es[i].f2.length n] 42)) = V at k1 k3 k4 ⊢
      have K1 := Aside0.mk k1
      have K3 := Aside0.mk k3
      have K4 := Aside0.mk k4
      clear k1 k3 k4 HBr HWr hcell
      refine start_ (n := 13) (S := fun w' => w'.heap[wr.heap.size]? = some (Obj.cells #[Value.int .i64 es[i].f0, Value.slice Ao es[i].f1.length o, Value.slice Bo es[i].f2.length n] 42) ∧ copyB w' w.heap.size (es.length + 1) i es ∧ Below w.heap.size w w') (ds := [11]) #[false, false, false, false, false, false, false, false, false, false, false, false, false] (by kernel_rfl) rfl rfl ⟨blk_drew K3.out, copyB_below K1.out ((Below.refl _ _).drew), K4.out.drew⟩ (fun hHeld => ?_)
      refine pure_ (i := 0) (N := some 16) (v := ?_) (a' := ?_) #[true, false, false, false, false, false, false, false, false, false, false, false, false] rfl rfl (by kernel_rfl) (fun _ _ _ h => h) (Or.inl ⟨by rfl, ?_⟩) ?_ ?_
      rotate_left
      · intro w'
        go_simp
        with_reducible rfl
      rotate_left
      · simp only [Act.put, List.setIfInBounds_toArray, List.set_cons_zero, List.set_cons_succ, i64_w, i32_w]
        rfl
      refine pure_ (i := 1) (N := some 17) (v := ?_) (a' := ?_) #[true, true, false, false, false, false, false, false, false, false, false, false, false] rfl rfl (by kernel_rfl) (fun _ _ _ h => h) (Or.inl ⟨by rfl, ?_⟩) ?_ ?_
      rotate_left
      · intro w'
        go_simp
        with_reducible rfl
      rotate_left
      · simp only [Act.put, List.setIfInBounds_toArray, List.set_cons_zero, List.set_cons_succ, i64_w, i32_w]
        rfl
      refine take_ (i := 2) (N := some 18) (v := (.int .i64 es[i].f0)) (a' := ?_) #[true, true, true, false, false, false, false, false, false, false, false, false, false] rfl rfl (by kernel_rfl) (fun _ _ _ h => h) (Or.inl ⟨by rfl, by rintro w' ⟨s0, s1, s2⟩; exact run_load_one_op 3 (.tmp 17) rfl ⟨wr.heap.size, 0, none⟩ rfl _ _ (by rw [blk_cell s0]; rfl) Try.underlying3 rfl⟩) hHeld ?_ ?_
      rotate_left
      · simp only [Act.put, List.setIfInBounds_toArray, List.set_cons_zero, List.set_cons_succ, i64_w, i32_w]
        rfl
      refine pure_ (i := 3) (N := some 19) (v := ?_) (a' := ?_) #[true, true, true, true, false, false, false, false, false, false, false, false, false] rfl rfl (by kernel_rfl) (fun _ _ _ h => h) (Or.inl ⟨by rfl, ?_⟩) ?_ ?_
      rotate_left
      · intro w'
        go_simp
        with_reducible rfl
      rotate_left
      · simp only [Act.put, List.setIfInBounds_toArray, List.set_cons_zero, List.set_cons_succ, i64_w, i32_w]
        rfl
      refine take_ (i := 4) (N := some 20) (v := (.slice Ao es[i].f1.length o)) (a' := ?_) #[true, true, true, true, true, false, false, false, false, false, false, false, false] rfl rfl (by kernel_rfl) (fun _ _ _ h => h) (Or.inl ⟨by rfl, by rintro w' ⟨s0, s1, s2⟩; exact run_load_one_op 40 (.tmp 19) rfl ⟨wr.heap.size, 1, none⟩ rfl _ _ (by rw [blk_cell s0]; rfl) Try.underlying40 rfl⟩) hHeld ?_ ?_
      rotate_left
      · simp only [Act.put, List.setIfInBounds_toArray, List.set_cons_zero, List.set_cons_succ, i64_w, i32_w]
        rfl
      refine pure_ (i := 6) (N := some 22) (v := ?_) (a' := ?_) #[true, true, true, true, true, false, true, false, false, false, false, false, false] rfl rfl (by kernel_rfl) (fun _ _ _ h => h) (Or.inl ⟨by rfl, ?_⟩) ?_ ?_
      rotate_left
      · intro w'
        go_simp
        with_reducible rfl
      rotate_left
      · simp only [Act.put, List.setIfInBounds_toArray, List.set_cons_zero, List.set_cons_succ, i64_w, i32_w]
        rfl
      refine take_ (i := 7) (N := some 23) (v := (.slice Bo es[i].f2.length n)) (a' := ?_) #[true, true, true, true, true, false, true, true, false, false, false, false, false] rfl rfl (by kernel_rfl) (fun _ _ _ h => h) (Or.inl ⟨by rfl, by rintro w' ⟨s0, s1, s2⟩; exact run_load_one_op 40 (.tmp 22) rfl ⟨wr.heap.size, 2, none⟩ rfl _ _ (by rw [blk_cell s0]; rfl) Try.underlying40 rfl⟩) hHeld ?_ ?_
      rotate_left
      · simp only [Act.put, List.setIfInBounds_toArray, List.set_cons_zero, List.set_cons_succ, i64_w, i32_w]
        rfl
      refine one_ (i := 5) (N := some 21) #[true, true, true, true, true, true, true, true, false, false, false, false, false] rfl rfl (by kernel_rfl) (by decide) (fun K hK => ?_)
      refine goes_ Try.func37 (by kernel_rfl) rfl #[.slice Ao es[i].f1.length o] (by rfl) rfl rfl (by simp [Act.eval]) ?_
      refine (lent_calls es[i].f1 Ao o _ (Kd.C_below HCAo.out hHeld.2.2) HGAo.out).mono ?_
      rintro e x1 ⟨g1, p1, rfl, hgg1, hlg1, hB1⟩
      have hltg1 := copyB_lt hHeld.2.1
      have hng1 : w.heap.size ≠ g1 := by omega
      refine ⟨_, rfl, ?_⟩
      refine hK.out _ _ ⟨blk_below hHeld.1 hB1, copyB_below hHeld.2.1 hB1, below_step hHeld.2.2 hB1⟩ (fun hHeld => ?_)
      clear hK K
      refine norm_ (a' := ?_) ?_ ?_
      rotate_left
      · show Act.put _ (some 21) _ = _
        simp only [Act.put, List.setIfInBounds_toArray, List.set_cons_zero, List.set_cons_succ, i64_w, i32_w]
        rfl
      refine one_ (i := 8) (N := some 24) #[true, true, true, true, true, true, true, true, true, false, false, false, false] rfl rfl (by kernel_rfl) (by decide) (fun K hK => ?_)
      refine goes_ Try.func37 (by kernel_rfl) rfl #[.slice Bo es[i].f2.length n] (by rfl) rfl rfl (by simp [Act.eval]) ?_
      refine (lent_calls es[i].f2 Bo n _ (Kd.C_below HCBo.out hHeld.2.2) HGBo.out).mono ?_
      rintro e x2 ⟨g2, p2, rfl, hgg2, hlg2, hB1⟩
      have hltg2 := copyB_lt hHeld.2.1
      have hng2 : w.heap.size ≠ g2 := by omega
      refine ⟨_, rfl, ?_⟩
      refine hK.out _ _ ⟨blk_below hHeld.1 hB1, copyB_below hHeld.2.1 hB1, below_step hHeld.2.2 hB1⟩ (fun hHeld => ?_)
      clear hK K
      refine norm_ (a' := ?_) ?_ ?_
      rotate_left
      · show Act.put _ (some 24) _ = _
        simp only [Act.put, List.setIfInBounds_toArray, List.set_cons_zero, List.set_cons_succ, i64_w, i32_w]
        rfl
      refine pure_ (i := 9) (N := some 25) (v := ?_) (a' := ?_) #[true, true, true, true, true, true, true, true, true, true, false, false, false] rfl rfl (by kernel_rfl) (fun _ _ _ h => h) (Or.inl ⟨by rfl, ?_⟩) ?_ ?_
      rotate_left
      · intro w'
        go_simp
        with_reducible rfl
      rotate_left
      · simp only [Act.put, List.setIfInBounds_toArray, List.set_cons_zero, List.set_cons_succ, i64_w, i32_w]
        rfl
      refine one_ (i := 10) (N := some 26) #[true, true, true, true, true, true, true, true, true, true, true, false, false] rfl rfl (by kernel_rfl) (by decide) (fun K hK => ?_)
      refine value_ (w1 := ?_) (v := ?_) (by rfl) rfl ?_ ?_
      rotate_left 2
      · go_simp
        constructor
        · rfl
        · rfl
      refine hK.out _ _ ⟨blk_alloc hHeld.1 _, copyB_below hHeld.2.1 ((Below.refl _ _).alloc (Nat.le_refl _) _), hHeld.2.2.alloc hHeld.2.2.size _⟩ (fun hHeld => ?_)
      clear hK K
      refine norm_ (a' := ?_) ?_ ?_
      rotate_left
      · show Act.put _ (some 26) _ = _
        simp only [Act.put, List.setIfInBounds_toArray, List.set_cons_zero, List.set_cons_succ, i64_w, i32_w]
        rfl
      refine last_ (i := 11) (N := some 27) #[true, true, true, true, true, true, true, true, true, true, true, true, false] rfl rfl (by kernel_rfl) (by decide) (fun K hK => ?_)
      have hcb := hHeld.2.1
      obtain ⟨cur, q1, q2, q3, q4⟩ := id hcb
      refine value_ (w1 := putCells (x2.alloc (Obj.cells #[Value.int .i64 es[i].f0, Value.slice (some ⟨g1, 0, none⟩) es[i].f1.length p1, Value.slice (some ⟨g2, 0, none⟩) es[i].f2.length p2] 42)) w.heap.size (i * 3) [Value.int .i64 es[i].f0, Value.slice (some ⟨g1, 0, none⟩) es[i].f1.length p1, Value.slice (some ⟨g2, 0, none⟩) es[i].f2.length p2]) (v := .slice (some ⟨w.heap.size, 0, none⟩) (i + 1) (es.length + 1)) (by rfl) rfl ?_ ?_
      · exact run_append_in_op _ (.tmp 16) (.tmp 26) 37 42 rfl w.heap.size i (es.length + 1) 1 1 3 Try.underlying37 (by kernel_rfl) ⟨x2.heap.size, 0, none⟩ [Value.int .i64 es[i].f0, Value.slice (some ⟨g1, 0, none⟩) es[i].f1.length p1, Value.slice (some ⟨g2, 0, none⟩) es[i].f2.length p2] rfl rfl (fun j v hj => by rw [add_plain', Nat.zero_add, blk_cell (blk_new x2 _)]; simpa using hj) rfl (by omega) cur 42 q1 (by rw [q2]; simp only [List.length_cons, List.length_nil]; omega) (by simp [Value.oneCell'])
      refine hK.out _ _ ?_
      clear hK K
      refine norm_ (a' := ?_) ?_ ?_
      rotate_left
      · show Act.put _ (some 27) _ = _
        simp only [Act.put, List.setIfInBounds_toArray, List.set_cons_zero, List.set_cons_succ, i64_w, i32_w]
        rfl
      refine pure_ (i := 12) (N := some 3) (v := ?_) (a' := ?_) #[true, true, true, true, true, true, true, true, true, true, true, true, true] rfl rfl (by kernel_rfl) (fun _ _ _ h => h) (Or.inl ⟨by rfl, ?_⟩) ?_ ?_
      rotate_left
      · intro w'
        go_simp
        with_reducible rfl
      rotate_left
      · simp only [Act.put, List.setIfInBounds_toArray, List.set_cons_zero, List.set_cons_succ, i64_w, i32_w]
        rfl
      refine done_ (by kernel_rfl) ?_
      have hl1 := lentB_below hlg1 hB1
      have hal := (Below.refl x2.heap.size x2).alloc (Nat.le_refl _) (Obj.cells #[Value.int .i64 es[i].f0, Value.slice (some ⟨g1, 0, none⟩) es[i].f1.length p1, Value.slice (some ⟨g2, 0, none⟩) es[i].f2.length p2] 42)
      have hk : lentK (x2.alloc (Obj.cells #[Value.int .i64 es[i].f0, Value.slice (some ⟨g1, 0, none⟩) es[i].f1.length p1, Value.slice (some ⟨g2, 0, none⟩) es[i].f2.length p2] 42)) w.heap.size es[i] [Value.int .i64 es[i].f0, Value.slice (some ⟨g1, 0, none⟩) es[i].f1.length p1, Value.slice (some ⟨g2, 0, none⟩) es[i].f2.length p2] := ⟨g1, p1, g2, p2, rfl, lentB_below hl1 hal, lentB_below hlg2 hal, hng1, hng2⟩
      have HX1 := Aside0.mk (copyB_put hcb (List.getElem?_eq_getElem hlt) hk (by omega))
      have HX2 := Aside0.mk (putCells_below [Value.int .i64 es[i].f0, Value.slice (some ⟨g1, 0, none⟩) es[i].f1.length p1, Value.slice (some ⟨g2, 0, none⟩) es[i].f2.length p2] w _ w.heap.size w.heap.size (i * 3) (Nat.le_refl _) hHeld.2.2)
      clear hl1 hal hk hcb hHeld q1 q2 q3 q4 hlg1 hlg2 hB1
      generalize putCells (x2.alloc (Obj.cells #[Value.int .i64 es[i].f0, Value.slice (some ⟨g1, 0, none⟩) es[i].f1.length p1, Value.slice (some ⟨g2, 0, none⟩) es[i].f2.length p2] 42)) w.heap.size (i * 3) [Value.int .i64 es[i].f0, Value.slice (some ⟨g1, 0, none⟩) es[i].f1.length p1, Value.slice (some ⟨g2, 0, none⟩) es[i].f2.length p2] = V2 at HX1 HX2 ⊢
      go_wp2
      go_roundw
      case measure => simp [intOf] <;> omega
      case rel => exact ⟨i + 1, by omega, by go_num, by go_num, HX1, HX2⟩
    · have hge : ((i : Int) < es.length) = False := eq_false (by omega)
      obtain rfl : i = es.length := by omega
      clear hge
      go_wp2
      go_ret
      exact ⟨_, rfl, Nat.le_refl _, HBr.out, HWr.out⟩

end Go.Proofs.Ytjmpmcgdfgfmfaa.Hand
