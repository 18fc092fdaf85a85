/- word.look: the three lists. No condition but the sizes. -/
import Derived.Test.YtghoeadmimgfnaaLookW
namespace Go.Proofs.Ytghoeadmimgfnaa.Hand
open Go.RowKit Go.Proofs.Ytghoeadmimgfnaa.PWa Go.Proofs.Ytghoeadmimgfnaa.Aggs Go.Proofs.YtghoeadmimgfnaaW.PrintWords Go.Proofs.YtghoeadmimgfnaaW.PrintLast Go.Proofs.YtghoeadmimgfnaaW.PrintMore
set_option linter.unusedVariables false
set_option linter.unusedSimpArgs false
theorem alloc3_new (w : World) (a b c : Obj) : (((w.alloc a).alloc b).alloc c).heap[w.heap.size + 1 + 1]? = some c := by
  have := blk_new ((w.alloc a).alloc b) c
  simpa using this
theorem alloc4_new (w : World) (a b c d : Obj) : ((((w.alloc a).alloc b).alloc c).alloc d).heap[w.heap.size + 1 + 1 + 1]? = some d := by
  have := blk_new (((w.alloc a).alloc b).alloc c) d
  simpa using this
set_option maxHeartbeats 1000000 in
set_option maxRecDepth 100000 in
theorem look_calls (A : Option Addr) (c : Nat) (l : List Int) (big : Bool) (w : World) (hr : Kd.C (Kd.int .u8) w A l.length l) (hl : l.length ≤ 1048576) :
    Calls Try.prog 25 #[.slice A l.length c, .bool big] w fun e w' => ∃ A0 c0 A1 c1 A2 c2, e = .returned (.agg #[.slice A0 (lst (begK l big) (l.length + 1)).length c0, .slice A1 (lst (endK l big) (l.length + 1)).length c1, .slice A2 (lst (haltK l big) (l.length + 1)).length c2]) ∧ (lst (begK l big) (l.length + 1)).length ≤ c0 ∧ Kd.C (Kd.int .i64) w' A0 (lst (begK l big) (l.length + 1)).length (lst (begK l big) (l.length + 1)) ∧ (lst (endK l big) (l.length + 1)).length ≤ c1 ∧ Kd.C (Kd.int .i64) w' A1 (lst (endK l big) (l.length + 1)).length (lst (endK l big) (l.length + 1)) ∧ (lst (haltK l big) (l.length + 1)).length ≤ c2 ∧ Kd.C (Kd.int .i64) w' A2 (lst (haltK l big) (l.length + 1)).length (lst (haltK l big) (l.length + 1)) ∧ Below w.heap.size w w' := by
  have HR := Aside0.mk hr
  have HLn := Aside0.mk hl
  clear hr hl
  go_enter Try.func25, Try.ntmps25
  go_wp2
  have hLI : LI w (.slice A l.length c) (.bool big) ((((w.alloc (Obj.cells #[Value.slice A l.length c] 22)).alloc (Obj.cells #[Value.bool big] 4)).alloc (Obj.cells #[Value.slice none 0 0, Value.slice none 0 0, Value.slice none 0 0] 52)).alloc (Obj.cells #[Value.slice none 0 0, Value.slice none 0 0, Value.slice none 0 0] 52)) (Value.slice none 0 0) (Value.slice none 0 0) (Value.slice none 0 0) (Value.slice none 0 0) (Value.slice none 0 0) (Value.slice none 0 0) [] [] [] := by
    refine ⟨((((Below.refl _ _).alloc (Nat.le_refl _) _).alloc (by simp) _).alloc (by simp <;> omega) _).alloc (by simp <;> omega) _, by simp, ?_, ?_, ?_, ?_, Kd.R_nil _ _ _ _ _, Kd.R_nil _ _ _ _ _, Kd.R_nil _ _ _ _ _⟩
    · exact blk_alloc (blk_alloc (blk_alloc (blk_new w _) _) _) _
    · exact blk_alloc (blk_alloc (heap_alloc2_new w _ _) _) _
    · exact blk_alloc (alloc3_new w _ _ _) _
    · exact alloc4_new w _ _ _ _
  generalize ((((w.alloc (Obj.cells #[Value.slice A l.length c] 22)).alloc (Obj.cells #[Value.bool big] 4)).alloc (Obj.cells #[Value.slice none 0 0, Value.slice none 0 0, Value.slice none 0 0] 52)).alloc (Obj.cells #[Value.slice none 0 0, Value.slice none 0 0, Value.slice none 0 0] 52)) = W0 at hLI ⊢
  have HL0 := Aside0.mk hLI
  clear hLI
  go_loopw [7] (fun v7 W => ∃ (m : Nat) (v0 v1 v2 : Value), m ≤ l.length + 1 ∧ v7 = .int .i64 m ∧ Aside0 (LI w (.slice A l.length c) (.bool big) W v0 v1 v2 v0 v1 v2 (lst (begK l big) m) (lst (endK l big) m) (lst (haltK l big) m))) (fun v7 _ => l.length + 1 - (intOf v7).toNat)
  case atStart => exact ⟨0, _, _, _, by omega, rfl, HL0⟩
  case round =>
    clear HL0
    obtain ⟨m, v0, v1, v2, hm, rfl, HL⟩ := hrel
    have hx0 : wr.cell? ⟨w.heap.size, 0, none⟩ = some (.slice A l.length c) := by rw [blk_cell HL.out.c0]; rfl
    have hx1 : wr.cell? ⟨w.heap.size + 1, 0, none⟩ = some (.bool big) := by rw [blk_cell HL.out.c1]; rfl
    by_cases hlt : m ≤ l.length
    · have hlt' : ((m : Int) ≤ (l.length : Int)) = True := eq_true (by omega)
      have hlt'' : decide ((m : Int) ≤ (l.length : Int)) = true := decide_eq_true (by omega)
      have hw1 : IntKind.i64.wrap ((m : Int) - 1) = (m : Int) - 1 := by have := HLn.out; rw [i64_w]; unfold Go.RowKit.wrap64; omega
      have hw2 : IntKind.i64.wrap ((m : Int) + 1) = (m : Int) + 1 := by have := HLn.out; rw [i64_w]; unfold Go.RowKit.wrap64; omega
      go_wp2_with fail
      refine (kind_calls A c l big ⟨w.heap.size, 0, none⟩ ⟨w.heap.size + 1, 0, none⟩ ((m : Int)) wr (Kd.C_below HR.out HL.out.hb) hx0 hx1).mono ?_
      rintro e w1 ⟨rfl, hd1⟩
      have HL1 := Aside0.mk (HL.out.step hd1.below)
      clear hd1 hx0 hx1
      have hx0 : w1.cell? ⟨w.heap.size, 0, none⟩ = some (.slice A l.length c) := by rw [blk_cell HL1.out.c0]; rfl
      have hx1 : w1.cell? ⟨w.heap.size + 1, 0, none⟩ = some (.bool big) := by rw [blk_cell HL1.out.c1]; rfl
      by_cases h3 : kindAt l big m = 3
      · have h3b : (kindAt l big m == 3) = true := beq_iff_eq.mpr h3
        go_wp2_with fail
        refine (kind_calls A c l big ⟨w.heap.size, 0, none⟩ ⟨w.heap.size + 1, 0, none⟩ ((m : Int) - 1) w1 (Kd.C_below HR.out HL1.out.hb) hx0 hx1).mono ?_
        rintro e w2 ⟨rfl, hd2⟩
        have HL2 := Aside0.mk (HL1.out.step hd2.below)
        clear hd2 hx0 hx1
        have hx0 : w2.cell? ⟨w.heap.size, 0, none⟩ = some (.slice A l.length c) := by rw [blk_cell HL2.out.c0]; rfl
        have hx1 : w2.cell? ⟨w.heap.size + 1, 0, none⟩ = some (.bool big) := by rw [blk_cell HL2.out.c1]; rfl
        by_cases h1 : kindAt l big (m - 1) = 3
        · have h1b : (kindAt l big (m - 1) == 3) = true := beq_iff_eq.mpr h1
          go_upto_region 8 with (fail)
          have q1D := Aside0.mk (HL2.out.drew)
          refine start_ (n := 14) (S := fun w' => w'.cell? ⟨w.heap.size + 1 + 1 + 1, 0, none⟩ = some v0 ∧ w'.cell? ⟨w.heap.size + 1 + 1 + 1, 2, none⟩ = some v2) (ds := [11, 13]) #[false, false, false, false, false, false, false, false, false, false, false, false, false, false] (by kernel_rfl) rfl rfl ⟨LI.s0 q1D.out, LI.s2 q1D.out⟩ (fun hHeld => ?_)
          refine pure_ (i := 0) (N := some 28) (v := ?_) (a' := ?_) #[true, false, false, false, false, false, false, false, false, false, false, false, false, false] rfl rfl (by kernel_rfl) (fun _ _ _ h => h) (Or.inl ⟨by rfl, ?_⟩) ?_ ?_
          rotate_left
          · intro w'
            go_simp
            with_reducible rfl
          rotate_left
          · simp only [Act.put, List.setIfInBounds_toArray, List.set_cons_zero, List.set_cons_succ, i64_w, i32_w]
            rfl
          refine pure_ (i := 2) (N := some 30) (v := ?_) (a' := ?_) #[true, false, true, false, false, false, false, false, false, false, false, false, false, false] rfl rfl (by kernel_rfl) (fun _ _ _ h => h) (Or.inl ⟨by rfl, ?_⟩) ?_ ?_
          rotate_left
          · intro w'
            go_simp
            with_reducible rfl
          rotate_left
          · simp only [Act.put, List.setIfInBounds_toArray, List.set_cons_zero, List.set_cons_succ, i64_w, i32_w]
            rfl
          refine pure_ (i := 5) (N := some 33) (v := ?_) (a' := ?_) #[true, false, true, false, false, true, false, false, false, false, false, false, false, false] rfl rfl (by kernel_rfl) (fun _ _ _ h => h) (Or.inl ⟨by rfl, ?_⟩) ?_ ?_
          rotate_left
          · intro w'
            go_simp
            with_reducible rfl
          rotate_left
          · simp only [Act.put, List.setIfInBounds_toArray, List.set_cons_zero, List.set_cons_succ, i64_w, i32_w]
            rfl
          refine pure_ (i := 7) (N := some 35) (v := ?_) (a' := ?_) #[true, false, true, false, false, true, false, true, false, false, false, false, false, false] rfl rfl (by kernel_rfl) (fun _ _ _ h => h) (Or.inl ⟨by rfl, ?_⟩) ?_ ?_
          rotate_left
          · intro w'
            go_simp
            with_reducible rfl
          rotate_left
          · simp only [Act.put, List.setIfInBounds_toArray, List.set_cons_zero, List.set_cons_succ, i64_w, i32_w]
            rfl
          refine take_ (i := 1) (N := some 29) (v := ?_) (a' := ?_) #[true, true, true, false, false, true, false, true, false, false, false, false, false, false] rfl rfl (by kernel_rfl) (fun _ _ _ h => h) (Or.inl ⟨by rfl, ?_⟩) hHeld ?_ ?_
          rotate_left
          · rintro w' ⟨s0, s1⟩
            go_simp
            with_reducible rfl
          rotate_left
          · simp only [Act.put, List.setIfInBounds_toArray, List.set_cons_zero, List.set_cons_succ, i64_w, i32_w]
            rfl
          refine take_ (i := 6) (N := some 34) (v := ?_) (a' := ?_) #[true, true, true, false, false, true, true, true, false, false, false, false, false, false] rfl rfl (by kernel_rfl) (fun _ _ _ h => h) (Or.inl ⟨by rfl, ?_⟩) hHeld ?_ ?_
          rotate_left
          · rintro w' ⟨s0, s1⟩
            go_simp
            with_reducible rfl
          rotate_left
          · simp only [Act.put, List.setIfInBounds_toArray, List.set_cons_zero, List.set_cons_succ, i64_w, i32_w]
            rfl
          refine two_ (i := 3) (j := 8) (Ni := some 31) (Nj := some 36) #[true, true, true, true, false, true, true, true, false, false, false, false, false, false] #[true, true, true, false, false, true, true, true, true, false, false, false, false, false] rfl rfl rfl rfl (by kernel_rfl) (by decide) (by decide) (fun K hK => ?_) (fun K hK => ?_)
          · refine value_ (w1 := ?_) (v := ?_) (by rfl) rfl ?_ ?_
            rotate_left 2
            · go_simp
              constructor
              · rfl
              · rfl
            have q1a0 := Aside0.mk (q1D.out.alloc (Obj.cells #[Value.int .i64 (m : Int)] 3))
            have q1a0b := Aside0.mk (blk_new w2.drew (Obj.cells #[Value.int .i64 (m : Int)] 3))
            refine hK.out _ _ ⟨LI.s0 q1a0.out, LI.s2 q1a0.out⟩ (fun hHeld => ?_)
            clear hK K
            refine norm_ (a' := ?_) ?_ ?_
            rotate_left
            · show Act.put _ (some 31) _ = _
              simp only [Act.put, List.setIfInBounds_toArray, List.set_cons_zero, List.set_cons_succ, i64_w, i32_w]
              rfl
            refine two_ (i := 4) (j := 8) (Ni := some 32) (Nj := some 36) #[true, true, true, true, true, true, true, true, false, false, false, false, false, false] #[true, true, true, true, false, true, true, true, true, false, false, false, false, false] rfl rfl rfl rfl (by kernel_rfl) (by decide) (by decide) (fun K hK => ?_) (fun K hK => ?_)
            · refine Kd.R_append_rows_step (Kd.int .i64) (Rr := (Kd.int .i64).K (w2.drew.alloc (Obj.cells #[Value.int .i64 (m : Int)] 3))) (w0 := w) w.heap.size (by rfl) (.tmp 29) (.tmp 31) 50 3 (.int .i64 0) 8 rfl Try.underlying50 info3 rfl (by decide) (by omega) v0 (lst (begK l big) m) [(m : Int)] (some ⟨w2.drew.heap.size, 0, none⟩) 1 1 (fun k => ((w.heap.size + 4 ≤ k ∧ some k ≠ v1.ownBlock) ∧ some k ≠ v2.ownBlock)) (fun _ => False) rfl rfl q1a0.out.r0 (one_reads q1a0b.out) int_KM (fun _ hk => hk.elim) q1a0.out.fr0 q1a0.out.hb q1a0.out.hs (by have := lst_len (begK l big) m; have := HLn.out; omega) ?_
              intro q1b0v q1b0w ho hb hg hat
              have q1b0 := Aside0.mk (q1a0.out.grow0 ho hb hg hat)
              clear ho hb hg hat
              refine hK.out _ _ ⟨LI.s0 q1b0.out, LI.s2 q1b0.out⟩ (fun hHeld => ?_)
              clear hK K
              refine norm_ (a' := ?_) ?_ ?_
              rotate_left
              · show Act.put _ (some 32) _ = _
                simp only [Act.put, List.setIfInBounds_toArray, List.set_cons_zero, List.set_cons_succ, i64_w, i32_w]
                rfl
              refine pure_ (i := 10) (N := some 38) (v := ?_) (a' := ?_) #[true, true, true, true, true, true, true, true, false, false, true, false, false, false] rfl rfl (by kernel_rfl) (fun _ _ _ h => h) (Or.inl ⟨by rfl, ?_⟩) ?_ ?_
              rotate_left
              · intro w'
                go_simp
                with_reducible rfl
              rotate_left
              · simp only [Act.put, List.setIfInBounds_toArray, List.set_cons_zero, List.set_cons_succ, i64_w, i32_w]
                rfl
              refine one_ (i := 8) (N := some 36) #[true, true, true, true, true, true, true, true, true, false, true, false, false, false] rfl rfl (by kernel_rfl) (by decide) (fun K hK => ?_)
              refine value_ (w1 := ?_) (v := ?_) (by rfl) rfl ?_ ?_
              rotate_left 2
              · go_simp
                constructor
                · rfl
                · rfl
              have q1b1 := Aside0.mk (q1b0.out.alloc (Obj.cells #[Value.int .i64 (m : Int)] 3))
              have q1b1b := Aside0.mk (blk_new q1b0w (Obj.cells #[Value.int .i64 (m : Int)] 3))
              have q1b1A := Aside0.mk (blk_alloc q1a0b.out (Obj.cells #[Value.int .i64 (m : Int)] 3))
              refine hK.out _ _ ⟨LI.s0 q1b1.out, LI.s2 q1b1.out⟩ (fun hHeld => ?_)
              clear hK K
              refine norm_ (a' := ?_) ?_ ?_
              rotate_left
              · show Act.put _ (some 36) _ = _
                simp only [Act.put, List.setIfInBounds_toArray, List.set_cons_zero, List.set_cons_succ, i64_w, i32_w]
                rfl
              refine one_ (i := 9) (N := some 37) #[true, true, true, true, true, true, true, true, true, true, true, false, false, false] rfl rfl (by kernel_rfl) (by decide) (fun K hK => ?_)
              refine Kd.R_append_rows_step (Kd.int .i64) (Rr := (Kd.int .i64).K (q1b0w.alloc (Obj.cells #[Value.int .i64 (m : Int)] 3))) (w0 := w) w.heap.size (by rfl) (.tmp 34) (.tmp 36) 50 3 (.int .i64 0) 8 rfl Try.underlying50 info3 rfl (by decide) (by omega) v2 (lst (haltK l big) m) [(m : Int)] (some ⟨q1b0w.heap.size, 0, none⟩) 1 1 (fun k => ((w.heap.size + 4 ≤ k ∧ some k ≠ q1b0v.ownBlock) ∧ some k ≠ v1.ownBlock)) (fun _ => False) rfl rfl q1b1.out.r2 (one_reads q1b1b.out) int_KM (fun _ hk => hk.elim) q1b1.out.fr2 q1b1.out.hb q1b1.out.hs (by have := lst_len (haltK l big) m; have := HLn.out; omega) ?_
              intro q1b2v q1b2w ho hb hg hat
              have q1b2 := Aside0.mk (q1b1.out.grow2 ho hb hg hat)
              clear ho hb hg hat
              refine hK.out _ _ ⟨LI.s0 q1b2.out, LI.s2 q1b2.out⟩ (fun hHeld => ?_)
              clear hK K
              refine norm_ (a' := ?_) ?_ ?_
              rotate_left
              · show Act.put _ (some 37) _ = _
                simp only [Act.put, List.setIfInBounds_toArray, List.set_cons_zero, List.set_cons_succ, i64_w, i32_w]
                rfl
              obtain ⟨q1bsA0, q1bsc0, q1bse0⟩ := Kd.R_slice q1b2.out.r0
              simp only [List.length_append, List.length_cons, List.length_nil, Nat.zero_add] at q1bse0
              subst q1bse0
              obtain ⟨q1bsA2, q1bsc2, q1bse2⟩ := Kd.R_slice q1b2.out.r2
              simp only [List.length_append, List.length_cons, List.length_nil, Nat.zero_add] at q1bse2
              subst q1bse2
              have hp := LI.s0 q1b2.out
              have hf := LI.fz q1b2.out 0
              refine last_ (i := 11) (N := none) #[true, true, true, true, true, true, true, true, true, true, true, true, false, false] rfl rfl (by kernel_rfl) (by decide) (fun K hK => ?_)
              refine skip_ (w1 := ?_) (by rfl) rfl ?_ ?_
              rotate_left
              · go_simp
                rfl
              have q1bs1 := Aside0.mk (q1b2.out.put 0 (.slice q1bsA0 ((lst (begK l big) m).length + 1) q1bsc0) rfl)
              refine hK.out _ _ ?_
              clear hK K hp hf
              generalize World.setCell _ _ _ = q1bsx at q1bs1 ⊢
              refine pure_ (i := 12) (N := some 39) (v := ?_) (a' := ?_) #[true, true, true, true, true, true, true, true, true, true, true, true, true, false] rfl rfl (by kernel_rfl) (fun _ _ _ h => h) (Or.inl ⟨by rfl, ?_⟩) ?_ ?_
              rotate_left
              · intro w'
                go_simp
                with_reducible rfl
              rotate_left
              · simp only [Act.put, List.setIfInBounds_toArray, List.set_cons_zero, List.set_cons_succ, i64_w, i32_w]
                rfl
              have hp := LI.s2 q1bs1.out
              have hf := LI.fz q1bs1.out 2
              refine last_ (i := 13) (N := none) #[true, true, true, true, true, true, true, true, true, true, true, true, true, true] rfl rfl (by kernel_rfl) (by decide) (fun K hK => ?_)
              refine skip_ (w1 := ?_) (by rfl) rfl ?_ ?_
              rotate_left
              · go_simp
                rfl
              have q1bs2 := Aside0.mk (q1bs1.out.put 2 (.slice q1bsA2 ((lst (haltK l big) m).length + 1) q1bsc2) rfl)
              refine hK.out _ _ ?_
              clear hK K hp hf
              refine done_ (by kernel_rfl) ?_
              generalize World.setCell _ _ _ = q1bsw at q1bs2 ⊢
              go_wp2
              go_roundw
              case measure => simp [intOf]; omega
              case rel => exact ⟨m + 1, (.slice q1bsA0 ((lst (begK l big) m).length + 1) q1bsc0), v1, (.slice q1bsA2 ((lst (haltK l big) m).length + 1) q1bsc2), by omega, by go_num, ⟨LI.cast q1bs2.out (lst_yes (p := begK l big) (m := m) (by first | (simp [begK, endK, haltK, bareK, *]; done) | (simp [begK, endK, haltK, bareK, inWK, *]; done))) (lst_no (p := endK l big) (m := m) (by first | (simp [begK, endK, haltK, bareK, *]; done) | (simp [begK, endK, haltK, bareK, inWK, *]; done))) (lst_yes (p := haltK l big) (m := m) (by first | (simp [begK, endK, haltK, bareK, *]; done) | (simp [begK, endK, haltK, bareK, inWK, *]; done)))⟩⟩
            · refine value_ (w1 := ?_) (v := ?_) (by rfl) rfl ?_ ?_
              rotate_left 2
              · go_simp
                constructor
                · rfl
                · rfl
              have q1c1 := Aside0.mk (q1a0.out.alloc (Obj.cells #[Value.int .i64 (m : Int)] 3))
              have q1c1b := Aside0.mk (show ((w2.drew.alloc (Obj.cells #[Value.int .i64 (m : Int)] 3)).alloc (Obj.cells #[Value.int .i64 (m : Int)] 3)).heap[w2.heap.size + 1]? = some (Obj.cells #[Value.int .i64 (m : Int)] 3) from heap_alloc2_new w2.drew (Obj.cells #[Value.int .i64 (m : Int)] 3) (Obj.cells #[Value.int .i64 (m : Int)] 3))
              have q1c1A := Aside0.mk (blk_alloc q1a0b.out (Obj.cells #[Value.int .i64 (m : Int)] 3))
              refine hK.out _ _ ⟨LI.s0 q1c1.out, LI.s2 q1c1.out⟩ (fun hHeld => ?_)
              clear hK K
              refine norm_ (a' := ?_) ?_ ?_
              rotate_left
              · show Act.put _ (some 36) _ = _
                simp only [Act.put, List.setIfInBounds_toArray, List.set_cons_zero, List.set_cons_succ, i64_w, i32_w]
                rfl
              refine one_ (i := 4) (N := some 32) #[true, true, true, true, true, true, true, true, true, false, false, false, false, false] rfl rfl (by kernel_rfl) (by decide) (fun K hK => ?_)
              refine Kd.R_append_rows_step (Kd.int .i64) (Rr := (Kd.int .i64).K ((w2.drew.alloc (Obj.cells #[Value.int .i64 (m : Int)] 3)).alloc (Obj.cells #[Value.int .i64 (m : Int)] 3))) (w0 := w) w.heap.size (by rfl) (.tmp 29) (.tmp 31) 50 3 (.int .i64 0) 8 rfl Try.underlying50 info3 rfl (by decide) (by omega) v0 (lst (begK l big) m) [(m : Int)] (some ⟨w2.drew.heap.size, 0, none⟩) 1 1 (fun k => ((w.heap.size + 4 ≤ k ∧ some k ≠ v1.ownBlock) ∧ some k ≠ v2.ownBlock)) (fun _ => False) rfl rfl q1c1.out.r0 (one_reads q1c1A.out) int_KM (fun _ hk => hk.elim) q1c1.out.fr0 q1c1.out.hb q1c1.out.hs (by have := lst_len (begK l big) m; have := HLn.out; omega) ?_
              intro q1c2v q1c2w ho hb hg hat
              have q1c2 := Aside0.mk (q1c1.out.grow0 ho hb hg hat)
              have q1c2B := Aside0.mk (blk_grown q1c1b.out hg (q1a0.out.ne0 _ (by simp)))
              clear ho hb hg hat
              refine hK.out _ _ ⟨LI.s0 q1c2.out, LI.s2 q1c2.out⟩ (fun hHeld => ?_)
              clear hK K
              refine norm_ (a' := ?_) ?_ ?_
              rotate_left
              · show Act.put _ (some 32) _ = _
                simp only [Act.put, List.setIfInBounds_toArray, List.set_cons_zero, List.set_cons_succ, i64_w, i32_w]
                rfl
              refine pure_ (i := 10) (N := some 38) (v := ?_) (a' := ?_) #[true, true, true, true, true, true, true, true, true, false, true, false, false, false] rfl rfl (by kernel_rfl) (fun _ _ _ h => h) (Or.inl ⟨by rfl, ?_⟩) ?_ ?_
              rotate_left
              · intro w'
                go_simp
                with_reducible rfl
              rotate_left
              · simp only [Act.put, List.setIfInBounds_toArray, List.set_cons_zero, List.set_cons_succ, i64_w, i32_w]
                rfl
              refine one_ (i := 9) (N := some 37) #[true, true, true, true, true, true, true, true, true, true, true, false, false, false] rfl rfl (by kernel_rfl) (by decide) (fun K hK => ?_)
              refine Kd.R_append_rows_step (Kd.int .i64) (Rr := (Kd.int .i64).K q1c2w) (w0 := w) w.heap.size (by rfl) (.tmp 34) (.tmp 36) 50 3 (.int .i64 0) 8 rfl Try.underlying50 info3 rfl (by decide) (by omega) v2 (lst (haltK l big) m) [(m : Int)] (some ⟨w2.heap.size + 1, 0, none⟩) 1 1 (fun k => ((w.heap.size + 4 ≤ k ∧ some k ≠ q1c2v.ownBlock) ∧ some k ≠ v1.ownBlock)) (fun _ => False) rfl rfl q1c2.out.r2 (one_reads q1c2B.out) int_KM (fun _ hk => hk.elim) q1c2.out.fr2 q1c2.out.hb q1c2.out.hs (by have := lst_len (haltK l big) m; have := HLn.out; omega) ?_
              intro q1c3v q1c3w ho hb hg hat
              have q1c3 := Aside0.mk (q1c2.out.grow2 ho hb hg hat)
              clear ho hb hg hat
              refine hK.out _ _ ⟨LI.s0 q1c3.out, LI.s2 q1c3.out⟩ (fun hHeld => ?_)
              clear hK K
              refine norm_ (a' := ?_) ?_ ?_
              rotate_left
              · show Act.put _ (some 37) _ = _
                simp only [Act.put, List.setIfInBounds_toArray, List.set_cons_zero, List.set_cons_succ, i64_w, i32_w]
                rfl
              obtain ⟨q1csA0, q1csc0, q1cse0⟩ := Kd.R_slice q1c3.out.r0
              simp only [List.length_append, List.length_cons, List.length_nil, Nat.zero_add] at q1cse0
              subst q1cse0
              obtain ⟨q1csA2, q1csc2, q1cse2⟩ := Kd.R_slice q1c3.out.r2
              simp only [List.length_append, List.length_cons, List.length_nil, Nat.zero_add] at q1cse2
              subst q1cse2
              have hp := LI.s0 q1c3.out
              have hf := LI.fz q1c3.out 0
              refine last_ (i := 11) (N := none) #[true, true, true, true, true, true, true, true, true, true, true, true, false, false] rfl rfl (by kernel_rfl) (by decide) (fun K hK => ?_)
              refine skip_ (w1 := ?_) (by rfl) rfl ?_ ?_
              rotate_left
              · go_simp
                rfl
              have q1cs1 := Aside0.mk (q1c3.out.put 0 (.slice q1csA0 ((lst (begK l big) m).length + 1) q1csc0) rfl)
              refine hK.out _ _ ?_
              clear hK K hp hf
              generalize World.setCell _ _ _ = q1csx at q1cs1 ⊢
              refine pure_ (i := 12) (N := some 39) (v := ?_) (a' := ?_) #[true, true, true, true, true, true, true, true, true, true, true, true, true, false] rfl rfl (by kernel_rfl) (fun _ _ _ h => h) (Or.inl ⟨by rfl, ?_⟩) ?_ ?_
              rotate_left
              · intro w'
                go_simp
                with_reducible rfl
              rotate_left
              · simp only [Act.put, List.setIfInBounds_toArray, List.set_cons_zero, List.set_cons_succ, i64_w, i32_w]
                rfl
              have hp := LI.s2 q1cs1.out
              have hf := LI.fz q1cs1.out 2
              refine last_ (i := 13) (N := none) #[true, true, true, true, true, true, true, true, true, true, true, true, true, true] rfl rfl (by kernel_rfl) (by decide) (fun K hK => ?_)
              refine skip_ (w1 := ?_) (by rfl) rfl ?_ ?_
              rotate_left
              · go_simp
                rfl
              have q1cs2 := Aside0.mk (q1cs1.out.put 2 (.slice q1csA2 ((lst (haltK l big) m).length + 1) q1csc2) rfl)
              refine hK.out _ _ ?_
              clear hK K hp hf
              refine done_ (by kernel_rfl) ?_
              generalize World.setCell _ _ _ = q1csw at q1cs2 ⊢
              go_wp2
              go_roundw
              case measure => simp [intOf]; omega
              case rel => exact ⟨m + 1, (.slice q1csA0 ((lst (begK l big) m).length + 1) q1csc0), v1, (.slice q1csA2 ((lst (haltK l big) m).length + 1) q1csc2), by omega, by go_num, ⟨LI.cast q1cs2.out (lst_yes (p := begK l big) (m := m) (by first | (simp [begK, endK, haltK, bareK, *]; done) | (simp [begK, endK, haltK, bareK, inWK, *]; done))) (lst_no (p := endK l big) (m := m) (by first | (simp [begK, endK, haltK, bareK, *]; done) | (simp [begK, endK, haltK, bareK, inWK, *]; done))) (lst_yes (p := haltK l big) (m := m) (by first | (simp [begK, endK, haltK, bareK, *]; done) | (simp [begK, endK, haltK, bareK, inWK, *]; done)))⟩⟩
          · refine value_ (w1 := ?_) (v := ?_) (by rfl) rfl ?_ ?_
            rotate_left 2
            · go_simp
              constructor
              · rfl
              · rfl
            have q1d0 := Aside0.mk (q1D.out.alloc (Obj.cells #[Value.int .i64 (m : Int)] 3))
            have q1d0b := Aside0.mk (blk_new w2.drew (Obj.cells #[Value.int .i64 (m : Int)] 3))
            refine hK.out _ _ ⟨LI.s0 q1d0.out, LI.s2 q1d0.out⟩ (fun hHeld => ?_)
            clear hK K
            refine norm_ (a' := ?_) ?_ ?_
            rotate_left
            · show Act.put _ (some 36) _ = _
              simp only [Act.put, List.setIfInBounds_toArray, List.set_cons_zero, List.set_cons_succ, i64_w, i32_w]
              rfl
            refine one_ (i := 3) (N := some 31) #[true, true, true, true, false, true, true, true, true, false, false, false, false, false] rfl rfl (by kernel_rfl) (by decide) (fun K hK => ?_)
            refine value_ (w1 := ?_) (v := ?_) (by rfl) rfl ?_ ?_
            rotate_left 2
            · go_simp
              constructor
              · rfl
              · rfl
            have q1d1 := Aside0.mk (q1d0.out.alloc (Obj.cells #[Value.int .i64 (m : Int)] 3))
            have q1d1b := Aside0.mk (show ((w2.drew.alloc (Obj.cells #[Value.int .i64 (m : Int)] 3)).alloc (Obj.cells #[Value.int .i64 (m : Int)] 3)).heap[w2.heap.size + 1]? = some (Obj.cells #[Value.int .i64 (m : Int)] 3) from heap_alloc2_new w2.drew (Obj.cells #[Value.int .i64 (m : Int)] 3) (Obj.cells #[Value.int .i64 (m : Int)] 3))
            have q1d1B := Aside0.mk (blk_alloc q1d0b.out (Obj.cells #[Value.int .i64 (m : Int)] 3))
            refine hK.out _ _ ⟨LI.s0 q1d1.out, LI.s2 q1d1.out⟩ (fun hHeld => ?_)
            clear hK K
            refine norm_ (a' := ?_) ?_ ?_
            rotate_left
            · show Act.put _ (some 31) _ = _
              simp only [Act.put, List.setIfInBounds_toArray, List.set_cons_zero, List.set_cons_succ, i64_w, i32_w]
              rfl
            refine one_ (i := 4) (N := some 32) #[true, true, true, true, true, true, true, true, true, false, false, false, false, false] rfl rfl (by kernel_rfl) (by decide) (fun K hK => ?_)
            refine Kd.R_append_rows_step (Kd.int .i64) (Rr := (Kd.int .i64).K ((w2.drew.alloc (Obj.cells #[Value.int .i64 (m : Int)] 3)).alloc (Obj.cells #[Value.int .i64 (m : Int)] 3))) (w0 := w) w.heap.size (by rfl) (.tmp 29) (.tmp 31) 50 3 (.int .i64 0) 8 rfl Try.underlying50 info3 rfl (by decide) (by omega) v0 (lst (begK l big) m) [(m : Int)] (some ⟨w2.heap.size + 1, 0, none⟩) 1 1 (fun k => ((w.heap.size + 4 ≤ k ∧ some k ≠ v1.ownBlock) ∧ some k ≠ v2.ownBlock)) (fun _ => False) rfl rfl q1d1.out.r0 (one_reads q1d1b.out) int_KM (fun _ hk => hk.elim) q1d1.out.fr0 q1d1.out.hb q1d1.out.hs (by have := lst_len (begK l big) m; have := HLn.out; omega) ?_
            intro q1d2v q1d2w ho hb hg hat
            have q1d2 := Aside0.mk (q1d1.out.grow0 ho hb hg hat)
            have q1d2B := Aside0.mk (blk_grown q1d1B.out hg (q1D.out.ne0 _ (by simp)))
            clear ho hb hg hat
            refine hK.out _ _ ⟨LI.s0 q1d2.out, LI.s2 q1d2.out⟩ (fun hHeld => ?_)
            clear hK K
            refine norm_ (a' := ?_) ?_ ?_
            rotate_left
            · show Act.put _ (some 32) _ = _
              simp only [Act.put, List.setIfInBounds_toArray, List.set_cons_zero, List.set_cons_succ, i64_w, i32_w]
              rfl
            refine pure_ (i := 10) (N := some 38) (v := ?_) (a' := ?_) #[true, true, true, true, true, true, true, true, true, false, true, false, false, false] rfl rfl (by kernel_rfl) (fun _ _ _ h => h) (Or.inl ⟨by rfl, ?_⟩) ?_ ?_
            rotate_left
            · intro w'
              go_simp
              with_reducible rfl
            rotate_left
            · simp only [Act.put, List.setIfInBounds_toArray, List.set_cons_zero, List.set_cons_succ, i64_w, i32_w]
              rfl
            refine one_ (i := 9) (N := some 37) #[true, true, true, true, true, true, true, true, true, true, true, false, false, false] rfl rfl (by kernel_rfl) (by decide) (fun K hK => ?_)
            refine Kd.R_append_rows_step (Kd.int .i64) (Rr := (Kd.int .i64).K q1d2w) (w0 := w) w.heap.size (by rfl) (.tmp 34) (.tmp 36) 50 3 (.int .i64 0) 8 rfl Try.underlying50 info3 rfl (by decide) (by omega) v2 (lst (haltK l big) m) [(m : Int)] (some ⟨w2.drew.heap.size, 0, none⟩) 1 1 (fun k => ((w.heap.size + 4 ≤ k ∧ some k ≠ q1d2v.ownBlock) ∧ some k ≠ v1.ownBlock)) (fun _ => False) rfl rfl q1d2.out.r2 (one_reads q1d2B.out) int_KM (fun _ hk => hk.elim) q1d2.out.fr2 q1d2.out.hb q1d2.out.hs (by have := lst_len (haltK l big) m; have := HLn.out; omega) ?_
            intro q1d3v q1d3w ho hb hg hat
            have q1d3 := Aside0.mk (q1d2.out.grow2 ho hb hg hat)
            clear ho hb hg hat
            refine hK.out _ _ ⟨LI.s0 q1d3.out, LI.s2 q1d3.out⟩ (fun hHeld => ?_)
            clear hK K
            refine norm_ (a' := ?_) ?_ ?_
            rotate_left
            · show Act.put _ (some 37) _ = _
              simp only [Act.put, List.setIfInBounds_toArray, List.set_cons_zero, List.set_cons_succ, i64_w, i32_w]
              rfl
            obtain ⟨q1dsA0, q1dsc0, q1dse0⟩ := Kd.R_slice q1d3.out.r0
            simp only [List.length_append, List.length_cons, List.length_nil, Nat.zero_add] at q1dse0
            subst q1dse0
            obtain ⟨q1dsA2, q1dsc2, q1dse2⟩ := Kd.R_slice q1d3.out.r2
            simp only [List.length_append, List.length_cons, List.length_nil, Nat.zero_add] at q1dse2
            subst q1dse2
            have hp := LI.s0 q1d3.out
            have hf := LI.fz q1d3.out 0
            refine last_ (i := 11) (N := none) #[true, true, true, true, true, true, true, true, true, true, true, true, false, false] rfl rfl (by kernel_rfl) (by decide) (fun K hK => ?_)
            refine skip_ (w1 := ?_) (by rfl) rfl ?_ ?_
            rotate_left
            · go_simp
              rfl
            have q1ds1 := Aside0.mk (q1d3.out.put 0 (.slice q1dsA0 ((lst (begK l big) m).length + 1) q1dsc0) rfl)
            refine hK.out _ _ ?_
            clear hK K hp hf
            generalize World.setCell _ _ _ = q1dsx at q1ds1 ⊢
            refine pure_ (i := 12) (N := some 39) (v := ?_) (a' := ?_) #[true, true, true, true, true, true, true, true, true, true, true, true, true, false] rfl rfl (by kernel_rfl) (fun _ _ _ h => h) (Or.inl ⟨by rfl, ?_⟩) ?_ ?_
            rotate_left
            · intro w'
              go_simp
              with_reducible rfl
            rotate_left
            · simp only [Act.put, List.setIfInBounds_toArray, List.set_cons_zero, List.set_cons_succ, i64_w, i32_w]
              rfl
            have hp := LI.s2 q1ds1.out
            have hf := LI.fz q1ds1.out 2
            refine last_ (i := 13) (N := none) #[true, true, true, true, true, true, true, true, true, true, true, true, true, true] rfl rfl (by kernel_rfl) (by decide) (fun K hK => ?_)
            refine skip_ (w1 := ?_) (by rfl) rfl ?_ ?_
            rotate_left
            · go_simp
              rfl
            have q1ds2 := Aside0.mk (q1ds1.out.put 2 (.slice q1dsA2 ((lst (haltK l big) m).length + 1) q1dsc2) rfl)
            refine hK.out _ _ ?_
            clear hK K hp hf
            refine done_ (by kernel_rfl) ?_
            generalize World.setCell _ _ _ = q1dsw at q1ds2 ⊢
            go_wp2
            go_roundw
            case measure => simp [intOf]; omega
            case rel => exact ⟨m + 1, (.slice q1dsA0 ((lst (begK l big) m).length + 1) q1dsc0), v1, (.slice q1dsA2 ((lst (haltK l big) m).length + 1) q1dsc2), by omega, by go_num, ⟨LI.cast q1ds2.out (lst_yes (p := begK l big) (m := m) (by first | (simp [begK, endK, haltK, bareK, *]; done) | (simp [begK, endK, haltK, bareK, inWK, *]; done))) (lst_no (p := endK l big) (m := m) (by first | (simp [begK, endK, haltK, bareK, *]; done) | (simp [begK, endK, haltK, bareK, inWK, *]; done))) (lst_yes (p := haltK l big) (m := m) (by first | (simp [begK, endK, haltK, bareK, *]; done) | (simp [begK, endK, haltK, bareK, inWK, *]; done)))⟩⟩
        · have h1b : (kindAt l big (m - 1) == 3) = false := beq_eq_false_iff_ne.mpr h1
          go_wp2_with fail
          refine (inword_calls 3 w2).mono ?_
          rintro e w3 ⟨rfl, hd3⟩
          rw [show inWK 3 = false from rfl]
          have HL3 := Aside0.mk (HL2.out.step hd3.below)
          clear hd3 hx0 hx1
          have hx0 : w3.cell? ⟨w.heap.size, 0, none⟩ = some (.slice A l.length c) := by rw [blk_cell HL3.out.c0]; rfl
          have hx1 : w3.cell? ⟨w.heap.size + 1, 0, none⟩ = some (.bool big) := by rw [blk_cell HL3.out.c1]; rfl
          go_wp2
          go_roundw
          case measure => simp [intOf]; omega
          case rel => exact ⟨m + 1, v0, v1, v2, by omega, by go_num, ⟨LI.cast HL3.out (lst_no (p := begK l big) (m := m) (by first | (simp [begK, endK, haltK, bareK, *]; done) | (simp [begK, endK, haltK, bareK, inWK, *]; done))) (lst_no (p := endK l big) (m := m) (by first | (simp [begK, endK, haltK, bareK, *]; done) | (simp [begK, endK, haltK, bareK, inWK, *]; done))) (lst_no (p := haltK l big) (m := m) (by first | (simp [begK, endK, haltK, bareK, *]; done) | (simp [begK, endK, haltK, bareK, inWK, *]; done)))⟩⟩
      · have h3b : (kindAt l big m == 3) = false := beq_eq_false_iff_ne.mpr h3
        go_wp2_with fail
        by_cases hi : inWK (kindAt l big m) = true
        · skip
          refine (inword_calls (kindAt l big m) w1).mono ?_
          rintro e w4 ⟨rfl, hd4⟩
          rw [hi]
          have HL4 := Aside0.mk (HL1.out.step hd4.below)
          clear hd4 hx0 hx1
          have hx0 : w4.cell? ⟨w.heap.size, 0, none⟩ = some (.slice A l.length c) := by rw [blk_cell HL4.out.c0]; rfl
          have hx1 : w4.cell? ⟨w.heap.size + 1, 0, none⟩ = some (.bool big) := by rw [blk_cell HL4.out.c1]; rfl
          go_wp2_with fail
          refine (kind_calls A c l big ⟨w.heap.size, 0, none⟩ ⟨w.heap.size + 1, 0, none⟩ ((m : Int) - 1) w4 (Kd.C_below HR.out HL4.out.hb) hx0 hx1).mono ?_
          rintro e w5 ⟨rfl, hd5⟩
          have HL5 := Aside0.mk (HL4.out.step hd5.below)
          clear hd5 hx0 hx1
          have hx0 : w5.cell? ⟨w.heap.size, 0, none⟩ = some (.slice A l.length c) := by rw [blk_cell HL5.out.c0]; rfl
          have hx1 : w5.cell? ⟨w.heap.size + 1, 0, none⟩ = some (.bool big) := by rw [blk_cell HL5.out.c1]; rfl
          by_cases h1 : kindAt l big (m - 1) = kindAt l big m
          · have h1b : (kindAt l big (m - 1) != kindAt l big m) = false := bne_eq_false_iff_eq.mpr h1
            go_wp2_with fail
            refine (kind_calls A c l big ⟨w.heap.size, 0, none⟩ ⟨w.heap.size + 1, 0, none⟩ ((m : Int) + 1) w5 (Kd.C_below HR.out HL5.out.hb) hx0 hx1).mono ?_
            rintro e w6 ⟨rfl, hd6⟩
            have HL6 := Aside0.mk (HL5.out.step hd6.below)
            clear hd6 hx0 hx1
            have hx0 : w6.cell? ⟨w.heap.size, 0, none⟩ = some (.slice A l.length c) := by rw [blk_cell HL6.out.c0]; rfl
            have hx1 : w6.cell? ⟨w.heap.size + 1, 0, none⟩ = some (.bool big) := by rw [blk_cell HL6.out.c1]; rfl
            by_cases h2 : kindAt l big (m + 1) = kindAt l big m
            · have h2b : (kindAt l big (m + 1) != kindAt l big m) = false := bne_eq_false_iff_eq.mpr h2
              go_wp2
              go_roundw
              case measure => simp [intOf]; omega
              case rel => exact ⟨m + 1, v0, v1, v2, by omega, by go_num, ⟨LI.cast HL6.out (lst_no (p := begK l big) (m := m) (by first | (simp [begK, endK, haltK, bareK, *]; done) | (simp [begK, endK, haltK, bareK, inWK, *]; done))) (lst_no (p := endK l big) (m := m) (by first | (simp [begK, endK, haltK, bareK, *]; done) | (simp [begK, endK, haltK, bareK, inWK, *]; done))) (lst_no (p := haltK l big) (m := m) (by first | (simp [begK, endK, haltK, bareK, *]; done) | (simp [begK, endK, haltK, bareK, inWK, *]; done)))⟩⟩
            · have h2b : (kindAt l big (m + 1) != kindAt l big m) = true := bne_iff_ne.mpr h2
              go_upto_region 13 with (fail)
              have q2D := Aside0.mk (HL6.out.drew)
              refine start_ (n := 14) (S := fun w' => w'.cell? ⟨w.heap.size + 1 + 1 + 1, 1, none⟩ = some v1 ∧ w'.cell? ⟨w.heap.size + 1 + 1 + 1, 2, none⟩ = some v2) (ds := [11, 13]) #[false, false, false, false, false, false, false, false, false, false, false, false, false, false] (by kernel_rfl) rfl rfl ⟨LI.s1 q2D.out, LI.s2 q2D.out⟩ (fun hHeld => ?_)
              refine pure_ (i := 0) (N := some 61) (v := ?_) (a' := ?_) #[true, false, false, false, false, false, false, false, false, false, false, false, false, false] rfl rfl (by kernel_rfl) (fun _ _ _ h => h) (Or.inl ⟨by rfl, ?_⟩) ?_ ?_
              rotate_left
              · intro w'
                go_simp
                with_reducible rfl
              rotate_left
              · simp only [Act.put, List.setIfInBounds_toArray, List.set_cons_zero, List.set_cons_succ, i64_w, i32_w]
                rfl
              refine pure_ (i := 2) (N := some 63) (v := ?_) (a' := ?_) #[true, false, true, false, false, false, false, false, false, false, false, false, false, false] rfl rfl (by kernel_rfl) (fun _ _ _ h => h) (Or.inl ⟨by rfl, ?_⟩) ?_ ?_
              rotate_left
              · intro w'
                go_simp
                with_reducible rfl
              rotate_left
              · simp only [Act.put, List.setIfInBounds_toArray, List.set_cons_zero, List.set_cons_succ, i64_w, i32_w]
                rfl
              refine pure_ (i := 5) (N := some 66) (v := ?_) (a' := ?_) #[true, false, true, false, false, true, false, false, false, false, false, false, false, false] rfl rfl (by kernel_rfl) (fun _ _ _ h => h) (Or.inl ⟨by rfl, ?_⟩) ?_ ?_
              rotate_left
              · intro w'
                go_simp
                with_reducible rfl
              rotate_left
              · simp only [Act.put, List.setIfInBounds_toArray, List.set_cons_zero, List.set_cons_succ, i64_w, i32_w]
                rfl
              refine pure_ (i := 7) (N := some 68) (v := ?_) (a' := ?_) #[true, false, true, false, false, true, false, true, false, false, false, false, false, false] rfl rfl (by kernel_rfl) (fun _ _ _ h => h) (Or.inl ⟨by rfl, ?_⟩) ?_ ?_
              rotate_left
              · intro w'
                go_simp
                with_reducible rfl
              rotate_left
              · simp only [Act.put, List.setIfInBounds_toArray, List.set_cons_zero, List.set_cons_succ, i64_w, i32_w]
                rfl
              refine take_ (i := 1) (N := some 62) (v := ?_) (a' := ?_) #[true, true, true, false, false, true, false, true, false, false, false, false, false, false] rfl rfl (by kernel_rfl) (fun _ _ _ h => h) (Or.inl ⟨by rfl, ?_⟩) hHeld ?_ ?_
              rotate_left
              · rintro w' ⟨s0, s1⟩
                go_simp
                with_reducible rfl
              rotate_left
              · simp only [Act.put, List.setIfInBounds_toArray, List.set_cons_zero, List.set_cons_succ, i64_w, i32_w]
                rfl
              refine take_ (i := 6) (N := some 67) (v := ?_) (a' := ?_) #[true, true, true, false, false, true, true, true, false, false, false, false, false, false] rfl rfl (by kernel_rfl) (fun _ _ _ h => h) (Or.inl ⟨by rfl, ?_⟩) hHeld ?_ ?_
              rotate_left
              · rintro w' ⟨s0, s1⟩
                go_simp
                with_reducible rfl
              rotate_left
              · simp only [Act.put, List.setIfInBounds_toArray, List.set_cons_zero, List.set_cons_succ, i64_w, i32_w]
                rfl
              refine two_ (i := 3) (j := 8) (Ni := some 64) (Nj := some 69) #[true, true, true, true, false, true, true, true, false, false, false, false, false, false] #[true, true, true, false, false, true, true, true, true, false, false, false, false, false] rfl rfl rfl rfl (by kernel_rfl) (by decide) (by decide) (fun K hK => ?_) (fun K hK => ?_)
              · refine value_ (w1 := ?_) (v := ?_) (by rfl) rfl ?_ ?_
                rotate_left 2
                · go_simp
                  constructor
                  · rfl
                  · rfl
                have q2a0 := Aside0.mk (q2D.out.alloc (Obj.cells #[Value.int .i64 (m : Int)] 3))
                have q2a0b := Aside0.mk (blk_new w6.drew (Obj.cells #[Value.int .i64 (m : Int)] 3))
                refine hK.out _ _ ⟨LI.s1 q2a0.out, LI.s2 q2a0.out⟩ (fun hHeld => ?_)
                clear hK K
                refine norm_ (a' := ?_) ?_ ?_
                rotate_left
                · show Act.put _ (some 64) _ = _
                  simp only [Act.put, List.setIfInBounds_toArray, List.set_cons_zero, List.set_cons_succ, i64_w, i32_w]
                  rfl
                refine two_ (i := 4) (j := 8) (Ni := some 65) (Nj := some 69) #[true, true, true, true, true, true, true, true, false, false, false, false, false, false] #[true, true, true, true, false, true, true, true, true, false, false, false, false, false] rfl rfl rfl rfl (by kernel_rfl) (by decide) (by decide) (fun K hK => ?_) (fun K hK => ?_)
                · refine Kd.R_append_rows_step (Kd.int .i64) (Rr := (Kd.int .i64).K (w6.drew.alloc (Obj.cells #[Value.int .i64 (m : Int)] 3))) (w0 := w) w.heap.size (by rfl) (.tmp 62) (.tmp 64) 50 3 (.int .i64 0) 8 rfl Try.underlying50 info3 rfl (by decide) (by omega) v1 (lst (endK l big) m) [(m : Int)] (some ⟨w6.drew.heap.size, 0, none⟩) 1 1 (fun k => ((w.heap.size + 4 ≤ k ∧ some k ≠ v0.ownBlock) ∧ some k ≠ v2.ownBlock)) (fun _ => False) rfl rfl q2a0.out.r1 (one_reads q2a0b.out) int_KM (fun _ hk => hk.elim) q2a0.out.fr1 q2a0.out.hb q2a0.out.hs (by have := lst_len (endK l big) m; have := HLn.out; omega) ?_
                  intro q2b0v q2b0w ho hb hg hat
                  have q2b0 := Aside0.mk (q2a0.out.grow1 ho hb hg hat)
                  clear ho hb hg hat
                  refine hK.out _ _ ⟨LI.s1 q2b0.out, LI.s2 q2b0.out⟩ (fun hHeld => ?_)
                  clear hK K
                  refine norm_ (a' := ?_) ?_ ?_
                  rotate_left
                  · show Act.put _ (some 65) _ = _
                    simp only [Act.put, List.setIfInBounds_toArray, List.set_cons_zero, List.set_cons_succ, i64_w, i32_w]
                    rfl
                  refine pure_ (i := 10) (N := some 71) (v := ?_) (a' := ?_) #[true, true, true, true, true, true, true, true, false, false, true, false, false, false] rfl rfl (by kernel_rfl) (fun _ _ _ h => h) (Or.inl ⟨by rfl, ?_⟩) ?_ ?_
                  rotate_left
                  · intro w'
                    go_simp
                    with_reducible rfl
                  rotate_left
                  · simp only [Act.put, List.setIfInBounds_toArray, List.set_cons_zero, List.set_cons_succ, i64_w, i32_w]
                    rfl
                  refine one_ (i := 8) (N := some 69) #[true, true, true, true, true, true, true, true, true, false, true, false, false, false] rfl rfl (by kernel_rfl) (by decide) (fun K hK => ?_)
                  refine value_ (w1 := ?_) (v := ?_) (by rfl) rfl ?_ ?_
                  rotate_left 2
                  · go_simp
                    constructor
                    · rfl
                    · rfl
                  have q2b1 := Aside0.mk (q2b0.out.alloc (Obj.cells #[Value.int .i64 (m : Int)] 3))
                  have q2b1b := Aside0.mk (blk_new q2b0w (Obj.cells #[Value.int .i64 (m : Int)] 3))
                  have q2b1A := Aside0.mk (blk_alloc q2a0b.out (Obj.cells #[Value.int .i64 (m : Int)] 3))
                  refine hK.out _ _ ⟨LI.s1 q2b1.out, LI.s2 q2b1.out⟩ (fun hHeld => ?_)
                  clear hK K
                  refine norm_ (a' := ?_) ?_ ?_
                  rotate_left
                  · show Act.put _ (some 69) _ = _
                    simp only [Act.put, List.setIfInBounds_toArray, List.set_cons_zero, List.set_cons_succ, i64_w, i32_w]
                    rfl
                  refine one_ (i := 9) (N := some 70) #[true, true, true, true, true, true, true, true, true, true, true, false, false, false] rfl rfl (by kernel_rfl) (by decide) (fun K hK => ?_)
                  refine Kd.R_append_rows_step (Kd.int .i64) (Rr := (Kd.int .i64).K (q2b0w.alloc (Obj.cells #[Value.int .i64 (m : Int)] 3))) (w0 := w) w.heap.size (by rfl) (.tmp 67) (.tmp 69) 50 3 (.int .i64 0) 8 rfl Try.underlying50 info3 rfl (by decide) (by omega) v2 (lst (haltK l big) m) [(m : Int)] (some ⟨q2b0w.heap.size, 0, none⟩) 1 1 (fun k => ((w.heap.size + 4 ≤ k ∧ some k ≠ v0.ownBlock) ∧ some k ≠ q2b0v.ownBlock)) (fun _ => False) rfl rfl q2b1.out.r2 (one_reads q2b1b.out) int_KM (fun _ hk => hk.elim) q2b1.out.fr2 q2b1.out.hb q2b1.out.hs (by have := lst_len (haltK l big) m; have := HLn.out; omega) ?_
                  intro q2b2v q2b2w ho hb hg hat
                  have q2b2 := Aside0.mk (q2b1.out.grow2 ho hb hg hat)
                  clear ho hb hg hat
                  refine hK.out _ _ ⟨LI.s1 q2b2.out, LI.s2 q2b2.out⟩ (fun hHeld => ?_)
                  clear hK K
                  refine norm_ (a' := ?_) ?_ ?_
                  rotate_left
                  · show Act.put _ (some 70) _ = _
                    simp only [Act.put, List.setIfInBounds_toArray, List.set_cons_zero, List.set_cons_succ, i64_w, i32_w]
                    rfl
                  obtain ⟨q2bsA1, q2bsc1, q2bse1⟩ := Kd.R_slice q2b2.out.r1
                  simp only [List.length_append, List.length_cons, List.length_nil, Nat.zero_add] at q2bse1
                  subst q2bse1
                  obtain ⟨q2bsA2, q2bsc2, q2bse2⟩ := Kd.R_slice q2b2.out.r2
                  simp only [List.length_append, List.length_cons, List.length_nil, Nat.zero_add] at q2bse2
                  subst q2bse2
                  have hp := LI.s1 q2b2.out
                  have hf := LI.fz q2b2.out 1
                  refine last_ (i := 11) (N := none) #[true, true, true, true, true, true, true, true, true, true, true, true, false, false] rfl rfl (by kernel_rfl) (by decide) (fun K hK => ?_)
                  refine skip_ (w1 := ?_) (by rfl) rfl ?_ ?_
                  rotate_left
                  · go_simp
                    rfl
                  have q2bs1 := Aside0.mk (q2b2.out.put 1 (.slice q2bsA1 ((lst (endK l big) m).length + 1) q2bsc1) rfl)
                  refine hK.out _ _ ?_
                  clear hK K hp hf
                  generalize World.setCell _ _ _ = q2bsx at q2bs1 ⊢
                  refine pure_ (i := 12) (N := some 72) (v := ?_) (a' := ?_) #[true, true, true, true, true, true, true, true, true, true, true, true, true, false] rfl rfl (by kernel_rfl) (fun _ _ _ h => h) (Or.inl ⟨by rfl, ?_⟩) ?_ ?_
                  rotate_left
                  · intro w'
                    go_simp
                    with_reducible rfl
                  rotate_left
                  · simp only [Act.put, List.setIfInBounds_toArray, List.set_cons_zero, List.set_cons_succ, i64_w, i32_w]
                    rfl
                  have hp := LI.s2 q2bs1.out
                  have hf := LI.fz q2bs1.out 2
                  refine last_ (i := 13) (N := none) #[true, true, true, true, true, true, true, true, true, true, true, true, true, true] rfl rfl (by kernel_rfl) (by decide) (fun K hK => ?_)
                  refine skip_ (w1 := ?_) (by rfl) rfl ?_ ?_
                  rotate_left
                  · go_simp
                    rfl
                  have q2bs2 := Aside0.mk (q2bs1.out.put 2 (.slice q2bsA2 ((lst (haltK l big) m).length + 1) q2bsc2) rfl)
                  refine hK.out _ _ ?_
                  clear hK K hp hf
                  refine done_ (by kernel_rfl) ?_
                  generalize World.setCell _ _ _ = q2bsw at q2bs2 ⊢
                  go_wp2
                  go_roundw
                  case measure => simp [intOf]; omega
                  case rel => exact ⟨m + 1, v0, (.slice q2bsA1 ((lst (endK l big) m).length + 1) q2bsc1), (.slice q2bsA2 ((lst (haltK l big) m).length + 1) q2bsc2), by omega, by go_num, ⟨LI.cast q2bs2.out (lst_no (p := begK l big) (m := m) (by first | (simp [begK, endK, haltK, bareK, *]; done) | (simp [begK, endK, haltK, bareK, inWK, *]; done))) (lst_yes (p := endK l big) (m := m) (by first | (simp [begK, endK, haltK, bareK, *]; done) | (simp [begK, endK, haltK, bareK, inWK, *]; done))) (lst_yes (p := haltK l big) (m := m) (by first | (simp [begK, endK, haltK, bareK, *]; done) | (simp [begK, endK, haltK, bareK, inWK, *]; done)))⟩⟩
                · refine value_ (w1 := ?_) (v := ?_) (by rfl) rfl ?_ ?_
                  rotate_left 2
                  · go_simp
                    constructor
                    · rfl
                    · rfl
                  have q2c1 := Aside0.mk (q2a0.out.alloc (Obj.cells #[Value.int .i64 (m : Int)] 3))
                  have q2c1b := Aside0.mk (show ((w6.drew.alloc (Obj.cells #[Value.int .i64 (m : Int)] 3)).alloc (Obj.cells #[Value.int .i64 (m : Int)] 3)).heap[w6.heap.size + 1]? = some (Obj.cells #[Value.int .i64 (m : Int)] 3) from heap_alloc2_new w6.drew (Obj.cells #[Value.int .i64 (m : Int)] 3) (Obj.cells #[Value.int .i64 (m : Int)] 3))
                  have q2c1A := Aside0.mk (blk_alloc q2a0b.out (Obj.cells #[Value.int .i64 (m : Int)] 3))
                  refine hK.out _ _ ⟨LI.s1 q2c1.out, LI.s2 q2c1.out⟩ (fun hHeld => ?_)
                  clear hK K
                  refine norm_ (a' := ?_) ?_ ?_
                  rotate_left
                  · show Act.put _ (some 69) _ = _
                    simp only [Act.put, List.setIfInBounds_toArray, List.set_cons_zero, List.set_cons_succ, i64_w, i32_w]
                    rfl
                  refine one_ (i := 4) (N := some 65) #[true, true, true, true, true, true, true, true, true, false, false, false, false, false] rfl rfl (by kernel_rfl) (by decide) (fun K hK => ?_)
                  refine Kd.R_append_rows_step (Kd.int .i64) (Rr := (Kd.int .i64).K ((w6.drew.alloc (Obj.cells #[Value.int .i64 (m : Int)] 3)).alloc (Obj.cells #[Value.int .i64 (m : Int)] 3))) (w0 := w) w.heap.size (by rfl) (.tmp 62) (.tmp 64) 50 3 (.int .i64 0) 8 rfl Try.underlying50 info3 rfl (by decide) (by omega) v1 (lst (endK l big) m) [(m : Int)] (some ⟨w6.drew.heap.size, 0, none⟩) 1 1 (fun k => ((w.heap.size + 4 ≤ k ∧ some k ≠ v0.ownBlock) ∧ some k ≠ v2.ownBlock)) (fun _ => False) rfl rfl q2c1.out.r1 (one_reads q2c1A.out) int_KM (fun _ hk => hk.elim) q2c1.out.fr1 q2c1.out.hb q2c1.out.hs (by have := lst_len (endK l big) m; have := HLn.out; omega) ?_
                  intro q2c2v q2c2w ho hb hg hat
                  have q2c2 := Aside0.mk (q2c1.out.grow1 ho hb hg hat)
                  have q2c2B := Aside0.mk (blk_grown q2c1b.out hg (q2a0.out.ne1 _ (by simp)))
                  clear ho hb hg hat
                  refine hK.out _ _ ⟨LI.s1 q2c2.out, LI.s2 q2c2.out⟩ (fun hHeld => ?_)
                  clear hK K
                  refine norm_ (a' := ?_) ?_ ?_
                  rotate_left
                  · show Act.put _ (some 65) _ = _
                    simp only [Act.put, List.setIfInBounds_toArray, List.set_cons_zero, List.set_cons_succ, i64_w, i32_w]
                    rfl
                  refine pure_ (i := 10) (N := some 71) (v := ?_) (a' := ?_) #[true, true, true, true, true, true, true, true, true, false, true, false, false, false] rfl rfl (by kernel_rfl) (fun _ _ _ h => h) (Or.inl ⟨by rfl, ?_⟩) ?_ ?_
                  rotate_left
                  · intro w'
                    go_simp
                    with_reducible rfl
                  rotate_left
                  · simp only [Act.put, List.setIfInBounds_toArray, List.set_cons_zero, List.set_cons_succ, i64_w, i32_w]
                    rfl
                  refine one_ (i := 9) (N := some 70) #[true, true, true, true, true, true, true, true, true, true, true, false, false, false] rfl rfl (by kernel_rfl) (by decide) (fun K hK => ?_)
                  refine Kd.R_append_rows_step (Kd.int .i64) (Rr := (Kd.int .i64).K q2c2w) (w0 := w) w.heap.size (by rfl) (.tmp 67) (.tmp 69) 50 3 (.int .i64 0) 8 rfl Try.underlying50 info3 rfl (by decide) (by omega) v2 (lst (haltK l big) m) [(m : Int)] (some ⟨w6.heap.size + 1, 0, none⟩) 1 1 (fun k => ((w.heap.size + 4 ≤ k ∧ some k ≠ v0.ownBlock) ∧ some k ≠ q2c2v.ownBlock)) (fun _ => False) rfl rfl q2c2.out.r2 (one_reads q2c2B.out) int_KM (fun _ hk => hk.elim) q2c2.out.fr2 q2c2.out.hb q2c2.out.hs (by have := lst_len (haltK l big) m; have := HLn.out; omega) ?_
                  intro q2c3v q2c3w ho hb hg hat
                  have q2c3 := Aside0.mk (q2c2.out.grow2 ho hb hg hat)
                  clear ho hb hg hat
                  refine hK.out _ _ ⟨LI.s1 q2c3.out, LI.s2 q2c3.out⟩ (fun hHeld => ?_)
                  clear hK K
                  refine norm_ (a' := ?_) ?_ ?_
                  rotate_left
                  · show Act.put _ (some 70) _ = _
                    simp only [Act.put, List.setIfInBounds_toArray, List.set_cons_zero, List.set_cons_succ, i64_w, i32_w]
                    rfl
                  obtain ⟨q2csA1, q2csc1, q2cse1⟩ := Kd.R_slice q2c3.out.r1
                  simp only [List.length_append, List.length_cons, List.length_nil, Nat.zero_add] at q2cse1
                  subst q2cse1
                  obtain ⟨q2csA2, q2csc2, q2cse2⟩ := Kd.R_slice q2c3.out.r2
                  simp only [List.length_append, List.length_cons, List.length_nil, Nat.zero_add] at q2cse2
                  subst q2cse2
                  have hp := LI.s1 q2c3.out
                  have hf := LI.fz q2c3.out 1
                  refine last_ (i := 11) (N := none) #[true, true, true, true, true, true, true, true, true, true, true, true, false, false] rfl rfl (by kernel_rfl) (by decide) (fun K hK => ?_)
                  refine skip_ (w1 := ?_) (by rfl) rfl ?_ ?_
                  rotate_left
                  · go_simp
                    rfl
                  have q2cs1 := Aside0.mk (q2c3.out.put 1 (.slice q2csA1 ((lst (endK l big) m).length + 1) q2csc1) rfl)
                  refine hK.out _ _ ?_
                  clear hK K hp hf
                  generalize World.setCell _ _ _ = q2csx at q2cs1 ⊢
                  refine pure_ (i := 12) (N := some 72) (v := ?_) (a' := ?_) #[true, true, true, true, true, true, true, true, true, true, true, true, true, false] rfl rfl (by kernel_rfl) (fun _ _ _ h => h) (Or.inl ⟨by rfl, ?_⟩) ?_ ?_
                  rotate_left
                  · intro w'
                    go_simp
                    with_reducible rfl
                  rotate_left
                  · simp only [Act.put, List.setIfInBounds_toArray, List.set_cons_zero, List.set_cons_succ, i64_w, i32_w]
                    rfl
                  have hp := LI.s2 q2cs1.out
                  have hf := LI.fz q2cs1.out 2
                  refine last_ (i := 13) (N := none) #[true, true, true, true, true, true, true, true, true, true, true, true, true, true] rfl rfl (by kernel_rfl) (by decide) (fun K hK => ?_)
                  refine skip_ (w1 := ?_) (by rfl) rfl ?_ ?_
                  rotate_left
                  · go_simp
                    rfl
                  have q2cs2 := Aside0.mk (q2cs1.out.put 2 (.slice q2csA2 ((lst (haltK l big) m).length + 1) q2csc2) rfl)
                  refine hK.out _ _ ?_
                  clear hK K hp hf
                  refine done_ (by kernel_rfl) ?_
                  generalize World.setCell _ _ _ = q2csw at q2cs2 ⊢
                  go_wp2
                  go_roundw
                  case measure => simp [intOf]; omega
                  case rel => exact ⟨m + 1, v0, (.slice q2csA1 ((lst (endK l big) m).length + 1) q2csc1), (.slice q2csA2 ((lst (haltK l big) m).length + 1) q2csc2), by omega, by go_num, ⟨LI.cast q2cs2.out (lst_no (p := begK l big) (m := m) (by first | (simp [begK, endK, haltK, bareK, *]; done) | (simp [begK, endK, haltK, bareK, inWK, *]; done))) (lst_yes (p := endK l big) (m := m) (by first | (simp [begK, endK, haltK, bareK, *]; done) | (simp [begK, endK, haltK, bareK, inWK, *]; done))) (lst_yes (p := haltK l big) (m := m) (by first | (simp [begK, endK, haltK, bareK, *]; done) | (simp [begK, endK, haltK, bareK, inWK, *]; done)))⟩⟩
              · refine value_ (w1 := ?_) (v := ?_) (by rfl) rfl ?_ ?_
                rotate_left 2
                · go_simp
                  constructor
                  · rfl
                  · rfl
                have q2d0 := Aside0.mk (q2D.out.alloc (Obj.cells #[Value.int .i64 (m : Int)] 3))
                have q2d0b := Aside0.mk (blk_new w6.drew (Obj.cells #[Value.int .i64 (m : Int)] 3))
                refine hK.out _ _ ⟨LI.s1 q2d0.out, LI.s2 q2d0.out⟩ (fun hHeld => ?_)
                clear hK K
                refine norm_ (a' := ?_) ?_ ?_
                rotate_left
                · show Act.put _ (some 69) _ = _
                  simp only [Act.put, List.setIfInBounds_toArray, List.set_cons_zero, List.set_cons_succ, i64_w, i32_w]
                  rfl
                refine one_ (i := 3) (N := some 64) #[true, true, true, true, false, true, true, true, true, false, false, false, false, false] rfl rfl (by kernel_rfl) (by decide) (fun K hK => ?_)
                refine value_ (w1 := ?_) (v := ?_) (by rfl) rfl ?_ ?_
                rotate_left 2
                · go_simp
                  constructor
                  · rfl
                  · rfl
                have q2d1 := Aside0.mk (q2d0.out.alloc (Obj.cells #[Value.int .i64 (m : Int)] 3))
                have q2d1b := Aside0.mk (show ((w6.drew.alloc (Obj.cells #[Value.int .i64 (m : Int)] 3)).alloc (Obj.cells #[Value.int .i64 (m : Int)] 3)).heap[w6.heap.size + 1]? = some (Obj.cells #[Value.int .i64 (m : Int)] 3) from heap_alloc2_new w6.drew (Obj.cells #[Value.int .i64 (m : Int)] 3) (Obj.cells #[Value.int .i64 (m : Int)] 3))
                have q2d1B := Aside0.mk (blk_alloc q2d0b.out (Obj.cells #[Value.int .i64 (m : Int)] 3))
                refine hK.out _ _ ⟨LI.s1 q2d1.out, LI.s2 q2d1.out⟩ (fun hHeld => ?_)
                clear hK K
                refine norm_ (a' := ?_) ?_ ?_
                rotate_left
                · show Act.put _ (some 64) _ = _
                  simp only [Act.put, List.setIfInBounds_toArray, List.set_cons_zero, List.set_cons_succ, i64_w, i32_w]
                  rfl
                refine one_ (i := 4) (N := some 65) #[true, true, true, true, true, true, true, true, true, false, false, false, false, false] rfl rfl (by kernel_rfl) (by decide) (fun K hK => ?_)
                refine Kd.R_append_rows_step (Kd.int .i64) (Rr := (Kd.int .i64).K ((w6.drew.alloc (Obj.cells #[Value.int .i64 (m : Int)] 3)).alloc (Obj.cells #[Value.int .i64 (m : Int)] 3))) (w0 := w) w.heap.size (by rfl) (.tmp 62) (.tmp 64) 50 3 (.int .i64 0) 8 rfl Try.underlying50 info3 rfl (by decide) (by omega) v1 (lst (endK l big) m) [(m : Int)] (some ⟨w6.heap.size + 1, 0, none⟩) 1 1 (fun k => ((w.heap.size + 4 ≤ k ∧ some k ≠ v0.ownBlock) ∧ some k ≠ v2.ownBlock)) (fun _ => False) rfl rfl q2d1.out.r1 (one_reads q2d1b.out) int_KM (fun _ hk => hk.elim) q2d1.out.fr1 q2d1.out.hb q2d1.out.hs (by have := lst_len (endK l big) m; have := HLn.out; omega) ?_
                intro q2d2v q2d2w ho hb hg hat
                have q2d2 := Aside0.mk (q2d1.out.grow1 ho hb hg hat)
                have q2d2B := Aside0.mk (blk_grown q2d1B.out hg (q2D.out.ne1 _ (by simp)))
                clear ho hb hg hat
                refine hK.out _ _ ⟨LI.s1 q2d2.out, LI.s2 q2d2.out⟩ (fun hHeld => ?_)
                clear hK K
                refine norm_ (a' := ?_) ?_ ?_
                rotate_left
                · show Act.put _ (some 65) _ = _
                  simp only [Act.put, List.setIfInBounds_toArray, List.set_cons_zero, List.set_cons_succ, i64_w, i32_w]
                  rfl
                refine pure_ (i := 10) (N := some 71) (v := ?_) (a' := ?_) #[true, true, true, true, true, true, true, true, true, false, true, false, false, false] rfl rfl (by kernel_rfl) (fun _ _ _ h => h) (Or.inl ⟨by rfl, ?_⟩) ?_ ?_
                rotate_left
                · intro w'
                  go_simp
                  with_reducible rfl
                rotate_left
                · simp only [Act.put, List.setIfInBounds_toArray, List.set_cons_zero, List.set_cons_succ, i64_w, i32_w]
                  rfl
                refine one_ (i := 9) (N := some 70) #[true, true, true, true, true, true, true, true, true, true, true, false, false, false] rfl rfl (by kernel_rfl) (by decide) (fun K hK => ?_)
                refine Kd.R_append_rows_step (Kd.int .i64) (Rr := (Kd.int .i64).K q2d2w) (w0 := w) w.heap.size (by rfl) (.tmp 67) (.tmp 69) 50 3 (.int .i64 0) 8 rfl Try.underlying50 info3 rfl (by decide) (by omega) v2 (lst (haltK l big) m) [(m : Int)] (some ⟨w6.drew.heap.size, 0, none⟩) 1 1 (fun k => ((w.heap.size + 4 ≤ k ∧ some k ≠ v0.ownBlock) ∧ some k ≠ q2d2v.ownBlock)) (fun _ => False) rfl rfl q2d2.out.r2 (one_reads q2d2B.out) int_KM (fun _ hk => hk.elim) q2d2.out.fr2 q2d2.out.hb q2d2.out.hs (by have := lst_len (haltK l big) m; have := HLn.out; omega) ?_
                intro q2d3v q2d3w ho hb hg hat
                have q2d3 := Aside0.mk (q2d2.out.grow2 ho hb hg hat)
                clear ho hb hg hat
                refine hK.out _ _ ⟨LI.s1 q2d3.out, LI.s2 q2d3.out⟩ (fun hHeld => ?_)
                clear hK K
                refine norm_ (a' := ?_) ?_ ?_
                rotate_left
                · show Act.put _ (some 70) _ = _
                  simp only [Act.put, List.setIfInBounds_toArray, List.set_cons_zero, List.set_cons_succ, i64_w, i32_w]
                  rfl
                obtain ⟨q2dsA1, q2dsc1, q2dse1⟩ := Kd.R_slice q2d3.out.r1
                simp only [List.length_append, List.length_cons, List.length_nil, Nat.zero_add] at q2dse1
                subst q2dse1
                obtain ⟨q2dsA2, q2dsc2, q2dse2⟩ := Kd.R_slice q2d3.out.r2
                simp only [List.length_append, List.length_cons, List.length_nil, Nat.zero_add] at q2dse2
                subst q2dse2
                have hp := LI.s1 q2d3.out
                have hf := LI.fz q2d3.out 1
                refine last_ (i := 11) (N := none) #[true, true, true, true, true, true, true, true, true, true, true, true, false, false] rfl rfl (by kernel_rfl) (by decide) (fun K hK => ?_)
                refine skip_ (w1 := ?_) (by rfl) rfl ?_ ?_
                rotate_left
                · go_simp
                  rfl
                have q2ds1 := Aside0.mk (q2d3.out.put 1 (.slice q2dsA1 ((lst (endK l big) m).length + 1) q2dsc1) rfl)
                refine hK.out _ _ ?_
                clear hK K hp hf
                generalize World.setCell _ _ _ = q2dsx at q2ds1 ⊢
                refine pure_ (i := 12) (N := some 72) (v := ?_) (a' := ?_) #[true, true, true, true, true, true, true, true, true, true, true, true, true, false] rfl rfl (by kernel_rfl) (fun _ _ _ h => h) (Or.inl ⟨by rfl, ?_⟩) ?_ ?_
                rotate_left
                · intro w'
                  go_simp
                  with_reducible rfl
                rotate_left
                · simp only [Act.put, List.setIfInBounds_toArray, List.set_cons_zero, List.set_cons_succ, i64_w, i32_w]
                  rfl
                have hp := LI.s2 q2ds1.out
                have hf := LI.fz q2ds1.out 2
                refine last_ (i := 13) (N := none) #[true, true, true, true, true, true, true, true, true, true, true, true, true, true] rfl rfl (by kernel_rfl) (by decide) (fun K hK => ?_)
                refine skip_ (w1 := ?_) (by rfl) rfl ?_ ?_
                rotate_left
                · go_simp
                  rfl
                have q2ds2 := Aside0.mk (q2ds1.out.put 2 (.slice q2dsA2 ((lst (haltK l big) m).length + 1) q2dsc2) rfl)
                refine hK.out _ _ ?_
                clear hK K hp hf
                refine done_ (by kernel_rfl) ?_
                generalize World.setCell _ _ _ = q2dsw at q2ds2 ⊢
                go_wp2
                go_roundw
                case measure => simp [intOf]; omega
                case rel => exact ⟨m + 1, v0, (.slice q2dsA1 ((lst (endK l big) m).length + 1) q2dsc1), (.slice q2dsA2 ((lst (haltK l big) m).length + 1) q2dsc2), by omega, by go_num, ⟨LI.cast q2ds2.out (lst_no (p := begK l big) (m := m) (by first | (simp [begK, endK, haltK, bareK, *]; done) | (simp [begK, endK, haltK, bareK, inWK, *]; done))) (lst_yes (p := endK l big) (m := m) (by first | (simp [begK, endK, haltK, bareK, *]; done) | (simp [begK, endK, haltK, bareK, inWK, *]; done))) (lst_yes (p := haltK l big) (m := m) (by first | (simp [begK, endK, haltK, bareK, *]; done) | (simp [begK, endK, haltK, bareK, inWK, *]; done)))⟩⟩
          · have h1b : (kindAt l big (m - 1) != kindAt l big m) = true := bne_iff_ne.mpr h1
            have hp0 := LI.s0 HL5.out
            have hp1 := LI.s1 HL5.out
            have hp2 := LI.s2 HL5.out
            have hf0 := LI.fz HL5.out 0
            have hf1 := LI.fz HL5.out 1
            have hf2 := LI.fz HL5.out 2
            go_wp2_with (first | ((with_reducible refine gate_builtin (b := .append) (xs := #[.tmp 50, .tmp 52]) rfl ?_); at_builtin; refine Kd.R_append (Kd.int .i64) (w0 := w) w.heap.size rfl (.tmp 50) (.tmp 52) 50 3 (.int .i64 0) 8 rfl Try.underlying50 info3 rfl (by decide) (by omega) v0 (lst (begK l big) m) (m : Int) [.int .i64 (m : Int)] (fun k => ((w.heap.size + 4 ≤ k ∧ some k ≠ v1.ownBlock) ∧ some k ≠ v2.ownBlock)) (fun _ => False) rfl rfl ?aP (fun _ hk => hk.elim) ?aF ?aO ?aB ?aS ?aL ?_; (case aP => exact rfl); (case aF => exact HL5.out.fr0); (case aO => exact HL5.out.r0); (case aB => exact HL5.out.hb); (case aS => exact HL5.out.hs); (case aL => have := lst_len (begK l big) m; have := HLn.out; omega)))
            intro vn wn ho hb hg hat
            have HLn1 := Aside0.mk (HL5.out.grow0 ho hb hg hat)
            clear ho hb hg hat hp0 hp1 hp2 hf0 hf1 hf2 hx0 hx1
            obtain ⟨An, cn, en⟩ := Kd.R_slice HLn1.out.r0
            simp only [List.length_append, List.length_cons, List.length_nil, Nat.zero_add] at en
            subst en
            have hp := LI.s0 HLn1.out
            have hf := LI.fz HLn1.out 0
            have HLn2 := Aside0.mk (HLn1.out.put 0 (.slice An ((lst (begK l big) m).length + 1) cn) rfl)
            have hx0 : (wn.setCell ⟨w.heap.size + 1 + 1 + 1, 0, none⟩ (.slice An ((lst (begK l big) m).length + 1) cn)).cell? ⟨w.heap.size, 0, none⟩ = some (.slice A l.length c) := by rw [blk_cell HLn2.out.c0]; rfl
            have hx1 : (wn.setCell ⟨w.heap.size + 1 + 1 + 1, 0, none⟩ (.slice An ((lst (begK l big) m).length + 1) cn)).cell? ⟨w.heap.size + 1, 0, none⟩ = some (.bool big) := by rw [blk_cell HLn2.out.c1]; rfl
            go_wp2_with fail
            refine (kind_calls A c l big ⟨w.heap.size, 0, none⟩ ⟨w.heap.size + 1, 0, none⟩ ((m : Int) + 1) (wn.setCell ⟨w.heap.size + 1 + 1 + 1, 0, none⟩ (.slice An ((lst (begK l big) m).length + 1) cn)) (Kd.C_below HR.out HLn2.out.hb) hx0 hx1).mono ?_
            rintro e w7 ⟨rfl, hd7⟩
            have HL7 := Aside0.mk (HLn2.out.step hd7.below)
            clear hd7 hx0 hx1
            have hx0 : w7.cell? ⟨w.heap.size, 0, none⟩ = some (.slice A l.length c) := by rw [blk_cell HL7.out.c0]; rfl
            have hx1 : w7.cell? ⟨w.heap.size + 1, 0, none⟩ = some (.bool big) := by rw [blk_cell HL7.out.c1]; rfl
            by_cases h2 : kindAt l big (m + 1) = kindAt l big m
            · have h2b : (kindAt l big (m + 1) != kindAt l big m) = false := bne_eq_false_iff_eq.mpr h2
              go_wp2
              go_roundw
              case measure => simp [intOf]; omega
              case rel => exact ⟨m + 1, (Value.slice An ((lst (begK l big) m).length + 1) cn), v1, v2, by omega, by go_num, ⟨LI.cast HL7.out (lst_yes (p := begK l big) (m := m) (by first | (simp [begK, endK, haltK, bareK, *]; done) | (simp [begK, endK, haltK, bareK, inWK, *]; done))) (lst_no (p := endK l big) (m := m) (by first | (simp [begK, endK, haltK, bareK, *]; done) | (simp [begK, endK, haltK, bareK, inWK, *]; done))) (lst_no (p := haltK l big) (m := m) (by first | (simp [begK, endK, haltK, bareK, *]; done) | (simp [begK, endK, haltK, bareK, inWK, *]; done)))⟩⟩
            · have h2b : (kindAt l big (m + 1) != kindAt l big m) = true := bne_iff_ne.mpr h2
              go_upto_region 13 with (fail)
              have q3D := Aside0.mk (HL7.out.drew)
              refine start_ (n := 14) (S := fun w' => w'.cell? ⟨w.heap.size + 1 + 1 + 1, 1, none⟩ = some v1 ∧ w'.cell? ⟨w.heap.size + 1 + 1 + 1, 2, none⟩ = some v2) (ds := [11, 13]) #[false, false, false, false, false, false, false, false, false, false, false, false, false, false] (by kernel_rfl) rfl rfl ⟨LI.s1 q3D.out, LI.s2 q3D.out⟩ (fun hHeld => ?_)
              refine pure_ (i := 0) (N := some 61) (v := ?_) (a' := ?_) #[true, false, false, false, false, false, false, false, false, false, false, false, false, false] rfl rfl (by kernel_rfl) (fun _ _ _ h => h) (Or.inl ⟨by rfl, ?_⟩) ?_ ?_
              rotate_left
              · intro w'
                go_simp
                with_reducible rfl
              rotate_left
              · simp only [Act.put, List.setIfInBounds_toArray, List.set_cons_zero, List.set_cons_succ, i64_w, i32_w]
                rfl
              refine pure_ (i := 2) (N := some 63) (v := ?_) (a' := ?_) #[true, false, true, false, false, false, false, false, false, false, false, false, false, false] rfl rfl (by kernel_rfl) (fun _ _ _ h => h) (Or.inl ⟨by rfl, ?_⟩) ?_ ?_
              rotate_left
              · intro w'
                go_simp
                with_reducible rfl
              rotate_left
              · simp only [Act.put, List.setIfInBounds_toArray, List.set_cons_zero, List.set_cons_succ, i64_w, i32_w]
                rfl
              refine pure_ (i := 5) (N := some 66) (v := ?_) (a' := ?_) #[true, false, true, false, false, true, false, false, false, false, false, false, false, false] rfl rfl (by kernel_rfl) (fun _ _ _ h => h) (Or.inl ⟨by rfl, ?_⟩) ?_ ?_
              rotate_left
              · intro w'
                go_simp
                with_reducible rfl
              rotate_left
              · simp only [Act.put, List.setIfInBounds_toArray, List.set_cons_zero, List.set_cons_succ, i64_w, i32_w]
                rfl
              refine pure_ (i := 7) (N := some 68) (v := ?_) (a' := ?_) #[true, false, true, false, false, true, false, true, false, false, false, false, false, false] rfl rfl (by kernel_rfl) (fun _ _ _ h => h) (Or.inl ⟨by rfl, ?_⟩) ?_ ?_
              rotate_left
              · intro w'
                go_simp
                with_reducible rfl
              rotate_left
              · simp only [Act.put, List.setIfInBounds_toArray, List.set_cons_zero, List.set_cons_succ, i64_w, i32_w]
                rfl
              refine take_ (i := 1) (N := some 62) (v := ?_) (a' := ?_) #[true, true, true, false, false, true, false, true, false, false, false, false, false, false] rfl rfl (by kernel_rfl) (fun _ _ _ h => h) (Or.inl ⟨by rfl, ?_⟩) hHeld ?_ ?_
              rotate_left
              · rintro w' ⟨s0, s1⟩
                go_simp
                with_reducible rfl
              rotate_left
              · simp only [Act.put, List.setIfInBounds_toArray, List.set_cons_zero, List.set_cons_succ, i64_w, i32_w]
                rfl
              refine take_ (i := 6) (N := some 67) (v := ?_) (a' := ?_) #[true, true, true, false, false, true, true, true, false, false, false, false, false, false] rfl rfl (by kernel_rfl) (fun _ _ _ h => h) (Or.inl ⟨by rfl, ?_⟩) hHeld ?_ ?_
              rotate_left
              · rintro w' ⟨s0, s1⟩
                go_simp
                with_reducible rfl
              rotate_left
              · simp only [Act.put, List.setIfInBounds_toArray, List.set_cons_zero, List.set_cons_succ, i64_w, i32_w]
                rfl
              refine two_ (i := 3) (j := 8) (Ni := some 64) (Nj := some 69) #[true, true, true, true, false, true, true, true, false, false, false, false, false, false] #[true, true, true, false, false, true, true, true, true, false, false, false, false, false] rfl rfl rfl rfl (by kernel_rfl) (by decide) (by decide) (fun K hK => ?_) (fun K hK => ?_)
              · refine value_ (w1 := ?_) (v := ?_) (by rfl) rfl ?_ ?_
                rotate_left 2
                · go_simp
                  constructor
                  · rfl
                  · rfl
                have q3a0 := Aside0.mk (q3D.out.alloc (Obj.cells #[Value.int .i64 (m : Int)] 3))
                have q3a0b := Aside0.mk (blk_new w7.drew (Obj.cells #[Value.int .i64 (m : Int)] 3))
                refine hK.out _ _ ⟨LI.s1 q3a0.out, LI.s2 q3a0.out⟩ (fun hHeld => ?_)
                clear hK K
                refine norm_ (a' := ?_) ?_ ?_
                rotate_left
                · show Act.put _ (some 64) _ = _
                  simp only [Act.put, List.setIfInBounds_toArray, List.set_cons_zero, List.set_cons_succ, i64_w, i32_w]
                  rfl
                refine two_ (i := 4) (j := 8) (Ni := some 65) (Nj := some 69) #[true, true, true, true, true, true, true, true, false, false, false, false, false, false] #[true, true, true, true, false, true, true, true, true, false, false, false, false, false] rfl rfl rfl rfl (by kernel_rfl) (by decide) (by decide) (fun K hK => ?_) (fun K hK => ?_)
                · refine Kd.R_append_rows_step (Kd.int .i64) (Rr := (Kd.int .i64).K (w7.drew.alloc (Obj.cells #[Value.int .i64 (m : Int)] 3))) (w0 := w) w.heap.size (by rfl) (.tmp 62) (.tmp 64) 50 3 (.int .i64 0) 8 rfl Try.underlying50 info3 rfl (by decide) (by omega) v1 (lst (endK l big) m) [(m : Int)] (some ⟨w7.drew.heap.size, 0, none⟩) 1 1 (fun k => ((w.heap.size + 4 ≤ k ∧ some k ≠ (Value.slice An ((lst (begK l big) m).length + 1) cn).ownBlock) ∧ some k ≠ v2.ownBlock)) (fun _ => False) rfl rfl q3a0.out.r1 (one_reads q3a0b.out) int_KM (fun _ hk => hk.elim) q3a0.out.fr1 q3a0.out.hb q3a0.out.hs (by have := lst_len (endK l big) m; have := HLn.out; omega) ?_
                  intro q3b0v q3b0w ho hb hg hat
                  have q3b0 := Aside0.mk (q3a0.out.grow1 ho hb hg hat)
                  clear ho hb hg hat
                  refine hK.out _ _ ⟨LI.s1 q3b0.out, LI.s2 q3b0.out⟩ (fun hHeld => ?_)
                  clear hK K
                  refine norm_ (a' := ?_) ?_ ?_
                  rotate_left
                  · show Act.put _ (some 65) _ = _
                    simp only [Act.put, List.setIfInBounds_toArray, List.set_cons_zero, List.set_cons_succ, i64_w, i32_w]
                    rfl
                  refine pure_ (i := 10) (N := some 71) (v := ?_) (a' := ?_) #[true, true, true, true, true, true, true, true, false, false, true, false, false, false] rfl rfl (by kernel_rfl) (fun _ _ _ h => h) (Or.inl ⟨by rfl, ?_⟩) ?_ ?_
                  rotate_left
                  · intro w'
                    go_simp
                    with_reducible rfl
                  rotate_left
                  · simp only [Act.put, List.setIfInBounds_toArray, List.set_cons_zero, List.set_cons_succ, i64_w, i32_w]
                    rfl
                  refine one_ (i := 8) (N := some 69) #[true, true, true, true, true, true, true, true, true, false, true, false, false, false] rfl rfl (by kernel_rfl) (by decide) (fun K hK => ?_)
                  refine value_ (w1 := ?_) (v := ?_) (by rfl) rfl ?_ ?_
                  rotate_left 2
                  · go_simp
                    constructor
                    · rfl
                    · rfl
                  have q3b1 := Aside0.mk (q3b0.out.alloc (Obj.cells #[Value.int .i64 (m : Int)] 3))
                  have q3b1b := Aside0.mk (blk_new q3b0w (Obj.cells #[Value.int .i64 (m : Int)] 3))
                  have q3b1A := Aside0.mk (blk_alloc q3a0b.out (Obj.cells #[Value.int .i64 (m : Int)] 3))
                  refine hK.out _ _ ⟨LI.s1 q3b1.out, LI.s2 q3b1.out⟩ (fun hHeld => ?_)
                  clear hK K
                  refine norm_ (a' := ?_) ?_ ?_
                  rotate_left
                  · show Act.put _ (some 69) _ = _
                    simp only [Act.put, List.setIfInBounds_toArray, List.set_cons_zero, List.set_cons_succ, i64_w, i32_w]
                    rfl
                  refine one_ (i := 9) (N := some 70) #[true, true, true, true, true, true, true, true, true, true, true, false, false, false] rfl rfl (by kernel_rfl) (by decide) (fun K hK => ?_)
                  refine Kd.R_append_rows_step (Kd.int .i64) (Rr := (Kd.int .i64).K (q3b0w.alloc (Obj.cells #[Value.int .i64 (m : Int)] 3))) (w0 := w) w.heap.size (by rfl) (.tmp 67) (.tmp 69) 50 3 (.int .i64 0) 8 rfl Try.underlying50 info3 rfl (by decide) (by omega) v2 (lst (haltK l big) m) [(m : Int)] (some ⟨q3b0w.heap.size, 0, none⟩) 1 1 (fun k => ((w.heap.size + 4 ≤ k ∧ some k ≠ (Value.slice An ((lst (begK l big) m).length + 1) cn).ownBlock) ∧ some k ≠ q3b0v.ownBlock)) (fun _ => False) rfl rfl q3b1.out.r2 (one_reads q3b1b.out) int_KM (fun _ hk => hk.elim) q3b1.out.fr2 q3b1.out.hb q3b1.out.hs (by have := lst_len (haltK l big) m; have := HLn.out; omega) ?_
                  intro q3b2v q3b2w ho hb hg hat
                  have q3b2 := Aside0.mk (q3b1.out.grow2 ho hb hg hat)
                  clear ho hb hg hat
                  refine hK.out _ _ ⟨LI.s1 q3b2.out, LI.s2 q3b2.out⟩ (fun hHeld => ?_)
                  clear hK K
                  refine norm_ (a' := ?_) ?_ ?_
                  rotate_left
                  · show Act.put _ (some 70) _ = _
                    simp only [Act.put, List.setIfInBounds_toArray, List.set_cons_zero, List.set_cons_succ, i64_w, i32_w]
                    rfl
                  obtain ⟨q3bsA1, q3bsc1, q3bse1⟩ := Kd.R_slice q3b2.out.r1
                  simp only [List.length_append, List.length_cons, List.length_nil, Nat.zero_add] at q3bse1
                  subst q3bse1
                  obtain ⟨q3bsA2, q3bsc2, q3bse2⟩ := Kd.R_slice q3b2.out.r2
                  simp only [List.length_append, List.length_cons, List.length_nil, Nat.zero_add] at q3bse2
                  subst q3bse2
                  have hp := LI.s1 q3b2.out
                  have hf := LI.fz q3b2.out 1
                  refine last_ (i := 11) (N := none) #[true, true, true, true, true, true, true, true, true, true, true, true, false, false] rfl rfl (by kernel_rfl) (by decide) (fun K hK => ?_)
                  refine skip_ (w1 := ?_) (by rfl) rfl ?_ ?_
                  rotate_left
                  · go_simp
                    rfl
                  have q3bs1 := Aside0.mk (q3b2.out.put 1 (.slice q3bsA1 ((lst (endK l big) m).length + 1) q3bsc1) rfl)
                  refine hK.out _ _ ?_
                  clear hK K hp hf
                  generalize World.setCell _ _ _ = q3bsx at q3bs1 ⊢
                  refine pure_ (i := 12) (N := some 72) (v := ?_) (a' := ?_) #[true, true, true, true, true, true, true, true, true, true, true, true, true, false] rfl rfl (by kernel_rfl) (fun _ _ _ h => h) (Or.inl ⟨by rfl, ?_⟩) ?_ ?_
                  rotate_left
                  · intro w'
                    go_simp
                    with_reducible rfl
                  rotate_left
                  · simp only [Act.put, List.setIfInBounds_toArray, List.set_cons_zero, List.set_cons_succ, i64_w, i32_w]
                    rfl
                  have hp := LI.s2 q3bs1.out
                  have hf := LI.fz q3bs1.out 2
                  refine last_ (i := 13) (N := none) #[true, true, true, true, true, true, true, true, true, true, true, true, true, true] rfl rfl (by kernel_rfl) (by decide) (fun K hK => ?_)
                  refine skip_ (w1 := ?_) (by rfl) rfl ?_ ?_
                  rotate_left
                  · go_simp
                    rfl
                  have q3bs2 := Aside0.mk (q3bs1.out.put 2 (.slice q3bsA2 ((lst (haltK l big) m).length + 1) q3bsc2) rfl)
                  refine hK.out _ _ ?_
                  clear hK K hp hf
                  refine done_ (by kernel_rfl) ?_
                  generalize World.setCell _ _ _ = q3bsw at q3bs2 ⊢
                  go_wp2
                  go_roundw
                  case measure => simp [intOf]; omega
                  case rel => exact ⟨m + 1, (Value.slice An ((lst (begK l big) m).length + 1) cn), (.slice q3bsA1 ((lst (endK l big) m).length + 1) q3bsc1), (.slice q3bsA2 ((lst (haltK l big) m).length + 1) q3bsc2), by omega, by go_num, ⟨LI.cast q3bs2.out (lst_yes (p := begK l big) (m := m) (by first | (simp [begK, endK, haltK, bareK, *]; done) | (simp [begK, endK, haltK, bareK, inWK, *]; done))) (lst_yes (p := endK l big) (m := m) (by first | (simp [begK, endK, haltK, bareK, *]; done) | (simp [begK, endK, haltK, bareK, inWK, *]; done))) (lst_yes (p := haltK l big) (m := m) (by first | (simp [begK, endK, haltK, bareK, *]; done) | (simp [begK, endK, haltK, bareK, inWK, *]; done)))⟩⟩
                · refine value_ (w1 := ?_) (v := ?_) (by rfl) rfl ?_ ?_
                  rotate_left 2
                  · go_simp
                    constructor
                    · rfl
                    · rfl
                  have q3c1 := Aside0.mk (q3a0.out.alloc (Obj.cells #[Value.int .i64 (m : Int)] 3))
                  have q3c1b := Aside0.mk (show ((w7.drew.alloc (Obj.cells #[Value.int .i64 (m : Int)] 3)).alloc (Obj.cells #[Value.int .i64 (m : Int)] 3)).heap[w7.heap.size + 1]? = some (Obj.cells #[Value.int .i64 (m : Int)] 3) from heap_alloc2_new w7.drew (Obj.cells #[Value.int .i64 (m : Int)] 3) (Obj.cells #[Value.int .i64 (m : Int)] 3))
                  have q3c1A := Aside0.mk (blk_alloc q3a0b.out (Obj.cells #[Value.int .i64 (m : Int)] 3))
                  refine hK.out _ _ ⟨LI.s1 q3c1.out, LI.s2 q3c1.out⟩ (fun hHeld => ?_)
                  clear hK K
                  refine norm_ (a' := ?_) ?_ ?_
                  rotate_left
                  · show Act.put _ (some 69) _ = _
                    simp only [Act.put, List.setIfInBounds_toArray, List.set_cons_zero, List.set_cons_succ, i64_w, i32_w]
                    rfl
                  refine one_ (i := 4) (N := some 65) #[true, true, true, true, true, true, true, true, true, false, false, false, false, false] rfl rfl (by kernel_rfl) (by decide) (fun K hK => ?_)
                  refine Kd.R_append_rows_step (Kd.int .i64) (Rr := (Kd.int .i64).K ((w7.drew.alloc (Obj.cells #[Value.int .i64 (m : Int)] 3)).alloc (Obj.cells #[Value.int .i64 (m : Int)] 3))) (w0 := w) w.heap.size (by rfl) (.tmp 62) (.tmp 64) 50 3 (.int .i64 0) 8 rfl Try.underlying50 info3 rfl (by decide) (by omega) v1 (lst (endK l big) m) [(m : Int)] (some ⟨w7.drew.heap.size, 0, none⟩) 1 1 (fun k => ((w.heap.size + 4 ≤ k ∧ some k ≠ (Value.slice An ((lst (begK l big) m).length + 1) cn).ownBlock) ∧ some k ≠ v2.ownBlock)) (fun _ => False) rfl rfl q3c1.out.r1 (one_reads q3c1A.out) int_KM (fun _ hk => hk.elim) q3c1.out.fr1 q3c1.out.hb q3c1.out.hs (by have := lst_len (endK l big) m; have := HLn.out; omega) ?_
                  intro q3c2v q3c2w ho hb hg hat
                  have q3c2 := Aside0.mk (q3c1.out.grow1 ho hb hg hat)
                  have q3c2B := Aside0.mk (blk_grown q3c1b.out hg (q3a0.out.ne1 _ (by simp)))
                  clear ho hb hg hat
                  refine hK.out _ _ ⟨LI.s1 q3c2.out, LI.s2 q3c2.out⟩ (fun hHeld => ?_)
                  clear hK K
                  refine norm_ (a' := ?_) ?_ ?_
                  rotate_left
                  · show Act.put _ (some 65) _ = _
                    simp only [Act.put, List.setIfInBounds_toArray, List.set_cons_zero, List.set_cons_succ, i64_w, i32_w]
                    rfl
                  refine pure_ (i := 10) (N := some 71) (v := ?_) (a' := ?_) #[true, true, true, true, true, true, true, true, true, false, true, false, false, false] rfl rfl (by kernel_rfl) (fun _ _ _ h => h) (Or.inl ⟨by rfl, ?_⟩) ?_ ?_
                  rotate_left
                  · intro w'
                    go_simp
                    with_reducible rfl
                  rotate_left
                  · simp only [Act.put, List.setIfInBounds_toArray, List.set_cons_zero, List.set_cons_succ, i64_w, i32_w]
                    rfl
                  refine one_ (i := 9) (N := some 70) #[true, true, true, true, true, true, true, true, true, true, true, false, false, false] rfl rfl (by kernel_rfl) (by decide) (fun K hK => ?_)
                  refine Kd.R_append_rows_step (Kd.int .i64) (Rr := (Kd.int .i64).K q3c2w) (w0 := w) w.heap.size (by rfl) (.tmp 67) (.tmp 69) 50 3 (.int .i64 0) 8 rfl Try.underlying50 info3 rfl (by decide) (by omega) v2 (lst (haltK l big) m) [(m : Int)] (some ⟨w7.heap.size + 1, 0, none⟩) 1 1 (fun k => ((w.heap.size + 4 ≤ k ∧ some k ≠ (Value.slice An ((lst (begK l big) m).length + 1) cn).ownBlock) ∧ some k ≠ q3c2v.ownBlock)) (fun _ => False) rfl rfl q3c2.out.r2 (one_reads q3c2B.out) int_KM (fun _ hk => hk.elim) q3c2.out.fr2 q3c2.out.hb q3c2.out.hs (by have := lst_len (haltK l big) m; have := HLn.out; omega) ?_
                  intro q3c3v q3c3w ho hb hg hat
                  have q3c3 := Aside0.mk (q3c2.out.grow2 ho hb hg hat)
                  clear ho hb hg hat
                  refine hK.out _ _ ⟨LI.s1 q3c3.out, LI.s2 q3c3.out⟩ (fun hHeld => ?_)
                  clear hK K
                  refine norm_ (a' := ?_) ?_ ?_
                  rotate_left
                  · show Act.put _ (some 70) _ = _
                    simp only [Act.put, List.setIfInBounds_toArray, List.set_cons_zero, List.set_cons_succ, i64_w, i32_w]
                    rfl
                  obtain ⟨q3csA1, q3csc1, q3cse1⟩ := Kd.R_slice q3c3.out.r1
                  simp only [List.length_append, List.length_cons, List.length_nil, Nat.zero_add] at q3cse1
                  subst q3cse1
                  obtain ⟨q3csA2, q3csc2, q3cse2⟩ := Kd.R_slice q3c3.out.r2
                  simp only [List.length_append, List.length_cons, List.length_nil, Nat.zero_add] at q3cse2
                  subst q3cse2
                  have hp := LI.s1 q3c3.out
                  have hf := LI.fz q3c3.out 1
                  refine last_ (i := 11) (N := none) #[true, true, true, true, true, true, true, true, true, true, true, true, false, false] rfl rfl (by kernel_rfl) (by decide) (fun K hK => ?_)
                  refine skip_ (w1 := ?_) (by rfl) rfl ?_ ?_
                  rotate_left
                  · go_simp
                    rfl
                  have q3cs1 := Aside0.mk (q3c3.out.put 1 (.slice q3csA1 ((lst (endK l big) m).length + 1) q3csc1) rfl)
                  refine hK.out _ _ ?_
                  clear hK K hp hf
                  generalize World.setCell _ _ _ = q3csx at q3cs1 ⊢
                  refine pure_ (i := 12) (N := some 72) (v := ?_) (a' := ?_) #[true, true, true, true, true, true, true, true, true, true, true, true, true, false] rfl rfl (by kernel_rfl) (fun _ _ _ h => h) (Or.inl ⟨by rfl, ?_⟩) ?_ ?_
                  rotate_left
                  · intro w'
                    go_simp
                    with_reducible rfl
                  rotate_left
                  · simp only [Act.put, List.setIfInBounds_toArray, List.set_cons_zero, List.set_cons_succ, i64_w, i32_w]
                    rfl
                  have hp := LI.s2 q3cs1.out
                  have hf := LI.fz q3cs1.out 2
                  refine last_ (i := 13) (N := none) #[true, true, true, true, true, true, true, true, true, true, true, true, true, true] rfl rfl (by kernel_rfl) (by decide) (fun K hK => ?_)
                  refine skip_ (w1 := ?_) (by rfl) rfl ?_ ?_
                  rotate_left
                  · go_simp
                    rfl
                  have q3cs2 := Aside0.mk (q3cs1.out.put 2 (.slice q3csA2 ((lst (haltK l big) m).length + 1) q3csc2) rfl)
                  refine hK.out _ _ ?_
                  clear hK K hp hf
                  refine done_ (by kernel_rfl) ?_
                  generalize World.setCell _ _ _ = q3csw at q3cs2 ⊢
                  go_wp2
                  go_roundw
                  case measure => simp [intOf]; omega
                  case rel => exact ⟨m + 1, (Value.slice An ((lst (begK l big) m).length + 1) cn), (.slice q3csA1 ((lst (endK l big) m).length + 1) q3csc1), (.slice q3csA2 ((lst (haltK l big) m).length + 1) q3csc2), by omega, by go_num, ⟨LI.cast q3cs2.out (lst_yes (p := begK l big) (m := m) (by first | (simp [begK, endK, haltK, bareK, *]; done) | (simp [begK, endK, haltK, bareK, inWK, *]; done))) (lst_yes (p := endK l big) (m := m) (by first | (simp [begK, endK, haltK, bareK, *]; done) | (simp [begK, endK, haltK, bareK, inWK, *]; done))) (lst_yes (p := haltK l big) (m := m) (by first | (simp [begK, endK, haltK, bareK, *]; done) | (simp [begK, endK, haltK, bareK, inWK, *]; done)))⟩⟩
              · refine value_ (w1 := ?_) (v := ?_) (by rfl) rfl ?_ ?_
                rotate_left 2
                · go_simp
                  constructor
                  · rfl
                  · rfl
                have q3d0 := Aside0.mk (q3D.out.alloc (Obj.cells #[Value.int .i64 (m : Int)] 3))
                have q3d0b := Aside0.mk (blk_new w7.drew (Obj.cells #[Value.int .i64 (m : Int)] 3))
                refine hK.out _ _ ⟨LI.s1 q3d0.out, LI.s2 q3d0.out⟩ (fun hHeld => ?_)
                clear hK K
                refine norm_ (a' := ?_) ?_ ?_
                rotate_left
                · show Act.put _ (some 69) _ = _
                  simp only [Act.put, List.setIfInBounds_toArray, List.set_cons_zero, List.set_cons_succ, i64_w, i32_w]
                  rfl
                refine one_ (i := 3) (N := some 64) #[true, true, true, true, false, true, true, true, true, false, false, false, false, false] rfl rfl (by kernel_rfl) (by decide) (fun K hK => ?_)
                refine value_ (w1 := ?_) (v := ?_) (by rfl) rfl ?_ ?_
                rotate_left 2
                · go_simp
                  constructor
                  · rfl
                  · rfl
                have q3d1 := Aside0.mk (q3d0.out.alloc (Obj.cells #[Value.int .i64 (m : Int)] 3))
                have q3d1b := Aside0.mk (show ((w7.drew.alloc (Obj.cells #[Value.int .i64 (m : Int)] 3)).alloc (Obj.cells #[Value.int .i64 (m : Int)] 3)).heap[w7.heap.size + 1]? = some (Obj.cells #[Value.int .i64 (m : Int)] 3) from heap_alloc2_new w7.drew (Obj.cells #[Value.int .i64 (m : Int)] 3) (Obj.cells #[Value.int .i64 (m : Int)] 3))
                have q3d1B := Aside0.mk (blk_alloc q3d0b.out (Obj.cells #[Value.int .i64 (m : Int)] 3))
                refine hK.out _ _ ⟨LI.s1 q3d1.out, LI.s2 q3d1.out⟩ (fun hHeld => ?_)
                clear hK K
                refine norm_ (a' := ?_) ?_ ?_
                rotate_left
                · show Act.put _ (some 64) _ = _
                  simp only [Act.put, List.setIfInBounds_toArray, List.set_cons_zero, List.set_cons_succ, i64_w, i32_w]
                  rfl
                refine one_ (i := 4) (N := some 65) #[true, true, true, true, true, true, true, true, true, false, false, false, false, false] rfl rfl (by kernel_rfl) (by decide) (fun K hK => ?_)
                refine Kd.R_append_rows_step (Kd.int .i64) (Rr := (Kd.int .i64).K ((w7.drew.alloc (Obj.cells #[Value.int .i64 (m : Int)] 3)).alloc (Obj.cells #[Value.int .i64 (m : Int)] 3))) (w0 := w) w.heap.size (by rfl) (.tmp 62) (.tmp 64) 50 3 (.int .i64 0) 8 rfl Try.underlying50 info3 rfl (by decide) (by omega) v1 (lst (endK l big) m) [(m : Int)] (some ⟨w7.heap.size + 1, 0, none⟩) 1 1 (fun k => ((w.heap.size + 4 ≤ k ∧ some k ≠ (Value.slice An ((lst (begK l big) m).length + 1) cn).ownBlock) ∧ some k ≠ v2.ownBlock)) (fun _ => False) rfl rfl q3d1.out.r1 (one_reads q3d1b.out) int_KM (fun _ hk => hk.elim) q3d1.out.fr1 q3d1.out.hb q3d1.out.hs (by have := lst_len (endK l big) m; have := HLn.out; omega) ?_
                intro q3d2v q3d2w ho hb hg hat
                have q3d2 := Aside0.mk (q3d1.out.grow1 ho hb hg hat)
                have q3d2B := Aside0.mk (blk_grown q3d1B.out hg (q3D.out.ne1 _ (by simp)))
                clear ho hb hg hat
                refine hK.out _ _ ⟨LI.s1 q3d2.out, LI.s2 q3d2.out⟩ (fun hHeld => ?_)
                clear hK K
                refine norm_ (a' := ?_) ?_ ?_
                rotate_left
                · show Act.put _ (some 65) _ = _
                  simp only [Act.put, List.setIfInBounds_toArray, List.set_cons_zero, List.set_cons_succ, i64_w, i32_w]
                  rfl
                refine pure_ (i := 10) (N := some 71) (v := ?_) (a' := ?_) #[true, true, true, true, true, true, true, true, true, false, true, false, false, false] rfl rfl (by kernel_rfl) (fun _ _ _ h => h) (Or.inl ⟨by rfl, ?_⟩) ?_ ?_
                rotate_left
                · intro w'
                  go_simp
                  with_reducible rfl
                rotate_left
                · simp only [Act.put, List.setIfInBounds_toArray, List.set_cons_zero, List.set_cons_succ, i64_w, i32_w]
                  rfl
                refine one_ (i := 9) (N := some 70) #[true, true, true, true, true, true, true, true, true, true, true, false, false, false] rfl rfl (by kernel_rfl) (by decide) (fun K hK => ?_)
                refine Kd.R_append_rows_step (Kd.int .i64) (Rr := (Kd.int .i64).K q3d2w) (w0 := w) w.heap.size (by rfl) (.tmp 67) (.tmp 69) 50 3 (.int .i64 0) 8 rfl Try.underlying50 info3 rfl (by decide) (by omega) v2 (lst (haltK l big) m) [(m : Int)] (some ⟨w7.drew.heap.size, 0, none⟩) 1 1 (fun k => ((w.heap.size + 4 ≤ k ∧ some k ≠ (Value.slice An ((lst (begK l big) m).length + 1) cn).ownBlock) ∧ some k ≠ q3d2v.ownBlock)) (fun _ => False) rfl rfl q3d2.out.r2 (one_reads q3d2B.out) int_KM (fun _ hk => hk.elim) q3d2.out.fr2 q3d2.out.hb q3d2.out.hs (by have := lst_len (haltK l big) m; have := HLn.out; omega) ?_
                intro q3d3v q3d3w ho hb hg hat
                have q3d3 := Aside0.mk (q3d2.out.grow2 ho hb hg hat)
                clear ho hb hg hat
                refine hK.out _ _ ⟨LI.s1 q3d3.out, LI.s2 q3d3.out⟩ (fun hHeld => ?_)
                clear hK K
                refine norm_ (a' := ?_) ?_ ?_
                rotate_left
                · show Act.put _ (some 70) _ = _
                  simp only [Act.put, List.setIfInBounds_toArray, List.set_cons_zero, List.set_cons_succ, i64_w, i32_w]
                  rfl
                obtain ⟨q3dsA1, q3dsc1, q3dse1⟩ := Kd.R_slice q3d3.out.r1
                simp only [List.length_append, List.length_cons, List.length_nil, Nat.zero_add] at q3dse1
                subst q3dse1
                obtain ⟨q3dsA2, q3dsc2, q3dse2⟩ := Kd.R_slice q3d3.out.r2
                simp only [List.length_append, List.length_cons, List.length_nil, Nat.zero_add] at q3dse2
                subst q3dse2
                have hp := LI.s1 q3d3.out
                have hf := LI.fz q3d3.out 1
                refine last_ (i := 11) (N := none) #[true, true, true, true, true, true, true, true, true, true, true, true, false, false] rfl rfl (by kernel_rfl) (by decide) (fun K hK => ?_)
                refine skip_ (w1 := ?_) (by rfl) rfl ?_ ?_
                rotate_left
                · go_simp
                  rfl
                have q3ds1 := Aside0.mk (q3d3.out.put 1 (.slice q3dsA1 ((lst (endK l big) m).length + 1) q3dsc1) rfl)
                refine hK.out _ _ ?_
                clear hK K hp hf
                generalize World.setCell _ _ _ = q3dsx at q3ds1 ⊢
                refine pure_ (i := 12) (N := some 72) (v := ?_) (a' := ?_) #[true, true, true, true, true, true, true, true, true, true, true, true, true, false] rfl rfl (by kernel_rfl) (fun _ _ _ h => h) (Or.inl ⟨by rfl, ?_⟩) ?_ ?_
                rotate_left
                · intro w'
                  go_simp
                  with_reducible rfl
                rotate_left
                · simp only [Act.put, List.setIfInBounds_toArray, List.set_cons_zero, List.set_cons_succ, i64_w, i32_w]
                  rfl
                have hp := LI.s2 q3ds1.out
                have hf := LI.fz q3ds1.out 2
                refine last_ (i := 13) (N := none) #[true, true, true, true, true, true, true, true, true, true, true, true, true, true] rfl rfl (by kernel_rfl) (by decide) (fun K hK => ?_)
                refine skip_ (w1 := ?_) (by rfl) rfl ?_ ?_
                rotate_left
                · go_simp
                  rfl
                have q3ds2 := Aside0.mk (q3ds1.out.put 2 (.slice q3dsA2 ((lst (haltK l big) m).length + 1) q3dsc2) rfl)
                refine hK.out _ _ ?_
                clear hK K hp hf
                refine done_ (by kernel_rfl) ?_
                generalize World.setCell _ _ _ = q3dsw at q3ds2 ⊢
                go_wp2
                go_roundw
                case measure => simp [intOf]; omega
                case rel => exact ⟨m + 1, (Value.slice An ((lst (begK l big) m).length + 1) cn), (.slice q3dsA1 ((lst (endK l big) m).length + 1) q3dsc1), (.slice q3dsA2 ((lst (haltK l big) m).length + 1) q3dsc2), by omega, by go_num, ⟨LI.cast q3ds2.out (lst_yes (p := begK l big) (m := m) (by first | (simp [begK, endK, haltK, bareK, *]; done) | (simp [begK, endK, haltK, bareK, inWK, *]; done))) (lst_yes (p := endK l big) (m := m) (by first | (simp [begK, endK, haltK, bareK, *]; done) | (simp [begK, endK, haltK, bareK, inWK, *]; done))) (lst_yes (p := haltK l big) (m := m) (by first | (simp [begK, endK, haltK, bareK, *]; done) | (simp [begK, endK, haltK, bareK, inWK, *]; done)))⟩⟩
        · have hi : inWK (kindAt l big m) = false := by simpa using hi
          refine (inword_calls (kindAt l big m) w1).mono ?_
          rintro e w8 ⟨rfl, hd8⟩
          rw [hi]
          have HL8 := Aside0.mk (HL1.out.step hd8.below)
          clear hd8 hx0 hx1
          have hx0 : w8.cell? ⟨w.heap.size, 0, none⟩ = some (.slice A l.length c) := by rw [blk_cell HL8.out.c0]; rfl
          have hx1 : w8.cell? ⟨w.heap.size + 1, 0, none⟩ = some (.bool big) := by rw [blk_cell HL8.out.c1]; rfl
          go_wp2
          go_roundw
          case measure => simp [intOf]; omega
          case rel => exact ⟨m + 1, v0, v1, v2, by omega, by go_num, ⟨LI.cast HL8.out (lst_no (p := begK l big) (m := m) (by first | (simp [begK, endK, haltK, bareK, *]; done) | (simp [begK, endK, haltK, bareK, inWK, *]; done))) (lst_no (p := endK l big) (m := m) (by first | (simp [begK, endK, haltK, bareK, *]; done) | (simp [begK, endK, haltK, bareK, inWK, *]; done))) (lst_no (p := haltK l big) (m := m) (by first | (simp [begK, endK, haltK, bareK, *]; done) | (simp [begK, endK, haltK, bareK, inWK, *]; done)))⟩⟩
    · have hlt' : ((m : Int) ≤ (l.length : Int)) = False := eq_false (by omega)
      have hlt'' : decide ((m : Int) ≤ (l.length : Int)) = false := decide_eq_false (by omega)
      obtain rfl : m = l.length + 1 := by omega
      obtain ⟨A0, c0, e0⟩ := Kd.R_slice HL.out.r0
      obtain ⟨A1, c1, e1⟩ := Kd.R_slice HL.out.r1
      obtain ⟨A2, c2, e2⟩ := Kd.R_slice HL.out.r2
      subst e0 e1 e2
      have hb3 := HL.out.c3
      have hb2 := HL.out.c2
      go_wp2_with (first | (refine wpList_load_agg rfl 52 (.tmp 5) rfl ⟨w.heap.size + 1 + 1 + 1, 0, none⟩ ?za [.slice A0 (lst (begK l big) (l.length + 1)).length c0, .slice A1 (lst (endK l big) (l.length + 1)).length c1, .slice A2 (lst (haltK l big) (l.length + 1)).length c2] _ ?zb Try.underlying52 rfl ?zc ?zd) | (refine wpList_store_agg rfl 52 (.tmp 4) (.tmp 73) rfl (w.heap.size + 1 + 1) 0 ?ze [.slice A0 (lst (begK l big) (l.length + 1)).length c0, .slice A1 (lst (endK l big) (l.length + 1)).length c1, .slice A2 (lst (haltK l big) (l.length + 1)).length c2] ?zf _ 52 hb2 ?zh ?zi ?zj ?zk))
      case za => rfl
      case zb =>
        intro j v hj
        rw [add_plain', Nat.zero_add, blk_cell hb3]
        simpa using hj
      case zc => kernel_rfl
      case zh => exact Nat.le_refl _
      case zi => simp [Value.oneCell']
      case zj => kernel_rfl
      case zk =>
        have hW := putCells_block [.slice A0 (lst (begK l big) (l.length + 1)).length c0, .slice A1 (lst (endK l big) (l.length + 1)).length c1, .slice A2 (lst (haltK l big) (l.length + 1)).length c2] wr (w.heap.size + 1 + 1) 0 _ 52 hb2
        rw [splice_whole _ _ (by rfl)] at hW
        have hk : ∀ k, w.heap.size + 4 ≤ k → (putCells wr (w.heap.size + 1 + 1) 0 [.slice A0 (lst (begK l big) (l.length + 1)).length c0, .slice A1 (lst (endK l big) (l.length + 1)).length c1, .slice A2 (lst (haltK l big) (l.length + 1)).length c2]).heap[k]? = wr.heap[k]? := fun k hk => putCells_other _ _ _ _ _ (by omega)
        have q0 := (Kd.R_reads' (Kd.R_step (w1 := putCells wr (w.heap.size + 1 + 1) 0 [.slice A0 (lst (begK l big) (l.length + 1)).length c0, .slice A1 (lst (endK l big) (l.length + 1)).length c1, .slice A2 (lst (haltK l big) (l.length + 1)).length c2]) HL.out.r0 fun k h _ => hk k h.1.1)).2
        have q1 := (Kd.R_reads' (Kd.R_step (w1 := putCells wr (w.heap.size + 1 + 1) 0 [.slice A0 (lst (begK l big) (l.length + 1)).length c0, .slice A1 (lst (endK l big) (l.length + 1)).length c1, .slice A2 (lst (haltK l big) (l.length + 1)).length c2]) HL.out.r1 fun k h _ => hk k h.1.1)).2
        have q2 := (Kd.R_reads' (Kd.R_step (w1 := putCells wr (w.heap.size + 1 + 1) 0 [.slice A0 (lst (begK l big) (l.length + 1)).length c0, .slice A1 (lst (endK l big) (l.length + 1)).length c1, .slice A2 (lst (haltK l big) (l.length + 1)).length c2]) HL.out.r2 fun k h _ => hk k h.1.1)).2
        refine bodyPost_ret (results_cell_row rfl _ _ (w.heap.size + 1 + 1) 52 _ (0, 0) _ rfl hW Try.underlying52 rfl (by kernel_rfl)) rfl ⟨A0, c0, A1, c1, A2, c2, rfl, q0.1, q0.2, q1.1, q1.2, q2.1, q2.2, putCells_below _ _ _ _ _ _ (by omega) HL.out.hb⟩
end Go.Proofs.Ytghoeadmimgfnaa.Hand
