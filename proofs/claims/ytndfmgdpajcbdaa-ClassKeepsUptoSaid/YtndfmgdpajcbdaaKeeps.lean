/- The law ClassKeeps: a text that is handed in stays, answers are new memory. Condition: the text's length is at most 1048576. -/
import Derived.Test.YtndfmgdpajcbdaaKeepsP
namespace Go.Proofs.Ytndfmgdpajcbdaa.Hand
open Go.RowKit Go.Proofs.Ytndfmgdpajcbdaa.PCl Go.Proofs.Ytndfmgdpajcbdaa.Pure Go.Proofs.Ytndfmgdpajcbdaa.Aggs Go.Proofs.YtndfmgdpajcbdaaW.PrintWords Go.Proofs.YtndfmgdpajcbdaaW.PrintLast Go.Proofs.YtndfmgdpajcbdaaW.PrintMore
set_option linter.unusedVariables false
set_option linter.unusedSimpArgs false
set_option maxHeartbeats 2000000 in
set_option maxRecDepth 100000 in
theorem keeps_calls (A : Option Addr) (c : Nat) (T : List Int) (big : Bool) (w : World) (hr : Kd.C (Kd.int .u8) w A T.length T) (hc : T.length ≤ c) (hl : T.length ≤ 1048576) (Rn : List Int) (hRl : Rn.length ≤ 1048576) (hRun : class_Runs.f 1048600 T big = some Rn) :
    Calls Try.prog 7 #[.slice A T.length c, .bool big] w fun e w' => e = .returned (.bool true) ∧ Below w.heap.size w w' := by
  have HR := Aside0.mk hr
  have HC := Aside0.mk hc
  have HL := Aside0.mk hl
  have HRL := Aside0.mk hRl
  have HRUN := Aside0.mk hRun
  have HSM := Aside0.mk (same_eq Rn (by omega) 2200000 (by omega))
  clear hr hc hl hRl hRun
  go_enter Try.func7, Try.ntmps7
  go_wp2_with fail
  refine (quoinlaw06_awake.calls 3 true w (awake_any 3 (by omega))).mono ?_
  rintro e w1 ⟨rfl, h1⟩
  have hB1 := h1.below
  have HB1 := Aside0.mk hB1
  clear h1 hB1
  go_upto_region 3 with (fail)
  have HE := Aside0.mk (empty_row .u8 5 w1)
  go_wp2_with (first | ((with_reducible refine gate_builtin (b := .append) (xs := #[.tmp 14, .tmp 15]) rfl ?_); at_builtin; refine Kd.R_append_rows (Kd.int .u8) (w0 := w1) w1.heap.size rfl (.tmp 14) (.tmp 15) 28 5 (.int .u8 0) 1 rfl Try.underlying28 info5k rfl (by decide) (by omega) (Value.slice (some ⟨w1.heap.size, 0, none⟩) 0 0) [] T A T.length c (fun _ => True) (fun _ => False) rfl rfl ?aO ?aR (fun _ _ h => h) (fun _ h => h.elim) ?aF ?aB ?aS ?aL ?_; (case aO => exact HE.out); (case aR => exact Kd.C_alloc (Kd.C_below HR.out HB1.out) _); (case aF => intro k hk; trivial); (case aB => exact (Below.refl _ _).alloc (Nat.le_refl _) _); (case aS => simp); (case aL => have := HL.out; simp; omega); intro v2 w2 ho hb hg hat; have HO := Aside0.mk ho; have HB2 := Aside0.mk hb; clear ho hb hg hat) | ((with_reducible refine gate_builtin (b := .append) (xs := #[.tmp 16, .tmp 17]) rfl ?_); at_builtin; refine Kd.R_append_rows (Kd.int .u8) (Rr := (Kd.int .u8).K (w2.alloc (Obj.cells #[Value.int .u8 200, Value.int .u8 201] 5))) (w0 := w1) w1.heap.size rfl (.tmp 16) (.tmp 17) 28 5 (.int .u8 0) 1 rfl Try.underlying28 info5k rfl (by decide) (by omega) v2 T [200, 201] (some ⟨w2.heap.size, 0, none⟩) 2 2 (fun _ => True) (fun _ => False) rfl rfl ?bO ?bR (fun _ _ h => h) (fun _ h => h.elim) ?bF ?bB ?bS ?bL ?_; (case bO => exact Kd.R_alloc HO.out _); (case bR => exact two_reads (blk_new w2 (Obj.cells #[Value.int .u8 200, Value.int .u8 201] 5))); (case bF => intro k hk; trivial); (case bB => exact HB2.out.alloc HB2.out.size _); (case bS => have := HB2.out.size; simp; omega); (case bL => have := HL.out; omega); intro v5 w3 ho hb hg hat; have HO5 := Aside0.mk ho; have HB5 := Aside0.mk hb; clear ho hb hg hat))
  go_upto_region 4 with (fail)
  have hR5 := Kd.R_lower HO5.out HB1.out.size
  have hB5 := below_step HB1.out HB5.out
  obtain ⟨g5, c5, e5, hg5, _⟩ := Kd.R_form hR5 (by simp)
  subst e5
  have HR5 := Aside0.mk hR5
  have HB := Aside0.mk hB5
  clear hR5 hB5 HO5 HB5 HO HB2 HE HB1
  have hc5 : T.length ≤ c5 := by have := (Kd.R_reads' HR5.out).2.1; simp at this; omega
  have hcc5 : (T ++ [200, 201]).length = T.length + 2 := by simp
  have hq1 : ((T.length : Int) ≤ (c5 : Int)) = True := eq_true (by omega)
  have hq2 : (0 ≤ (T.length : Int)) = True := eq_true (by omega)
  have hq3 : (T.length ≤ c5) = True := eq_true hc5
  have hq4 : ((T.length : Int).toNat) = T.length := by simp
  refine start_ (n := 14) (S := fun w' => True) (ds := []) #[false, false, false, false, false, false, false, false, false, false, false, false, false, false] (by kernel_rfl) rfl rfl trivial (fun hHeld => ?_)
  refine pure_ (i := 0) (N := some 19) (v := ?_) (a' := ?_) #[true, false, false, false, false, false, false, false, false, false, false, false, false, false] rfl rfl (by kernel_rfl) (fun _ _ _ h => h) (Or.inl ⟨by rfl, ?_⟩) ?_ ?_
  rotate_left
  · intro w'
    go_simp
    with_reducible rfl
  rotate_left
  · simp only [Act.put, List.setIfInBounds_toArray, List.set_cons_zero, List.set_cons_succ, i64_w, i32_w]
    rfl
  refine pure_ (i := 1) (N := some 20) (v := ?_) (a' := ?_) #[true, true, false, false, false, false, false, false, false, false, false, false, false, false] rfl rfl (by kernel_rfl) (fun _ _ _ h => h) (Or.inl ⟨by rfl, ?_⟩) ?_ ?_
  rotate_left
  · intro w'
    go_simp
    with_reducible rfl
  rotate_left
  · simp only [Act.put, List.setIfInBounds_toArray, List.set_cons_zero, List.set_cons_succ, i64_w, i32_w]
    rfl
  refine pure_ (i := 2) (N := some 21) (v := ?_) (a' := ?_) #[true, true, true, false, false, false, false, false, false, false, false, false, false, false] rfl rfl (by kernel_rfl) (fun _ _ _ h => h) (Or.inl ⟨by rfl, ?_⟩) ?_ ?_
  rotate_left
  · intro w'
    go_simp
    with_reducible rfl
  rotate_left
  · simp only [Act.put, List.setIfInBounds_toArray, List.set_cons_zero, List.set_cons_succ, i64_w, i32_w]
    rfl
  refine pure_ (i := 3) (N := some 22) (v := ?_) (a' := ?_) #[true, true, true, true, false, false, false, false, false, false, false, false, false, false] rfl rfl (by kernel_rfl) (fun _ _ _ h => h) (Or.inl ⟨by rfl, ?_⟩) ?_ ?_
  rotate_left
  · intro w'
    go_simp
    with_reducible rfl
  rotate_left
  · simp only [Act.put, List.setIfInBounds_toArray, List.set_cons_zero, List.set_cons_succ, i64_w, i32_w]
    rfl
  refine pure_ (i := 4) (N := some 23) (v := ?_) (a' := ?_) #[true, true, true, true, true, false, false, false, false, false, false, false, false, false] rfl rfl (by kernel_rfl) (fun _ _ _ h => h) (Or.inl ⟨by rfl, ?_⟩) ?_ ?_
  rotate_left
  · intro w'
    go_simp
    with_reducible rfl
  rotate_left
  · simp only [Act.put, List.setIfInBounds_toArray, List.set_cons_zero, List.set_cons_succ, i64_w, i32_w]
    rfl
  refine pure_ (i := 6) (N := some 25) (v := ?_) (a' := ?_) #[true, true, true, true, true, false, true, false, false, false, false, false, false, false] rfl rfl (by kernel_rfl) (fun _ _ _ h => h) (Or.inl ⟨by rfl, ?_⟩) ?_ ?_
  rotate_left
  · intro w'
    go_simp
    with_reducible rfl
  rotate_left
  · simp only [Act.put, List.setIfInBounds_toArray, List.set_cons_zero, List.set_cons_succ, i64_w, i32_w]
    rfl
  refine pure_ (i := 7) (N := some 26) (v := ?_) (a' := ?_) #[true, true, true, true, true, false, true, true, false, false, false, false, false, false] rfl rfl (by kernel_rfl) (fun _ _ _ h => h) (Or.inl ⟨by rfl, ?_⟩) ?_ ?_
  rotate_left
  · intro w'
    go_simp
    with_reducible rfl
  rotate_left
  · simp only [Act.put, List.setIfInBounds_toArray, List.set_cons_zero, List.set_cons_succ, i64_w, i32_w]
    rfl
  refine pure_ (i := 8) (N := some 27) (v := ?_) (a' := ?_) #[true, true, true, true, true, false, true, true, true, false, false, false, false, false] rfl rfl (by kernel_rfl) (fun _ _ _ h => h) (Or.inl ⟨by rfl, ?_⟩) ?_ ?_
  rotate_left
  · intro w'
    go_simp
    with_reducible rfl
  rotate_left
  · simp only [Act.put, List.setIfInBounds_toArray, List.set_cons_zero, List.set_cons_succ, i64_w, i32_w]
    rfl
  refine pure_ (i := 9) (N := some 28) (v := ?_) (a' := ?_) #[true, true, true, true, true, false, true, true, true, true, false, false, false, false] rfl rfl (by kernel_rfl) (fun _ _ _ h => h) (Or.inl ⟨by rfl, ?_⟩) ?_ ?_
  rotate_left
  · intro w'
    go_simp
    with_reducible rfl
  rotate_left
  · simp only [Act.put, List.setIfInBounds_toArray, List.set_cons_zero, List.set_cons_succ, i64_w, i32_w]
    rfl
  refine pure_ (i := 10) (N := some 29) (v := ?_) (a' := ?_) #[true, true, true, true, true, false, true, true, true, true, true, false, false, false] rfl rfl (by kernel_rfl) (fun _ _ _ h => h) (Or.inl ⟨by rfl, ?_⟩) ?_ ?_
  rotate_left
  · intro w'
    go_simp
    with_reducible rfl
  rotate_left
  · simp only [Act.put, List.setIfInBounds_toArray, List.set_cons_zero, List.set_cons_succ, i64_w, i32_w]
    rfl
  refine one_ (i := 5) (N := some 24) #[true, true, true, true, true, true, true, true, true, true, true, false, false, false] rfl rfl (by kernel_rfl) (by decide) (fun K hK => ?_)
  refine goes_ Try.func21 (by kernel_rfl) rfl #[.slice (some ⟨g5, 0, none⟩) T.length c5, .bool big] (by rfl) rfl rfl (by simp [Act.eval]) ?_
  refine (class_Runs.calls 1048600 (some ⟨g5, 0, none⟩) c5 T big Rn _ (room_C (Kd.R_drew HR5.out)) hc5 HRUN.out).mono ?_
  rintro e wa ⟨vwa, rfl, hwa, hbwa⟩
  have Hwa := Aside0.mk hwa
  have HBwa := Aside0.mk hbwa
  clear hwa hbwa
  refine ⟨_, rfl, ?_⟩
  refine hK.out _ _ trivial (fun hHeld => ?_)
  clear hK K
  refine norm_ (a' := ?_) ?_ ?_
  rotate_left
  · show Act.put _ (some 24) _ = _
    simp only [Act.put, List.setIfInBounds_toArray, List.set_cons_zero, List.set_cons_succ, i64_w, i32_w]
    rfl
  refine one_ (i := 11) (N := some 30) #[true, true, true, true, true, true, true, true, true, true, true, true, false, false] rfl rfl (by kernel_rfl) (by decide) (fun K hK => ?_)
  refine goes_ Try.func21 (by kernel_rfl) rfl #[.slice (some ⟨g5, 0, none⟩) T.length c5, .bool big] (by rfl) rfl rfl (by simp [Act.eval]) ?_
  refine (class_Runs.calls 1048600 (some ⟨g5, 0, none⟩) c5 T big Rn _ (room_C (Kd.R_below (Kd.R_drew HR5.out) HBwa.out)) hc5 HRUN.out).mono ?_
  rintro e wb ⟨vwb, rfl, hwb, hbwb⟩
  have Hwb := Aside0.mk hwb
  have HBwb := Aside0.mk hbwb
  clear hwb hbwb
  refine ⟨_, rfl, ?_⟩
  refine hK.out _ _ trivial (fun hHeld => ?_)
  clear hK K
  refine norm_ (a' := ?_) ?_ ?_
  rotate_left
  · show Act.put _ (some 30) _ = _
    simp only [Act.put, List.setIfInBounds_toArray, List.set_cons_zero, List.set_cons_succ, i64_w, i32_w]
    rfl
  refine pure_ (i := 12) (N := some 6) (v := ?_) (a' := ?_) #[true, true, true, true, true, true, true, true, true, true, true, true, true, false] rfl rfl (by kernel_rfl) (fun _ _ _ h => h) (Or.inl ⟨by rfl, ?_⟩) ?_ ?_
  rotate_left
  · intro w'
    go_simp
    with_reducible rfl
  rotate_left
  · simp only [Act.put, List.setIfInBounds_toArray, List.set_cons_zero, List.set_cons_succ, i64_w, i32_w]
    rfl
  refine pure_ (i := 13) (N := some 7) (v := ?_) (a' := ?_) #[true, true, true, true, true, true, true, true, true, true, true, true, true, true] rfl rfl (by kernel_rfl) (fun _ _ _ h => h) (Or.inl ⟨by rfl, ?_⟩) ?_ ?_
  rotate_left
  · intro w'
    go_simp
    with_reducible rfl
  rotate_left
  · simp only [Act.put, List.setIfInBounds_toArray, List.set_cons_zero, List.set_cons_succ, i64_w, i32_w]
    rfl
  refine done_ (by kernel_rfl) ?_
  have hK := ks_start (HB.out.drew) (Kd.R_drew HR5.out) Hwa.out HBwa.out Hwb.out HBwb.out
  have HK := Aside0.mk hK
  clear hK HBwa HBwb Hwa Hwb HR5 HB
  go_upto_region 5 with (fail)
  obtain ⟨A6, c6, e6⟩ := Kd.R_slice HK.out.r6
  obtain ⟨A7, c7, e7⟩ := Kd.R_slice HK.out.r7
  subst e6 e7
  have hx1 := room_at HK.out.r5 0 (by simp)
  have hx2 := room_at HK.out.r5 1 (by simp)
  simp only [List.length_append, List.length_cons, List.length_nil, Nat.add_zero] at hx1 hx2
  have hw1 : IntKind.i64.wrap ((T.length : Int) + 1) = (T.length : Int) + 1 := by have := HL.out; rw [i64_w]; unfold Go.RowKit.wrap64; omega
  have hw2 : Go.RowKit.wrap64 ((T.length : Int) + 1) = (T.length : Int) + 1 := by have := HL.out; unfold Go.RowKit.wrap64; omega
  have hq5 : ((T.length : Int) < (T.length : Int) + 2) = True := eq_true (by omega)
  have hq6 : ((T.length : Int) + 1 < (T.length : Int) + 2) = True := eq_true (by omega)
  have hq7 : (0 ≤ (T.length : Int) + 1) = True := eq_true (by omega)
  have hq8 : ((T.length : Int) + 1 < 0) = False := eq_false (by omega)
  have hq9 : ((T.length : Int) < 0) = False := eq_false (by omega)
  refine start_ (n := 31) (S := fun w' => KK w w' (Value.slice (some ⟨g5, 0, none⟩) (T ++ [200, 201]).length c5) (Value.slice A6 Rn.length c6) (Value.slice A7 Rn.length c7) (.slice none 0 0) (T ++ [200, 201]) Rn Rn [] ∧ w'.cell? ⟨g5, T.length, none⟩ = some (.int .u8 200) ∧ w'.cell? ⟨g5, T.length + 1, none⟩ = some (.int .u8 201)) (ds := []) #[false, false, false, false, false, false, false, false, false, false, false, false, false, false, false, false, false, false, false, false, false, false, false, false, false, false, false, false, false, false, false] (by kernel_rfl) rfl rfl ⟨HK.out.step (below_drew (Below.refl _ _)), hx1, hx2⟩ (fun hHeld => ?_)
  refine pure_ (i := 0) (N := some 31) (v := ?_) (a' := ?_) #[true, false, false, false, false, false, false, false, false, false, false, false, false, false, false, false, false, false, false, false, false, false, false, false, false, false, false, false, false, false, false] rfl rfl (by kernel_rfl) (fun _ _ _ h => h) (Or.inl ⟨by rfl, ?_⟩) ?_ ?_
  rotate_left
  · intro w'
    go_simp
    with_reducible rfl
  rotate_left
  · simp only [Act.put, List.setIfInBounds_toArray, List.set_cons_zero, List.set_cons_succ, i64_w, i32_w]
    rfl
  refine pure_ (i := 1) (N := some 32) (v := ?_) (a' := ?_) #[true, true, false, false, false, false, false, false, false, false, false, false, false, false, false, false, false, false, false, false, false, false, false, false, false, false, false, false, false, false, false] rfl rfl (by kernel_rfl) (fun _ _ _ h => h) (Or.inl ⟨by rfl, ?_⟩) ?_ ?_
  rotate_left
  · intro w'
    go_simp
    with_reducible rfl
  rotate_left
  · simp only [Act.put, List.setIfInBounds_toArray, List.set_cons_zero, List.set_cons_succ, i64_w, i32_w]
    rfl
  refine pure_ (i := 2) (N := some 33) (v := ?_) (a' := ?_) #[true, true, true, false, false, false, false, false, false, false, false, false, false, false, false, false, false, false, false, false, false, false, false, false, false, false, false, false, false, false, false] rfl rfl (by kernel_rfl) (fun _ _ _ h => h) (Or.inl ⟨by rfl, ?_⟩) ?_ ?_
  rotate_left
  · intro w'
    go_simp
    with_reducible rfl
  rotate_left
  · simp only [Act.put, List.setIfInBounds_toArray, List.set_cons_zero, List.set_cons_succ, i64_w, i32_w]
    rfl
  refine pure_ (i := 3) (N := some 34) (v := ?_) (a' := ?_) #[true, true, true, true, false, false, false, false, false, false, false, false, false, false, false, false, false, false, false, false, false, false, false, false, false, false, false, false, false, false, false] rfl rfl (by kernel_rfl) (fun _ _ _ h => h) (Or.inl ⟨by rfl, ?_⟩) ?_ ?_
  rotate_left
  · intro w'
    go_simp
    with_reducible rfl
  rotate_left
  · simp only [Act.put, List.setIfInBounds_toArray, List.set_cons_zero, List.set_cons_succ, i64_w, i32_w]
    rfl
  refine take_ (i := 4) (N := some 35) (v := (.string (strOfNums T))) (a' := ?_) #[true, true, true, true, true, false, false, false, false, false, false, false, false, false, false, false, false, false, false, false, false, false, false, false, false, false, false, false, false, false, false] rfl rfl (by kernel_rfl) (fun _ _ _ h => h) (Or.inl ⟨by rfl, by rintro w' ⟨s0, s1, s2⟩; exact run_conv_op 28 9 (.tmp 34) rfl _ _ rfl (Kd.C_string Try.underlying28 Try.underlying5 Try.underlying9 (room_C s0.r5))⟩) hHeld ?_ ?_
  rotate_left
  · simp only [Act.put, List.setIfInBounds_toArray, List.set_cons_zero, List.set_cons_succ, i64_w, i32_w]
    rfl
  refine pure_ (i := 5) (N := some 36) (v := ?_) (a' := ?_) #[true, true, true, true, true, true, false, false, false, false, false, false, false, false, false, false, false, false, false, false, false, false, false, false, false, false, false, false, false, false, false] rfl rfl (by kernel_rfl) (fun _ _ _ h => h) (Or.inl ⟨by rfl, ?_⟩) ?_ ?_
  rotate_left
  · intro w'
    go_simp
    with_reducible rfl
  rotate_left
  · simp only [Act.put, List.setIfInBounds_toArray, List.set_cons_zero, List.set_cons_succ, i64_w, i32_w]
    rfl
  refine take_ (i := 6) (N := some 37) (v := (.string (strOfNums T))) (a' := ?_) #[true, true, true, true, true, true, true, false, false, false, false, false, false, false, false, false, false, false, false, false, false, false, false, false, false, false, false, false, false, false, false] rfl rfl (by kernel_rfl) (fun _ _ _ h => h) (Or.inl ⟨by rfl, by rintro w' ⟨s0, s1, s2⟩; exact run_conv_op 28 9 (.tmp 36) rfl _ _ rfl (Kd.C_string Try.underlying28 Try.underlying5 Try.underlying9 (Kd.C_below HR.out s0.B))⟩) hHeld ?_ ?_
  rotate_left
  · simp only [Act.put, List.setIfInBounds_toArray, List.set_cons_zero, List.set_cons_succ, i64_w, i32_w]
    rfl
  refine pure_ (i := 7) (N := some 38) (v := (.bool false)) (a' := ?_) #[true, true, true, true, true, true, true, true, false, false, false, false, false, false, false, false, false, false, false, false, false, false, false, false, false, false, false, false, false, false, false] rfl rfl (by kernel_rfl) (fun _ _ _ h => h) (Or.inl ⟨by rfl, by intro w'; (go_simp; try simp)⟩) ?_ ?_
  rotate_left
  · simp only [Act.put, List.setIfInBounds_toArray, List.set_cons_zero, List.set_cons_succ, i64_w, i32_w]
    rfl
  refine pure_ (i := 8) (N := some 39) (v := ?_) (a' := ?_) #[true, true, true, true, true, true, true, true, true, false, false, false, false, false, false, false, false, false, false, false, false, false, false, false, false, false, false, false, false, false, false] rfl rfl (by kernel_rfl) (fun _ _ _ h => h) (Or.inl ⟨by rfl, ?_⟩) ?_ ?_
  rotate_left
  · intro w'
    go_simp
    with_reducible rfl
  rotate_left
  · simp only [Act.put, List.setIfInBounds_toArray, List.set_cons_zero, List.set_cons_succ, i64_w, i32_w]
    rfl
  refine pure_ (i := 9) (N := some 40) (v := ?_) (a' := ?_) #[true, true, true, true, true, true, true, true, true, true, false, false, false, false, false, false, false, false, false, false, false, false, false, false, false, false, false, false, false, false, false] rfl rfl (by kernel_rfl) (fun _ _ _ h => h) (Or.inl ⟨by rfl, ?_⟩) ?_ ?_
  rotate_left
  · intro w'
    go_simp
    with_reducible rfl
  rotate_left
  · simp only [Act.put, List.setIfInBounds_toArray, List.set_cons_zero, List.set_cons_succ, i64_w, i32_w]
    rfl
  refine pure_ (i := 10) (N := some 41) (v := ?_) (a' := ?_) #[true, true, true, true, true, true, true, true, true, true, true, false, false, false, false, false, false, false, false, false, false, false, false, false, false, false, false, false, false, false, false] rfl rfl (by kernel_rfl) (fun _ _ _ h => h) (Or.inl ⟨by rfl, ?_⟩) ?_ ?_
  rotate_left
  · intro w'
    go_simp
    with_reducible rfl
  rotate_left
  · simp only [Act.put, List.setIfInBounds_toArray, List.set_cons_zero, List.set_cons_succ, i64_w, i32_w]
    rfl
  refine pure_ (i := 11) (N := some 42) (v := ?_) (a' := ?_) #[true, true, true, true, true, true, true, true, true, true, true, true, false, false, false, false, false, false, false, false, false, false, false, false, false, false, false, false, false, false, false] rfl rfl (by kernel_rfl) (fun _ _ _ h => h) (Or.inl ⟨by rfl, ?_⟩) ?_ ?_
  rotate_left
  · intro w'
    go_simp
    with_reducible rfl
  rotate_left
  · simp only [Act.put, List.setIfInBounds_toArray, List.set_cons_zero, List.set_cons_succ, i64_w, i32_w]
    rfl
  refine pure_ (i := 12) (N := some 43) (v := ?_) (a' := ?_) #[true, true, true, true, true, true, true, true, true, true, true, true, true, false, false, false, false, false, false, false, false, false, false, false, false, false, false, false, false, false, false] rfl rfl (by kernel_rfl) (fun _ _ _ h => h) (Or.inl ⟨by rfl, ?_⟩) ?_ ?_
  rotate_left
  · intro w'
    go_simp
    with_reducible rfl
  rotate_left
  · simp only [Act.put, List.setIfInBounds_toArray, List.set_cons_zero, List.set_cons_succ, i64_w, i32_w]
    rfl
  refine take_ (i := 13) (N := some 44) (v := ?_) (a' := ?_) #[true, true, true, true, true, true, true, true, true, true, true, true, true, true, false, false, false, false, false, false, false, false, false, false, false, false, false, false, false, false, false] rfl rfl (by kernel_rfl) (fun _ _ _ h => h) (Or.inl ⟨by rfl, ?_⟩) hHeld ?_ ?_
  rotate_left
  · rintro w' ⟨s0, s1, s2⟩
    go_simp
    with_reducible rfl
  rotate_left
  · simp only [Act.put, List.setIfInBounds_toArray, List.set_cons_zero, List.set_cons_succ, i64_w, i32_w]
    rfl
  refine pure_ (i := 14) (N := some 45) (v := (.bool false)) (a' := ?_) #[true, true, true, true, true, true, true, true, true, true, true, true, true, true, true, false, false, false, false, false, false, false, false, false, false, false, false, false, false, false, false] rfl rfl (by kernel_rfl) (fun _ _ _ h => h) (Or.inl ⟨by rfl, by intro w'; (go_simp; try simp)⟩) ?_ ?_
  rotate_left
  · simp only [Act.put, List.setIfInBounds_toArray, List.set_cons_zero, List.set_cons_succ, i64_w, i32_w]
    rfl
  refine pure_ (i := 15) (N := some 46) (v := ?_) (a' := ?_) #[true, true, true, true, true, true, true, true, true, true, true, true, true, true, true, true, false, false, false, false, false, false, false, false, false, false, false, false, false, false, false] rfl rfl (by kernel_rfl) (fun _ _ _ h => h) (Or.inl ⟨by rfl, ?_⟩) ?_ ?_
  rotate_left
  · intro w'
    go_simp
    with_reducible rfl
  rotate_left
  · simp only [Act.put, List.setIfInBounds_toArray, List.set_cons_zero, List.set_cons_succ, i64_w, i32_w]
    rfl
  refine pure_ (i := 16) (N := some 47) (v := ?_) (a' := ?_) #[true, true, true, true, true, true, true, true, true, true, true, true, true, true, true, true, true, false, false, false, false, false, false, false, false, false, false, false, false, false, false] rfl rfl (by kernel_rfl) (fun _ _ _ h => h) (Or.inl ⟨by rfl, ?_⟩) ?_ ?_
  rotate_left
  · intro w'
    go_simp
    with_reducible rfl
  rotate_left
  · simp only [Act.put, List.setIfInBounds_toArray, List.set_cons_zero, List.set_cons_succ, i64_w, i32_w]
    rfl
  refine pure_ (i := 17) (N := some 48) (v := ?_) (a' := ?_) #[true, true, true, true, true, true, true, true, true, true, true, true, true, true, true, true, true, true, false, false, false, false, false, false, false, false, false, false, false, false, false] rfl rfl (by kernel_rfl) (fun _ _ _ h => h) (Or.inl ⟨by rfl, ?_⟩) ?_ ?_
  rotate_left
  · intro w'
    go_simp
    with_reducible rfl
  rotate_left
  · simp only [Act.put, List.setIfInBounds_toArray, List.set_cons_zero, List.set_cons_succ, i64_w, i32_w]
    rfl
  refine pure_ (i := 18) (N := some 49) (v := ?_) (a' := ?_) #[true, true, true, true, true, true, true, true, true, true, true, true, true, true, true, true, true, true, true, false, false, false, false, false, false, false, false, false, false, false, false] rfl rfl (by kernel_rfl) (fun _ _ _ h => h) (Or.inl ⟨by rfl, ?_⟩) ?_ ?_
  rotate_left
  · intro w'
    go_simp
    with_reducible rfl
  rotate_left
  · simp only [Act.put, List.setIfInBounds_toArray, List.set_cons_zero, List.set_cons_succ, i64_w, i32_w]
    rfl
  refine pure_ (i := 19) (N := some 50) (v := ?_) (a' := ?_) #[true, true, true, true, true, true, true, true, true, true, true, true, true, true, true, true, true, true, true, true, false, false, false, false, false, false, false, false, false, false, false] rfl rfl (by kernel_rfl) (fun _ _ _ h => h) (Or.inl ⟨by rfl, ?_⟩) ?_ ?_
  rotate_left
  · intro w'
    go_simp
    with_reducible rfl
  rotate_left
  · simp only [Act.put, List.setIfInBounds_toArray, List.set_cons_zero, List.set_cons_succ, i64_w, i32_w]
    rfl
  refine pure_ (i := 20) (N := some 51) (v := ?_) (a' := ?_) #[true, true, true, true, true, true, true, true, true, true, true, true, true, true, true, true, true, true, true, true, true, false, false, false, false, false, false, false, false, false, false] rfl rfl (by kernel_rfl) (fun _ _ _ h => h) (Or.inl ⟨by rfl, ?_⟩) ?_ ?_
  rotate_left
  · intro w'
    go_simp
    with_reducible rfl
  rotate_left
  · simp only [Act.put, List.setIfInBounds_toArray, List.set_cons_zero, List.set_cons_succ, i64_w, i32_w]
    rfl
  refine pure_ (i := 21) (N := some 52) (v := ?_) (a' := ?_) #[true, true, true, true, true, true, true, true, true, true, true, true, true, true, true, true, true, true, true, true, true, true, false, false, false, false, false, false, false, false, false] rfl rfl (by kernel_rfl) (fun _ _ _ h => h) (Or.inl ⟨by rfl, ?_⟩) ?_ ?_
  rotate_left
  · intro w'
    go_simp
    with_reducible rfl
  rotate_left
  · simp only [Act.put, List.setIfInBounds_toArray, List.set_cons_zero, List.set_cons_succ, i64_w, i32_w]
    rfl
  refine take_ (i := 22) (N := some 53) (v := ?_) (a' := ?_) #[true, true, true, true, true, true, true, true, true, true, true, true, true, true, true, true, true, true, true, true, true, true, true, false, false, false, false, false, false, false, false] rfl rfl (by kernel_rfl) (fun _ _ _ h => h) (Or.inl ⟨by rfl, ?_⟩) hHeld ?_ ?_
  rotate_left
  · rintro w' ⟨s0, s1, s2⟩
    go_simp
    with_reducible rfl
  rotate_left
  · simp only [Act.put, List.setIfInBounds_toArray, List.set_cons_zero, List.set_cons_succ, i64_w, i32_w]
    rfl
  refine pure_ (i := 23) (N := some 54) (v := (.bool false)) (a' := ?_) #[true, true, true, true, true, true, true, true, true, true, true, true, true, true, true, true, true, true, true, true, true, true, true, true, false, false, false, false, false, false, false] rfl rfl (by kernel_rfl) (fun _ _ _ h => h) (Or.inl ⟨by rfl, by intro w'; (go_simp; try simp)⟩) ?_ ?_
  rotate_left
  · simp only [Act.put, List.setIfInBounds_toArray, List.set_cons_zero, List.set_cons_succ, i64_w, i32_w]
    rfl
  refine pure_ (i := 24) (N := some 55) (v := ?_) (a' := ?_) #[true, true, true, true, true, true, true, true, true, true, true, true, true, true, true, true, true, true, true, true, true, true, true, true, true, false, false, false, false, false, false] rfl rfl (by kernel_rfl) (fun _ _ _ h => h) (Or.inl ⟨by rfl, ?_⟩) ?_ ?_
  rotate_left
  · intro w'
    go_simp
    with_reducible rfl
  rotate_left
  · simp only [Act.put, List.setIfInBounds_toArray, List.set_cons_zero, List.set_cons_succ, i64_w, i32_w]
    rfl
  refine pure_ (i := 25) (N := some 56) (v := ?_) (a' := ?_) #[true, true, true, true, true, true, true, true, true, true, true, true, true, true, true, true, true, true, true, true, true, true, true, true, true, true, false, false, false, false, false] rfl rfl (by kernel_rfl) (fun _ _ _ h => h) (Or.inl ⟨by rfl, ?_⟩) ?_ ?_
  rotate_left
  · intro w'
    go_simp
    with_reducible rfl
  rotate_left
  · simp only [Act.put, List.setIfInBounds_toArray, List.set_cons_zero, List.set_cons_succ, i64_w, i32_w]
    rfl
  refine pure_ (i := 26) (N := some 57) (v := ?_) (a' := ?_) #[true, true, true, true, true, true, true, true, true, true, true, true, true, true, true, true, true, true, true, true, true, true, true, true, true, true, true, false, false, false, false] rfl rfl (by kernel_rfl) (fun _ _ _ h => h) (Or.inl ⟨by rfl, ?_⟩) ?_ ?_
  rotate_left
  · intro w'
    go_simp
    with_reducible rfl
  rotate_left
  · simp only [Act.put, List.setIfInBounds_toArray, List.set_cons_zero, List.set_cons_succ, i64_w, i32_w]
    rfl
  refine pure_ (i := 27) (N := some 58) (v := ?_) (a' := ?_) #[true, true, true, true, true, true, true, true, true, true, true, true, true, true, true, true, true, true, true, true, true, true, true, true, true, true, true, true, false, false, false] rfl rfl (by kernel_rfl) (fun _ _ _ h => h) (Or.inl ⟨by rfl, ?_⟩) ?_ ?_
  rotate_left
  · intro w'
    go_simp
    with_reducible rfl
  rotate_left
  · simp only [Act.put, List.setIfInBounds_toArray, List.set_cons_zero, List.set_cons_succ, i64_w, i32_w]
    rfl
  refine one_ (i := 28) (N := some 59) #[true, true, true, true, true, true, true, true, true, true, true, true, true, true, true, true, true, true, true, true, true, true, true, true, true, true, true, true, true, false, false] rfl rfl (by kernel_rfl) (by decide) (fun K hK => ?_)
  refine goes_ Try.func20 (by kernel_rfl) rfl #[(Value.slice A6 Rn.length c6), (Value.slice A7 Rn.length c7)] (by rfl) rfl rfl (by simp [Act.eval]) ?_
  refine (quoinlaw06_same.calls 2200000 A6 c6 Rn A7 c7 Rn true _ (Kd.R_reads' hHeld.1.r6).2.2 (Kd.R_reads' hHeld.1.r6).2.1 (Kd.R_reads' hHeld.1.r7).2.2 (Kd.R_reads' hHeld.1.r7).2.1 HSM.out).mono ?_
  rintro e wc ⟨rfl, ⟨nd, rfl⟩⟩
  refine ⟨_, rfl, ?_⟩
  refine hK.out _ _ ⟨hHeld.1.step (pw_below_drewN (Below.refl _ _) nd), hHeld.2.1, hHeld.2.2⟩ (fun hHeld => ?_)
  clear hK K
  refine norm_ (a' := ?_) ?_ ?_
  rotate_left
  · show Act.put _ (some 59) _ = _
    simp only [Act.put, List.setIfInBounds_toArray, List.set_cons_zero, List.set_cons_succ, i64_w, i32_w]
    rfl
  refine pure_ (i := 29) (N := some 60) (v := ?_) (a' := ?_) #[true, true, true, true, true, true, true, true, true, true, true, true, true, true, true, true, true, true, true, true, true, true, true, true, true, true, true, true, true, true, false] rfl rfl (by kernel_rfl) (fun _ _ _ h => h) (Or.inl ⟨by rfl, ?_⟩) ?_ ?_
  rotate_left
  · intro w'
    go_simp
    with_reducible rfl
  rotate_left
  · simp only [Act.put, List.setIfInBounds_toArray, List.set_cons_zero, List.set_cons_succ, i64_w, i32_w]
    rfl
  refine pure_ (i := 30) (N := some 61) (v := ?_) (a' := ?_) #[true, true, true, true, true, true, true, true, true, true, true, true, true, true, true, true, true, true, true, true, true, true, true, true, true, true, true, true, true, true, true] rfl rfl (by kernel_rfl) (fun _ _ _ h => h) (Or.inl ⟨by rfl, ?_⟩) ?_ ?_
  rotate_left
  · intro w'
    go_simp
    with_reducible rfl
  rotate_left
  · simp only [Act.put, List.setIfInBounds_toArray, List.set_cons_zero, List.set_cons_succ, i64_w, i32_w]
    rfl
  refine done_ (by kernel_rfl) ?_
  have HK5 := Aside0.mk hHeld.1
  clear hHeld HK hx1 hx2
  generalize World.drewN _ _ = wd at HK5 ⊢
  go_upto_region 7 with (fail)
  have HE := Aside0.mk (empty_row .i64 3 wd)
  go_wp2_with (first | ((with_reducible refine gate_builtin (b := .append) (xs := #[.tmp 62, .tmp 63]) rfl ?_); at_builtin; refine Kd.R_append_rows (Kd.int .i64) (Rr := (Kd.int .i64).K (wd.alloc (Obj.cells #[] 3))) (w0 := wd) wd.heap.size rfl (.tmp 62) (.tmp 63) 29 3 (.int .i64 0) 8 rfl Try.underlying29 info3k rfl (by decide) (by omega) (Value.slice (some ⟨wd.heap.size, 0, none⟩) 0 0) [] Rn A7 Rn.length c7 (fun _ => True) (fun _ => False) rfl rfl ?aO ?aR (fun _ _ h => h) (fun _ h => h.elim) ?aF ?aB ?aS ?aL ?_; (case aO => exact HE.out); (case aR => exact Kd.C_alloc (Kd.R_reads' HK5.out.r7).2.2 _); (case aF => intro k hk; trivial); (case aB => exact (Below.refl _ _).alloc (Nat.le_refl _) _); (case aS => simp); (case aL => have := HRL.out; simp; omega)))
  intro v8 w8 ho hb hg hat
  have hK8 := HK5.out.made8 ho hb
  obtain ⟨A8, c8, e8⟩ := Kd.R_slice ho
  subst e8
  have HK8 := Aside0.mk hK8
  clear ho hb hg hat hK8 HE HK5
  go_wp2_with fail
  skip
  go_loopw [9] (fun v9 W => ∃ (i : Nat) (l6 : List Int), i ≤ Rn.length ∧ l6.length = Rn.length ∧ v9 = .int .i64 i ∧ Aside0 (KK w W (Value.slice (some ⟨g5, 0, none⟩) (T ++ [200, 201]).length c5) (Value.slice A6 Rn.length c6) (Value.slice A7 Rn.length c7) (Value.slice A8 Rn.length c8) (T ++ [200, 201]) l6 Rn Rn)) (fun v9 _ => Rn.length - (intOf v9).toNat)
  case atStart => exact ⟨0, Rn, by omega, rfl, rfl, HK8⟩
  case round =>
    clear HK8
    obtain ⟨i, l6, hi, hl6, rfl, HK⟩ := hrel
    by_cases hlt : i < Rn.length
    · have hlt1 : ((i : Int) < (Rn.length : Int)) = True := eq_true (by omega)
      have hlt2 : decide ((i : Int) < (Rn.length : Int)) = true := decide_eq_true (by omega)
      have hw : IntKind.i64.wrap ((i : Int) + 1) = (i : Int) + 1 := by have := HRL.out; rw [i64_w]; unfold Go.RowKit.wrap64; omega
      obtain ⟨g6, rfl, hx6, hf6⟩ := HK.out.at6 i hl6 hlt
      have HP := Aside0.mk (HK.out.put6' hl6 i (-1))
      clear HK
      go_wp2
      go_roundw
      case measure => simp [intOf]; omega
      case rel => exact ⟨i + 1, l6.set i (-1), by omega, by rw [List.length_set]; exact hl6, by go_num, HP⟩
    · have hlt1 : ((i : Int) < (Rn.length : Int)) = False := eq_false (by omega)
      have hlt2 : decide ((i : Int) < (Rn.length : Int)) = false := decide_eq_false (by omega)
      go_wp2_with fail
      have HK0 := Aside0.mk (show KK w wr (Value.slice (some ⟨g5, 0, none⟩) (T ++ [200, 201]).length c5) (Value.slice A6 Rn.length c6) (Value.slice A7 Rn.length c7) (Value.slice A8 Rn.length c8) (T ++ [200, 201]) l6 Rn Rn from HK.out)
      have HL6 := Aside0.mk hl6
      clear HK hl6 hlt1 hlt2 hlt hi
      go_loopw [6, 10] (fun v6 v10 W => ∃ (i : Nat) (l : List Int), i ≤ 20 ∧ i ≤ l.length ∧ l.length ≤ 1048576 + i ∧ v10 = .int .i64 i ∧ Aside0 (KK w W (Value.slice (some ⟨g5, 0, none⟩) (T ++ [200, 201]).length c5) v6 (Value.slice A7 Rn.length c7) (Value.slice A8 Rn.length c8) (T ++ [200, 201]) l Rn Rn)) (fun _ v10 _ => 20 - (intOf v10).toNat)
      case atStart => exact ⟨0, l6, by omega, by omega, by have := HL6.out; have := HRL.out; omega, rfl, HK0⟩
      case round =>
        clear HK0
        obtain ⟨i2, l, hi2, hl1, hl2, rfl, HK⟩ := hrel
        obtain ⟨Ax, cx, ex⟩ := Kd.R_slice HK.out.r6
        subst ex
        by_cases hlt : i2 < 20
        · have hlt1 : ((i2 : Int) < 20) = True := eq_true (by omega)
          have hlt2 : decide ((i2 : Int) < 20) = true := decide_eq_true (by omega)
          have hw : IntKind.i64.wrap ((i2 : Int) + 1) = (i2 : Int) + 1 := by rw [i64_w]; unfold Go.RowKit.wrap64; omega
          go_wp2_with (first | ((with_reducible refine gate_builtin (b := .append) (xs := #[.tmp 78, .tmp 79]) rfl ?_); at_builtin; refine Kd.R_append (Kd.int .i64) (w0 := w) w.heap.size rfl (.tmp 78) (.tmp 79) 29 3 (.int .i64 0) 8 rfl Try.underlying29 info3k rfl (by decide) (by omega) (Value.slice Ax l.length cx) l (-2) [.int .i64 (-2)] (fun _ => True) (fun _ => False) rfl rfl ?aP (fun _ hk => hk.elim) ?aF ?aO ?aB ?aS ?aL ?_; (case aP => exact rfl); (case aF => intro k hk; trivial); (case aO => exact HK.out.r6); (case aB => exact HK.out.B); (case aS => exact HK.out.sz); (case aL => omega)))
          intro vn wn ho hb hg hat
          have HP := Aside0.mk (HK.out.app6 ho hb hg hat)
          clear ho hb hg hat HK
          go_wp2
          go_roundw
          case measure => simp [intOf]; omega
          case rel => exact ⟨i2 + 1, l ++ [-2], by omega, by simp; omega, by simp; omega, by go_num, HP⟩
        · have hlt1 : ((i2 : Int) < 20) = False := eq_false (by omega)
          have hlt2 : decide ((i2 : Int) < 20) = false := decide_eq_false (by omega)
          have h20 : decide ((l.length : Int) ≥ 20) = true := decide_eq_true (by omega)
          have h20b : ((20 : Int) ≤ (l.length : Int)) = True := eq_true (by omega)
          go_wp2_with fail
          go_loopw [11] (fun v11 W => ∃ (i : Nat) (l5 : List Int), i ≤ T.length ∧ l5.length = T.length + 2 ∧ v11 = .int .i64 i ∧ Aside0 (KK w W (Value.slice (some ⟨g5, 0, none⟩) (T ++ [200, 201]).length c5) (Value.slice Ax l.length cx) (Value.slice A7 Rn.length c7) (Value.slice A8 Rn.length c8) l5 l Rn Rn)) (fun v11 _ => T.length - (intOf v11).toNat)
          case atStart => exact ⟨0, (T ++ [200, 201]), by omega, by simp, rfl, HK⟩
          case round =>
            clear HK hlt1 hlt2 hlt
            obtain ⟨i3, l5, hi3, hl5, rfl, HK⟩ := hrel
            by_cases hlt : i3 < T.length
            · have hlt1 : ((i3 : Int) < (T.length : Int)) = True := eq_true (by omega)
              have hlt2 : decide ((i3 : Int) < (T.length : Int)) = true := decide_eq_true (by omega)
              have hlt3 : ((i3 : Int) < (T.length : Int) + 2) = True := eq_true (by omega)
              have hw : IntKind.i64.wrap ((i3 : Int) + 1) = (i3 : Int) + 1 := by have := HL.out; rw [i64_w]; unfold Go.RowKit.wrap64; omega
              obtain ⟨hx5, hf5⟩ := HK.out.at5 i3 (by rw [hl5]; simp) (by omega)
              have HP := Aside0.mk (HK.out.put5' (by rw [hl5]; simp) i3 10)
              clear HK
              go_wp2
              go_roundw
              case measure => simp [intOf]; omega
              case rel => exact ⟨i3 + 1, l5.set i3 10, by omega, by rw [List.length_set]; exact hl5, by go_num, HP⟩
            · have hlt1 : ((i3 : Int) < (T.length : Int)) = False := eq_false (by omega)
              have hlt2 : decide ((i3 : Int) < (T.length : Int)) = false := decide_eq_false (by omega)
              go_wp2_with fail
              refine (quoinlaw06_same.calls 2200000 A7 c7 Rn A8 c8 Rn true _ (Kd.R_reads' HK.out.r7).2.2 (Kd.R_reads' HK.out.r7).2.1 (Kd.R_reads' HK.out.r8).2.2 (Kd.R_reads' HK.out.r8).2.1 HSM.out).mono ?_
              rintro e w12 ⟨rfl, ⟨nd, rfl⟩⟩
              have HK2 := Aside0.mk (HK.out.step (pw_below_drewN (Below.refl _ _) nd))
              clear HK
              go_wp2_with fail
              refine (class_Runs.calls 1048600 A c T big Rn _ (Kd.C_below HR.out HK2.out.B) HC.out HRUN.out).mono ?_
              rintro e w13 ⟨v13, rfl, h13, hb13⟩
              have HK3 := Aside0.mk (HK2.out.step hb13)
              obtain ⟨A9, c9, e9⟩ := Kd.R_slice h13
              subst e9
              have H13 := Aside0.mk h13
              clear h13 hb13 HK2
              go_wp2_with fail
              refine (quoinlaw06_same.calls 2200000 A9 c9 Rn A8 c8 Rn true _ (Kd.R_reads' H13.out).2.2 (Kd.R_reads' H13.out).2.1 (Kd.R_reads' HK3.out.r8).2.2 (Kd.R_reads' HK3.out.r8).2.1 HSM.out).mono ?_
              rintro e w14 ⟨rfl, ⟨nd, rfl⟩⟩
              have HB4 := Aside0.mk (pw_below_drewN HK3.out.B nd)
              clear HK3 H13
              go_wp2_with fail
              go_ret
              exact ⟨rfl, HB4.out⟩
theorem keeps_row (A : Option Addr) (c : Nat) (T : List Int) (big : Bool) (w : World) (hr : Kd.C (Kd.int .u8) w A T.length T) (hc : T.length ≤ c) {G1 G2 : Prop} (_ : G1) (_ : G2) (hl : T.length ≤ 1048576) :
    Calls Try.prog 7 #[.slice A T.length c, .bool big] w fun e w' => e = .returned (.bool true) ∧ Below w.heap.size w w' :=
  keeps_calls A c T big w hr hc hl (runsF T big T.length 0) (Nat.le_trans (runsF_len T big T.length 0) hl) (runs_eq T big hl 1048600 (by omega))
end Go.Proofs.Ytndfmgdpajcbdaa.Hand
