/- The law WordKinds: other bytes of the same kinds change no target. Condition: the sizes. -/
import Derived.Test.YtghoeadmimgfnaaKindsP
namespace Go.Proofs.Ytghoeadmimgfnaa.Hand
open Go.RowKit Go.Proofs.Ytghoeadmimgfnaa.PWb Go.Proofs.Ytghoeadmimgfnaa.Aggs Go.Proofs.YtghoeadmimgfnaaW.PrintWords Go.Proofs.YtghoeadmimgfnaaW.PrintLast Go.Proofs.YtghoeadmimgfnaaW.PrintMore
set_option linter.unusedVariables false
set_option linter.unusedSimpArgs false
attribute [local go_sem high] PWb.eqA27
set_option maxHeartbeats 2000000 in
set_option maxRecDepth 100000 in
theorem kinds0 (A : Option Addr) (c : Nat) (T : List Int) (at_ m n : Int) (key : ByteArray) (os : List Int) (hos : os.length = 256) (hob : ∀ x ∈ os, 0 ≤ x ∧ x ≤ 255) (hTb : ∀ x ∈ T, 0 ≤ x ∧ x ≤ 255) (w : World) (hr : Kd.C (Kd.int .u8) w A T.length T) (hc : T.length ≤ c) (hl : T.length ≤ 1048576) (hk : quoinlaw08_keys.f key = some ⟨#[119]⟩) :
    Calls Try.prog 7 #[.agg #[.slice A T.length c, .int .i64 at_, .int .i64 m, .int .i64 n, .string key], .agg (nums .u8 os).toArray] w fun e w' => e = .returned (.bool true) ∧ Below w.heap.size w w' := by
  have HR := Aside0.mk hr
  have HC := Aside0.mk hc
  have HL := Aside0.mk hl
  have HK := Aside0.mk hk
  have HOS := Aside0.mk hos
  have HOB := Aside0.mk hob
  have HTB := Aside0.mk hTb
  clear hr hc hl hk hos hob hTb
  go_enter Try.func7, Try.ntmps7
  go_upto_region 1 with (fail)
  have hA : ((w.alloc (Obj.cells #[Value.slice A T.length c, Value.int .i64 at_, Value.int .i64 m, Value.int .i64 n, Value.string key] 35)).alloc (Obj.cells (nums .u8 os).toArray 42)).heap[w.heap.size]? = some _ := blk_alloc (blk_new w (Obj.cells #[Value.slice A T.length c, Value.int .i64 at_, Value.int .i64 m, Value.int .i64 n, Value.string key] 35)) _
  have hb : ((w.alloc (Obj.cells #[Value.slice A T.length c, Value.int .i64 at_, Value.int .i64 m, Value.int .i64 n, Value.string key] 35)).alloc (Obj.cells (nums .u8 os).toArray 42)).heap[w.heap.size + 1]? = some _ := heap_alloc2_new w (Obj.cells #[Value.slice A T.length c, Value.int .i64 at_, Value.int .i64 m, Value.int .i64 n, Value.string key] 35) (Obj.cells (nums .u8 os).toArray 42)
  have hB := ((Below.refl w.heap.size w).alloc (Nat.le_refl _) (Obj.cells #[Value.slice A T.length c, Value.int .i64 at_, Value.int .i64 m, Value.int .i64 n, Value.string key] 35)).alloc (by simp) (Obj.cells (nums .u8 os).toArray 42)
  generalize (w.alloc (Obj.cells #[Value.slice A T.length c, Value.int .i64 at_, Value.int .i64 m, Value.int .i64 n, Value.string key] 35)).alloc (Obj.cells (nums .u8 os).toArray 42) = W at hA hb hB ⊢
  have H0a := Aside0.mk hA
  have H0b := Aside0.mk hb
  have H0B := Aside0.mk hB
  clear hA hb hB
  go_wp2_with fail
  refine (alive_calls W).mono ?_
  rintro e w1 ⟨rfl, h1⟩
  have H1a := Aside0.mk (blk_below H0a.out h1)
  have H1b := Aside0.mk (blk_below H0b.out h1)
  have H1B := Aside0.mk (below_step H0B.out h1)
  clear h1 H0a H0b H0B
  have hx0 := blk_cell H1a.out 0
  have hx1 := blk_cell H1a.out 1
  have hx2 := blk_cell H1a.out 2
  have hx3 := blk_cell H1a.out 3
  have hx4 := blk_cell H1a.out 4
  simp only [List.getElem?_toArray, List.getElem?_cons_zero, List.getElem?_cons_succ] at hx0 hx1 hx2 hx3 hx4
  go_wp2_with fail
  refine (quoinlaw08_keys.calls key ⟨#[119]⟩ _ HK.out).mono ?_
  rintro e w2 ⟨rfl, h2⟩
  have h2 := h2.below
  have H2a := Aside0.mk (blk_below H1a.out h2)
  have H2b := Aside0.mk (blk_below H1b.out h2)
  have H2B := Aside0.mk (below_step H1B.out h2)
  clear h2 H1a H1b H1B
  clear hx0 hx1 hx2 hx3 hx4
  have hx0 := blk_cell H2a.out 0
  have hx1 := blk_cell H2a.out 1
  have hx2 := blk_cell H2a.out 2
  have hx3 := blk_cell H2a.out 3
  have hx4 := blk_cell H2a.out 4
  simp only [List.getElem?_toArray, List.getElem?_cons_zero, List.getElem?_cons_succ] at hx0 hx1 hx2 hx3 hx4
  have hy0 : (w2.alloc (Obj.cells #[] 5)).cell? ⟨w.heap.size, 0, none⟩ = some (.slice A T.length c) := by rw [blk_cell (blk_alloc H2a.out _)]; rfl
  have HE := Aside0.mk (empty_R w2 w.heap.size (H2B.out.size) (by have := blk_lt H2b.out; omega))
  go_wp2_with (first | ((with_reducible refine gate_builtin (b := .append) (xs := #[.tmp 33, .tmp 35]) rfl ?_); at_builtin; refine Kd.R_append_rows (Kd.int .u8) (w0 := w) w.heap.size rfl (.tmp 33) (.tmp 35) 22 5 (.int .u8 0) 1 rfl Try.underlying22 info5 rfl (by decide) (by omega) (Value.slice (some ⟨w2.heap.size, 0, none⟩) 0 0) [] T A T.length c (fun k => w.heap.size + 2 ≤ k) (fun _ => False) rfl rfl ?aO ?aR (fun _ _ h => h) (fun _ h => h.elim) ?aF ?aB ?aS ?aL ?_; (case aO => exact HE.out); (case aR => exact Kd.C_below HR.out (H2B.out.alloc H2B.out.size _)); (case aF => intro k hk; have := blk_lt H2b.out; simp at hk; omega); (case aB => exact H2B.out.alloc H2B.out.size _); (case aS => have := H2B.out.size; simp; omega); (case aL => have := HL.out; simp; omega)))
  intro v3 w3 ho hb hg hat
  have hne : ∀ g, g ≠ w2.heap.size → some g ≠ (Value.slice (some ⟨w2.heap.size, 0, none⟩) 0 0).ownBlock := fun g h e => by simp [Value.ownBlock] at e; exact h e
  have ha3 := blk_grown (blk_alloc H2a.out (Obj.cells #[] 5)) hg (hne _ (by have := blk_lt H2b.out; omega))
  have hb3 := blk_grown (blk_alloc H2b.out (Obj.cells #[] 5)) hg (hne _ (by have := blk_lt H2b.out; omega))
  obtain ⟨A7, c7, e7⟩ := Kd.R_slice ho
  subst e7
  have HI0 := Aside0.mk (show KI w A c T at_ m n key os false A7 c7 w3 0 from ⟨ha3, hb3, hb, by rw [swapped_zero]; exact ho⟩)
  clear ho hb hg hat hne ha3 hb3 HE hy0 H2a H2b H2B hx0 hx1 hx2 hx3 hx4
  go_wp2_with fail
  go_loopw [8] (fun v8 W => ∃ i : Nat, i ≤ T.length ∧ v8 = .int .i64 i ∧ Aside0 (KI w A c T at_ m n key os false A7 c7 W i)) (fun v8 _ => T.length - (intOf v8).toNat)
  case atStart => exact ⟨0, by omega, rfl, HI0⟩
  case round =>
    clear HI0
    obtain ⟨i, hi, rfl, HI⟩ := hrel
    by_cases hlt : i < T.length
    · have hlt1 : ((i : Int) < (T.length : Int)) = True := eq_true (by omega)
      have hlt2 : decide ((i : Int) < (T.length : Int)) = true := decide_eq_true (by omega)
      have hw1 : IntKind.i64.wrap ((i : Int) + 1) = (i : Int) + 1 := by have := HL.out; rw [i64_w, w64] <;> omega
      obtain ⟨g, rfl, hg, hcx, hfx⟩ := HI.out.at_ hlt
      have hx := HTB.out _ (rd_mem T i hlt)
      have hox := HI.out.other HOS.out _ hx.1 hx.2
      have HG := Aside0.mk hg
      clear hg
      generalize hxe : rd T (i : Int) = x at hcx hx hox
      have hoc := rd os x
      clear hoc
      have hp1 : (0 ≤ x) = True := eq_true hx.1
      have hp2 : (x < 256) = True := eq_true (by omega)
      have hp3 : (x < 0) = False := eq_false (by omega)
      generalize hye : rd os x = y at hox
      have HXE := Aside0.mk hxe
      have HYE := Aside0.mk hye
      clear hx hxe hye
      go_upto_region 10 with (fail)
      refine start_ (n := 10) (S := fun w' => w'.cell? ⟨g, i, none⟩ = some (.int .u8 x) ∧ KI w A c T at_ m n key os false (some ⟨g, 0, none⟩) c7 w' i) (ds := []) #[false, false, false, false, false, false, false, false, false, false] (by kernel_rfl) rfl rfl ⟨hcx, HI.out.step (below_drew (Below.refl _ _))⟩ (fun hHeld => ?_)
      refine pure_ (i := 0) (N := some 49) (v := ?_) (a' := ?_) #[true, false, false, false, false, false, false, false, false, false] rfl rfl (by kernel_rfl) (fun _ _ _ h => h) (Or.inl ⟨by rfl, ?_⟩) ?_ ?_
      rotate_left
      · intro w'
        go_simp
        with_reducible rfl
      rotate_left
      · simp only [Act.put, List.setIfInBounds_toArray, List.set_cons_zero, List.set_cons_succ, i64_w, i32_w]
        rfl
      refine pure_ (i := 1) (N := some 50) (v := ?_) (a' := ?_) #[true, true, false, false, false, false, false, false, false, false] rfl rfl (by kernel_rfl) (fun _ _ _ h => h) (Or.inl ⟨by rfl, ?_⟩) ?_ ?_
      rotate_left
      · intro w'
        go_simp
        with_reducible rfl
      rotate_left
      · simp only [Act.put, List.setIfInBounds_toArray, List.set_cons_zero, List.set_cons_succ, i64_w, i32_w]
        rfl
      refine pure_ (i := 3) (N := some 52) (v := ?_) (a' := ?_) #[true, true, false, true, false, false, false, false, false, false] rfl rfl (by kernel_rfl) (fun _ _ _ h => h) (Or.inl ⟨by rfl, ?_⟩) ?_ ?_
      rotate_left
      · intro w'
        go_simp
        with_reducible rfl
      rotate_left
      · simp only [Act.put, List.setIfInBounds_toArray, List.set_cons_zero, List.set_cons_succ, i64_w, i32_w]
        rfl
      refine pure_ (i := 4) (N := some 53) (v := ?_) (a' := ?_) #[true, true, false, true, true, false, false, false, false, false] rfl rfl (by kernel_rfl) (fun _ _ _ h => h) (Or.inl ⟨by rfl, ?_⟩) ?_ ?_
      rotate_left
      · intro w'
        go_simp
        with_reducible rfl
      rotate_left
      · simp only [Act.put, List.setIfInBounds_toArray, List.set_cons_zero, List.set_cons_succ, i64_w, i32_w]
        rfl
      refine pure_ (i := 5) (N := some 54) (v := ?_) (a' := ?_) #[true, true, false, true, true, true, false, false, false, false] rfl rfl (by kernel_rfl) (fun _ _ _ h => h) (Or.inl ⟨by rfl, ?_⟩) ?_ ?_
      rotate_left
      · intro w'
        go_simp
        with_reducible rfl
      rotate_left
      · simp only [Act.put, List.setIfInBounds_toArray, List.set_cons_zero, List.set_cons_succ, i64_w, i32_w]
        rfl
      refine take_ (i := 6) (N := some 55) (v := ?_) (a' := ?_) #[true, true, false, true, true, true, true, false, false, false] rfl rfl (by kernel_rfl) (fun _ _ _ h => h) (Or.inl ⟨by rfl, ?_⟩) hHeld ?_ ?_
      rotate_left
      · rintro w' ⟨s0, s1⟩
        go_simp
        with_reducible rfl
      rotate_left
      · simp only [Act.put, List.setIfInBounds_toArray, List.set_cons_zero, List.set_cons_succ, i64_w, i32_w]
        rfl
      refine pure_ (i := 7) (N := some 56) (v := ?_) (a' := ?_) #[true, true, false, true, true, true, true, true, false, false] rfl rfl (by kernel_rfl) (fun _ _ _ h => h) (Or.inl ⟨by rfl, ?_⟩) ?_ ?_
      rotate_left
      · intro w'
        go_simp
        with_reducible rfl
      rotate_left
      · simp only [Act.put, List.setIfInBounds_toArray, List.set_cons_zero, List.set_cons_succ, i64_w, i32_w]
        rfl
      refine one_ (i := 2) (N := some 51) #[true, true, true, true, true, true, true, true, false, false] rfl rfl (by kernel_rfl) (by decide) (fun K hK => ?_)
      refine goes_ Try.func15 (by kernel_rfl) rfl #[.int .u8 y, .bool false] (by rfl) rfl rfl (by simp [Act.eval]) ?_
      refine (PWb.class_Of.calls 1 y false (cls y false) _ (of_b 0 y false)).mono ?_
      rintro e w5 ⟨rfl, ⟨nd, rfl⟩⟩
      refine ⟨_, rfl, ?_⟩
      refine hK.out _ _ ⟨hHeld.1, hHeld.2.step (pw_below_drewN (Below.refl _ _) nd)⟩ (fun hHeld => ?_)
      clear hK K
      refine norm_ (a' := ?_) ?_ ?_
      rotate_left
      · show Act.put _ (some 51) _ = _
        simp only [Act.put, List.setIfInBounds_toArray, List.set_cons_zero, List.set_cons_succ, i64_w, i32_w]
        rfl
      refine one_ (i := 8) (N := some 57) #[true, true, true, true, true, true, true, true, true, false] rfl rfl (by kernel_rfl) (by decide) (fun K hK => ?_)
      refine goes_ Try.func15 (by kernel_rfl) rfl #[.int .u8 x, .bool false] (by rfl) rfl rfl (by simp [Act.eval]) ?_
      refine (PWb.class_Of.calls 1 x false (cls x false) _ (of_b 0 x false)).mono ?_
      rintro e w5 ⟨rfl, ⟨nd, rfl⟩⟩
      refine ⟨_, rfl, ?_⟩
      refine hK.out _ _ ⟨hHeld.1, hHeld.2.step (pw_below_drewN (Below.refl _ _) nd)⟩ (fun hHeld => ?_)
      clear hK K
      refine norm_ (a' := ?_) ?_ ?_
      rotate_left
      · show Act.put _ (some 57) _ = _
        simp only [Act.put, List.setIfInBounds_toArray, List.set_cons_zero, List.set_cons_succ, i64_w, i32_w]
        rfl
      refine pure_ (i := 9) (N := some 58) (v := ?_) (a' := ?_) #[true, true, true, true, true, true, true, true, true, true] rfl rfl (by kernel_rfl) (fun _ _ _ h => h) (Or.inl ⟨by rfl, ?_⟩) ?_ ?_
      rotate_left
      · intro w'
        go_simp
        with_reducible rfl
      rotate_left
      · simp only [Act.put, List.setIfInBounds_toArray, List.set_cons_zero, List.set_cons_succ, i64_w, i32_w]
        rfl
      refine done_ (by kernel_rfl) ?_
      generalize World.drewN _ _ = w6 at hHeld ⊢
      obtain ⟨hcx6, hI6⟩ := hHeld
      have HI6 := Aside0.mk hI6
      clear hI6 hcx hfx hox HI
      have hf6 : w6.frozen? ⟨g, i, none⟩ = false := by
        obtain ⟨g', hg', _, _, h⟩ := HI6.out.at_ hlt
        cases hg'
        exact h
      by_cases he : cls y false = cls x false
      · have heb : (cls y false == cls x false) = true := beq_iff_eq.mpr he
        have hsw : swapK os false (rd T (i : Int)) = y := by unfold swapK; rw [HXE.out, HYE.out, if_pos he]
        have HP := Aside0.mk (HI6.out.put hlt HG.out y hsw)
        clear he hsw
        go_wp2
        go_roundw
        case measure => simp [intOf]; omega
        case rel => exact ⟨i + 1, by omega, by go_num, HP⟩
      · have heb : (cls y false == cls x false) = false := beq_eq_false_iff_ne.mpr he
        have hsw : swapK os false (rd T (i : Int)) = rd T (i : Int) := by unfold swapK; rw [HXE.out, HYE.out, if_neg he]
        have HP := Aside0.mk (HI6.out.same hlt hsw)
        clear he hsw
        go_wp2
        go_roundw
        case measure => simp [intOf]; omega
        case rel => exact ⟨i + 1, by omega, by go_num, HP⟩
    · have hlt1 : ((i : Int) < (T.length : Int)) = False := eq_false (by omega)
      have hlt2 : decide ((i : Int) < (T.length : Int)) = false := decide_eq_false (by omega)
      obtain rfl : i = T.length := by omega
      have hx0 := blk_cell HI.out.a 0
      have hx1 := blk_cell HI.out.a 1
      have hx3 := blk_cell HI.out.a 3
      simp only [List.getElem?_toArray, List.getElem?_cons_zero, List.getElem?_cons_succ] at hx0 hx1 hx3
      go_wp2_with fail
      refine (Move_calls A c T at_ n ⟨#[119]⟩ wr (Kd.C_below HR.out HI.out.B) HL.out).mono ?_
      rintro e w7 ⟨rfl, h7⟩
      generalize hre : mwF T at_ n ⟨#[119]⟩ = r
      obtain ⟨r0, r1, r2, r3⟩ := r
      unfold mvV
      simp only []
      have HRE := Aside0.mk hre
      have HI7 := Aside0.mk (HI.out.step h7)
      clear h7 HI hre hx0 hx1 hx3
      go_upto_region 13 with (fail)
      have hR8 := blk_new w7 (Obj.cells #[.int .i64 r0, .int .i64 r1, .int .i64 r2] 27)
      have hI8 := HI7.out.step ((Below.refl _ _).alloc (Nat.le_refl _) (Obj.cells #[.int .i64 r0, .int .i64 r1, .int .i64 r2] 27))
      generalize w7.alloc (Obj.cells #[.int .i64 r0, .int .i64 r1, .int .i64 r2] 27) = w8 at hR8 hI8 ⊢
      have HR8 := Aside0.mk hR8
      have HI8 := Aside0.mk hI8
      clear hR8 hI8 HI7
      have hx0 := blk_cell HI8.out.a 0
      have hx1 := blk_cell HI8.out.a 1
      have hx3 := blk_cell HI8.out.a 3
      simp only [List.getElem?_toArray, List.getElem?_cons_zero, List.getElem?_cons_succ] at hx0 hx1 hx3
      go_wp2_with fail
      have hr8 := HI8.out.r
      rw [swapped_all] at hr8
      have hM := Move_calls A7 c7 (T.map (swapK os false)) at_ n ⟨#[119]⟩ w8 (Kd.R_reads' hr8).2.2 (by rw [List.length_map]; exact HL.out)
      rw [show mwF (T.map (swapK os false)) at_ n ⟨#[119]⟩ = mwF T at_ n ⟨#[119]⟩ from mwF_map os T 0 ⟨#[119]⟩ (by simp [kix, ByteArray.toList_eq]) at_ n, HRE.out, List.length_map] at hM
      refine hM.mono ?_
      rintro e w9 ⟨rfl, h9⟩
      unfold mvV
      simp only []
      have HR9 := Aside0.mk (blk_below HR8.out h9)
      have HI9 := Aside0.mk (HI8.out.step h9)
      clear h9 hM hr8 hx0 hx1 hx3 HR8 HI8
      go_upto_region 14 with (fail)
      have hra := blk_alloc HR9.out (Obj.cells #[.int .i64 r0, .int .i64 r1, .int .i64 r2] 27)
      have hrb := blk_new w9 (Obj.cells #[.int .i64 r0, .int .i64 r1, .int .i64 r2] 27)
      have hB9 := HI9.out.B.alloc HI9.out.B.size (Obj.cells #[.int .i64 r0, .int .i64 r1, .int .i64 r2] 27)
      generalize w9.alloc (Obj.cells #[.int .i64 r0, .int .i64 r1, .int .i64 r2] 27) = wa at hra hrb hB9 ⊢
      have HB9 := Aside0.mk hB9
      have hp0 := blk_cell hra 0
      have hp1 := blk_cell hra 1
      have hp2 := blk_cell hra 2
      have hq0 := blk_cell hrb 0
      have hq1 := blk_cell hrb 1
      have hq2 := blk_cell hrb 2
      simp only [List.getElem?_toArray, List.getElem?_cons_zero, List.getElem?_cons_succ] at hp0 hp1 hp2 hq0 hq1 hq2
      clear hra hrb hB9
      go_wp2_with fail
      go_ret
      exact ⟨by simp, HB9.out⟩
set_option maxHeartbeats 2000000 in
set_option maxRecDepth 100000 in
theorem kinds1 (A : Option Addr) (c : Nat) (T : List Int) (at_ m n : Int) (key : ByteArray) (os : List Int) (hos : os.length = 256) (hob : ∀ x ∈ os, 0 ≤ x ∧ x ≤ 255) (hTb : ∀ x ∈ T, 0 ≤ x ∧ x ≤ 255) (w : World) (hr : Kd.C (Kd.int .u8) w A T.length T) (hc : T.length ≤ c) (hl : T.length ≤ 1048576) (hk : quoinlaw08_keys.f key = some ⟨#[98]⟩) :
    Calls Try.prog 7 #[.agg #[.slice A T.length c, .int .i64 at_, .int .i64 m, .int .i64 n, .string key], .agg (nums .u8 os).toArray] w fun e w' => e = .returned (.bool true) ∧ Below w.heap.size w w' := by
  have HR := Aside0.mk hr
  have HC := Aside0.mk hc
  have HL := Aside0.mk hl
  have HK := Aside0.mk hk
  have HOS := Aside0.mk hos
  have HOB := Aside0.mk hob
  have HTB := Aside0.mk hTb
  clear hr hc hl hk hos hob hTb
  go_enter Try.func7, Try.ntmps7
  go_upto_region 1 with (fail)
  have hA : ((w.alloc (Obj.cells #[Value.slice A T.length c, Value.int .i64 at_, Value.int .i64 m, Value.int .i64 n, Value.string key] 35)).alloc (Obj.cells (nums .u8 os).toArray 42)).heap[w.heap.size]? = some _ := blk_alloc (blk_new w (Obj.cells #[Value.slice A T.length c, Value.int .i64 at_, Value.int .i64 m, Value.int .i64 n, Value.string key] 35)) _
  have hb : ((w.alloc (Obj.cells #[Value.slice A T.length c, Value.int .i64 at_, Value.int .i64 m, Value.int .i64 n, Value.string key] 35)).alloc (Obj.cells (nums .u8 os).toArray 42)).heap[w.heap.size + 1]? = some _ := heap_alloc2_new w (Obj.cells #[Value.slice A T.length c, Value.int .i64 at_, Value.int .i64 m, Value.int .i64 n, Value.string key] 35) (Obj.cells (nums .u8 os).toArray 42)
  have hB := ((Below.refl w.heap.size w).alloc (Nat.le_refl _) (Obj.cells #[Value.slice A T.length c, Value.int .i64 at_, Value.int .i64 m, Value.int .i64 n, Value.string key] 35)).alloc (by simp) (Obj.cells (nums .u8 os).toArray 42)
  generalize (w.alloc (Obj.cells #[Value.slice A T.length c, Value.int .i64 at_, Value.int .i64 m, Value.int .i64 n, Value.string key] 35)).alloc (Obj.cells (nums .u8 os).toArray 42) = W at hA hb hB ⊢
  have H0a := Aside0.mk hA
  have H0b := Aside0.mk hb
  have H0B := Aside0.mk hB
  clear hA hb hB
  go_wp2_with fail
  refine (alive_calls W).mono ?_
  rintro e w1 ⟨rfl, h1⟩
  have H1a := Aside0.mk (blk_below H0a.out h1)
  have H1b := Aside0.mk (blk_below H0b.out h1)
  have H1B := Aside0.mk (below_step H0B.out h1)
  clear h1 H0a H0b H0B
  have hx0 := blk_cell H1a.out 0
  have hx1 := blk_cell H1a.out 1
  have hx2 := blk_cell H1a.out 2
  have hx3 := blk_cell H1a.out 3
  have hx4 := blk_cell H1a.out 4
  simp only [List.getElem?_toArray, List.getElem?_cons_zero, List.getElem?_cons_succ] at hx0 hx1 hx2 hx3 hx4
  go_wp2_with fail
  refine (quoinlaw08_keys.calls key ⟨#[98]⟩ _ HK.out).mono ?_
  rintro e w2 ⟨rfl, h2⟩
  have h2 := h2.below
  have H2a := Aside0.mk (blk_below H1a.out h2)
  have H2b := Aside0.mk (blk_below H1b.out h2)
  have H2B := Aside0.mk (below_step H1B.out h2)
  clear h2 H1a H1b H1B
  clear hx0 hx1 hx2 hx3 hx4
  have hx0 := blk_cell H2a.out 0
  have hx1 := blk_cell H2a.out 1
  have hx2 := blk_cell H2a.out 2
  have hx3 := blk_cell H2a.out 3
  have hx4 := blk_cell H2a.out 4
  simp only [List.getElem?_toArray, List.getElem?_cons_zero, List.getElem?_cons_succ] at hx0 hx1 hx2 hx3 hx4
  have hy0 : (w2.alloc (Obj.cells #[] 5)).cell? ⟨w.heap.size, 0, none⟩ = some (.slice A T.length c) := by rw [blk_cell (blk_alloc H2a.out _)]; rfl
  have HE := Aside0.mk (empty_R w2 w.heap.size (H2B.out.size) (by have := blk_lt H2b.out; omega))
  go_wp2_with (first | ((with_reducible refine gate_builtin (b := .append) (xs := #[.tmp 33, .tmp 35]) rfl ?_); at_builtin; refine Kd.R_append_rows (Kd.int .u8) (w0 := w) w.heap.size rfl (.tmp 33) (.tmp 35) 22 5 (.int .u8 0) 1 rfl Try.underlying22 info5 rfl (by decide) (by omega) (Value.slice (some ⟨w2.heap.size, 0, none⟩) 0 0) [] T A T.length c (fun k => w.heap.size + 2 ≤ k) (fun _ => False) rfl rfl ?aO ?aR (fun _ _ h => h) (fun _ h => h.elim) ?aF ?aB ?aS ?aL ?_; (case aO => exact HE.out); (case aR => exact Kd.C_below HR.out (H2B.out.alloc H2B.out.size _)); (case aF => intro k hk; have := blk_lt H2b.out; simp at hk; omega); (case aB => exact H2B.out.alloc H2B.out.size _); (case aS => have := H2B.out.size; simp; omega); (case aL => have := HL.out; simp; omega)))
  intro v3 w3 ho hb hg hat
  have hne : ∀ g, g ≠ w2.heap.size → some g ≠ (Value.slice (some ⟨w2.heap.size, 0, none⟩) 0 0).ownBlock := fun g h e => by simp [Value.ownBlock] at e; exact h e
  have ha3 := blk_grown (blk_alloc H2a.out (Obj.cells #[] 5)) hg (hne _ (by have := blk_lt H2b.out; omega))
  have hb3 := blk_grown (blk_alloc H2b.out (Obj.cells #[] 5)) hg (hne _ (by have := blk_lt H2b.out; omega))
  obtain ⟨A7, c7, e7⟩ := Kd.R_slice ho
  subst e7
  have HI0 := Aside0.mk (show KI w A c T at_ m n key os false A7 c7 w3 0 from ⟨ha3, hb3, hb, by rw [swapped_zero]; exact ho⟩)
  clear ho hb hg hat hne ha3 hb3 HE hy0 H2a H2b H2B hx0 hx1 hx2 hx3 hx4
  go_wp2_with fail
  go_loopw [8] (fun v8 W => ∃ i : Nat, i ≤ T.length ∧ v8 = .int .i64 i ∧ Aside0 (KI w A c T at_ m n key os false A7 c7 W i)) (fun v8 _ => T.length - (intOf v8).toNat)
  case atStart => exact ⟨0, by omega, rfl, HI0⟩
  case round =>
    clear HI0
    obtain ⟨i, hi, rfl, HI⟩ := hrel
    by_cases hlt : i < T.length
    · have hlt1 : ((i : Int) < (T.length : Int)) = True := eq_true (by omega)
      have hlt2 : decide ((i : Int) < (T.length : Int)) = true := decide_eq_true (by omega)
      have hw1 : IntKind.i64.wrap ((i : Int) + 1) = (i : Int) + 1 := by have := HL.out; rw [i64_w, w64] <;> omega
      obtain ⟨g, rfl, hg, hcx, hfx⟩ := HI.out.at_ hlt
      have hx := HTB.out _ (rd_mem T i hlt)
      have hox := HI.out.other HOS.out _ hx.1 hx.2
      have HG := Aside0.mk hg
      clear hg
      generalize hxe : rd T (i : Int) = x at hcx hx hox
      have hoc := rd os x
      clear hoc
      have hp1 : (0 ≤ x) = True := eq_true hx.1
      have hp2 : (x < 256) = True := eq_true (by omega)
      have hp3 : (x < 0) = False := eq_false (by omega)
      generalize hye : rd os x = y at hox
      have HXE := Aside0.mk hxe
      have HYE := Aside0.mk hye
      clear hx hxe hye
      go_upto_region 10 with (fail)
      refine start_ (n := 10) (S := fun w' => w'.cell? ⟨g, i, none⟩ = some (.int .u8 x) ∧ KI w A c T at_ m n key os false (some ⟨g, 0, none⟩) c7 w' i) (ds := []) #[false, false, false, false, false, false, false, false, false, false] (by kernel_rfl) rfl rfl ⟨hcx, HI.out.step (below_drew (Below.refl _ _))⟩ (fun hHeld => ?_)
      refine pure_ (i := 0) (N := some 49) (v := ?_) (a' := ?_) #[true, false, false, false, false, false, false, false, false, false] rfl rfl (by kernel_rfl) (fun _ _ _ h => h) (Or.inl ⟨by rfl, ?_⟩) ?_ ?_
      rotate_left
      · intro w'
        go_simp
        with_reducible rfl
      rotate_left
      · simp only [Act.put, List.setIfInBounds_toArray, List.set_cons_zero, List.set_cons_succ, i64_w, i32_w]
        rfl
      refine pure_ (i := 1) (N := some 50) (v := ?_) (a' := ?_) #[true, true, false, false, false, false, false, false, false, false] rfl rfl (by kernel_rfl) (fun _ _ _ h => h) (Or.inl ⟨by rfl, ?_⟩) ?_ ?_
      rotate_left
      · intro w'
        go_simp
        with_reducible rfl
      rotate_left
      · simp only [Act.put, List.setIfInBounds_toArray, List.set_cons_zero, List.set_cons_succ, i64_w, i32_w]
        rfl
      refine pure_ (i := 3) (N := some 52) (v := ?_) (a' := ?_) #[true, true, false, true, false, false, false, false, false, false] rfl rfl (by kernel_rfl) (fun _ _ _ h => h) (Or.inl ⟨by rfl, ?_⟩) ?_ ?_
      rotate_left
      · intro w'
        go_simp
        with_reducible rfl
      rotate_left
      · simp only [Act.put, List.setIfInBounds_toArray, List.set_cons_zero, List.set_cons_succ, i64_w, i32_w]
        rfl
      refine pure_ (i := 4) (N := some 53) (v := ?_) (a' := ?_) #[true, true, false, true, true, false, false, false, false, false] rfl rfl (by kernel_rfl) (fun _ _ _ h => h) (Or.inl ⟨by rfl, ?_⟩) ?_ ?_
      rotate_left
      · intro w'
        go_simp
        with_reducible rfl
      rotate_left
      · simp only [Act.put, List.setIfInBounds_toArray, List.set_cons_zero, List.set_cons_succ, i64_w, i32_w]
        rfl
      refine pure_ (i := 5) (N := some 54) (v := ?_) (a' := ?_) #[true, true, false, true, true, true, false, false, false, false] rfl rfl (by kernel_rfl) (fun _ _ _ h => h) (Or.inl ⟨by rfl, ?_⟩) ?_ ?_
      rotate_left
      · intro w'
        go_simp
        with_reducible rfl
      rotate_left
      · simp only [Act.put, List.setIfInBounds_toArray, List.set_cons_zero, List.set_cons_succ, i64_w, i32_w]
        rfl
      refine take_ (i := 6) (N := some 55) (v := ?_) (a' := ?_) #[true, true, false, true, true, true, true, false, false, false] rfl rfl (by kernel_rfl) (fun _ _ _ h => h) (Or.inl ⟨by rfl, ?_⟩) hHeld ?_ ?_
      rotate_left
      · rintro w' ⟨s0, s1⟩
        go_simp
        with_reducible rfl
      rotate_left
      · simp only [Act.put, List.setIfInBounds_toArray, List.set_cons_zero, List.set_cons_succ, i64_w, i32_w]
        rfl
      refine pure_ (i := 7) (N := some 56) (v := ?_) (a' := ?_) #[true, true, false, true, true, true, true, true, false, false] rfl rfl (by kernel_rfl) (fun _ _ _ h => h) (Or.inl ⟨by rfl, ?_⟩) ?_ ?_
      rotate_left
      · intro w'
        go_simp
        with_reducible rfl
      rotate_left
      · simp only [Act.put, List.setIfInBounds_toArray, List.set_cons_zero, List.set_cons_succ, i64_w, i32_w]
        rfl
      refine one_ (i := 2) (N := some 51) #[true, true, true, true, true, true, true, true, false, false] rfl rfl (by kernel_rfl) (by decide) (fun K hK => ?_)
      refine goes_ Try.func15 (by kernel_rfl) rfl #[.int .u8 y, .bool false] (by rfl) rfl rfl (by simp [Act.eval]) ?_
      refine (PWb.class_Of.calls 1 y false (cls y false) _ (of_b 0 y false)).mono ?_
      rintro e w5 ⟨rfl, ⟨nd, rfl⟩⟩
      refine ⟨_, rfl, ?_⟩
      refine hK.out _ _ ⟨hHeld.1, hHeld.2.step (pw_below_drewN (Below.refl _ _) nd)⟩ (fun hHeld => ?_)
      clear hK K
      refine norm_ (a' := ?_) ?_ ?_
      rotate_left
      · show Act.put _ (some 51) _ = _
        simp only [Act.put, List.setIfInBounds_toArray, List.set_cons_zero, List.set_cons_succ, i64_w, i32_w]
        rfl
      refine one_ (i := 8) (N := some 57) #[true, true, true, true, true, true, true, true, true, false] rfl rfl (by kernel_rfl) (by decide) (fun K hK => ?_)
      refine goes_ Try.func15 (by kernel_rfl) rfl #[.int .u8 x, .bool false] (by rfl) rfl rfl (by simp [Act.eval]) ?_
      refine (PWb.class_Of.calls 1 x false (cls x false) _ (of_b 0 x false)).mono ?_
      rintro e w5 ⟨rfl, ⟨nd, rfl⟩⟩
      refine ⟨_, rfl, ?_⟩
      refine hK.out _ _ ⟨hHeld.1, hHeld.2.step (pw_below_drewN (Below.refl _ _) nd)⟩ (fun hHeld => ?_)
      clear hK K
      refine norm_ (a' := ?_) ?_ ?_
      rotate_left
      · show Act.put _ (some 57) _ = _
        simp only [Act.put, List.setIfInBounds_toArray, List.set_cons_zero, List.set_cons_succ, i64_w, i32_w]
        rfl
      refine pure_ (i := 9) (N := some 58) (v := ?_) (a' := ?_) #[true, true, true, true, true, true, true, true, true, true] rfl rfl (by kernel_rfl) (fun _ _ _ h => h) (Or.inl ⟨by rfl, ?_⟩) ?_ ?_
      rotate_left
      · intro w'
        go_simp
        with_reducible rfl
      rotate_left
      · simp only [Act.put, List.setIfInBounds_toArray, List.set_cons_zero, List.set_cons_succ, i64_w, i32_w]
        rfl
      refine done_ (by kernel_rfl) ?_
      generalize World.drewN _ _ = w6 at hHeld ⊢
      obtain ⟨hcx6, hI6⟩ := hHeld
      have HI6 := Aside0.mk hI6
      clear hI6 hcx hfx hox HI
      have hf6 : w6.frozen? ⟨g, i, none⟩ = false := by
        obtain ⟨g', hg', _, _, h⟩ := HI6.out.at_ hlt
        cases hg'
        exact h
      by_cases he : cls y false = cls x false
      · have heb : (cls y false == cls x false) = true := beq_iff_eq.mpr he
        have hsw : swapK os false (rd T (i : Int)) = y := by unfold swapK; rw [HXE.out, HYE.out, if_pos he]
        have HP := Aside0.mk (HI6.out.put hlt HG.out y hsw)
        clear he hsw
        go_wp2
        go_roundw
        case measure => simp [intOf]; omega
        case rel => exact ⟨i + 1, by omega, by go_num, HP⟩
      · have heb : (cls y false == cls x false) = false := beq_eq_false_iff_ne.mpr he
        have hsw : swapK os false (rd T (i : Int)) = rd T (i : Int) := by unfold swapK; rw [HXE.out, HYE.out, if_neg he]
        have HP := Aside0.mk (HI6.out.same hlt hsw)
        clear he hsw
        go_wp2
        go_roundw
        case measure => simp [intOf]; omega
        case rel => exact ⟨i + 1, by omega, by go_num, HP⟩
    · have hlt1 : ((i : Int) < (T.length : Int)) = False := eq_false (by omega)
      have hlt2 : decide ((i : Int) < (T.length : Int)) = false := decide_eq_false (by omega)
      obtain rfl : i = T.length := by omega
      have hx0 := blk_cell HI.out.a 0
      have hx1 := blk_cell HI.out.a 1
      have hx3 := blk_cell HI.out.a 3
      simp only [List.getElem?_toArray, List.getElem?_cons_zero, List.getElem?_cons_succ] at hx0 hx1 hx3
      go_wp2_with fail
      refine (Move_calls A c T at_ n ⟨#[98]⟩ wr (Kd.C_below HR.out HI.out.B) HL.out).mono ?_
      rintro e w7 ⟨rfl, h7⟩
      generalize hre : mwF T at_ n ⟨#[98]⟩ = r
      obtain ⟨r0, r1, r2, r3⟩ := r
      unfold mvV
      simp only []
      have HRE := Aside0.mk hre
      have HI7 := Aside0.mk (HI.out.step h7)
      clear h7 HI hre hx0 hx1 hx3
      go_upto_region 13 with (fail)
      have hR8 := blk_new w7 (Obj.cells #[.int .i64 r0, .int .i64 r1, .int .i64 r2] 27)
      have hI8 := HI7.out.step ((Below.refl _ _).alloc (Nat.le_refl _) (Obj.cells #[.int .i64 r0, .int .i64 r1, .int .i64 r2] 27))
      generalize w7.alloc (Obj.cells #[.int .i64 r0, .int .i64 r1, .int .i64 r2] 27) = w8 at hR8 hI8 ⊢
      have HR8 := Aside0.mk hR8
      have HI8 := Aside0.mk hI8
      clear hR8 hI8 HI7
      have hx0 := blk_cell HI8.out.a 0
      have hx1 := blk_cell HI8.out.a 1
      have hx3 := blk_cell HI8.out.a 3
      simp only [List.getElem?_toArray, List.getElem?_cons_zero, List.getElem?_cons_succ] at hx0 hx1 hx3
      go_wp2_with fail
      have hr8 := HI8.out.r
      rw [swapped_all] at hr8
      have hM := Move_calls A7 c7 (T.map (swapK os false)) at_ n ⟨#[98]⟩ w8 (Kd.R_reads' hr8).2.2 (by rw [List.length_map]; exact HL.out)
      rw [show mwF (T.map (swapK os false)) at_ n ⟨#[98]⟩ = mwF T at_ n ⟨#[98]⟩ from mwF_map os T 1 ⟨#[98]⟩ (by simp [kix, ByteArray.toList_eq]) at_ n, HRE.out, List.length_map] at hM
      refine hM.mono ?_
      rintro e w9 ⟨rfl, h9⟩
      unfold mvV
      simp only []
      have HR9 := Aside0.mk (blk_below HR8.out h9)
      have HI9 := Aside0.mk (HI8.out.step h9)
      clear h9 hM hr8 hx0 hx1 hx3 HR8 HI8
      go_upto_region 14 with (fail)
      have hra := blk_alloc HR9.out (Obj.cells #[.int .i64 r0, .int .i64 r1, .int .i64 r2] 27)
      have hrb := blk_new w9 (Obj.cells #[.int .i64 r0, .int .i64 r1, .int .i64 r2] 27)
      have hB9 := HI9.out.B.alloc HI9.out.B.size (Obj.cells #[.int .i64 r0, .int .i64 r1, .int .i64 r2] 27)
      generalize w9.alloc (Obj.cells #[.int .i64 r0, .int .i64 r1, .int .i64 r2] 27) = wa at hra hrb hB9 ⊢
      have HB9 := Aside0.mk hB9
      have hp0 := blk_cell hra 0
      have hp1 := blk_cell hra 1
      have hp2 := blk_cell hra 2
      have hq0 := blk_cell hrb 0
      have hq1 := blk_cell hrb 1
      have hq2 := blk_cell hrb 2
      simp only [List.getElem?_toArray, List.getElem?_cons_zero, List.getElem?_cons_succ] at hp0 hp1 hp2 hq0 hq1 hq2
      clear hra hrb hB9
      go_wp2_with fail
      go_ret
      exact ⟨by simp, HB9.out⟩
set_option maxHeartbeats 2000000 in
set_option maxRecDepth 100000 in
theorem kinds2 (A : Option Addr) (c : Nat) (T : List Int) (at_ m n : Int) (key : ByteArray) (os : List Int) (hos : os.length = 256) (hob : ∀ x ∈ os, 0 ≤ x ∧ x ≤ 255) (hTb : ∀ x ∈ T, 0 ≤ x ∧ x ≤ 255) (w : World) (hr : Kd.C (Kd.int .u8) w A T.length T) (hc : T.length ≤ c) (hl : T.length ≤ 1048576) (hk : quoinlaw08_keys.f key = some ⟨#[101]⟩) :
    Calls Try.prog 7 #[.agg #[.slice A T.length c, .int .i64 at_, .int .i64 m, .int .i64 n, .string key], .agg (nums .u8 os).toArray] w fun e w' => e = .returned (.bool true) ∧ Below w.heap.size w w' := by
  have HR := Aside0.mk hr
  have HC := Aside0.mk hc
  have HL := Aside0.mk hl
  have HK := Aside0.mk hk
  have HOS := Aside0.mk hos
  have HOB := Aside0.mk hob
  have HTB := Aside0.mk hTb
  clear hr hc hl hk hos hob hTb
  go_enter Try.func7, Try.ntmps7
  go_upto_region 1 with (fail)
  have hA : ((w.alloc (Obj.cells #[Value.slice A T.length c, Value.int .i64 at_, Value.int .i64 m, Value.int .i64 n, Value.string key] 35)).alloc (Obj.cells (nums .u8 os).toArray 42)).heap[w.heap.size]? = some _ := blk_alloc (blk_new w (Obj.cells #[Value.slice A T.length c, Value.int .i64 at_, Value.int .i64 m, Value.int .i64 n, Value.string key] 35)) _
  have hb : ((w.alloc (Obj.cells #[Value.slice A T.length c, Value.int .i64 at_, Value.int .i64 m, Value.int .i64 n, Value.string key] 35)).alloc (Obj.cells (nums .u8 os).toArray 42)).heap[w.heap.size + 1]? = some _ := heap_alloc2_new w (Obj.cells #[Value.slice A T.length c, Value.int .i64 at_, Value.int .i64 m, Value.int .i64 n, Value.string key] 35) (Obj.cells (nums .u8 os).toArray 42)
  have hB := ((Below.refl w.heap.size w).alloc (Nat.le_refl _) (Obj.cells #[Value.slice A T.length c, Value.int .i64 at_, Value.int .i64 m, Value.int .i64 n, Value.string key] 35)).alloc (by simp) (Obj.cells (nums .u8 os).toArray 42)
  generalize (w.alloc (Obj.cells #[Value.slice A T.length c, Value.int .i64 at_, Value.int .i64 m, Value.int .i64 n, Value.string key] 35)).alloc (Obj.cells (nums .u8 os).toArray 42) = W at hA hb hB ⊢
  have H0a := Aside0.mk hA
  have H0b := Aside0.mk hb
  have H0B := Aside0.mk hB
  clear hA hb hB
  go_wp2_with fail
  refine (alive_calls W).mono ?_
  rintro e w1 ⟨rfl, h1⟩
  have H1a := Aside0.mk (blk_below H0a.out h1)
  have H1b := Aside0.mk (blk_below H0b.out h1)
  have H1B := Aside0.mk (below_step H0B.out h1)
  clear h1 H0a H0b H0B
  have hx0 := blk_cell H1a.out 0
  have hx1 := blk_cell H1a.out 1
  have hx2 := blk_cell H1a.out 2
  have hx3 := blk_cell H1a.out 3
  have hx4 := blk_cell H1a.out 4
  simp only [List.getElem?_toArray, List.getElem?_cons_zero, List.getElem?_cons_succ] at hx0 hx1 hx2 hx3 hx4
  go_wp2_with fail
  refine (quoinlaw08_keys.calls key ⟨#[101]⟩ _ HK.out).mono ?_
  rintro e w2 ⟨rfl, h2⟩
  have h2 := h2.below
  have H2a := Aside0.mk (blk_below H1a.out h2)
  have H2b := Aside0.mk (blk_below H1b.out h2)
  have H2B := Aside0.mk (below_step H1B.out h2)
  clear h2 H1a H1b H1B
  clear hx0 hx1 hx2 hx3 hx4
  have hx0 := blk_cell H2a.out 0
  have hx1 := blk_cell H2a.out 1
  have hx2 := blk_cell H2a.out 2
  have hx3 := blk_cell H2a.out 3
  have hx4 := blk_cell H2a.out 4
  simp only [List.getElem?_toArray, List.getElem?_cons_zero, List.getElem?_cons_succ] at hx0 hx1 hx2 hx3 hx4
  have hy0 : (w2.alloc (Obj.cells #[] 5)).cell? ⟨w.heap.size, 0, none⟩ = some (.slice A T.length c) := by rw [blk_cell (blk_alloc H2a.out _)]; rfl
  have HE := Aside0.mk (empty_R w2 w.heap.size (H2B.out.size) (by have := blk_lt H2b.out; omega))
  go_wp2_with (first | ((with_reducible refine gate_builtin (b := .append) (xs := #[.tmp 33, .tmp 35]) rfl ?_); at_builtin; refine Kd.R_append_rows (Kd.int .u8) (w0 := w) w.heap.size rfl (.tmp 33) (.tmp 35) 22 5 (.int .u8 0) 1 rfl Try.underlying22 info5 rfl (by decide) (by omega) (Value.slice (some ⟨w2.heap.size, 0, none⟩) 0 0) [] T A T.length c (fun k => w.heap.size + 2 ≤ k) (fun _ => False) rfl rfl ?aO ?aR (fun _ _ h => h) (fun _ h => h.elim) ?aF ?aB ?aS ?aL ?_; (case aO => exact HE.out); (case aR => exact Kd.C_below HR.out (H2B.out.alloc H2B.out.size _)); (case aF => intro k hk; have := blk_lt H2b.out; simp at hk; omega); (case aB => exact H2B.out.alloc H2B.out.size _); (case aS => have := H2B.out.size; simp; omega); (case aL => have := HL.out; simp; omega)))
  intro v3 w3 ho hb hg hat
  have hne : ∀ g, g ≠ w2.heap.size → some g ≠ (Value.slice (some ⟨w2.heap.size, 0, none⟩) 0 0).ownBlock := fun g h e => by simp [Value.ownBlock] at e; exact h e
  have ha3 := blk_grown (blk_alloc H2a.out (Obj.cells #[] 5)) hg (hne _ (by have := blk_lt H2b.out; omega))
  have hb3 := blk_grown (blk_alloc H2b.out (Obj.cells #[] 5)) hg (hne _ (by have := blk_lt H2b.out; omega))
  obtain ⟨A7, c7, e7⟩ := Kd.R_slice ho
  subst e7
  have HI0 := Aside0.mk (show KI w A c T at_ m n key os false A7 c7 w3 0 from ⟨ha3, hb3, hb, by rw [swapped_zero]; exact ho⟩)
  clear ho hb hg hat hne ha3 hb3 HE hy0 H2a H2b H2B hx0 hx1 hx2 hx3 hx4
  go_wp2_with fail
  go_loopw [8] (fun v8 W => ∃ i : Nat, i ≤ T.length ∧ v8 = .int .i64 i ∧ Aside0 (KI w A c T at_ m n key os false A7 c7 W i)) (fun v8 _ => T.length - (intOf v8).toNat)
  case atStart => exact ⟨0, by omega, rfl, HI0⟩
  case round =>
    clear HI0
    obtain ⟨i, hi, rfl, HI⟩ := hrel
    by_cases hlt : i < T.length
    · have hlt1 : ((i : Int) < (T.length : Int)) = True := eq_true (by omega)
      have hlt2 : decide ((i : Int) < (T.length : Int)) = true := decide_eq_true (by omega)
      have hw1 : IntKind.i64.wrap ((i : Int) + 1) = (i : Int) + 1 := by have := HL.out; rw [i64_w, w64] <;> omega
      obtain ⟨g, rfl, hg, hcx, hfx⟩ := HI.out.at_ hlt
      have hx := HTB.out _ (rd_mem T i hlt)
      have hox := HI.out.other HOS.out _ hx.1 hx.2
      have HG := Aside0.mk hg
      clear hg
      generalize hxe : rd T (i : Int) = x at hcx hx hox
      have hoc := rd os x
      clear hoc
      have hp1 : (0 ≤ x) = True := eq_true hx.1
      have hp2 : (x < 256) = True := eq_true (by omega)
      have hp3 : (x < 0) = False := eq_false (by omega)
      generalize hye : rd os x = y at hox
      have HXE := Aside0.mk hxe
      have HYE := Aside0.mk hye
      clear hx hxe hye
      go_upto_region 10 with (fail)
      refine start_ (n := 10) (S := fun w' => w'.cell? ⟨g, i, none⟩ = some (.int .u8 x) ∧ KI w A c T at_ m n key os false (some ⟨g, 0, none⟩) c7 w' i) (ds := []) #[false, false, false, false, false, false, false, false, false, false] (by kernel_rfl) rfl rfl ⟨hcx, HI.out.step (below_drew (Below.refl _ _))⟩ (fun hHeld => ?_)
      refine pure_ (i := 0) (N := some 49) (v := ?_) (a' := ?_) #[true, false, false, false, false, false, false, false, false, false] rfl rfl (by kernel_rfl) (fun _ _ _ h => h) (Or.inl ⟨by rfl, ?_⟩) ?_ ?_
      rotate_left
      · intro w'
        go_simp
        with_reducible rfl
      rotate_left
      · simp only [Act.put, List.setIfInBounds_toArray, List.set_cons_zero, List.set_cons_succ, i64_w, i32_w]
        rfl
      refine pure_ (i := 1) (N := some 50) (v := ?_) (a' := ?_) #[true, true, false, false, false, false, false, false, false, false] rfl rfl (by kernel_rfl) (fun _ _ _ h => h) (Or.inl ⟨by rfl, ?_⟩) ?_ ?_
      rotate_left
      · intro w'
        go_simp
        with_reducible rfl
      rotate_left
      · simp only [Act.put, List.setIfInBounds_toArray, List.set_cons_zero, List.set_cons_succ, i64_w, i32_w]
        rfl
      refine pure_ (i := 3) (N := some 52) (v := ?_) (a' := ?_) #[true, true, false, true, false, false, false, false, false, false] rfl rfl (by kernel_rfl) (fun _ _ _ h => h) (Or.inl ⟨by rfl, ?_⟩) ?_ ?_
      rotate_left
      · intro w'
        go_simp
        with_reducible rfl
      rotate_left
      · simp only [Act.put, List.setIfInBounds_toArray, List.set_cons_zero, List.set_cons_succ, i64_w, i32_w]
        rfl
      refine pure_ (i := 4) (N := some 53) (v := ?_) (a' := ?_) #[true, true, false, true, true, false, false, false, false, false] rfl rfl (by kernel_rfl) (fun _ _ _ h => h) (Or.inl ⟨by rfl, ?_⟩) ?_ ?_
      rotate_left
      · intro w'
        go_simp
        with_reducible rfl
      rotate_left
      · simp only [Act.put, List.setIfInBounds_toArray, List.set_cons_zero, List.set_cons_succ, i64_w, i32_w]
        rfl
      refine pure_ (i := 5) (N := some 54) (v := ?_) (a' := ?_) #[true, true, false, true, true, true, false, false, false, false] rfl rfl (by kernel_rfl) (fun _ _ _ h => h) (Or.inl ⟨by rfl, ?_⟩) ?_ ?_
      rotate_left
      · intro w'
        go_simp
        with_reducible rfl
      rotate_left
      · simp only [Act.put, List.setIfInBounds_toArray, List.set_cons_zero, List.set_cons_succ, i64_w, i32_w]
        rfl
      refine take_ (i := 6) (N := some 55) (v := ?_) (a' := ?_) #[true, true, false, true, true, true, true, false, false, false] rfl rfl (by kernel_rfl) (fun _ _ _ h => h) (Or.inl ⟨by rfl, ?_⟩) hHeld ?_ ?_
      rotate_left
      · rintro w' ⟨s0, s1⟩
        go_simp
        with_reducible rfl
      rotate_left
      · simp only [Act.put, List.setIfInBounds_toArray, List.set_cons_zero, List.set_cons_succ, i64_w, i32_w]
        rfl
      refine pure_ (i := 7) (N := some 56) (v := ?_) (a' := ?_) #[true, true, false, true, true, true, true, true, false, false] rfl rfl (by kernel_rfl) (fun _ _ _ h => h) (Or.inl ⟨by rfl, ?_⟩) ?_ ?_
      rotate_left
      · intro w'
        go_simp
        with_reducible rfl
      rotate_left
      · simp only [Act.put, List.setIfInBounds_toArray, List.set_cons_zero, List.set_cons_succ, i64_w, i32_w]
        rfl
      refine one_ (i := 2) (N := some 51) #[true, true, true, true, true, true, true, true, false, false] rfl rfl (by kernel_rfl) (by decide) (fun K hK => ?_)
      refine goes_ Try.func15 (by kernel_rfl) rfl #[.int .u8 y, .bool false] (by rfl) rfl rfl (by simp [Act.eval]) ?_
      refine (PWb.class_Of.calls 1 y false (cls y false) _ (of_b 0 y false)).mono ?_
      rintro e w5 ⟨rfl, ⟨nd, rfl⟩⟩
      refine ⟨_, rfl, ?_⟩
      refine hK.out _ _ ⟨hHeld.1, hHeld.2.step (pw_below_drewN (Below.refl _ _) nd)⟩ (fun hHeld => ?_)
      clear hK K
      refine norm_ (a' := ?_) ?_ ?_
      rotate_left
      · show Act.put _ (some 51) _ = _
        simp only [Act.put, List.setIfInBounds_toArray, List.set_cons_zero, List.set_cons_succ, i64_w, i32_w]
        rfl
      refine one_ (i := 8) (N := some 57) #[true, true, true, true, true, true, true, true, true, false] rfl rfl (by kernel_rfl) (by decide) (fun K hK => ?_)
      refine goes_ Try.func15 (by kernel_rfl) rfl #[.int .u8 x, .bool false] (by rfl) rfl rfl (by simp [Act.eval]) ?_
      refine (PWb.class_Of.calls 1 x false (cls x false) _ (of_b 0 x false)).mono ?_
      rintro e w5 ⟨rfl, ⟨nd, rfl⟩⟩
      refine ⟨_, rfl, ?_⟩
      refine hK.out _ _ ⟨hHeld.1, hHeld.2.step (pw_below_drewN (Below.refl _ _) nd)⟩ (fun hHeld => ?_)
      clear hK K
      refine norm_ (a' := ?_) ?_ ?_
      rotate_left
      · show Act.put _ (some 57) _ = _
        simp only [Act.put, List.setIfInBounds_toArray, List.set_cons_zero, List.set_cons_succ, i64_w, i32_w]
        rfl
      refine pure_ (i := 9) (N := some 58) (v := ?_) (a' := ?_) #[true, true, true, true, true, true, true, true, true, true] rfl rfl (by kernel_rfl) (fun _ _ _ h => h) (Or.inl ⟨by rfl, ?_⟩) ?_ ?_
      rotate_left
      · intro w'
        go_simp
        with_reducible rfl
      rotate_left
      · simp only [Act.put, List.setIfInBounds_toArray, List.set_cons_zero, List.set_cons_succ, i64_w, i32_w]
        rfl
      refine done_ (by kernel_rfl) ?_
      generalize World.drewN _ _ = w6 at hHeld ⊢
      obtain ⟨hcx6, hI6⟩ := hHeld
      have HI6 := Aside0.mk hI6
      clear hI6 hcx hfx hox HI
      have hf6 : w6.frozen? ⟨g, i, none⟩ = false := by
        obtain ⟨g', hg', _, _, h⟩ := HI6.out.at_ hlt
        cases hg'
        exact h
      by_cases he : cls y false = cls x false
      · have heb : (cls y false == cls x false) = true := beq_iff_eq.mpr he
        have hsw : swapK os false (rd T (i : Int)) = y := by unfold swapK; rw [HXE.out, HYE.out, if_pos he]
        have HP := Aside0.mk (HI6.out.put hlt HG.out y hsw)
        clear he hsw
        go_wp2
        go_roundw
        case measure => simp [intOf]; omega
        case rel => exact ⟨i + 1, by omega, by go_num, HP⟩
      · have heb : (cls y false == cls x false) = false := beq_eq_false_iff_ne.mpr he
        have hsw : swapK os false (rd T (i : Int)) = rd T (i : Int) := by unfold swapK; rw [HXE.out, HYE.out, if_neg he]
        have HP := Aside0.mk (HI6.out.same hlt hsw)
        clear he hsw
        go_wp2
        go_roundw
        case measure => simp [intOf]; omega
        case rel => exact ⟨i + 1, by omega, by go_num, HP⟩
    · have hlt1 : ((i : Int) < (T.length : Int)) = False := eq_false (by omega)
      have hlt2 : decide ((i : Int) < (T.length : Int)) = false := decide_eq_false (by omega)
      obtain rfl : i = T.length := by omega
      have hx0 := blk_cell HI.out.a 0
      have hx1 := blk_cell HI.out.a 1
      have hx3 := blk_cell HI.out.a 3
      simp only [List.getElem?_toArray, List.getElem?_cons_zero, List.getElem?_cons_succ] at hx0 hx1 hx3
      go_wp2_with fail
      refine (Move_calls A c T at_ n ⟨#[101]⟩ wr (Kd.C_below HR.out HI.out.B) HL.out).mono ?_
      rintro e w7 ⟨rfl, h7⟩
      generalize hre : mwF T at_ n ⟨#[101]⟩ = r
      obtain ⟨r0, r1, r2, r3⟩ := r
      unfold mvV
      simp only []
      have HRE := Aside0.mk hre
      have HI7 := Aside0.mk (HI.out.step h7)
      clear h7 HI hre hx0 hx1 hx3
      go_upto_region 13 with (fail)
      have hR8 := blk_new w7 (Obj.cells #[.int .i64 r0, .int .i64 r1, .int .i64 r2] 27)
      have hI8 := HI7.out.step ((Below.refl _ _).alloc (Nat.le_refl _) (Obj.cells #[.int .i64 r0, .int .i64 r1, .int .i64 r2] 27))
      generalize w7.alloc (Obj.cells #[.int .i64 r0, .int .i64 r1, .int .i64 r2] 27) = w8 at hR8 hI8 ⊢
      have HR8 := Aside0.mk hR8
      have HI8 := Aside0.mk hI8
      clear hR8 hI8 HI7
      have hx0 := blk_cell HI8.out.a 0
      have hx1 := blk_cell HI8.out.a 1
      have hx3 := blk_cell HI8.out.a 3
      simp only [List.getElem?_toArray, List.getElem?_cons_zero, List.getElem?_cons_succ] at hx0 hx1 hx3
      go_wp2_with fail
      have hr8 := HI8.out.r
      rw [swapped_all] at hr8
      have hM := Move_calls A7 c7 (T.map (swapK os false)) at_ n ⟨#[101]⟩ w8 (Kd.R_reads' hr8).2.2 (by rw [List.length_map]; exact HL.out)
      rw [show mwF (T.map (swapK os false)) at_ n ⟨#[101]⟩ = mwF T at_ n ⟨#[101]⟩ from mwF_map os T 2 ⟨#[101]⟩ (by simp [kix, ByteArray.toList_eq]) at_ n, HRE.out, List.length_map] at hM
      refine hM.mono ?_
      rintro e w9 ⟨rfl, h9⟩
      unfold mvV
      simp only []
      have HR9 := Aside0.mk (blk_below HR8.out h9)
      have HI9 := Aside0.mk (HI8.out.step h9)
      clear h9 hM hr8 hx0 hx1 hx3 HR8 HI8
      go_upto_region 14 with (fail)
      have hra := blk_alloc HR9.out (Obj.cells #[.int .i64 r0, .int .i64 r1, .int .i64 r2] 27)
      have hrb := blk_new w9 (Obj.cells #[.int .i64 r0, .int .i64 r1, .int .i64 r2] 27)
      have hB9 := HI9.out.B.alloc HI9.out.B.size (Obj.cells #[.int .i64 r0, .int .i64 r1, .int .i64 r2] 27)
      generalize w9.alloc (Obj.cells #[.int .i64 r0, .int .i64 r1, .int .i64 r2] 27) = wa at hra hrb hB9 ⊢
      have HB9 := Aside0.mk hB9
      have hp0 := blk_cell hra 0
      have hp1 := blk_cell hra 1
      have hp2 := blk_cell hra 2
      have hq0 := blk_cell hrb 0
      have hq1 := blk_cell hrb 1
      have hq2 := blk_cell hrb 2
      simp only [List.getElem?_toArray, List.getElem?_cons_zero, List.getElem?_cons_succ] at hp0 hp1 hp2 hq0 hq1 hq2
      clear hra hrb hB9
      go_wp2_with fail
      go_ret
      exact ⟨by simp, HB9.out⟩
set_option maxHeartbeats 2000000 in
set_option maxRecDepth 100000 in
theorem kinds3 (A : Option Addr) (c : Nat) (T : List Int) (at_ m n : Int) (key : ByteArray) (os : List Int) (hos : os.length = 256) (hob : ∀ x ∈ os, 0 ≤ x ∧ x ≤ 255) (hTb : ∀ x ∈ T, 0 ≤ x ∧ x ≤ 255) (w : World) (hr : Kd.C (Kd.int .u8) w A T.length T) (hc : T.length ≤ c) (hl : T.length ≤ 1048576) (hk : quoinlaw08_keys.f key = some ⟨#[103, 101]⟩) :
    Calls Try.prog 7 #[.agg #[.slice A T.length c, .int .i64 at_, .int .i64 m, .int .i64 n, .string key], .agg (nums .u8 os).toArray] w fun e w' => e = .returned (.bool true) ∧ Below w.heap.size w w' := by
  have HR := Aside0.mk hr
  have HC := Aside0.mk hc
  have HL := Aside0.mk hl
  have HK := Aside0.mk hk
  have HOS := Aside0.mk hos
  have HOB := Aside0.mk hob
  have HTB := Aside0.mk hTb
  clear hr hc hl hk hos hob hTb
  go_enter Try.func7, Try.ntmps7
  go_upto_region 1 with (fail)
  have hA : ((w.alloc (Obj.cells #[Value.slice A T.length c, Value.int .i64 at_, Value.int .i64 m, Value.int .i64 n, Value.string key] 35)).alloc (Obj.cells (nums .u8 os).toArray 42)).heap[w.heap.size]? = some _ := blk_alloc (blk_new w (Obj.cells #[Value.slice A T.length c, Value.int .i64 at_, Value.int .i64 m, Value.int .i64 n, Value.string key] 35)) _
  have hb : ((w.alloc (Obj.cells #[Value.slice A T.length c, Value.int .i64 at_, Value.int .i64 m, Value.int .i64 n, Value.string key] 35)).alloc (Obj.cells (nums .u8 os).toArray 42)).heap[w.heap.size + 1]? = some _ := heap_alloc2_new w (Obj.cells #[Value.slice A T.length c, Value.int .i64 at_, Value.int .i64 m, Value.int .i64 n, Value.string key] 35) (Obj.cells (nums .u8 os).toArray 42)
  have hB := ((Below.refl w.heap.size w).alloc (Nat.le_refl _) (Obj.cells #[Value.slice A T.length c, Value.int .i64 at_, Value.int .i64 m, Value.int .i64 n, Value.string key] 35)).alloc (by simp) (Obj.cells (nums .u8 os).toArray 42)
  generalize (w.alloc (Obj.cells #[Value.slice A T.length c, Value.int .i64 at_, Value.int .i64 m, Value.int .i64 n, Value.string key] 35)).alloc (Obj.cells (nums .u8 os).toArray 42) = W at hA hb hB ⊢
  have H0a := Aside0.mk hA
  have H0b := Aside0.mk hb
  have H0B := Aside0.mk hB
  clear hA hb hB
  go_wp2_with fail
  refine (alive_calls W).mono ?_
  rintro e w1 ⟨rfl, h1⟩
  have H1a := Aside0.mk (blk_below H0a.out h1)
  have H1b := Aside0.mk (blk_below H0b.out h1)
  have H1B := Aside0.mk (below_step H0B.out h1)
  clear h1 H0a H0b H0B
  have hx0 := blk_cell H1a.out 0
  have hx1 := blk_cell H1a.out 1
  have hx2 := blk_cell H1a.out 2
  have hx3 := blk_cell H1a.out 3
  have hx4 := blk_cell H1a.out 4
  simp only [List.getElem?_toArray, List.getElem?_cons_zero, List.getElem?_cons_succ] at hx0 hx1 hx2 hx3 hx4
  go_wp2_with fail
  refine (quoinlaw08_keys.calls key ⟨#[103, 101]⟩ _ HK.out).mono ?_
  rintro e w2 ⟨rfl, h2⟩
  have h2 := h2.below
  have H2a := Aside0.mk (blk_below H1a.out h2)
  have H2b := Aside0.mk (blk_below H1b.out h2)
  have H2B := Aside0.mk (below_step H1B.out h2)
  clear h2 H1a H1b H1B
  clear hx0 hx1 hx2 hx3 hx4
  have hx0 := blk_cell H2a.out 0
  have hx1 := blk_cell H2a.out 1
  have hx2 := blk_cell H2a.out 2
  have hx3 := blk_cell H2a.out 3
  have hx4 := blk_cell H2a.out 4
  simp only [List.getElem?_toArray, List.getElem?_cons_zero, List.getElem?_cons_succ] at hx0 hx1 hx2 hx3 hx4
  have hy0 : (w2.alloc (Obj.cells #[] 5)).cell? ⟨w.heap.size, 0, none⟩ = some (.slice A T.length c) := by rw [blk_cell (blk_alloc H2a.out _)]; rfl
  have HE := Aside0.mk (empty_R w2 w.heap.size (H2B.out.size) (by have := blk_lt H2b.out; omega))
  go_wp2_with (first | ((with_reducible refine gate_builtin (b := .append) (xs := #[.tmp 33, .tmp 35]) rfl ?_); at_builtin; refine Kd.R_append_rows (Kd.int .u8) (w0 := w) w.heap.size rfl (.tmp 33) (.tmp 35) 22 5 (.int .u8 0) 1 rfl Try.underlying22 info5 rfl (by decide) (by omega) (Value.slice (some ⟨w2.heap.size, 0, none⟩) 0 0) [] T A T.length c (fun k => w.heap.size + 2 ≤ k) (fun _ => False) rfl rfl ?aO ?aR (fun _ _ h => h) (fun _ h => h.elim) ?aF ?aB ?aS ?aL ?_; (case aO => exact HE.out); (case aR => exact Kd.C_below HR.out (H2B.out.alloc H2B.out.size _)); (case aF => intro k hk; have := blk_lt H2b.out; simp at hk; omega); (case aB => exact H2B.out.alloc H2B.out.size _); (case aS => have := H2B.out.size; simp; omega); (case aL => have := HL.out; simp; omega)))
  intro v3 w3 ho hb hg hat
  have hne : ∀ g, g ≠ w2.heap.size → some g ≠ (Value.slice (some ⟨w2.heap.size, 0, none⟩) 0 0).ownBlock := fun g h e => by simp [Value.ownBlock] at e; exact h e
  have ha3 := blk_grown (blk_alloc H2a.out (Obj.cells #[] 5)) hg (hne _ (by have := blk_lt H2b.out; omega))
  have hb3 := blk_grown (blk_alloc H2b.out (Obj.cells #[] 5)) hg (hne _ (by have := blk_lt H2b.out; omega))
  obtain ⟨A7, c7, e7⟩ := Kd.R_slice ho
  subst e7
  have HI0 := Aside0.mk (show KI w A c T at_ m n key os false A7 c7 w3 0 from ⟨ha3, hb3, hb, by rw [swapped_zero]; exact ho⟩)
  clear ho hb hg hat hne ha3 hb3 HE hy0 H2a H2b H2B hx0 hx1 hx2 hx3 hx4
  go_wp2_with fail
  go_loopw [8] (fun v8 W => ∃ i : Nat, i ≤ T.length ∧ v8 = .int .i64 i ∧ Aside0 (KI w A c T at_ m n key os false A7 c7 W i)) (fun v8 _ => T.length - (intOf v8).toNat)
  case atStart => exact ⟨0, by omega, rfl, HI0⟩
  case round =>
    clear HI0
    obtain ⟨i, hi, rfl, HI⟩ := hrel
    by_cases hlt : i < T.length
    · have hlt1 : ((i : Int) < (T.length : Int)) = True := eq_true (by omega)
      have hlt2 : decide ((i : Int) < (T.length : Int)) = true := decide_eq_true (by omega)
      have hw1 : IntKind.i64.wrap ((i : Int) + 1) = (i : Int) + 1 := by have := HL.out; rw [i64_w, w64] <;> omega
      obtain ⟨g, rfl, hg, hcx, hfx⟩ := HI.out.at_ hlt
      have hx := HTB.out _ (rd_mem T i hlt)
      have hox := HI.out.other HOS.out _ hx.1 hx.2
      have HG := Aside0.mk hg
      clear hg
      generalize hxe : rd T (i : Int) = x at hcx hx hox
      have hoc := rd os x
      clear hoc
      have hp1 : (0 ≤ x) = True := eq_true hx.1
      have hp2 : (x < 256) = True := eq_true (by omega)
      have hp3 : (x < 0) = False := eq_false (by omega)
      generalize hye : rd os x = y at hox
      have HXE := Aside0.mk hxe
      have HYE := Aside0.mk hye
      clear hx hxe hye
      go_upto_region 10 with (fail)
      refine start_ (n := 10) (S := fun w' => w'.cell? ⟨g, i, none⟩ = some (.int .u8 x) ∧ KI w A c T at_ m n key os false (some ⟨g, 0, none⟩) c7 w' i) (ds := []) #[false, false, false, false, false, false, false, false, false, false] (by kernel_rfl) rfl rfl ⟨hcx, HI.out.step (below_drew (Below.refl _ _))⟩ (fun hHeld => ?_)
      refine pure_ (i := 0) (N := some 49) (v := ?_) (a' := ?_) #[true, false, false, false, false, false, false, false, false, false] rfl rfl (by kernel_rfl) (fun _ _ _ h => h) (Or.inl ⟨by rfl, ?_⟩) ?_ ?_
      rotate_left
      · intro w'
        go_simp
        with_reducible rfl
      rotate_left
      · simp only [Act.put, List.setIfInBounds_toArray, List.set_cons_zero, List.set_cons_succ, i64_w, i32_w]
        rfl
      refine pure_ (i := 1) (N := some 50) (v := ?_) (a' := ?_) #[true, true, false, false, false, false, false, false, false, false] rfl rfl (by kernel_rfl) (fun _ _ _ h => h) (Or.inl ⟨by rfl, ?_⟩) ?_ ?_
      rotate_left
      · intro w'
        go_simp
        with_reducible rfl
      rotate_left
      · simp only [Act.put, List.setIfInBounds_toArray, List.set_cons_zero, List.set_cons_succ, i64_w, i32_w]
        rfl
      refine pure_ (i := 3) (N := some 52) (v := ?_) (a' := ?_) #[true, true, false, true, false, false, false, false, false, false] rfl rfl (by kernel_rfl) (fun _ _ _ h => h) (Or.inl ⟨by rfl, ?_⟩) ?_ ?_
      rotate_left
      · intro w'
        go_simp
        with_reducible rfl
      rotate_left
      · simp only [Act.put, List.setIfInBounds_toArray, List.set_cons_zero, List.set_cons_succ, i64_w, i32_w]
        rfl
      refine pure_ (i := 4) (N := some 53) (v := ?_) (a' := ?_) #[true, true, false, true, true, false, false, false, false, false] rfl rfl (by kernel_rfl) (fun _ _ _ h => h) (Or.inl ⟨by rfl, ?_⟩) ?_ ?_
      rotate_left
      · intro w'
        go_simp
        with_reducible rfl
      rotate_left
      · simp only [Act.put, List.setIfInBounds_toArray, List.set_cons_zero, List.set_cons_succ, i64_w, i32_w]
        rfl
      refine pure_ (i := 5) (N := some 54) (v := ?_) (a' := ?_) #[true, true, false, true, true, true, false, false, false, false] rfl rfl (by kernel_rfl) (fun _ _ _ h => h) (Or.inl ⟨by rfl, ?_⟩) ?_ ?_
      rotate_left
      · intro w'
        go_simp
        with_reducible rfl
      rotate_left
      · simp only [Act.put, List.setIfInBounds_toArray, List.set_cons_zero, List.set_cons_succ, i64_w, i32_w]
        rfl
      refine take_ (i := 6) (N := some 55) (v := ?_) (a' := ?_) #[true, true, false, true, true, true, true, false, false, false] rfl rfl (by kernel_rfl) (fun _ _ _ h => h) (Or.inl ⟨by rfl, ?_⟩) hHeld ?_ ?_
      rotate_left
      · rintro w' ⟨s0, s1⟩
        go_simp
        with_reducible rfl
      rotate_left
      · simp only [Act.put, List.setIfInBounds_toArray, List.set_cons_zero, List.set_cons_succ, i64_w, i32_w]
        rfl
      refine pure_ (i := 7) (N := some 56) (v := ?_) (a' := ?_) #[true, true, false, true, true, true, true, true, false, false] rfl rfl (by kernel_rfl) (fun _ _ _ h => h) (Or.inl ⟨by rfl, ?_⟩) ?_ ?_
      rotate_left
      · intro w'
        go_simp
        with_reducible rfl
      rotate_left
      · simp only [Act.put, List.setIfInBounds_toArray, List.set_cons_zero, List.set_cons_succ, i64_w, i32_w]
        rfl
      refine one_ (i := 2) (N := some 51) #[true, true, true, true, true, true, true, true, false, false] rfl rfl (by kernel_rfl) (by decide) (fun K hK => ?_)
      refine goes_ Try.func15 (by kernel_rfl) rfl #[.int .u8 y, .bool false] (by rfl) rfl rfl (by simp [Act.eval]) ?_
      refine (PWb.class_Of.calls 1 y false (cls y false) _ (of_b 0 y false)).mono ?_
      rintro e w5 ⟨rfl, ⟨nd, rfl⟩⟩
      refine ⟨_, rfl, ?_⟩
      refine hK.out _ _ ⟨hHeld.1, hHeld.2.step (pw_below_drewN (Below.refl _ _) nd)⟩ (fun hHeld => ?_)
      clear hK K
      refine norm_ (a' := ?_) ?_ ?_
      rotate_left
      · show Act.put _ (some 51) _ = _
        simp only [Act.put, List.setIfInBounds_toArray, List.set_cons_zero, List.set_cons_succ, i64_w, i32_w]
        rfl
      refine one_ (i := 8) (N := some 57) #[true, true, true, true, true, true, true, true, true, false] rfl rfl (by kernel_rfl) (by decide) (fun K hK => ?_)
      refine goes_ Try.func15 (by kernel_rfl) rfl #[.int .u8 x, .bool false] (by rfl) rfl rfl (by simp [Act.eval]) ?_
      refine (PWb.class_Of.calls 1 x false (cls x false) _ (of_b 0 x false)).mono ?_
      rintro e w5 ⟨rfl, ⟨nd, rfl⟩⟩
      refine ⟨_, rfl, ?_⟩
      refine hK.out _ _ ⟨hHeld.1, hHeld.2.step (pw_below_drewN (Below.refl _ _) nd)⟩ (fun hHeld => ?_)
      clear hK K
      refine norm_ (a' := ?_) ?_ ?_
      rotate_left
      · show Act.put _ (some 57) _ = _
        simp only [Act.put, List.setIfInBounds_toArray, List.set_cons_zero, List.set_cons_succ, i64_w, i32_w]
        rfl
      refine pure_ (i := 9) (N := some 58) (v := ?_) (a' := ?_) #[true, true, true, true, true, true, true, true, true, true] rfl rfl (by kernel_rfl) (fun _ _ _ h => h) (Or.inl ⟨by rfl, ?_⟩) ?_ ?_
      rotate_left
      · intro w'
        go_simp
        with_reducible rfl
      rotate_left
      · simp only [Act.put, List.setIfInBounds_toArray, List.set_cons_zero, List.set_cons_succ, i64_w, i32_w]
        rfl
      refine done_ (by kernel_rfl) ?_
      generalize World.drewN _ _ = w6 at hHeld ⊢
      obtain ⟨hcx6, hI6⟩ := hHeld
      have HI6 := Aside0.mk hI6
      clear hI6 hcx hfx hox HI
      have hf6 : w6.frozen? ⟨g, i, none⟩ = false := by
        obtain ⟨g', hg', _, _, h⟩ := HI6.out.at_ hlt
        cases hg'
        exact h
      by_cases he : cls y false = cls x false
      · have heb : (cls y false == cls x false) = true := beq_iff_eq.mpr he
        have hsw : swapK os false (rd T (i : Int)) = y := by unfold swapK; rw [HXE.out, HYE.out, if_pos he]
        have HP := Aside0.mk (HI6.out.put hlt HG.out y hsw)
        clear he hsw
        go_wp2
        go_roundw
        case measure => simp [intOf]; omega
        case rel => exact ⟨i + 1, by omega, by go_num, HP⟩
      · have heb : (cls y false == cls x false) = false := beq_eq_false_iff_ne.mpr he
        have hsw : swapK os false (rd T (i : Int)) = rd T (i : Int) := by unfold swapK; rw [HXE.out, HYE.out, if_neg he]
        have HP := Aside0.mk (HI6.out.same hlt hsw)
        clear he hsw
        go_wp2
        go_roundw
        case measure => simp [intOf]; omega
        case rel => exact ⟨i + 1, by omega, by go_num, HP⟩
    · have hlt1 : ((i : Int) < (T.length : Int)) = False := eq_false (by omega)
      have hlt2 : decide ((i : Int) < (T.length : Int)) = false := decide_eq_false (by omega)
      obtain rfl : i = T.length := by omega
      have hx0 := blk_cell HI.out.a 0
      have hx1 := blk_cell HI.out.a 1
      have hx3 := blk_cell HI.out.a 3
      simp only [List.getElem?_toArray, List.getElem?_cons_zero, List.getElem?_cons_succ] at hx0 hx1 hx3
      go_wp2_with fail
      refine (Move_calls A c T at_ n ⟨#[103, 101]⟩ wr (Kd.C_below HR.out HI.out.B) HL.out).mono ?_
      rintro e w7 ⟨rfl, h7⟩
      generalize hre : mwF T at_ n ⟨#[103, 101]⟩ = r
      obtain ⟨r0, r1, r2, r3⟩ := r
      unfold mvV
      simp only []
      have HRE := Aside0.mk hre
      have HI7 := Aside0.mk (HI.out.step h7)
      clear h7 HI hre hx0 hx1 hx3
      go_upto_region 13 with (fail)
      have hR8 := blk_new w7 (Obj.cells #[.int .i64 r0, .int .i64 r1, .int .i64 r2] 27)
      have hI8 := HI7.out.step ((Below.refl _ _).alloc (Nat.le_refl _) (Obj.cells #[.int .i64 r0, .int .i64 r1, .int .i64 r2] 27))
      generalize w7.alloc (Obj.cells #[.int .i64 r0, .int .i64 r1, .int .i64 r2] 27) = w8 at hR8 hI8 ⊢
      have HR8 := Aside0.mk hR8
      have HI8 := Aside0.mk hI8
      clear hR8 hI8 HI7
      have hx0 := blk_cell HI8.out.a 0
      have hx1 := blk_cell HI8.out.a 1
      have hx3 := blk_cell HI8.out.a 3
      simp only [List.getElem?_toArray, List.getElem?_cons_zero, List.getElem?_cons_succ] at hx0 hx1 hx3
      go_wp2_with fail
      have hr8 := HI8.out.r
      rw [swapped_all] at hr8
      have hM := Move_calls A7 c7 (T.map (swapK os false)) at_ n ⟨#[103, 101]⟩ w8 (Kd.R_reads' hr8).2.2 (by rw [List.length_map]; exact HL.out)
      rw [show mwF (T.map (swapK os false)) at_ n ⟨#[103, 101]⟩ = mwF T at_ n ⟨#[103, 101]⟩ from mwF_map os T 3 ⟨#[103, 101]⟩ (by simp [kix, ByteArray.toList_eq]) at_ n, HRE.out, List.length_map] at hM
      refine hM.mono ?_
      rintro e w9 ⟨rfl, h9⟩
      unfold mvV
      simp only []
      have HR9 := Aside0.mk (blk_below HR8.out h9)
      have HI9 := Aside0.mk (HI8.out.step h9)
      clear h9 hM hr8 hx0 hx1 hx3 HR8 HI8
      go_upto_region 14 with (fail)
      have hra := blk_alloc HR9.out (Obj.cells #[.int .i64 r0, .int .i64 r1, .int .i64 r2] 27)
      have hrb := blk_new w9 (Obj.cells #[.int .i64 r0, .int .i64 r1, .int .i64 r2] 27)
      have hB9 := HI9.out.B.alloc HI9.out.B.size (Obj.cells #[.int .i64 r0, .int .i64 r1, .int .i64 r2] 27)
      generalize w9.alloc (Obj.cells #[.int .i64 r0, .int .i64 r1, .int .i64 r2] 27) = wa at hra hrb hB9 ⊢
      have HB9 := Aside0.mk hB9
      have hp0 := blk_cell hra 0
      have hp1 := blk_cell hra 1
      have hp2 := blk_cell hra 2
      have hq0 := blk_cell hrb 0
      have hq1 := blk_cell hrb 1
      have hq2 := blk_cell hrb 2
      simp only [List.getElem?_toArray, List.getElem?_cons_zero, List.getElem?_cons_succ] at hp0 hp1 hp2 hq0 hq1 hq2
      clear hra hrb hB9
      go_wp2_with fail
      go_ret
      exact ⟨by simp, HB9.out⟩
set_option maxHeartbeats 2000000 in
set_option maxRecDepth 100000 in
theorem kinds4 (A : Option Addr) (c : Nat) (T : List Int) (at_ m n : Int) (key : ByteArray) (os : List Int) (hos : os.length = 256) (hob : ∀ x ∈ os, 0 ≤ x ∧ x ≤ 255) (hTb : ∀ x ∈ T, 0 ≤ x ∧ x ≤ 255) (w : World) (hr : Kd.C (Kd.int .u8) w A T.length T) (hc : T.length ≤ c) (hl : T.length ≤ 1048576) (hk : quoinlaw08_keys.f key = some ⟨#[87]⟩) :
    Calls Try.prog 7 #[.agg #[.slice A T.length c, .int .i64 at_, .int .i64 m, .int .i64 n, .string key], .agg (nums .u8 os).toArray] w fun e w' => e = .returned (.bool true) ∧ Below w.heap.size w w' := by
  have HR := Aside0.mk hr
  have HC := Aside0.mk hc
  have HL := Aside0.mk hl
  have HK := Aside0.mk hk
  have HOS := Aside0.mk hos
  have HOB := Aside0.mk hob
  have HTB := Aside0.mk hTb
  clear hr hc hl hk hos hob hTb
  go_enter Try.func7, Try.ntmps7
  go_upto_region 1 with (fail)
  have hA : ((w.alloc (Obj.cells #[Value.slice A T.length c, Value.int .i64 at_, Value.int .i64 m, Value.int .i64 n, Value.string key] 35)).alloc (Obj.cells (nums .u8 os).toArray 42)).heap[w.heap.size]? = some _ := blk_alloc (blk_new w (Obj.cells #[Value.slice A T.length c, Value.int .i64 at_, Value.int .i64 m, Value.int .i64 n, Value.string key] 35)) _
  have hb : ((w.alloc (Obj.cells #[Value.slice A T.length c, Value.int .i64 at_, Value.int .i64 m, Value.int .i64 n, Value.string key] 35)).alloc (Obj.cells (nums .u8 os).toArray 42)).heap[w.heap.size + 1]? = some _ := heap_alloc2_new w (Obj.cells #[Value.slice A T.length c, Value.int .i64 at_, Value.int .i64 m, Value.int .i64 n, Value.string key] 35) (Obj.cells (nums .u8 os).toArray 42)
  have hB := ((Below.refl w.heap.size w).alloc (Nat.le_refl _) (Obj.cells #[Value.slice A T.length c, Value.int .i64 at_, Value.int .i64 m, Value.int .i64 n, Value.string key] 35)).alloc (by simp) (Obj.cells (nums .u8 os).toArray 42)
  generalize (w.alloc (Obj.cells #[Value.slice A T.length c, Value.int .i64 at_, Value.int .i64 m, Value.int .i64 n, Value.string key] 35)).alloc (Obj.cells (nums .u8 os).toArray 42) = W at hA hb hB ⊢
  have H0a := Aside0.mk hA
  have H0b := Aside0.mk hb
  have H0B := Aside0.mk hB
  clear hA hb hB
  go_wp2_with fail
  refine (alive_calls W).mono ?_
  rintro e w1 ⟨rfl, h1⟩
  have H1a := Aside0.mk (blk_below H0a.out h1)
  have H1b := Aside0.mk (blk_below H0b.out h1)
  have H1B := Aside0.mk (below_step H0B.out h1)
  clear h1 H0a H0b H0B
  have hx0 := blk_cell H1a.out 0
  have hx1 := blk_cell H1a.out 1
  have hx2 := blk_cell H1a.out 2
  have hx3 := blk_cell H1a.out 3
  have hx4 := blk_cell H1a.out 4
  simp only [List.getElem?_toArray, List.getElem?_cons_zero, List.getElem?_cons_succ] at hx0 hx1 hx2 hx3 hx4
  go_wp2_with fail
  refine (quoinlaw08_keys.calls key ⟨#[87]⟩ _ HK.out).mono ?_
  rintro e w2 ⟨rfl, h2⟩
  have h2 := h2.below
  have H2a := Aside0.mk (blk_below H1a.out h2)
  have H2b := Aside0.mk (blk_below H1b.out h2)
  have H2B := Aside0.mk (below_step H1B.out h2)
  clear h2 H1a H1b H1B
  clear hx0 hx1 hx2 hx3 hx4
  have hx0 := blk_cell H2a.out 0
  have hx1 := blk_cell H2a.out 1
  have hx2 := blk_cell H2a.out 2
  have hx3 := blk_cell H2a.out 3
  have hx4 := blk_cell H2a.out 4
  simp only [List.getElem?_toArray, List.getElem?_cons_zero, List.getElem?_cons_succ] at hx0 hx1 hx2 hx3 hx4
  have hy0 : (w2.alloc (Obj.cells #[] 5)).cell? ⟨w.heap.size, 0, none⟩ = some (.slice A T.length c) := by rw [blk_cell (blk_alloc H2a.out _)]; rfl
  have HE := Aside0.mk (empty_R w2 w.heap.size (H2B.out.size) (by have := blk_lt H2b.out; omega))
  go_wp2_with (first | ((with_reducible refine gate_builtin (b := .append) (xs := #[.tmp 33, .tmp 35]) rfl ?_); at_builtin; refine Kd.R_append_rows (Kd.int .u8) (w0 := w) w.heap.size rfl (.tmp 33) (.tmp 35) 22 5 (.int .u8 0) 1 rfl Try.underlying22 info5 rfl (by decide) (by omega) (Value.slice (some ⟨w2.heap.size, 0, none⟩) 0 0) [] T A T.length c (fun k => w.heap.size + 2 ≤ k) (fun _ => False) rfl rfl ?aO ?aR (fun _ _ h => h) (fun _ h => h.elim) ?aF ?aB ?aS ?aL ?_; (case aO => exact HE.out); (case aR => exact Kd.C_below HR.out (H2B.out.alloc H2B.out.size _)); (case aF => intro k hk; have := blk_lt H2b.out; simp at hk; omega); (case aB => exact H2B.out.alloc H2B.out.size _); (case aS => have := H2B.out.size; simp; omega); (case aL => have := HL.out; simp; omega)))
  intro v3 w3 ho hb hg hat
  have hne : ∀ g, g ≠ w2.heap.size → some g ≠ (Value.slice (some ⟨w2.heap.size, 0, none⟩) 0 0).ownBlock := fun g h e => by simp [Value.ownBlock] at e; exact h e
  have ha3 := blk_grown (blk_alloc H2a.out (Obj.cells #[] 5)) hg (hne _ (by have := blk_lt H2b.out; omega))
  have hb3 := blk_grown (blk_alloc H2b.out (Obj.cells #[] 5)) hg (hne _ (by have := blk_lt H2b.out; omega))
  obtain ⟨A7, c7, e7⟩ := Kd.R_slice ho
  subst e7
  have HI0 := Aside0.mk (show KI w A c T at_ m n key os true A7 c7 w3 0 from ⟨ha3, hb3, hb, by rw [swapped_zero]; exact ho⟩)
  clear ho hb hg hat hne ha3 hb3 HE hy0 H2a H2b H2B hx0 hx1 hx2 hx3 hx4
  go_wp2_with fail
  go_loopw [8] (fun v8 W => ∃ i : Nat, i ≤ T.length ∧ v8 = .int .i64 i ∧ Aside0 (KI w A c T at_ m n key os true A7 c7 W i)) (fun v8 _ => T.length - (intOf v8).toNat)
  case atStart => exact ⟨0, by omega, rfl, HI0⟩
  case round =>
    clear HI0
    obtain ⟨i, hi, rfl, HI⟩ := hrel
    by_cases hlt : i < T.length
    · have hlt1 : ((i : Int) < (T.length : Int)) = True := eq_true (by omega)
      have hlt2 : decide ((i : Int) < (T.length : Int)) = true := decide_eq_true (by omega)
      have hw1 : IntKind.i64.wrap ((i : Int) + 1) = (i : Int) + 1 := by have := HL.out; rw [i64_w, w64] <;> omega
      obtain ⟨g, rfl, hg, hcx, hfx⟩ := HI.out.at_ hlt
      have hx := HTB.out _ (rd_mem T i hlt)
      have hox := HI.out.other HOS.out _ hx.1 hx.2
      have HG := Aside0.mk hg
      clear hg
      generalize hxe : rd T (i : Int) = x at hcx hx hox
      have hoc := rd os x
      clear hoc
      have hp1 : (0 ≤ x) = True := eq_true hx.1
      have hp2 : (x < 256) = True := eq_true (by omega)
      have hp3 : (x < 0) = False := eq_false (by omega)
      generalize hye : rd os x = y at hox
      have HXE := Aside0.mk hxe
      have HYE := Aside0.mk hye
      clear hx hxe hye
      go_upto_region 10 with (fail)
      refine start_ (n := 10) (S := fun w' => w'.cell? ⟨g, i, none⟩ = some (.int .u8 x) ∧ KI w A c T at_ m n key os true (some ⟨g, 0, none⟩) c7 w' i) (ds := []) #[false, false, false, false, false, false, false, false, false, false] (by kernel_rfl) rfl rfl ⟨hcx, HI.out.step (below_drew (Below.refl _ _))⟩ (fun hHeld => ?_)
      refine pure_ (i := 0) (N := some 49) (v := ?_) (a' := ?_) #[true, false, false, false, false, false, false, false, false, false] rfl rfl (by kernel_rfl) (fun _ _ _ h => h) (Or.inl ⟨by rfl, ?_⟩) ?_ ?_
      rotate_left
      · intro w'
        go_simp
        with_reducible rfl
      rotate_left
      · simp only [Act.put, List.setIfInBounds_toArray, List.set_cons_zero, List.set_cons_succ, i64_w, i32_w]
        rfl
      refine pure_ (i := 1) (N := some 50) (v := ?_) (a' := ?_) #[true, true, false, false, false, false, false, false, false, false] rfl rfl (by kernel_rfl) (fun _ _ _ h => h) (Or.inl ⟨by rfl, ?_⟩) ?_ ?_
      rotate_left
      · intro w'
        go_simp
        with_reducible rfl
      rotate_left
      · simp only [Act.put, List.setIfInBounds_toArray, List.set_cons_zero, List.set_cons_succ, i64_w, i32_w]
        rfl
      refine pure_ (i := 3) (N := some 52) (v := ?_) (a' := ?_) #[true, true, false, true, false, false, false, false, false, false] rfl rfl (by kernel_rfl) (fun _ _ _ h => h) (Or.inl ⟨by rfl, ?_⟩) ?_ ?_
      rotate_left
      · intro w'
        go_simp
        with_reducible rfl
      rotate_left
      · simp only [Act.put, List.setIfInBounds_toArray, List.set_cons_zero, List.set_cons_succ, i64_w, i32_w]
        rfl
      refine pure_ (i := 4) (N := some 53) (v := ?_) (a' := ?_) #[true, true, false, true, true, false, false, false, false, false] rfl rfl (by kernel_rfl) (fun _ _ _ h => h) (Or.inl ⟨by rfl, ?_⟩) ?_ ?_
      rotate_left
      · intro w'
        go_simp
        with_reducible rfl
      rotate_left
      · simp only [Act.put, List.setIfInBounds_toArray, List.set_cons_zero, List.set_cons_succ, i64_w, i32_w]
        rfl
      refine pure_ (i := 5) (N := some 54) (v := ?_) (a' := ?_) #[true, true, false, true, true, true, false, false, false, false] rfl rfl (by kernel_rfl) (fun _ _ _ h => h) (Or.inl ⟨by rfl, ?_⟩) ?_ ?_
      rotate_left
      · intro w'
        go_simp
        with_reducible rfl
      rotate_left
      · simp only [Act.put, List.setIfInBounds_toArray, List.set_cons_zero, List.set_cons_succ, i64_w, i32_w]
        rfl
      refine take_ (i := 6) (N := some 55) (v := ?_) (a' := ?_) #[true, true, false, true, true, true, true, false, false, false] rfl rfl (by kernel_rfl) (fun _ _ _ h => h) (Or.inl ⟨by rfl, ?_⟩) hHeld ?_ ?_
      rotate_left
      · rintro w' ⟨s0, s1⟩
        go_simp
        with_reducible rfl
      rotate_left
      · simp only [Act.put, List.setIfInBounds_toArray, List.set_cons_zero, List.set_cons_succ, i64_w, i32_w]
        rfl
      refine pure_ (i := 7) (N := some 56) (v := ?_) (a' := ?_) #[true, true, false, true, true, true, true, true, false, false] rfl rfl (by kernel_rfl) (fun _ _ _ h => h) (Or.inl ⟨by rfl, ?_⟩) ?_ ?_
      rotate_left
      · intro w'
        go_simp
        with_reducible rfl
      rotate_left
      · simp only [Act.put, List.setIfInBounds_toArray, List.set_cons_zero, List.set_cons_succ, i64_w, i32_w]
        rfl
      refine one_ (i := 2) (N := some 51) #[true, true, true, true, true, true, true, true, false, false] rfl rfl (by kernel_rfl) (by decide) (fun K hK => ?_)
      refine goes_ Try.func15 (by kernel_rfl) rfl #[.int .u8 y, .bool true] (by rfl) rfl rfl (by simp [Act.eval]) ?_
      refine (PWb.class_Of.calls 1 y true (cls y true) _ (of_b 0 y true)).mono ?_
      rintro e w5 ⟨rfl, ⟨nd, rfl⟩⟩
      refine ⟨_, rfl, ?_⟩
      refine hK.out _ _ ⟨hHeld.1, hHeld.2.step (pw_below_drewN (Below.refl _ _) nd)⟩ (fun hHeld => ?_)
      clear hK K
      refine norm_ (a' := ?_) ?_ ?_
      rotate_left
      · show Act.put _ (some 51) _ = _
        simp only [Act.put, List.setIfInBounds_toArray, List.set_cons_zero, List.set_cons_succ, i64_w, i32_w]
        rfl
      refine one_ (i := 8) (N := some 57) #[true, true, true, true, true, true, true, true, true, false] rfl rfl (by kernel_rfl) (by decide) (fun K hK => ?_)
      refine goes_ Try.func15 (by kernel_rfl) rfl #[.int .u8 x, .bool true] (by rfl) rfl rfl (by simp [Act.eval]) ?_
      refine (PWb.class_Of.calls 1 x true (cls x true) _ (of_b 0 x true)).mono ?_
      rintro e w5 ⟨rfl, ⟨nd, rfl⟩⟩
      refine ⟨_, rfl, ?_⟩
      refine hK.out _ _ ⟨hHeld.1, hHeld.2.step (pw_below_drewN (Below.refl _ _) nd)⟩ (fun hHeld => ?_)
      clear hK K
      refine norm_ (a' := ?_) ?_ ?_
      rotate_left
      · show Act.put _ (some 57) _ = _
        simp only [Act.put, List.setIfInBounds_toArray, List.set_cons_zero, List.set_cons_succ, i64_w, i32_w]
        rfl
      refine pure_ (i := 9) (N := some 58) (v := ?_) (a' := ?_) #[true, true, true, true, true, true, true, true, true, true] rfl rfl (by kernel_rfl) (fun _ _ _ h => h) (Or.inl ⟨by rfl, ?_⟩) ?_ ?_
      rotate_left
      · intro w'
        go_simp
        with_reducible rfl
      rotate_left
      · simp only [Act.put, List.setIfInBounds_toArray, List.set_cons_zero, List.set_cons_succ, i64_w, i32_w]
        rfl
      refine done_ (by kernel_rfl) ?_
      generalize World.drewN _ _ = w6 at hHeld ⊢
      obtain ⟨hcx6, hI6⟩ := hHeld
      have HI6 := Aside0.mk hI6
      clear hI6 hcx hfx hox HI
      have hf6 : w6.frozen? ⟨g, i, none⟩ = false := by
        obtain ⟨g', hg', _, _, h⟩ := HI6.out.at_ hlt
        cases hg'
        exact h
      by_cases he : cls y true = cls x true
      · have heb : (cls y true == cls x true) = true := beq_iff_eq.mpr he
        have hsw : swapK os true (rd T (i : Int)) = y := by unfold swapK; rw [HXE.out, HYE.out, if_pos he]
        have HP := Aside0.mk (HI6.out.put hlt HG.out y hsw)
        clear he hsw
        go_wp2
        go_roundw
        case measure => simp [intOf]; omega
        case rel => exact ⟨i + 1, by omega, by go_num, HP⟩
      · have heb : (cls y true == cls x true) = false := beq_eq_false_iff_ne.mpr he
        have hsw : swapK os true (rd T (i : Int)) = rd T (i : Int) := by unfold swapK; rw [HXE.out, HYE.out, if_neg he]
        have HP := Aside0.mk (HI6.out.same hlt hsw)
        clear he hsw
        go_wp2
        go_roundw
        case measure => simp [intOf]; omega
        case rel => exact ⟨i + 1, by omega, by go_num, HP⟩
    · have hlt1 : ((i : Int) < (T.length : Int)) = False := eq_false (by omega)
      have hlt2 : decide ((i : Int) < (T.length : Int)) = false := decide_eq_false (by omega)
      obtain rfl : i = T.length := by omega
      have hx0 := blk_cell HI.out.a 0
      have hx1 := blk_cell HI.out.a 1
      have hx3 := blk_cell HI.out.a 3
      simp only [List.getElem?_toArray, List.getElem?_cons_zero, List.getElem?_cons_succ] at hx0 hx1 hx3
      go_wp2_with fail
      refine (Move_calls A c T at_ n ⟨#[87]⟩ wr (Kd.C_below HR.out HI.out.B) HL.out).mono ?_
      rintro e w7 ⟨rfl, h7⟩
      generalize hre : mwF T at_ n ⟨#[87]⟩ = r
      obtain ⟨r0, r1, r2, r3⟩ := r
      unfold mvV
      simp only []
      have HRE := Aside0.mk hre
      have HI7 := Aside0.mk (HI.out.step h7)
      clear h7 HI hre hx0 hx1 hx3
      go_upto_region 13 with (fail)
      have hR8 := blk_new w7 (Obj.cells #[.int .i64 r0, .int .i64 r1, .int .i64 r2] 27)
      have hI8 := HI7.out.step ((Below.refl _ _).alloc (Nat.le_refl _) (Obj.cells #[.int .i64 r0, .int .i64 r1, .int .i64 r2] 27))
      generalize w7.alloc (Obj.cells #[.int .i64 r0, .int .i64 r1, .int .i64 r2] 27) = w8 at hR8 hI8 ⊢
      have HR8 := Aside0.mk hR8
      have HI8 := Aside0.mk hI8
      clear hR8 hI8 HI7
      have hx0 := blk_cell HI8.out.a 0
      have hx1 := blk_cell HI8.out.a 1
      have hx3 := blk_cell HI8.out.a 3
      simp only [List.getElem?_toArray, List.getElem?_cons_zero, List.getElem?_cons_succ] at hx0 hx1 hx3
      go_wp2_with fail
      have hr8 := HI8.out.r
      rw [swapped_all] at hr8
      have hM := Move_calls A7 c7 (T.map (swapK os true)) at_ n ⟨#[87]⟩ w8 (Kd.R_reads' hr8).2.2 (by rw [List.length_map]; exact HL.out)
      rw [show mwF (T.map (swapK os true)) at_ n ⟨#[87]⟩ = mwF T at_ n ⟨#[87]⟩ from mwF_map os T 4 ⟨#[87]⟩ (by simp [kix, ByteArray.toList_eq]) at_ n, HRE.out, List.length_map] at hM
      refine hM.mono ?_
      rintro e w9 ⟨rfl, h9⟩
      unfold mvV
      simp only []
      have HR9 := Aside0.mk (blk_below HR8.out h9)
      have HI9 := Aside0.mk (HI8.out.step h9)
      clear h9 hM hr8 hx0 hx1 hx3 HR8 HI8
      go_upto_region 14 with (fail)
      have hra := blk_alloc HR9.out (Obj.cells #[.int .i64 r0, .int .i64 r1, .int .i64 r2] 27)
      have hrb := blk_new w9 (Obj.cells #[.int .i64 r0, .int .i64 r1, .int .i64 r2] 27)
      have hB9 := HI9.out.B.alloc HI9.out.B.size (Obj.cells #[.int .i64 r0, .int .i64 r1, .int .i64 r2] 27)
      generalize w9.alloc (Obj.cells #[.int .i64 r0, .int .i64 r1, .int .i64 r2] 27) = wa at hra hrb hB9 ⊢
      have HB9 := Aside0.mk hB9
      have hp0 := blk_cell hra 0
      have hp1 := blk_cell hra 1
      have hp2 := blk_cell hra 2
      have hq0 := blk_cell hrb 0
      have hq1 := blk_cell hrb 1
      have hq2 := blk_cell hrb 2
      simp only [List.getElem?_toArray, List.getElem?_cons_zero, List.getElem?_cons_succ] at hp0 hp1 hp2 hq0 hq1 hq2
      clear hra hrb hB9
      go_wp2_with fail
      go_ret
      exact ⟨by simp, HB9.out⟩
set_option maxHeartbeats 2000000 in
set_option maxRecDepth 100000 in
theorem kinds5 (A : Option Addr) (c : Nat) (T : List Int) (at_ m n : Int) (key : ByteArray) (os : List Int) (hos : os.length = 256) (hob : ∀ x ∈ os, 0 ≤ x ∧ x ≤ 255) (hTb : ∀ x ∈ T, 0 ≤ x ∧ x ≤ 255) (w : World) (hr : Kd.C (Kd.int .u8) w A T.length T) (hc : T.length ≤ c) (hl : T.length ≤ 1048576) (hk : quoinlaw08_keys.f key = some ⟨#[66]⟩) :
    Calls Try.prog 7 #[.agg #[.slice A T.length c, .int .i64 at_, .int .i64 m, .int .i64 n, .string key], .agg (nums .u8 os).toArray] w fun e w' => e = .returned (.bool true) ∧ Below w.heap.size w w' := by
  have HR := Aside0.mk hr
  have HC := Aside0.mk hc
  have HL := Aside0.mk hl
  have HK := Aside0.mk hk
  have HOS := Aside0.mk hos
  have HOB := Aside0.mk hob
  have HTB := Aside0.mk hTb
  clear hr hc hl hk hos hob hTb
  go_enter Try.func7, Try.ntmps7
  go_upto_region 1 with (fail)
  have hA : ((w.alloc (Obj.cells #[Value.slice A T.length c, Value.int .i64 at_, Value.int .i64 m, Value.int .i64 n, Value.string key] 35)).alloc (Obj.cells (nums .u8 os).toArray 42)).heap[w.heap.size]? = some _ := blk_alloc (blk_new w (Obj.cells #[Value.slice A T.length c, Value.int .i64 at_, Value.int .i64 m, Value.int .i64 n, Value.string key] 35)) _
  have hb : ((w.alloc (Obj.cells #[Value.slice A T.length c, Value.int .i64 at_, Value.int .i64 m, Value.int .i64 n, Value.string key] 35)).alloc (Obj.cells (nums .u8 os).toArray 42)).heap[w.heap.size + 1]? = some _ := heap_alloc2_new w (Obj.cells #[Value.slice A T.length c, Value.int .i64 at_, Value.int .i64 m, Value.int .i64 n, Value.string key] 35) (Obj.cells (nums .u8 os).toArray 42)
  have hB := ((Below.refl w.heap.size w).alloc (Nat.le_refl _) (Obj.cells #[Value.slice A T.length c, Value.int .i64 at_, Value.int .i64 m, Value.int .i64 n, Value.string key] 35)).alloc (by simp) (Obj.cells (nums .u8 os).toArray 42)
  generalize (w.alloc (Obj.cells #[Value.slice A T.length c, Value.int .i64 at_, Value.int .i64 m, Value.int .i64 n, Value.string key] 35)).alloc (Obj.cells (nums .u8 os).toArray 42) = W at hA hb hB ⊢
  have H0a := Aside0.mk hA
  have H0b := Aside0.mk hb
  have H0B := Aside0.mk hB
  clear hA hb hB
  go_wp2_with fail
  refine (alive_calls W).mono ?_
  rintro e w1 ⟨rfl, h1⟩
  have H1a := Aside0.mk (blk_below H0a.out h1)
  have H1b := Aside0.mk (blk_below H0b.out h1)
  have H1B := Aside0.mk (below_step H0B.out h1)
  clear h1 H0a H0b H0B
  have hx0 := blk_cell H1a.out 0
  have hx1 := blk_cell H1a.out 1
  have hx2 := blk_cell H1a.out 2
  have hx3 := blk_cell H1a.out 3
  have hx4 := blk_cell H1a.out 4
  simp only [List.getElem?_toArray, List.getElem?_cons_zero, List.getElem?_cons_succ] at hx0 hx1 hx2 hx3 hx4
  go_wp2_with fail
  refine (quoinlaw08_keys.calls key ⟨#[66]⟩ _ HK.out).mono ?_
  rintro e w2 ⟨rfl, h2⟩
  have h2 := h2.below
  have H2a := Aside0.mk (blk_below H1a.out h2)
  have H2b := Aside0.mk (blk_below H1b.out h2)
  have H2B := Aside0.mk (below_step H1B.out h2)
  clear h2 H1a H1b H1B
  clear hx0 hx1 hx2 hx3 hx4
  have hx0 := blk_cell H2a.out 0
  have hx1 := blk_cell H2a.out 1
  have hx2 := blk_cell H2a.out 2
  have hx3 := blk_cell H2a.out 3
  have hx4 := blk_cell H2a.out 4
  simp only [List.getElem?_toArray, List.getElem?_cons_zero, List.getElem?_cons_succ] at hx0 hx1 hx2 hx3 hx4
  have hy0 : (w2.alloc (Obj.cells #[] 5)).cell? ⟨w.heap.size, 0, none⟩ = some (.slice A T.length c) := by rw [blk_cell (blk_alloc H2a.out _)]; rfl
  have HE := Aside0.mk (empty_R w2 w.heap.size (H2B.out.size) (by have := blk_lt H2b.out; omega))
  go_wp2_with (first | ((with_reducible refine gate_builtin (b := .append) (xs := #[.tmp 33, .tmp 35]) rfl ?_); at_builtin; refine Kd.R_append_rows (Kd.int .u8) (w0 := w) w.heap.size rfl (.tmp 33) (.tmp 35) 22 5 (.int .u8 0) 1 rfl Try.underlying22 info5 rfl (by decide) (by omega) (Value.slice (some ⟨w2.heap.size, 0, none⟩) 0 0) [] T A T.length c (fun k => w.heap.size + 2 ≤ k) (fun _ => False) rfl rfl ?aO ?aR (fun _ _ h => h) (fun _ h => h.elim) ?aF ?aB ?aS ?aL ?_; (case aO => exact HE.out); (case aR => exact Kd.C_below HR.out (H2B.out.alloc H2B.out.size _)); (case aF => intro k hk; have := blk_lt H2b.out; simp at hk; omega); (case aB => exact H2B.out.alloc H2B.out.size _); (case aS => have := H2B.out.size; simp; omega); (case aL => have := HL.out; simp; omega)))
  intro v3 w3 ho hb hg hat
  have hne : ∀ g, g ≠ w2.heap.size → some g ≠ (Value.slice (some ⟨w2.heap.size, 0, none⟩) 0 0).ownBlock := fun g h e => by simp [Value.ownBlock] at e; exact h e
  have ha3 := blk_grown (blk_alloc H2a.out (Obj.cells #[] 5)) hg (hne _ (by have := blk_lt H2b.out; omega))
  have hb3 := blk_grown (blk_alloc H2b.out (Obj.cells #[] 5)) hg (hne _ (by have := blk_lt H2b.out; omega))
  obtain ⟨A7, c7, e7⟩ := Kd.R_slice ho
  subst e7
  have HI0 := Aside0.mk (show KI w A c T at_ m n key os true A7 c7 w3 0 from ⟨ha3, hb3, hb, by rw [swapped_zero]; exact ho⟩)
  clear ho hb hg hat hne ha3 hb3 HE hy0 H2a H2b H2B hx0 hx1 hx2 hx3 hx4
  go_wp2_with fail
  go_loopw [8] (fun v8 W => ∃ i : Nat, i ≤ T.length ∧ v8 = .int .i64 i ∧ Aside0 (KI w A c T at_ m n key os true A7 c7 W i)) (fun v8 _ => T.length - (intOf v8).toNat)
  case atStart => exact ⟨0, by omega, rfl, HI0⟩
  case round =>
    clear HI0
    obtain ⟨i, hi, rfl, HI⟩ := hrel
    by_cases hlt : i < T.length
    · have hlt1 : ((i : Int) < (T.length : Int)) = True := eq_true (by omega)
      have hlt2 : decide ((i : Int) < (T.length : Int)) = true := decide_eq_true (by omega)
      have hw1 : IntKind.i64.wrap ((i : Int) + 1) = (i : Int) + 1 := by have := HL.out; rw [i64_w, w64] <;> omega
      obtain ⟨g, rfl, hg, hcx, hfx⟩ := HI.out.at_ hlt
      have hx := HTB.out _ (rd_mem T i hlt)
      have hox := HI.out.other HOS.out _ hx.1 hx.2
      have HG := Aside0.mk hg
      clear hg
      generalize hxe : rd T (i : Int) = x at hcx hx hox
      have hoc := rd os x
      clear hoc
      have hp1 : (0 ≤ x) = True := eq_true hx.1
      have hp2 : (x < 256) = True := eq_true (by omega)
      have hp3 : (x < 0) = False := eq_false (by omega)
      generalize hye : rd os x = y at hox
      have HXE := Aside0.mk hxe
      have HYE := Aside0.mk hye
      clear hx hxe hye
      go_upto_region 10 with (fail)
      refine start_ (n := 10) (S := fun w' => w'.cell? ⟨g, i, none⟩ = some (.int .u8 x) ∧ KI w A c T at_ m n key os true (some ⟨g, 0, none⟩) c7 w' i) (ds := []) #[false, false, false, false, false, false, false, false, false, false] (by kernel_rfl) rfl rfl ⟨hcx, HI.out.step (below_drew (Below.refl _ _))⟩ (fun hHeld => ?_)
      refine pure_ (i := 0) (N := some 49) (v := ?_) (a' := ?_) #[true, false, false, false, false, false, false, false, false, false] rfl rfl (by kernel_rfl) (fun _ _ _ h => h) (Or.inl ⟨by rfl, ?_⟩) ?_ ?_
      rotate_left
      · intro w'
        go_simp
        with_reducible rfl
      rotate_left
      · simp only [Act.put, List.setIfInBounds_toArray, List.set_cons_zero, List.set_cons_succ, i64_w, i32_w]
        rfl
      refine pure_ (i := 1) (N := some 50) (v := ?_) (a' := ?_) #[true, true, false, false, false, false, false, false, false, false] rfl rfl (by kernel_rfl) (fun _ _ _ h => h) (Or.inl ⟨by rfl, ?_⟩) ?_ ?_
      rotate_left
      · intro w'
        go_simp
        with_reducible rfl
      rotate_left
      · simp only [Act.put, List.setIfInBounds_toArray, List.set_cons_zero, List.set_cons_succ, i64_w, i32_w]
        rfl
      refine pure_ (i := 3) (N := some 52) (v := ?_) (a' := ?_) #[true, true, false, true, false, false, false, false, false, false] rfl rfl (by kernel_rfl) (fun _ _ _ h => h) (Or.inl ⟨by rfl, ?_⟩) ?_ ?_
      rotate_left
      · intro w'
        go_simp
        with_reducible rfl
      rotate_left
      · simp only [Act.put, List.setIfInBounds_toArray, List.set_cons_zero, List.set_cons_succ, i64_w, i32_w]
        rfl
      refine pure_ (i := 4) (N := some 53) (v := ?_) (a' := ?_) #[true, true, false, true, true, false, false, false, false, false] rfl rfl (by kernel_rfl) (fun _ _ _ h => h) (Or.inl ⟨by rfl, ?_⟩) ?_ ?_
      rotate_left
      · intro w'
        go_simp
        with_reducible rfl
      rotate_left
      · simp only [Act.put, List.setIfInBounds_toArray, List.set_cons_zero, List.set_cons_succ, i64_w, i32_w]
        rfl
      refine pure_ (i := 5) (N := some 54) (v := ?_) (a' := ?_) #[true, true, false, true, true, true, false, false, false, false] rfl rfl (by kernel_rfl) (fun _ _ _ h => h) (Or.inl ⟨by rfl, ?_⟩) ?_ ?_
      rotate_left
      · intro w'
        go_simp
        with_reducible rfl
      rotate_left
      · simp only [Act.put, List.setIfInBounds_toArray, List.set_cons_zero, List.set_cons_succ, i64_w, i32_w]
        rfl
      refine take_ (i := 6) (N := some 55) (v := ?_) (a' := ?_) #[true, true, false, true, true, true, true, false, false, false] rfl rfl (by kernel_rfl) (fun _ _ _ h => h) (Or.inl ⟨by rfl, ?_⟩) hHeld ?_ ?_
      rotate_left
      · rintro w' ⟨s0, s1⟩
        go_simp
        with_reducible rfl
      rotate_left
      · simp only [Act.put, List.setIfInBounds_toArray, List.set_cons_zero, List.set_cons_succ, i64_w, i32_w]
        rfl
      refine pure_ (i := 7) (N := some 56) (v := ?_) (a' := ?_) #[true, true, false, true, true, true, true, true, false, false] rfl rfl (by kernel_rfl) (fun _ _ _ h => h) (Or.inl ⟨by rfl, ?_⟩) ?_ ?_
      rotate_left
      · intro w'
        go_simp
        with_reducible rfl
      rotate_left
      · simp only [Act.put, List.setIfInBounds_toArray, List.set_cons_zero, List.set_cons_succ, i64_w, i32_w]
        rfl
      refine one_ (i := 2) (N := some 51) #[true, true, true, true, true, true, true, true, false, false] rfl rfl (by kernel_rfl) (by decide) (fun K hK => ?_)
      refine goes_ Try.func15 (by kernel_rfl) rfl #[.int .u8 y, .bool true] (by rfl) rfl rfl (by simp [Act.eval]) ?_
      refine (PWb.class_Of.calls 1 y true (cls y true) _ (of_b 0 y true)).mono ?_
      rintro e w5 ⟨rfl, ⟨nd, rfl⟩⟩
      refine ⟨_, rfl, ?_⟩
      refine hK.out _ _ ⟨hHeld.1, hHeld.2.step (pw_below_drewN (Below.refl _ _) nd)⟩ (fun hHeld => ?_)
      clear hK K
      refine norm_ (a' := ?_) ?_ ?_
      rotate_left
      · show Act.put _ (some 51) _ = _
        simp only [Act.put, List.setIfInBounds_toArray, List.set_cons_zero, List.set_cons_succ, i64_w, i32_w]
        rfl
      refine one_ (i := 8) (N := some 57) #[true, true, true, true, true, true, true, true, true, false] rfl rfl (by kernel_rfl) (by decide) (fun K hK => ?_)
      refine goes_ Try.func15 (by kernel_rfl) rfl #[.int .u8 x, .bool true] (by rfl) rfl rfl (by simp [Act.eval]) ?_
      refine (PWb.class_Of.calls 1 x true (cls x true) _ (of_b 0 x true)).mono ?_
      rintro e w5 ⟨rfl, ⟨nd, rfl⟩⟩
      refine ⟨_, rfl, ?_⟩
      refine hK.out _ _ ⟨hHeld.1, hHeld.2.step (pw_below_drewN (Below.refl _ _) nd)⟩ (fun hHeld => ?_)
      clear hK K
      refine norm_ (a' := ?_) ?_ ?_
      rotate_left
      · show Act.put _ (some 57) _ = _
        simp only [Act.put, List.setIfInBounds_toArray, List.set_cons_zero, List.set_cons_succ, i64_w, i32_w]
        rfl
      refine pure_ (i := 9) (N := some 58) (v := ?_) (a' := ?_) #[true, true, true, true, true, true, true, true, true, true] rfl rfl (by kernel_rfl) (fun _ _ _ h => h) (Or.inl ⟨by rfl, ?_⟩) ?_ ?_
      rotate_left
      · intro w'
        go_simp
        with_reducible rfl
      rotate_left
      · simp only [Act.put, List.setIfInBounds_toArray, List.set_cons_zero, List.set_cons_succ, i64_w, i32_w]
        rfl
      refine done_ (by kernel_rfl) ?_
      generalize World.drewN _ _ = w6 at hHeld ⊢
      obtain ⟨hcx6, hI6⟩ := hHeld
      have HI6 := Aside0.mk hI6
      clear hI6 hcx hfx hox HI
      have hf6 : w6.frozen? ⟨g, i, none⟩ = false := by
        obtain ⟨g', hg', _, _, h⟩ := HI6.out.at_ hlt
        cases hg'
        exact h
      by_cases he : cls y true = cls x true
      · have heb : (cls y true == cls x true) = true := beq_iff_eq.mpr he
        have hsw : swapK os true (rd T (i : Int)) = y := by unfold swapK; rw [HXE.out, HYE.out, if_pos he]
        have HP := Aside0.mk (HI6.out.put hlt HG.out y hsw)
        clear he hsw
        go_wp2
        go_roundw
        case measure => simp [intOf]; omega
        case rel => exact ⟨i + 1, by omega, by go_num, HP⟩
      · have heb : (cls y true == cls x true) = false := beq_eq_false_iff_ne.mpr he
        have hsw : swapK os true (rd T (i : Int)) = rd T (i : Int) := by unfold swapK; rw [HXE.out, HYE.out, if_neg he]
        have HP := Aside0.mk (HI6.out.same hlt hsw)
        clear he hsw
        go_wp2
        go_roundw
        case measure => simp [intOf]; omega
        case rel => exact ⟨i + 1, by omega, by go_num, HP⟩
    · have hlt1 : ((i : Int) < (T.length : Int)) = False := eq_false (by omega)
      have hlt2 : decide ((i : Int) < (T.length : Int)) = false := decide_eq_false (by omega)
      obtain rfl : i = T.length := by omega
      have hx0 := blk_cell HI.out.a 0
      have hx1 := blk_cell HI.out.a 1
      have hx3 := blk_cell HI.out.a 3
      simp only [List.getElem?_toArray, List.getElem?_cons_zero, List.getElem?_cons_succ] at hx0 hx1 hx3
      go_wp2_with fail
      refine (Move_calls A c T at_ n ⟨#[66]⟩ wr (Kd.C_below HR.out HI.out.B) HL.out).mono ?_
      rintro e w7 ⟨rfl, h7⟩
      generalize hre : mwF T at_ n ⟨#[66]⟩ = r
      obtain ⟨r0, r1, r2, r3⟩ := r
      unfold mvV
      simp only []
      have HRE := Aside0.mk hre
      have HI7 := Aside0.mk (HI.out.step h7)
      clear h7 HI hre hx0 hx1 hx3
      go_upto_region 13 with (fail)
      have hR8 := blk_new w7 (Obj.cells #[.int .i64 r0, .int .i64 r1, .int .i64 r2] 27)
      have hI8 := HI7.out.step ((Below.refl _ _).alloc (Nat.le_refl _) (Obj.cells #[.int .i64 r0, .int .i64 r1, .int .i64 r2] 27))
      generalize w7.alloc (Obj.cells #[.int .i64 r0, .int .i64 r1, .int .i64 r2] 27) = w8 at hR8 hI8 ⊢
      have HR8 := Aside0.mk hR8
      have HI8 := Aside0.mk hI8
      clear hR8 hI8 HI7
      have hx0 := blk_cell HI8.out.a 0
      have hx1 := blk_cell HI8.out.a 1
      have hx3 := blk_cell HI8.out.a 3
      simp only [List.getElem?_toArray, List.getElem?_cons_zero, List.getElem?_cons_succ] at hx0 hx1 hx3
      go_wp2_with fail
      have hr8 := HI8.out.r
      rw [swapped_all] at hr8
      have hM := Move_calls A7 c7 (T.map (swapK os true)) at_ n ⟨#[66]⟩ w8 (Kd.R_reads' hr8).2.2 (by rw [List.length_map]; exact HL.out)
      rw [show mwF (T.map (swapK os true)) at_ n ⟨#[66]⟩ = mwF T at_ n ⟨#[66]⟩ from mwF_map os T 5 ⟨#[66]⟩ (by simp [kix, ByteArray.toList_eq]) at_ n, HRE.out, List.length_map] at hM
      refine hM.mono ?_
      rintro e w9 ⟨rfl, h9⟩
      unfold mvV
      simp only []
      have HR9 := Aside0.mk (blk_below HR8.out h9)
      have HI9 := Aside0.mk (HI8.out.step h9)
      clear h9 hM hr8 hx0 hx1 hx3 HR8 HI8
      go_upto_region 14 with (fail)
      have hra := blk_alloc HR9.out (Obj.cells #[.int .i64 r0, .int .i64 r1, .int .i64 r2] 27)
      have hrb := blk_new w9 (Obj.cells #[.int .i64 r0, .int .i64 r1, .int .i64 r2] 27)
      have hB9 := HI9.out.B.alloc HI9.out.B.size (Obj.cells #[.int .i64 r0, .int .i64 r1, .int .i64 r2] 27)
      generalize w9.alloc (Obj.cells #[.int .i64 r0, .int .i64 r1, .int .i64 r2] 27) = wa at hra hrb hB9 ⊢
      have HB9 := Aside0.mk hB9
      have hp0 := blk_cell hra 0
      have hp1 := blk_cell hra 1
      have hp2 := blk_cell hra 2
      have hq0 := blk_cell hrb 0
      have hq1 := blk_cell hrb 1
      have hq2 := blk_cell hrb 2
      simp only [List.getElem?_toArray, List.getElem?_cons_zero, List.getElem?_cons_succ] at hp0 hp1 hp2 hq0 hq1 hq2
      clear hra hrb hB9
      go_wp2_with fail
      go_ret
      exact ⟨by simp, HB9.out⟩
set_option maxHeartbeats 2000000 in
set_option maxRecDepth 100000 in
theorem kinds6 (A : Option Addr) (c : Nat) (T : List Int) (at_ m n : Int) (key : ByteArray) (os : List Int) (hos : os.length = 256) (hob : ∀ x ∈ os, 0 ≤ x ∧ x ≤ 255) (hTb : ∀ x ∈ T, 0 ≤ x ∧ x ≤ 255) (w : World) (hr : Kd.C (Kd.int .u8) w A T.length T) (hc : T.length ≤ c) (hl : T.length ≤ 1048576) (hk : quoinlaw08_keys.f key = some ⟨#[69]⟩) :
    Calls Try.prog 7 #[.agg #[.slice A T.length c, .int .i64 at_, .int .i64 m, .int .i64 n, .string key], .agg (nums .u8 os).toArray] w fun e w' => e = .returned (.bool true) ∧ Below w.heap.size w w' := by
  have HR := Aside0.mk hr
  have HC := Aside0.mk hc
  have HL := Aside0.mk hl
  have HK := Aside0.mk hk
  have HOS := Aside0.mk hos
  have HOB := Aside0.mk hob
  have HTB := Aside0.mk hTb
  clear hr hc hl hk hos hob hTb
  go_enter Try.func7, Try.ntmps7
  go_upto_region 1 with (fail)
  have hA : ((w.alloc (Obj.cells #[Value.slice A T.length c, Value.int .i64 at_, Value.int .i64 m, Value.int .i64 n, Value.string key] 35)).alloc (Obj.cells (nums .u8 os).toArray 42)).heap[w.heap.size]? = some _ := blk_alloc (blk_new w (Obj.cells #[Value.slice A T.length c, Value.int .i64 at_, Value.int .i64 m, Value.int .i64 n, Value.string key] 35)) _
  have hb : ((w.alloc (Obj.cells #[Value.slice A T.length c, Value.int .i64 at_, Value.int .i64 m, Value.int .i64 n, Value.string key] 35)).alloc (Obj.cells (nums .u8 os).toArray 42)).heap[w.heap.size + 1]? = some _ := heap_alloc2_new w (Obj.cells #[Value.slice A T.length c, Value.int .i64 at_, Value.int .i64 m, Value.int .i64 n, Value.string key] 35) (Obj.cells (nums .u8 os).toArray 42)
  have hB := ((Below.refl w.heap.size w).alloc (Nat.le_refl _) (Obj.cells #[Value.slice A T.length c, Value.int .i64 at_, Value.int .i64 m, Value.int .i64 n, Value.string key] 35)).alloc (by simp) (Obj.cells (nums .u8 os).toArray 42)
  generalize (w.alloc (Obj.cells #[Value.slice A T.length c, Value.int .i64 at_, Value.int .i64 m, Value.int .i64 n, Value.string key] 35)).alloc (Obj.cells (nums .u8 os).toArray 42) = W at hA hb hB ⊢
  have H0a := Aside0.mk hA
  have H0b := Aside0.mk hb
  have H0B := Aside0.mk hB
  clear hA hb hB
  go_wp2_with fail
  refine (alive_calls W).mono ?_
  rintro e w1 ⟨rfl, h1⟩
  have H1a := Aside0.mk (blk_below H0a.out h1)
  have H1b := Aside0.mk (blk_below H0b.out h1)
  have H1B := Aside0.mk (below_step H0B.out h1)
  clear h1 H0a H0b H0B
  have hx0 := blk_cell H1a.out 0
  have hx1 := blk_cell H1a.out 1
  have hx2 := blk_cell H1a.out 2
  have hx3 := blk_cell H1a.out 3
  have hx4 := blk_cell H1a.out 4
  simp only [List.getElem?_toArray, List.getElem?_cons_zero, List.getElem?_cons_succ] at hx0 hx1 hx2 hx3 hx4
  go_wp2_with fail
  refine (quoinlaw08_keys.calls key ⟨#[69]⟩ _ HK.out).mono ?_
  rintro e w2 ⟨rfl, h2⟩
  have h2 := h2.below
  have H2a := Aside0.mk (blk_below H1a.out h2)
  have H2b := Aside0.mk (blk_below H1b.out h2)
  have H2B := Aside0.mk (below_step H1B.out h2)
  clear h2 H1a H1b H1B
  clear hx0 hx1 hx2 hx3 hx4
  have hx0 := blk_cell H2a.out 0
  have hx1 := blk_cell H2a.out 1
  have hx2 := blk_cell H2a.out 2
  have hx3 := blk_cell H2a.out 3
  have hx4 := blk_cell H2a.out 4
  simp only [List.getElem?_toArray, List.getElem?_cons_zero, List.getElem?_cons_succ] at hx0 hx1 hx2 hx3 hx4
  have hy0 : (w2.alloc (Obj.cells #[] 5)).cell? ⟨w.heap.size, 0, none⟩ = some (.slice A T.length c) := by rw [blk_cell (blk_alloc H2a.out _)]; rfl
  have HE := Aside0.mk (empty_R w2 w.heap.size (H2B.out.size) (by have := blk_lt H2b.out; omega))
  go_wp2_with (first | ((with_reducible refine gate_builtin (b := .append) (xs := #[.tmp 33, .tmp 35]) rfl ?_); at_builtin; refine Kd.R_append_rows (Kd.int .u8) (w0 := w) w.heap.size rfl (.tmp 33) (.tmp 35) 22 5 (.int .u8 0) 1 rfl Try.underlying22 info5 rfl (by decide) (by omega) (Value.slice (some ⟨w2.heap.size, 0, none⟩) 0 0) [] T A T.length c (fun k => w.heap.size + 2 ≤ k) (fun _ => False) rfl rfl ?aO ?aR (fun _ _ h => h) (fun _ h => h.elim) ?aF ?aB ?aS ?aL ?_; (case aO => exact HE.out); (case aR => exact Kd.C_below HR.out (H2B.out.alloc H2B.out.size _)); (case aF => intro k hk; have := blk_lt H2b.out; simp at hk; omega); (case aB => exact H2B.out.alloc H2B.out.size _); (case aS => have := H2B.out.size; simp; omega); (case aL => have := HL.out; simp; omega)))
  intro v3 w3 ho hb hg hat
  have hne : ∀ g, g ≠ w2.heap.size → some g ≠ (Value.slice (some ⟨w2.heap.size, 0, none⟩) 0 0).ownBlock := fun g h e => by simp [Value.ownBlock] at e; exact h e
  have ha3 := blk_grown (blk_alloc H2a.out (Obj.cells #[] 5)) hg (hne _ (by have := blk_lt H2b.out; omega))
  have hb3 := blk_grown (blk_alloc H2b.out (Obj.cells #[] 5)) hg (hne _ (by have := blk_lt H2b.out; omega))
  obtain ⟨A7, c7, e7⟩ := Kd.R_slice ho
  subst e7
  have HI0 := Aside0.mk (show KI w A c T at_ m n key os true A7 c7 w3 0 from ⟨ha3, hb3, hb, by rw [swapped_zero]; exact ho⟩)
  clear ho hb hg hat hne ha3 hb3 HE hy0 H2a H2b H2B hx0 hx1 hx2 hx3 hx4
  go_wp2_with fail
  go_loopw [8] (fun v8 W => ∃ i : Nat, i ≤ T.length ∧ v8 = .int .i64 i ∧ Aside0 (KI w A c T at_ m n key os true A7 c7 W i)) (fun v8 _ => T.length - (intOf v8).toNat)
  case atStart => exact ⟨0, by omega, rfl, HI0⟩
  case round =>
    clear HI0
    obtain ⟨i, hi, rfl, HI⟩ := hrel
    by_cases hlt : i < T.length
    · have hlt1 : ((i : Int) < (T.length : Int)) = True := eq_true (by omega)
      have hlt2 : decide ((i : Int) < (T.length : Int)) = true := decide_eq_true (by omega)
      have hw1 : IntKind.i64.wrap ((i : Int) + 1) = (i : Int) + 1 := by have := HL.out; rw [i64_w, w64] <;> omega
      obtain ⟨g, rfl, hg, hcx, hfx⟩ := HI.out.at_ hlt
      have hx := HTB.out _ (rd_mem T i hlt)
      have hox := HI.out.other HOS.out _ hx.1 hx.2
      have HG := Aside0.mk hg
      clear hg
      generalize hxe : rd T (i : Int) = x at hcx hx hox
      have hoc := rd os x
      clear hoc
      have hp1 : (0 ≤ x) = True := eq_true hx.1
      have hp2 : (x < 256) = True := eq_true (by omega)
      have hp3 : (x < 0) = False := eq_false (by omega)
      generalize hye : rd os x = y at hox
      have HXE := Aside0.mk hxe
      have HYE := Aside0.mk hye
      clear hx hxe hye
      go_upto_region 10 with (fail)
      refine start_ (n := 10) (S := fun w' => w'.cell? ⟨g, i, none⟩ = some (.int .u8 x) ∧ KI w A c T at_ m n key os true (some ⟨g, 0, none⟩) c7 w' i) (ds := []) #[false, false, false, false, false, false, false, false, false, false] (by kernel_rfl) rfl rfl ⟨hcx, HI.out.step (below_drew (Below.refl _ _))⟩ (fun hHeld => ?_)
      refine pure_ (i := 0) (N := some 49) (v := ?_) (a' := ?_) #[true, false, false, false, false, false, false, false, false, false] rfl rfl (by kernel_rfl) (fun _ _ _ h => h) (Or.inl ⟨by rfl, ?_⟩) ?_ ?_
      rotate_left
      · intro w'
        go_simp
        with_reducible rfl
      rotate_left
      · simp only [Act.put, List.setIfInBounds_toArray, List.set_cons_zero, List.set_cons_succ, i64_w, i32_w]
        rfl
      refine pure_ (i := 1) (N := some 50) (v := ?_) (a' := ?_) #[true, true, false, false, false, false, false, false, false, false] rfl rfl (by kernel_rfl) (fun _ _ _ h => h) (Or.inl ⟨by rfl, ?_⟩) ?_ ?_
      rotate_left
      · intro w'
        go_simp
        with_reducible rfl
      rotate_left
      · simp only [Act.put, List.setIfInBounds_toArray, List.set_cons_zero, List.set_cons_succ, i64_w, i32_w]
        rfl
      refine pure_ (i := 3) (N := some 52) (v := ?_) (a' := ?_) #[true, true, false, true, false, false, false, false, false, false] rfl rfl (by kernel_rfl) (fun _ _ _ h => h) (Or.inl ⟨by rfl, ?_⟩) ?_ ?_
      rotate_left
      · intro w'
        go_simp
        with_reducible rfl
      rotate_left
      · simp only [Act.put, List.setIfInBounds_toArray, List.set_cons_zero, List.set_cons_succ, i64_w, i32_w]
        rfl
      refine pure_ (i := 4) (N := some 53) (v := ?_) (a' := ?_) #[true, true, false, true, true, false, false, false, false, false] rfl rfl (by kernel_rfl) (fun _ _ _ h => h) (Or.inl ⟨by rfl, ?_⟩) ?_ ?_
      rotate_left
      · intro w'
        go_simp
        with_reducible rfl
      rotate_left
      · simp only [Act.put, List.setIfInBounds_toArray, List.set_cons_zero, List.set_cons_succ, i64_w, i32_w]
        rfl
      refine pure_ (i := 5) (N := some 54) (v := ?_) (a' := ?_) #[true, true, false, true, true, true, false, false, false, false] rfl rfl (by kernel_rfl) (fun _ _ _ h => h) (Or.inl ⟨by rfl, ?_⟩) ?_ ?_
      rotate_left
      · intro w'
        go_simp
        with_reducible rfl
      rotate_left
      · simp only [Act.put, List.setIfInBounds_toArray, List.set_cons_zero, List.set_cons_succ, i64_w, i32_w]
        rfl
      refine take_ (i := 6) (N := some 55) (v := ?_) (a' := ?_) #[true, true, false, true, true, true, true, false, false, false] rfl rfl (by kernel_rfl) (fun _ _ _ h => h) (Or.inl ⟨by rfl, ?_⟩) hHeld ?_ ?_
      rotate_left
      · rintro w' ⟨s0, s1⟩
        go_simp
        with_reducible rfl
      rotate_left
      · simp only [Act.put, List.setIfInBounds_toArray, List.set_cons_zero, List.set_cons_succ, i64_w, i32_w]
        rfl
      refine pure_ (i := 7) (N := some 56) (v := ?_) (a' := ?_) #[true, true, false, true, true, true, true, true, false, false] rfl rfl (by kernel_rfl) (fun _ _ _ h => h) (Or.inl ⟨by rfl, ?_⟩) ?_ ?_
      rotate_left
      · intro w'
        go_simp
        with_reducible rfl
      rotate_left
      · simp only [Act.put, List.setIfInBounds_toArray, List.set_cons_zero, List.set_cons_succ, i64_w, i32_w]
        rfl
      refine one_ (i := 2) (N := some 51) #[true, true, true, true, true, true, true, true, false, false] rfl rfl (by kernel_rfl) (by decide) (fun K hK => ?_)
      refine goes_ Try.func15 (by kernel_rfl) rfl #[.int .u8 y, .bool true] (by rfl) rfl rfl (by simp [Act.eval]) ?_
      refine (PWb.class_Of.calls 1 y true (cls y true) _ (of_b 0 y true)).mono ?_
      rintro e w5 ⟨rfl, ⟨nd, rfl⟩⟩
      refine ⟨_, rfl, ?_⟩
      refine hK.out _ _ ⟨hHeld.1, hHeld.2.step (pw_below_drewN (Below.refl _ _) nd)⟩ (fun hHeld => ?_)
      clear hK K
      refine norm_ (a' := ?_) ?_ ?_
      rotate_left
      · show Act.put _ (some 51) _ = _
        simp only [Act.put, List.setIfInBounds_toArray, List.set_cons_zero, List.set_cons_succ, i64_w, i32_w]
        rfl
      refine one_ (i := 8) (N := some 57) #[true, true, true, true, true, true, true, true, true, false] rfl rfl (by kernel_rfl) (by decide) (fun K hK => ?_)
      refine goes_ Try.func15 (by kernel_rfl) rfl #[.int .u8 x, .bool true] (by rfl) rfl rfl (by simp [Act.eval]) ?_
      refine (PWb.class_Of.calls 1 x true (cls x true) _ (of_b 0 x true)).mono ?_
      rintro e w5 ⟨rfl, ⟨nd, rfl⟩⟩
      refine ⟨_, rfl, ?_⟩
      refine hK.out _ _ ⟨hHeld.1, hHeld.2.step (pw_below_drewN (Below.refl _ _) nd)⟩ (fun hHeld => ?_)
      clear hK K
      refine norm_ (a' := ?_) ?_ ?_
      rotate_left
      · show Act.put _ (some 57) _ = _
        simp only [Act.put, List.setIfInBounds_toArray, List.set_cons_zero, List.set_cons_succ, i64_w, i32_w]
        rfl
      refine pure_ (i := 9) (N := some 58) (v := ?_) (a' := ?_) #[true, true, true, true, true, true, true, true, true, true] rfl rfl (by kernel_rfl) (fun _ _ _ h => h) (Or.inl ⟨by rfl, ?_⟩) ?_ ?_
      rotate_left
      · intro w'
        go_simp
        with_reducible rfl
      rotate_left
      · simp only [Act.put, List.setIfInBounds_toArray, List.set_cons_zero, List.set_cons_succ, i64_w, i32_w]
        rfl
      refine done_ (by kernel_rfl) ?_
      generalize World.drewN _ _ = w6 at hHeld ⊢
      obtain ⟨hcx6, hI6⟩ := hHeld
      have HI6 := Aside0.mk hI6
      clear hI6 hcx hfx hox HI
      have hf6 : w6.frozen? ⟨g, i, none⟩ = false := by
        obtain ⟨g', hg', _, _, h⟩ := HI6.out.at_ hlt
        cases hg'
        exact h
      by_cases he : cls y true = cls x true
      · have heb : (cls y true == cls x true) = true := beq_iff_eq.mpr he
        have hsw : swapK os true (rd T (i : Int)) = y := by unfold swapK; rw [HXE.out, HYE.out, if_pos he]
        have HP := Aside0.mk (HI6.out.put hlt HG.out y hsw)
        clear he hsw
        go_wp2
        go_roundw
        case measure => simp [intOf]; omega
        case rel => exact ⟨i + 1, by omega, by go_num, HP⟩
      · have heb : (cls y true == cls x true) = false := beq_eq_false_iff_ne.mpr he
        have hsw : swapK os true (rd T (i : Int)) = rd T (i : Int) := by unfold swapK; rw [HXE.out, HYE.out, if_neg he]
        have HP := Aside0.mk (HI6.out.same hlt hsw)
        clear he hsw
        go_wp2
        go_roundw
        case measure => simp [intOf]; omega
        case rel => exact ⟨i + 1, by omega, by go_num, HP⟩
    · have hlt1 : ((i : Int) < (T.length : Int)) = False := eq_false (by omega)
      have hlt2 : decide ((i : Int) < (T.length : Int)) = false := decide_eq_false (by omega)
      obtain rfl : i = T.length := by omega
      have hx0 := blk_cell HI.out.a 0
      have hx1 := blk_cell HI.out.a 1
      have hx3 := blk_cell HI.out.a 3
      simp only [List.getElem?_toArray, List.getElem?_cons_zero, List.getElem?_cons_succ] at hx0 hx1 hx3
      go_wp2_with fail
      refine (Move_calls A c T at_ n ⟨#[69]⟩ wr (Kd.C_below HR.out HI.out.B) HL.out).mono ?_
      rintro e w7 ⟨rfl, h7⟩
      generalize hre : mwF T at_ n ⟨#[69]⟩ = r
      obtain ⟨r0, r1, r2, r3⟩ := r
      unfold mvV
      simp only []
      have HRE := Aside0.mk hre
      have HI7 := Aside0.mk (HI.out.step h7)
      clear h7 HI hre hx0 hx1 hx3
      go_upto_region 13 with (fail)
      have hR8 := blk_new w7 (Obj.cells #[.int .i64 r0, .int .i64 r1, .int .i64 r2] 27)
      have hI8 := HI7.out.step ((Below.refl _ _).alloc (Nat.le_refl _) (Obj.cells #[.int .i64 r0, .int .i64 r1, .int .i64 r2] 27))
      generalize w7.alloc (Obj.cells #[.int .i64 r0, .int .i64 r1, .int .i64 r2] 27) = w8 at hR8 hI8 ⊢
      have HR8 := Aside0.mk hR8
      have HI8 := Aside0.mk hI8
      clear hR8 hI8 HI7
      have hx0 := blk_cell HI8.out.a 0
      have hx1 := blk_cell HI8.out.a 1
      have hx3 := blk_cell HI8.out.a 3
      simp only [List.getElem?_toArray, List.getElem?_cons_zero, List.getElem?_cons_succ] at hx0 hx1 hx3
      go_wp2_with fail
      have hr8 := HI8.out.r
      rw [swapped_all] at hr8
      have hM := Move_calls A7 c7 (T.map (swapK os true)) at_ n ⟨#[69]⟩ w8 (Kd.R_reads' hr8).2.2 (by rw [List.length_map]; exact HL.out)
      rw [show mwF (T.map (swapK os true)) at_ n ⟨#[69]⟩ = mwF T at_ n ⟨#[69]⟩ from mwF_map os T 6 ⟨#[69]⟩ (by simp [kix, ByteArray.toList_eq]) at_ n, HRE.out, List.length_map] at hM
      refine hM.mono ?_
      rintro e w9 ⟨rfl, h9⟩
      unfold mvV
      simp only []
      have HR9 := Aside0.mk (blk_below HR8.out h9)
      have HI9 := Aside0.mk (HI8.out.step h9)
      clear h9 hM hr8 hx0 hx1 hx3 HR8 HI8
      go_upto_region 14 with (fail)
      have hra := blk_alloc HR9.out (Obj.cells #[.int .i64 r0, .int .i64 r1, .int .i64 r2] 27)
      have hrb := blk_new w9 (Obj.cells #[.int .i64 r0, .int .i64 r1, .int .i64 r2] 27)
      have hB9 := HI9.out.B.alloc HI9.out.B.size (Obj.cells #[.int .i64 r0, .int .i64 r1, .int .i64 r2] 27)
      generalize w9.alloc (Obj.cells #[.int .i64 r0, .int .i64 r1, .int .i64 r2] 27) = wa at hra hrb hB9 ⊢
      have HB9 := Aside0.mk hB9
      have hp0 := blk_cell hra 0
      have hp1 := blk_cell hra 1
      have hp2 := blk_cell hra 2
      have hq0 := blk_cell hrb 0
      have hq1 := blk_cell hrb 1
      have hq2 := blk_cell hrb 2
      simp only [List.getElem?_toArray, List.getElem?_cons_zero, List.getElem?_cons_succ] at hp0 hp1 hp2 hq0 hq1 hq2
      clear hra hrb hB9
      go_wp2_with fail
      go_ret
      exact ⟨by simp, HB9.out⟩
set_option maxHeartbeats 2000000 in
set_option maxRecDepth 100000 in
theorem kinds7 (A : Option Addr) (c : Nat) (T : List Int) (at_ m n : Int) (key : ByteArray) (os : List Int) (hos : os.length = 256) (hob : ∀ x ∈ os, 0 ≤ x ∧ x ≤ 255) (hTb : ∀ x ∈ T, 0 ≤ x ∧ x ≤ 255) (w : World) (hr : Kd.C (Kd.int .u8) w A T.length T) (hc : T.length ≤ c) (hl : T.length ≤ 1048576) (hk : quoinlaw08_keys.f key = some ⟨#[103, 69]⟩) :
    Calls Try.prog 7 #[.agg #[.slice A T.length c, .int .i64 at_, .int .i64 m, .int .i64 n, .string key], .agg (nums .u8 os).toArray] w fun e w' => e = .returned (.bool true) ∧ Below w.heap.size w w' := by
  have HR := Aside0.mk hr
  have HC := Aside0.mk hc
  have HL := Aside0.mk hl
  have HK := Aside0.mk hk
  have HOS := Aside0.mk hos
  have HOB := Aside0.mk hob
  have HTB := Aside0.mk hTb
  clear hr hc hl hk hos hob hTb
  go_enter Try.func7, Try.ntmps7
  go_upto_region 1 with (fail)
  have hA : ((w.alloc (Obj.cells #[Value.slice A T.length c, Value.int .i64 at_, Value.int .i64 m, Value.int .i64 n, Value.string key] 35)).alloc (Obj.cells (nums .u8 os).toArray 42)).heap[w.heap.size]? = some _ := blk_alloc (blk_new w (Obj.cells #[Value.slice A T.length c, Value.int .i64 at_, Value.int .i64 m, Value.int .i64 n, Value.string key] 35)) _
  have hb : ((w.alloc (Obj.cells #[Value.slice A T.length c, Value.int .i64 at_, Value.int .i64 m, Value.int .i64 n, Value.string key] 35)).alloc (Obj.cells (nums .u8 os).toArray 42)).heap[w.heap.size + 1]? = some _ := heap_alloc2_new w (Obj.cells #[Value.slice A T.length c, Value.int .i64 at_, Value.int .i64 m, Value.int .i64 n, Value.string key] 35) (Obj.cells (nums .u8 os).toArray 42)
  have hB := ((Below.refl w.heap.size w).alloc (Nat.le_refl _) (Obj.cells #[Value.slice A T.length c, Value.int .i64 at_, Value.int .i64 m, Value.int .i64 n, Value.string key] 35)).alloc (by simp) (Obj.cells (nums .u8 os).toArray 42)
  generalize (w.alloc (Obj.cells #[Value.slice A T.length c, Value.int .i64 at_, Value.int .i64 m, Value.int .i64 n, Value.string key] 35)).alloc (Obj.cells (nums .u8 os).toArray 42) = W at hA hb hB ⊢
  have H0a := Aside0.mk hA
  have H0b := Aside0.mk hb
  have H0B := Aside0.mk hB
  clear hA hb hB
  go_wp2_with fail
  refine (alive_calls W).mono ?_
  rintro e w1 ⟨rfl, h1⟩
  have H1a := Aside0.mk (blk_below H0a.out h1)
  have H1b := Aside0.mk (blk_below H0b.out h1)
  have H1B := Aside0.mk (below_step H0B.out h1)
  clear h1 H0a H0b H0B
  have hx0 := blk_cell H1a.out 0
  have hx1 := blk_cell H1a.out 1
  have hx2 := blk_cell H1a.out 2
  have hx3 := blk_cell H1a.out 3
  have hx4 := blk_cell H1a.out 4
  simp only [List.getElem?_toArray, List.getElem?_cons_zero, List.getElem?_cons_succ] at hx0 hx1 hx2 hx3 hx4
  go_wp2_with fail
  refine (quoinlaw08_keys.calls key ⟨#[103, 69]⟩ _ HK.out).mono ?_
  rintro e w2 ⟨rfl, h2⟩
  have h2 := h2.below
  have H2a := Aside0.mk (blk_below H1a.out h2)
  have H2b := Aside0.mk (blk_below H1b.out h2)
  have H2B := Aside0.mk (below_step H1B.out h2)
  clear h2 H1a H1b H1B
  clear hx0 hx1 hx2 hx3 hx4
  have hx0 := blk_cell H2a.out 0
  have hx1 := blk_cell H2a.out 1
  have hx2 := blk_cell H2a.out 2
  have hx3 := blk_cell H2a.out 3
  have hx4 := blk_cell H2a.out 4
  simp only [List.getElem?_toArray, List.getElem?_cons_zero, List.getElem?_cons_succ] at hx0 hx1 hx2 hx3 hx4
  have hy0 : (w2.alloc (Obj.cells #[] 5)).cell? ⟨w.heap.size, 0, none⟩ = some (.slice A T.length c) := by rw [blk_cell (blk_alloc H2a.out _)]; rfl
  have HE := Aside0.mk (empty_R w2 w.heap.size (H2B.out.size) (by have := blk_lt H2b.out; omega))
  go_wp2_with (first | ((with_reducible refine gate_builtin (b := .append) (xs := #[.tmp 33, .tmp 35]) rfl ?_); at_builtin; refine Kd.R_append_rows (Kd.int .u8) (w0 := w) w.heap.size rfl (.tmp 33) (.tmp 35) 22 5 (.int .u8 0) 1 rfl Try.underlying22 info5 rfl (by decide) (by omega) (Value.slice (some ⟨w2.heap.size, 0, none⟩) 0 0) [] T A T.length c (fun k => w.heap.size + 2 ≤ k) (fun _ => False) rfl rfl ?aO ?aR (fun _ _ h => h) (fun _ h => h.elim) ?aF ?aB ?aS ?aL ?_; (case aO => exact HE.out); (case aR => exact Kd.C_below HR.out (H2B.out.alloc H2B.out.size _)); (case aF => intro k hk; have := blk_lt H2b.out; simp at hk; omega); (case aB => exact H2B.out.alloc H2B.out.size _); (case aS => have := H2B.out.size; simp; omega); (case aL => have := HL.out; simp; omega)))
  intro v3 w3 ho hb hg hat
  have hne : ∀ g, g ≠ w2.heap.size → some g ≠ (Value.slice (some ⟨w2.heap.size, 0, none⟩) 0 0).ownBlock := fun g h e => by simp [Value.ownBlock] at e; exact h e
  have ha3 := blk_grown (blk_alloc H2a.out (Obj.cells #[] 5)) hg (hne _ (by have := blk_lt H2b.out; omega))
  have hb3 := blk_grown (blk_alloc H2b.out (Obj.cells #[] 5)) hg (hne _ (by have := blk_lt H2b.out; omega))
  obtain ⟨A7, c7, e7⟩ := Kd.R_slice ho
  subst e7
  have HI0 := Aside0.mk (show KI w A c T at_ m n key os true A7 c7 w3 0 from ⟨ha3, hb3, hb, by rw [swapped_zero]; exact ho⟩)
  clear ho hb hg hat hne ha3 hb3 HE hy0 H2a H2b H2B hx0 hx1 hx2 hx3 hx4
  go_wp2_with fail
  go_loopw [8] (fun v8 W => ∃ i : Nat, i ≤ T.length ∧ v8 = .int .i64 i ∧ Aside0 (KI w A c T at_ m n key os true A7 c7 W i)) (fun v8 _ => T.length - (intOf v8).toNat)
  case atStart => exact ⟨0, by omega, rfl, HI0⟩
  case round =>
    clear HI0
    obtain ⟨i, hi, rfl, HI⟩ := hrel
    by_cases hlt : i < T.length
    · have hlt1 : ((i : Int) < (T.length : Int)) = True := eq_true (by omega)
      have hlt2 : decide ((i : Int) < (T.length : Int)) = true := decide_eq_true (by omega)
      have hw1 : IntKind.i64.wrap ((i : Int) + 1) = (i : Int) + 1 := by have := HL.out; rw [i64_w, w64] <;> omega
      obtain ⟨g, rfl, hg, hcx, hfx⟩ := HI.out.at_ hlt
      have hx := HTB.out _ (rd_mem T i hlt)
      have hox := HI.out.other HOS.out _ hx.1 hx.2
      have HG := Aside0.mk hg
      clear hg
      generalize hxe : rd T (i : Int) = x at hcx hx hox
      have hoc := rd os x
      clear hoc
      have hp1 : (0 ≤ x) = True := eq_true hx.1
      have hp2 : (x < 256) = True := eq_true (by omega)
      have hp3 : (x < 0) = False := eq_false (by omega)
      generalize hye : rd os x = y at hox
      have HXE := Aside0.mk hxe
      have HYE := Aside0.mk hye
      clear hx hxe hye
      go_upto_region 10 with (fail)
      refine start_ (n := 10) (S := fun w' => w'.cell? ⟨g, i, none⟩ = some (.int .u8 x) ∧ KI w A c T at_ m n key os true (some ⟨g, 0, none⟩) c7 w' i) (ds := []) #[false, false, false, false, false, false, false, false, false, false] (by kernel_rfl) rfl rfl ⟨hcx, HI.out.step (below_drew (Below.refl _ _))⟩ (fun hHeld => ?_)
      refine pure_ (i := 0) (N := some 49) (v := ?_) (a' := ?_) #[true, false, false, false, false, false, false, false, false, false] rfl rfl (by kernel_rfl) (fun _ _ _ h => h) (Or.inl ⟨by rfl, ?_⟩) ?_ ?_
      rotate_left
      · intro w'
        go_simp
        with_reducible rfl
      rotate_left
      · simp only [Act.put, List.setIfInBounds_toArray, List.set_cons_zero, List.set_cons_succ, i64_w, i32_w]
        rfl
      refine pure_ (i := 1) (N := some 50) (v := ?_) (a' := ?_) #[true, true, false, false, false, false, false, false, false, false] rfl rfl (by kernel_rfl) (fun _ _ _ h => h) (Or.inl ⟨by rfl, ?_⟩) ?_ ?_
      rotate_left
      · intro w'
        go_simp
        with_reducible rfl
      rotate_left
      · simp only [Act.put, List.setIfInBounds_toArray, List.set_cons_zero, List.set_cons_succ, i64_w, i32_w]
        rfl
      refine pure_ (i := 3) (N := some 52) (v := ?_) (a' := ?_) #[true, true, false, true, false, false, false, false, false, false] rfl rfl (by kernel_rfl) (fun _ _ _ h => h) (Or.inl ⟨by rfl, ?_⟩) ?_ ?_
      rotate_left
      · intro w'
        go_simp
        with_reducible rfl
      rotate_left
      · simp only [Act.put, List.setIfInBounds_toArray, List.set_cons_zero, List.set_cons_succ, i64_w, i32_w]
        rfl
      refine pure_ (i := 4) (N := some 53) (v := ?_) (a' := ?_) #[true, true, false, true, true, false, false, false, false, false] rfl rfl (by kernel_rfl) (fun _ _ _ h => h) (Or.inl ⟨by rfl, ?_⟩) ?_ ?_
      rotate_left
      · intro w'
        go_simp
        with_reducible rfl
      rotate_left
      · simp only [Act.put, List.setIfInBounds_toArray, List.set_cons_zero, List.set_cons_succ, i64_w, i32_w]
        rfl
      refine pure_ (i := 5) (N := some 54) (v := ?_) (a' := ?_) #[true, true, false, true, true, true, false, false, false, false] rfl rfl (by kernel_rfl) (fun _ _ _ h => h) (Or.inl ⟨by rfl, ?_⟩) ?_ ?_
      rotate_left
      · intro w'
        go_simp
        with_reducible rfl
      rotate_left
      · simp only [Act.put, List.setIfInBounds_toArray, List.set_cons_zero, List.set_cons_succ, i64_w, i32_w]
        rfl
      refine take_ (i := 6) (N := some 55) (v := ?_) (a' := ?_) #[true, true, false, true, true, true, true, false, false, false] rfl rfl (by kernel_rfl) (fun _ _ _ h => h) (Or.inl ⟨by rfl, ?_⟩) hHeld ?_ ?_
      rotate_left
      · rintro w' ⟨s0, s1⟩
        go_simp
        with_reducible rfl
      rotate_left
      · simp only [Act.put, List.setIfInBounds_toArray, List.set_cons_zero, List.set_cons_succ, i64_w, i32_w]
        rfl
      refine pure_ (i := 7) (N := some 56) (v := ?_) (a' := ?_) #[true, true, false, true, true, true, true, true, false, false] rfl rfl (by kernel_rfl) (fun _ _ _ h => h) (Or.inl ⟨by rfl, ?_⟩) ?_ ?_
      rotate_left
      · intro w'
        go_simp
        with_reducible rfl
      rotate_left
      · simp only [Act.put, List.setIfInBounds_toArray, List.set_cons_zero, List.set_cons_succ, i64_w, i32_w]
        rfl
      refine one_ (i := 2) (N := some 51) #[true, true, true, true, true, true, true, true, false, false] rfl rfl (by kernel_rfl) (by decide) (fun K hK => ?_)
      refine goes_ Try.func15 (by kernel_rfl) rfl #[.int .u8 y, .bool true] (by rfl) rfl rfl (by simp [Act.eval]) ?_
      refine (PWb.class_Of.calls 1 y true (cls y true) _ (of_b 0 y true)).mono ?_
      rintro e w5 ⟨rfl, ⟨nd, rfl⟩⟩
      refine ⟨_, rfl, ?_⟩
      refine hK.out _ _ ⟨hHeld.1, hHeld.2.step (pw_below_drewN (Below.refl _ _) nd)⟩ (fun hHeld => ?_)
      clear hK K
      refine norm_ (a' := ?_) ?_ ?_
      rotate_left
      · show Act.put _ (some 51) _ = _
        simp only [Act.put, List.setIfInBounds_toArray, List.set_cons_zero, List.set_cons_succ, i64_w, i32_w]
        rfl
      refine one_ (i := 8) (N := some 57) #[true, true, true, true, true, true, true, true, true, false] rfl rfl (by kernel_rfl) (by decide) (fun K hK => ?_)
      refine goes_ Try.func15 (by kernel_rfl) rfl #[.int .u8 x, .bool true] (by rfl) rfl rfl (by simp [Act.eval]) ?_
      refine (PWb.class_Of.calls 1 x true (cls x true) _ (of_b 0 x true)).mono ?_
      rintro e w5 ⟨rfl, ⟨nd, rfl⟩⟩
      refine ⟨_, rfl, ?_⟩
      refine hK.out _ _ ⟨hHeld.1, hHeld.2.step (pw_below_drewN (Below.refl _ _) nd)⟩ (fun hHeld => ?_)
      clear hK K
      refine norm_ (a' := ?_) ?_ ?_
      rotate_left
      · show Act.put _ (some 57) _ = _
        simp only [Act.put, List.setIfInBounds_toArray, List.set_cons_zero, List.set_cons_succ, i64_w, i32_w]
        rfl
      refine pure_ (i := 9) (N := some 58) (v := ?_) (a' := ?_) #[true, true, true, true, true, true, true, true, true, true] rfl rfl (by kernel_rfl) (fun _ _ _ h => h) (Or.inl ⟨by rfl, ?_⟩) ?_ ?_
      rotate_left
      · intro w'
        go_simp
        with_reducible rfl
      rotate_left
      · simp only [Act.put, List.setIfInBounds_toArray, List.set_cons_zero, List.set_cons_succ, i64_w, i32_w]
        rfl
      refine done_ (by kernel_rfl) ?_
      generalize World.drewN _ _ = w6 at hHeld ⊢
      obtain ⟨hcx6, hI6⟩ := hHeld
      have HI6 := Aside0.mk hI6
      clear hI6 hcx hfx hox HI
      have hf6 : w6.frozen? ⟨g, i, none⟩ = false := by
        obtain ⟨g', hg', _, _, h⟩ := HI6.out.at_ hlt
        cases hg'
        exact h
      by_cases he : cls y true = cls x true
      · have heb : (cls y true == cls x true) = true := beq_iff_eq.mpr he
        have hsw : swapK os true (rd T (i : Int)) = y := by unfold swapK; rw [HXE.out, HYE.out, if_pos he]
        have HP := Aside0.mk (HI6.out.put hlt HG.out y hsw)
        clear he hsw
        go_wp2
        go_roundw
        case measure => simp [intOf]; omega
        case rel => exact ⟨i + 1, by omega, by go_num, HP⟩
      · have heb : (cls y true == cls x true) = false := beq_eq_false_iff_ne.mpr he
        have hsw : swapK os true (rd T (i : Int)) = rd T (i : Int) := by unfold swapK; rw [HXE.out, HYE.out, if_neg he]
        have HP := Aside0.mk (HI6.out.same hlt hsw)
        clear he hsw
        go_wp2
        go_roundw
        case measure => simp [intOf]; omega
        case rel => exact ⟨i + 1, by omega, by go_num, HP⟩
    · have hlt1 : ((i : Int) < (T.length : Int)) = False := eq_false (by omega)
      have hlt2 : decide ((i : Int) < (T.length : Int)) = false := decide_eq_false (by omega)
      obtain rfl : i = T.length := by omega
      have hx0 := blk_cell HI.out.a 0
      have hx1 := blk_cell HI.out.a 1
      have hx3 := blk_cell HI.out.a 3
      simp only [List.getElem?_toArray, List.getElem?_cons_zero, List.getElem?_cons_succ] at hx0 hx1 hx3
      go_wp2_with fail
      refine (Move_calls A c T at_ n ⟨#[103, 69]⟩ wr (Kd.C_below HR.out HI.out.B) HL.out).mono ?_
      rintro e w7 ⟨rfl, h7⟩
      generalize hre : mwF T at_ n ⟨#[103, 69]⟩ = r
      obtain ⟨r0, r1, r2, r3⟩ := r
      unfold mvV
      simp only []
      have HRE := Aside0.mk hre
      have HI7 := Aside0.mk (HI.out.step h7)
      clear h7 HI hre hx0 hx1 hx3
      go_upto_region 13 with (fail)
      have hR8 := blk_new w7 (Obj.cells #[.int .i64 r0, .int .i64 r1, .int .i64 r2] 27)
      have hI8 := HI7.out.step ((Below.refl _ _).alloc (Nat.le_refl _) (Obj.cells #[.int .i64 r0, .int .i64 r1, .int .i64 r2] 27))
      generalize w7.alloc (Obj.cells #[.int .i64 r0, .int .i64 r1, .int .i64 r2] 27) = w8 at hR8 hI8 ⊢
      have HR8 := Aside0.mk hR8
      have HI8 := Aside0.mk hI8
      clear hR8 hI8 HI7
      have hx0 := blk_cell HI8.out.a 0
      have hx1 := blk_cell HI8.out.a 1
      have hx3 := blk_cell HI8.out.a 3
      simp only [List.getElem?_toArray, List.getElem?_cons_zero, List.getElem?_cons_succ] at hx0 hx1 hx3
      go_wp2_with fail
      have hr8 := HI8.out.r
      rw [swapped_all] at hr8
      have hM := Move_calls A7 c7 (T.map (swapK os true)) at_ n ⟨#[103, 69]⟩ w8 (Kd.R_reads' hr8).2.2 (by rw [List.length_map]; exact HL.out)
      rw [show mwF (T.map (swapK os true)) at_ n ⟨#[103, 69]⟩ = mwF T at_ n ⟨#[103, 69]⟩ from mwF_map os T 7 ⟨#[103, 69]⟩ (by simp [kix, ByteArray.toList_eq]) at_ n, HRE.out, List.length_map] at hM
      refine hM.mono ?_
      rintro e w9 ⟨rfl, h9⟩
      unfold mvV
      simp only []
      have HR9 := Aside0.mk (blk_below HR8.out h9)
      have HI9 := Aside0.mk (HI8.out.step h9)
      clear h9 hM hr8 hx0 hx1 hx3 HR8 HI8
      go_upto_region 14 with (fail)
      have hra := blk_alloc HR9.out (Obj.cells #[.int .i64 r0, .int .i64 r1, .int .i64 r2] 27)
      have hrb := blk_new w9 (Obj.cells #[.int .i64 r0, .int .i64 r1, .int .i64 r2] 27)
      have hB9 := HI9.out.B.alloc HI9.out.B.size (Obj.cells #[.int .i64 r0, .int .i64 r1, .int .i64 r2] 27)
      generalize w9.alloc (Obj.cells #[.int .i64 r0, .int .i64 r1, .int .i64 r2] 27) = wa at hra hrb hB9 ⊢
      have HB9 := Aside0.mk hB9
      have hp0 := blk_cell hra 0
      have hp1 := blk_cell hra 1
      have hp2 := blk_cell hra 2
      have hq0 := blk_cell hrb 0
      have hq1 := blk_cell hrb 1
      have hq2 := blk_cell hrb 2
      simp only [List.getElem?_toArray, List.getElem?_cons_zero, List.getElem?_cons_succ] at hp0 hp1 hp2 hq0 hq1 hq2
      clear hra hrb hB9
      go_wp2_with fail
      go_ret
      exact ⟨by simp, HB9.out⟩
theorem kinds_row (A : Option Addr) (c : Nat) (T : List Int) (at_ m n : Int) (key : ByteArray) (os : List Int) (w : World) (hr : Kd.C (Kd.int .u8) w A T.length T) (hc : T.length ≤ c) {R : Prop} (g0 : (∀ x ∈ T, (Lit.int .u8 x).wf = true) ∧ R) (g1 : os.length = 256 ∧ ∀ x ∈ os, (Lit.int .u8 x).wf = true) (hl : T.length ≤ 1048576) :
    Calls Try.prog 7 #[.agg #[.slice A T.length c, .int .i64 at_, .int .i64 m, .int .i64 n, .string key], .agg (nums .u8 os).toArray] w fun e w' => e = .returned (.bool true) ∧ Below w.heap.size w w' := by
  have hos := g1.1
  have hwf : ∀ x : Int, (Lit.int .u8 x).wf = true → 0 ≤ x ∧ x ≤ 255 := fun x h => by
    simp only [Lit.wf, Bool.and_eq_true, decide_eq_true_eq] at h
    have e1 : IntKind.u8.min = 0 := by decide
    have e2 : IntKind.u8.max = 255 := by decide
    omega
  have h1 : ∀ x ∈ os, 0 ≤ x ∧ x ≤ 255 := fun x hx => hwf x (g1.2 x hx)
  have h2 : ∀ x ∈ T, 0 ≤ x ∧ x ≤ 255 := fun x hx => hwf x (g0.1 x hx)
  by_cases k0 : key.toList = ([119] : List UInt8)
  · exact kinds0 A c T at_ m n key os hos h1 h2 w hr hc hl (by unfold quoinlaw08_keys.f; rw [if_pos k0]; rw [eq_of_toList k0])
  by_cases k1 : key.toList = ([98] : List UInt8)
  · exact kinds1 A c T at_ m n key os hos h1 h2 w hr hc hl (by unfold quoinlaw08_keys.f; rw [if_neg k0, if_pos k1]; rw [eq_of_toList k1])
  by_cases k2 : key.toList = ([101] : List UInt8)
  · exact kinds2 A c T at_ m n key os hos h1 h2 w hr hc hl (by unfold quoinlaw08_keys.f; rw [if_neg k0, if_neg k1, if_pos k2]; rw [eq_of_toList k2])
  by_cases k3 : key.toList = ([103, 101] : List UInt8)
  · exact kinds3 A c T at_ m n key os hos h1 h2 w hr hc hl (by unfold quoinlaw08_keys.f; rw [if_neg k0, if_neg k1, if_neg k2, if_pos k3]; rw [eq_of_toList k3])
  by_cases k4 : key.toList = ([87] : List UInt8)
  · exact kinds4 A c T at_ m n key os hos h1 h2 w hr hc hl (by unfold quoinlaw08_keys.f; rw [if_neg k0, if_neg k1, if_neg k2, if_neg k3, if_pos k4]; rw [eq_of_toList k4])
  by_cases k5 : key.toList = ([66] : List UInt8)
  · exact kinds5 A c T at_ m n key os hos h1 h2 w hr hc hl (by unfold quoinlaw08_keys.f; rw [if_neg k0, if_neg k1, if_neg k2, if_neg k3, if_neg k4, if_pos k5]; rw [eq_of_toList k5])
  by_cases k6 : key.toList = ([69] : List UInt8)
  · exact kinds6 A c T at_ m n key os hos h1 h2 w hr hc hl (by unfold quoinlaw08_keys.f; rw [if_neg k0, if_neg k1, if_neg k2, if_neg k3, if_neg k4, if_neg k5, if_pos k6]; rw [eq_of_toList k6])
  by_cases k7 : key.toList = ([103, 69] : List UInt8)
  · exact kinds7 A c T at_ m n key os hos h1 h2 w hr hc hl (by unfold quoinlaw08_keys.f; rw [if_neg k0, if_neg k1, if_neg k2, if_neg k3, if_neg k4, if_neg k5, if_neg k6, if_pos k7]; rw [eq_of_toList k7])
  exact kinds0 A c T at_ m n key os hos h1 h2 w hr hc hl (by unfold quoinlaw08_keys.f; rw [if_neg k0, if_neg k1, if_neg k2, if_neg k3, if_neg k4, if_neg k5, if_neg k6, if_neg k7])
end Go.Proofs.Ytghoeadmimgfnaa.Hand
