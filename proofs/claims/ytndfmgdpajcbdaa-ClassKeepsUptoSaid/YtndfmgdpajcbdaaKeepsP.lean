/- ClassKeeps: what is known of the memory, step by step. No law, no condition. -/
import Derived.Test.YtndfmgdpajcbdaaPClx4
import Derived.Test.YtndfmgdpajcbdaaClPure
import Derived.Test.YtndfmgdpajcbdaaAgg
import Derived.Outline
namespace Go.Proofs.Ytndfmgdpajcbdaa.Hand
open Go.RowKit Go.Proofs.Ytndfmgdpajcbdaa.PCl Go.Proofs.Ytndfmgdpajcbdaa.Pure Go.Proofs.Ytndfmgdpajcbdaa.Aggs Go.Proofs.YtndfmgdpajcbdaaW.PrintWords Go.Proofs.YtndfmgdpajcbdaaW.PrintLast Go.Proofs.YtndfmgdpajcbdaaW.PrintMore
set_option linter.unusedVariables false
set_option linter.unusedSimpArgs false
theorem info5k : (Try.prog.info? 5).map (fun i => (i.zero, i.size, i.bytes)) = some (some (.int .u8 0), 1, 1) := by kernel_rfl
theorem info3k : (Try.prog.info? 3).map (fun i => (i.zero, i.size, i.bytes)) = some (some (.int .i64 0), 1, 8) := by kernel_rfl
/-- a slice made empty -/
theorem empty_row (k : IntKind) (e : Nat) (w : World) : Kd.R (Kd.int k) e (w.alloc (Obj.cells #[] e)) w.heap.size (fun _ => True) (.slice (some ⟨w.heap.size, 0, none⟩) 0 0) ([] : List Int) :=
  ⟨fun k hk => trivial, [], World.ownsRow_made w #[] 0 (Nat.le_refl _) (by simp [maxLen]) rfl, Reps.none _ _⟩
theorem R_free {k : IntKind} {e base : Nat} {W : World} {ok ok' : Nat → Prop} {v : Value} {l : List Int} (h : Kd.R (Kd.int k) e W base ok v l) (hn : ∀ j, v.ownBlock = some j → ok' j) : Kd.R (Kd.int k) e W base ok' v l := ⟨hn, h.2⟩
structure KK (w W : World) (v5 v6 v7 v8 : Value) (l5 l6 l7 l8 : List Int) : Prop where
  B : Below w.heap.size w W
  r5 : Kd.R (Kd.int .u8) 5 W w.heap.size (fun _ => True) v5 l5
  r6 : Kd.R (Kd.int .i64) 3 W w.heap.size (fun _ => True) v6 l6
  r7 : Kd.R (Kd.int .i64) 3 W w.heap.size (fun k => True ∧ some k ≠ v6.ownBlock) v7 l7
  r8 : Kd.R (Kd.int .i64) 3 W w.heap.size (fun k => True ∧ some k ≠ v6.ownBlock) v8 l8
section
variable {w W W1 : World} {v5 v6 v7 v8 v : Value} {l5 l6 l7 l8 l : List Int} {g c : Nat}
theorem KK.step (h : KK w W v5 v6 v7 v8 l5 l6 l7 l8) (hb : Below W.heap.size W W1) : KK w W1 v5 v6 v7 v8 l5 l6 l7 l8 :=
  ⟨below_step h.B hb, Kd.R_below h.r5 hb, Kd.R_below h.r6 hb, Kd.R_below h.r7 hb, Kd.R_below h.r8 hb⟩
theorem KK.sz (h : KK w W v5 v6 v7 v8 l5 l6 l7 l8) : w.heap.size ≤ W.heap.size := h.B.size
/-- the first list's own block is no block of bytes -/
theorem KK.ne (h : KK w W v5 v6 v7 v8 l5 l6 l7 l8) : ∀ j, v6.ownBlock = some j → some j ≠ v5.ownBlock := fun j hj => by
  obtain ⟨inner, ho⟩ := Kd.R_own h.r6
  obtain ⟨cells, hc⟩ := own_typed ho j hj
  exact Kd.R_ne h.r5 hc (by decide)
theorem ints_ne {v u : Value} {l m : List Int} {ok ok' : Nat → Prop} {b b' : Nat} (h : Kd.R (Kd.int .i64) 3 W b ok v l) (h5 : Kd.R (Kd.int .u8) 5 W b' ok' u m) : ∀ j, u.ownBlock = some j → some j ≠ v.ownBlock := fun j hj => by
  obtain ⟨inner, ho⟩ := Kd.R_own h5
  obtain ⟨cells, hc⟩ := own_typed ho j hj
  exact Kd.R_ne h hc (by decide)
theorem KK.put6 (h : KK w W v5 (.slice (some ⟨g, 0, none⟩) l6.length c) v7 v8 l5 l6 l7 l8) (i : Nat) (x : Int) : KK w (W.setCell ⟨g, i, none⟩ (.int .i64 x)) v5 (.slice (some ⟨g, 0, none⟩) l6.length c) v7 v8 l5 (l6.set i x) l7 l8 := by
  have hp := (Kd.R_put (enc := Value.int .i64) (h1 := fun _ => rfl) h.r6 (i : Int) x).1
  rw [Int.toNat_natCast] at hp
  have hb := Kd.R_base h.r6 g (by simp [Value.ownBlock])
  refine ⟨h.B.setCell (p := ⟨g, i, none⟩) hb _, ?_, hp, ?_, ?_⟩
  · refine R_free (Kd.R_far (ok := fun k => k ≠ g) (R_free h.r5 fun j hj e => ?_) (fun _ hk => hk) _) (fun _ _ => trivial)
    subst e
    exact h.ne j (by simp [Value.ownBlock]) hj.symm
  · exact Kd.R_far h.r7 (fun k hk e => hk.2 (by simp [Value.ownBlock]; exact e)) _
  · exact Kd.R_far h.r8 (fun k hk e => hk.2 (by simp [Value.ownBlock]; exact e)) _
theorem KK.app6 (h : KK w W v5 v6 v7 v8 l5 l6 l7 l8) (ho : Kd.R (Kd.int .i64) 3 W1 w.heap.size (fun _ => True) v l) (hB : Below w.heap.size w W1) (hg : W.grownBy W1 v6.ownBlock) (hat : v.ownBlock = v6.ownBlock ∨ ∃ b, v.ownBlock = some b ∧ W.heap.size ≤ b) :
    KK w W1 v5 v v7 v8 l5 l l7 l8 :=
  ⟨hB, Kd.R_over h.r5 h.r6 (by intro q hq; rcases List.mem_cons.1 hq with rfl | hq; decide; cases hq) hg, ho, Kd.R_after h.r7 hg hat, Kd.R_after h.r8 hg hat⟩
theorem KK.put5 (h : KK w W (.slice (some ⟨g, 0, none⟩) l5.length c) v6 v7 v8 l5 l6 l7 l8) (i : Nat) (x : Int) : KK w (W.setCell ⟨g, i, none⟩ (.int .u8 x)) (.slice (some ⟨g, 0, none⟩) l5.length c) v6 v7 v8 (l5.set i x) l6 l7 l8 := by
  have hp := (Kd.R_put (enc := Value.int .u8) (h1 := fun _ => rfl) h.r5 (i : Int) x).1
  rw [Int.toNat_natCast] at hp
  have hb := Kd.R_base h.r5 g (by simp [Value.ownBlock])
  have far : ∀ {v : Value} {l : List Int} {ok : Nat → Prop}, Kd.R (Kd.int .i64) 3 W w.heap.size ok v l → Kd.R (Kd.int .i64) 3 (W.setCell ⟨g, i, none⟩ (.int .u8 x)) w.heap.size ok v l := fun {v l ok} hv => by
    refine R_free (Kd.R_far (ok := fun k => k ≠ g) (R_free hv fun j hj e => ?_) (fun _ hk => hk) _) hv.1
    subst e
    exact ints_ne hv h.r5 j (by simp [Value.ownBlock]) hj.symm
  exact ⟨h.B.setCell (p := ⟨g, i, none⟩) hb _, hp, far h.r6, far h.r7, far h.r8⟩
/-- the last list is made -/
theorem KK.made8 (h : KK w W v5 v6 v7 v8 l5 l6 l7 l8) (ho : Kd.R (Kd.int .i64) 3 W1 W.heap.size (fun _ => True) v l) (hb : Below W.heap.size W W1) : KK w W1 v5 v6 v7 v l5 l6 l7 l := by
  have h1 := h.step hb
  refine ⟨h1.B, h1.r5, h1.r6, h1.r7, Kd.R_lower ?_ h.sz⟩
  refine R_free ho fun j hj => ⟨trivial, fun e => ?_⟩
  have h2 := Kd.R_base ho j hj
  have h3 := Kd.R_lt h.r6 j e.symm
  omega
end
theorem two_reads {W : World} {g : Nat} {x y : Int} (h : W.heap[g]? = some (.cells #[.int .u8 x, .int .u8 y] 5 (0, 0))) : ReadsRow ((Kd.int .u8).K W) 1 W (some ⟨g, 0, none⟩) 2 [x, y] := by
  refine ⟨rfl, by omega, fun _ => ⟨_, rfl, fun j p hj => ?_⟩⟩
  refine ⟨[.int .u8 p], rfl, rfl, fun i u hi => ?_⟩
  match i, hi with
  | 0, hi =>
    simp only [List.getElem?_cons_zero, Option.some.injEq] at hi
    subst hi
    rw [add_plain', blk_cell h]
    match j, hj with
    | 0, hj => simp only [List.getElem?_cons_zero, Option.some.injEq] at hj; subst hj; rfl
    | 1, hj => simp only [List.getElem?_cons_zero, List.getElem?_cons_succ, Option.some.injEq] at hj; subst hj; rfl
    | j + 2, hj => simp at hj
  | i + 1, hi => simp at hi
/-- the text's part of the room -/
theorem room_C {W : World} {g c b : Nat} {T : List Int} {ok : Nat → Prop} (h : Kd.R (Kd.int .u8) 5 W b ok (.slice (some ⟨g, 0, none⟩) (T ++ [200, 201]).length c) (T ++ [200, 201])) : Kd.C (Kd.int .u8) W (some ⟨g, 0, none⟩) T.length T := by
  have h1 := Kd.C_take (Kd.R_reads' h).2.2 (m := T.length) (by simp)
  have e : (T ++ ([200, 201] : List Int)).take T.length = T := by simp
  rw [e] at h1
  exact h1
theorem ks_start {w W1 W2 W3 : World} {v5 va vb : Value} {l5 l : List Int} (hB : Below w.heap.size w W1) (h5 : Kd.R (Kd.int .u8) 5 W1 w.heap.size (fun _ => True) v5 l5) (ha : Kd.R (Kd.int .i64) 3 W2 W1.heap.size (fun _ => True) va l) (hb1 : Below W1.heap.size W1 W2)
    (hb : Kd.R (Kd.int .i64) 3 W3 W2.heap.size (fun _ => True) vb l) (hb2 : Below W2.heap.size W2 W3) : KK w W3 v5 va vb (.slice none 0 0) l5 l l [] := by
  have hs := hB.size
  have hs1 := hb1.size
  refine ⟨below_step (below_step hB hb1) hb2, Kd.R_below (Kd.R_below h5 hb1) hb2, Kd.R_lower (Kd.R_below ha hb2) hs, Kd.R_lower ?_ (Nat.le_trans hs hs1), Kd.R_nil _ _ _ _ _⟩
  exact Kd.R_new' hb (Kd.R_lt ha)
theorem run_conv_op {o : Oper} {a : Act} {w : World} (src dst : TypeId) (x : Operand) (ho : o.op = .convert src dst x) (v r : Value) (hx : a.eval x = v) (hr : (convert src dst v).run Try.prog w = .ok r w) :
    (execOp a.eval o).run Try.prog w = .ok (.value r) w := by
  unfold execOp
  simp only [ho, hx, Sem.run_bind, Result.andThen_ok, hr, Sem.run_pure]
theorem room_at {W : World} {g c b : Nat} {T : List Int} {ok : Nat → Prop} (h : Kd.R (Kd.int .u8) 5 W b ok (.slice (some ⟨g, 0, none⟩) (T ++ [200, 201]).length c) (T ++ [200, 201])) (k : Nat) (hk : k < 2) : W.cell? ⟨g, T.length + k, none⟩ = some (.int .u8 (([200, 201] : List Int).getD k 0)) := by
  have hc := (Kd.R_cell (enc := Value.int .u8) (h1 := fun _ => rfl) (0 : Int) h ((T.length + k : Nat) : Int) (by omega) (by simp; omega)).1
  rw [Int.toNat_natCast] at hc
  rw [hc]
  unfold rdOf
  rw [Int.toNat_natCast]
  match k, hk with
  | 0, _ => simp
  | 1, _ => simp
section
variable {w W W1 : World} {v5 v6 v7 v8 v : Value} {l5 l6 l7 l8 l : List Int} {g c n : Nat} {A : Option Addr}
theorem KK.put6' (h : KK w W v5 (.slice (some ⟨g, 0, none⟩) n c) v7 v8 l5 l6 l7 l8) (hn : l6.length = n) (i : Nat) (x : Int) : KK w (W.setCell ⟨g, i, none⟩ (.int .i64 x)) v5 (.slice (some ⟨g, 0, none⟩) n c) v7 v8 l5 (l6.set i x) l7 l8 := by
  subst hn
  exact h.put6 i x
theorem KK.put5' (h : KK w W (.slice (some ⟨g, 0, none⟩) n c) v6 v7 v8 l5 l6 l7 l8) (hn : l5.length = n) (i : Nat) (x : Int) : KK w (W.setCell ⟨g, i, none⟩ (.int .u8 x)) (.slice (some ⟨g, 0, none⟩) n c) v6 v7 v8 (l5.set i x) l6 l7 l8 := by
  subst hn
  exact h.put5 i x
theorem KK.at6 (h : KK w W v5 (.slice A n c) v7 v8 l5 l6 l7 l8) (i : Nat) (hn : l6.length = n) (hi : i < n) : ∃ g, A = some ⟨g, 0, none⟩ ∧ W.cell? ⟨g, i, none⟩ = some (.int .i64 (rdOf 0 l6 (i : Int))) ∧ W.frozen? ⟨g, i, none⟩ = false := by
  subst hn
  obtain ⟨g, cap, e, _⟩ := Kd.R_form h.r6 (by omega)
  simp only [Value.slice.injEq] at e
  obtain ⟨rfl, -, rfl⟩ := e
  have hc := Kd.R_cell (enc := Value.int .i64) (h1 := fun _ => rfl) (0 : Int) h.r6 (i : Int) (by omega) (by omega)
  rw [Int.toNat_natCast] at hc
  exact ⟨g, rfl, hc.1, hc.2⟩
theorem KK.at5 (h : KK w W (.slice (some ⟨g, 0, none⟩) n c) v6 v7 v8 l5 l6 l7 l8) (i : Nat) (hn : l5.length = n) (hi : i < n) : W.cell? ⟨g, i, none⟩ = some (.int .u8 (rdOf 0 l5 (i : Int))) ∧ W.frozen? ⟨g, i, none⟩ = false := by
  subst hn
  have hc := Kd.R_cell (enc := Value.int .u8) (h1 := fun _ => rfl) (0 : Int) h.r5 (i : Int) (by omega) (by omega)
  rw [Int.toNat_natCast] at hc
  exact ⟨hc.1, hc.2⟩
end
end Go.Proofs.Ytndfmgdpajcbdaa.Hand
