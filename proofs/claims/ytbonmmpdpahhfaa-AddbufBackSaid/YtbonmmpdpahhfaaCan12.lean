/- The engine, twelfth part: all operations but calls in one. No law, no condition. -/
import Derived.Test.YtbonmmpdpahhfaaCan11
namespace Go.Proofs.Ytbonmmpdpahhfaa.Can
open Go.RowKit
set_option linter.unusedVariables false
set_option linter.unusedSimpArgs false
section
variable {P : Program} {N0 : Nat} {w0 : World} {ρ : Rho} {κ : Kap} {w : World} {ts : Tm} {a : Act} {o : Oper}
theorem lenV_nt {x : Value} {n : Nat} (h : lenV x = some n) : isTup x = false := by
  unfold lenV at h
  split at h <;> first | rfl | cases h
theorem isSlD_t {t : TypeId} {e : TypeId} (h : P.underlying t = some (.slice e)) : True := trivial
theorem growE_nw {e size m : Nat} {A : Option Addr} {l cp n : Nat} {news : List Value} {rd : List Nat} {d : Dl} (h : growE N0 κ e size m A l cp n news rd = some d) : d.nw ≠ none := by
  unfold growE at h
  split at h
  · cases hq : Nat.beq l 0 <;> rw [hq] at h
    · cases h
    · simp only [cond_true, Option.some.injEq] at h; subst h; simp
  · rename_i b of
    cases hr : rowOk N0 κ b e <;> rw [hr] at h
    · cases h
    · simp only [cond_true] at h
      split at h
      · cases hbN : Nat.blt b N0 <;> rw [hbN] at h
        · simp only [cond_false] at h
          split at h
          · simp only [Option.some.injEq] at h; subst h; simp
          · cases h
        · simp only [cond_true, Option.some.injEq] at h; subst h; simp
      · cases h
  · cases h
theorem mark_sim (R : RelK P N0 w0 ρ κ w) {b B O n X sz : Nat} {cs : Array Value} {e k : Nat} (hb : N0 ≤ b) (hk : κ b = some (.cells cs e (k, 0))) (h2 : ρ b = some (.live B O n X sz)) (of : Nat) :
    ∃ w', (markStringish ⟨B, of, none⟩).run P w = .ok () w' ∧ RelK P N0 w0 ρ (upd κ b (some (.cells cs e (k + 1, 0)))) w' ∧ (∀ B', B' ≠ B → w'.heap[B']? = w.heap[B']?) ∧ w'.heap.size = w.heap.size := by
  obtain ⟨q0, cs', e1, k1, C, e', lo, hi, q1, q2, q3, q4, q5, q6, q7⟩ := R.new b B O n X sz hb h2
  rw [hk] at q1
  simp only [Option.some.injEq, Obj.cells.injEq, Prod.mk.injEq] at q1
  obtain ⟨rfl, rfl, rfl, -⟩ := q1
  have hrun : (markStringish ⟨B, of, none⟩).run P w = .ok () (w.freeze ⟨B, C.size, none⟩ 1) := by
    have hs : w.shape? B = some (e', C.size) := by unfold World.shape?; rw [q4]
    unfold markStringish
    simp only [Sem.run_bind, run_shape, hs, Result.andThen_ok, run_freeze]
  have r3 : ∀ B', B' ≠ B → (w.freeze ⟨B, C.size, none⟩ 1).heap[B']? = w.heap[B']? := fun B' hB => by
    simp only [World.freeze, Nat.one_ne_zero, if_false, Array.getElem?_modify]
    rw [if_neg (fun h => hB h.symm)]
  have r4 : (w.freeze ⟨B, C.size, none⟩ 1).heap.size = w.heap.size := by simp [World.freeze]
  have r2 : ∃ lo' hi', (w.freeze ⟨B, C.size, none⟩ 1).heap[B]? = some (.cells C e' (lo', hi')) ∧ (lo' = hi' ∨ O + n + X ≤ lo') := by
    simp only [World.freeze, Nat.one_ne_zero, if_false, Array.getElem?_modify, if_true, q4, Option.map_some]
    cases hq : lo == hi with
    | true => exact ⟨C.size, C.size + 1, rfl, .inr q5⟩
    | false =>
      have hne : lo ≠ hi := by simpa using hq
      exact ⟨min lo C.size, max hi (C.size + 1), rfl, .inr (by omega)⟩
  obtain ⟨lo', hi', r2, r5⟩ := r2
  refine ⟨_, hrun, ?_, r3, r4⟩
  refine ⟨R.n0, ⟨R.wb.os, R.wb.tape, R.wb.output, by rw [r4]; exact R.wb.size, fun z hz => (r3 z (by omega)).trans (R.wb.block z hz)⟩, fun z hz => (upd_ne (by omega)).trans (R.kb z hz), R.old, ?_, ?_, R.inj⟩
  · intro z B' O' n' X' sz' hz hz'
    by_cases hzb : z = b
    · subst hzb
      rw [h2] at hz'
      simp only [Option.some.injEq, Im.live.injEq] at hz'
      obtain ⟨rfl, rfl, rfl, rfl, rfl⟩ := hz'
      exact ⟨q0, cs, e, k + 1, C, e', lo', hi', upd_same, q2, q3, r2, q5, r5, q7⟩
    · obtain ⟨p0, cs2, e2, k2, C2, e2', lo2, hi2, p1, p2, p3, p4, p5⟩ := R.new z B' O' n' X' sz' hz hz'
      have hB : B' ≠ B := fun he => hzb (R.inj z b B' O' n' X' sz' O n X sz hz hb hz' (he ▸ h2))
      exact ⟨p0, cs2, e2, k2, C2, e2', lo2, hi2, by rw [upd_ne hzb]; exact p1, p2, p3, by rw [r3 _ hB]; exact p4, p5⟩
  · intro z hz
    obtain ⟨e3, k3, h3⟩ := R.dead z hz
    have : z ≠ b := fun he => by subst he; rw [hk] at h3; simp at h3
    exact ⟨e3, k3, by rw [upd_ne this]; exact h3⟩
theorem evW_sim (R : RelK P N0 w0 ρ κ w) (T : TR N0 ρ ts a.tmps) {m : Nat} (hN : N0 ≤ m) {d : Dl} (hm : d.nw ≠ none → ρ m = none) (hκ : d.nw ≠ none → κ m = none) (h : evW P N0 κ ts m o = some d) : ∃ v' w' ρ', OpPost P N0 w0 ρ κ w m d ((execOp a.eval o).run P w) v' w' ρ' := by
  unfold evW at h
  split at h
  · rename_i t x y hop
    split at h
    · rename_i i b of v hi hx hy
      cases hb : (isTup v || !(Nat.beq v.cells.size i.size)) with
      | true => rw [hb] at h; cases h
      | false =>
        rw [hb] at h
        simp only [cond_false] at h
        simp only [Bool.or_eq_false_iff, Bool.not_eq_false'] at hb
        split at h
        · rename_i ups hups
          simp only [Option.some.injEq] at h
          subst h
          obtain ⟨ad', h1, h2⟩ := opd_ptr T hx
          have h3 := (opd_one T hy (fun cs hc => by subst hc; exact absurd hb.1 (by simp [isTup]))).cells
          have hsz : (a.eval y).cells.size = i.size := by
            have e1 := h3.len
            have e2 := Nat.eq_of_beq_eq_true hb.2
            simp only [Array.length_toList] at e1
            omega
          obtain ⟨w', g1, g2, g3, g4⟩ := put_sim R hups (fun _ => h2) h3
          refine ⟨undef, w', ρ, .inr ⟨?_, rfl⟩, g2, undef_VR, Ext.refl ρ, fun _ _ _ => rfl, fun _ => rfl, fun h => absurd rfl h, g3, by omega, fun _ _ _ => .inl rfl⟩
          unfold execOp; rw [hop]
          simp only [h1, Instr.storeAt, Instr.sureAddr, storeVar, Sem.run_bind, Sem.run_pure, Result.andThen_ok, sizeOf_run hi, Sem.run_ite]
          rw [if_neg (by rw [hsz]; simp)]
          simp only [Sem.run_pure, Result.andThen_ok, Sem.run_bind, g1]
        · cases h
    · cases h
  · rename_i c hop
    split at h
    · -- append
      rename_i s x t u hcal hargs htys
      split at h
      · rename_i e du A l cp xv ht hu hs hx
        split at h
        · rename_i i n hi hn
          split at h
          · rename_i z news rd hz hnews
            cases hb : (isSlD du && Nat.beq z.cells.size i.size && Nat.blt 0 i.bytes && Nat.blt 0 i.size && Nat.ble ((l + n) * i.bytes) 140737488355328) with
            | false => rw [hb] at h; cases h
            | true =>
              rw [hb] at h
              simp only [cond_true] at h
              simp only [Bool.and_eq_true, Nat.blt_eq] at hb
              obtain ⟨⟨⟨⟨b1, b2⟩, b3⟩, b4⟩, b5⟩ := hb
              have b2 := Nat.eq_of_beq_eq_true b2
              have b5 := Nat.le_of_ble_eq_true b5
              have e1 : c.args = #[s, x] := Array.ext' hargs
              have e2 : c.argTypes = #[t, u] := Array.ext' htys
              have hxr := lenV_sim (opd_sim T hx) hn
              obtain ⟨news', n1, n2, n3⟩ := news_sim R (opd_sim T hx) hnews
              have hrun : (execOp a.eval o).run P w = ((Builtin.append_ #[t, u] o.type #[a.eval s, a.eval x]).run P w).andThen fun v w' => .ok (.value v) w' := by
                unfold execOp; rw [hop]
                simp only [resolve, hcal, e1, e2, invoke, builtin, Sem.run_bind, Sem.run_pure, Result.andThen_ok, List.map_toArray, List.map_cons, List.map_nil]
              cases hroom : Nat.ble (l + n) cp with
              | true =>
                rw [hroom] at h
                simp only [cond_true] at h
                refine room_sim R hi b4 h n1 n2 (Nat.le_of_ble_eq_true hroom) (opd_sim T hs) ?_
                intro base cp' hsv hle
                have h6 := run_append_room (P := P) (w := w) (ty := o.type) ht hu b1 hi (base := base) hxr (n3 w rfl) hle
                rw [hrun, hsv, h6]
                cases base with
                | none => rfl
                | some ad =>
                  simp only
                  cases (storeCells (ad.add (l * i.size)) news').run P w <;> rfl
              | false =>
                rw [hroom] at h
                simp only [cond_false] at h
                have hlt : cp < l + n := by
                  rcases Nat.lt_or_ge cp (l + n) with h | h
                  · exact h
                  · rw [Nat.ble_eq_true_of_le h] at hroom; cases hroom
                rw [hrun]
                have hnw := growE_nw h
                exact grow_sim R (hm hnw) hN (hκ hnw) ht hu b1 hi hz b2 b3 b4 h n2 hlt b5 (opd_sim T hs) hxr ⟨news', n1, n3⟩
          · cases h
        · cases h
      · cases h
    · -- copy
      rename_i dd x t u hcal hargs htys
      split at h
      · rename_i e A l cp xv ht hs hx
        split at h
        · rename_i i n hi hn
          split at h
          · rename_i news rd hnews
            have e1 : c.args = #[dd, x] := Array.ext' hargs
            have e2 : c.argTypes = #[t, u] := Array.ext' htys
            have hxr := lenV_sim (opd_sim T hx) hn
            obtain ⟨news', n1, n2, n3⟩ := news_sim R (opd_sim T hx) hnews
            have hrun : ∀ base cp', a.eval dd = .slice base l cp' → (execOp a.eval o).run P w = match base with
                | none => .ok (.value (.int .i64 (Nat.min n l))) w
                | some ad => ((storeCells ad news').run P w).andThen fun _ w' => .ok (.value (.int .i64 (Nat.min n l))) w' := by
              intro base cp' hb
              unfold execOp; rw [hop]
              cases base with
              | none => simp [resolve, hcal, e1, e2, invoke, builtin, hb, Builtin.copy_, run_underlying ht, hxr, sizeOf_run hi, n3 w rfl, goInt]
              | some ad =>
                simp [resolve, hcal, e1, e2, invoke, builtin, hb, Builtin.copy_, run_underlying ht, hxr, sizeOf_run hi, n3 w rfl, goInt]
                cases (storeCells ad news').run P w <;> rfl
            split at h
            · simp only [Option.some.injEq] at h
              subst h
              have hsv := (opd_sim T hs).closed_eq rfl
              exact ⟨_, w, ρ, post_same R (hrun none cp hsv) (.one (.one (.int _ _)))⟩
            · rename_i b of
              split at h
              · rename_i ups hups
                simp only [Option.some.injEq] at h
                subst h
                have hsr := opd_sim T hs
                generalize hsv : a.eval dd = sv at hsr
                cases hsr with | one h1 => cases h1 with | one h2 => cases h2 with | sl h3 =>
                rename_i ad' cp'
                have har : news ≠ [] → AR ρ ⟨b, of, none⟩ ad' := fun hne => h3.ar (fun hl0 => by
                  apply hne
                  rw [hl0] at n2
                  exact List.eq_nil_of_length_eq_zero (by simpa using n2))
                obtain ⟨w', g1, g2, g3, g4⟩ := put_sim R hups har n1
                have hr2 := hrun (some ad') cp' hsv
                simp only [g1, Result.andThen_ok] at hr2
                exact ⟨_, w', ρ, .inl hr2, g2, .one (.one (.int _ _)), Ext.refl ρ, fun _ _ _ => rfl, fun _ => rfl, fun h => absurd rfl h, g3, by omega, fun _ _ _ => .inl rfl⟩
              · cases h
            · cases h
          · cases h
        · cases h
      · cases h
    · cases h
  · -- a conversion of bytes into bytes
    rename_i s d1 x hop
    split at h
    · rename_i e0 e1 b of l cp hs hd hx
      cases hq : (Nat.beq s d1 && isU8D P e1) with
      | false => rw [hq] at h; cases h
      | true =>
        rw [hq] at h
        simp only [cond_true] at h
        simp only [Bool.and_eq_true] at hq
        have hsd := Nat.eq_of_beq_eq_true hq.1
        have he := isU8D_spec hq.2
        subst hsd
        have he01 : e0 = e1 := by rw [hs] at hd; cases hd; rfl
        subst he01
        split at h
        · rename_i cs e' k hr
          obtain ⟨hb, hk⟩ := rowAt_spec hr
          simp only [Option.some.injEq] at h
          subst h
          have hsr := opd_sim T hx
          generalize hsv : a.eval x = sv at hsr
          cases hsr with | one h1 => cases h1 with | one h2 => cases h2 with | sl h3 =>
          rename_i ad' cp'
          obtain ⟨g0, g1, g2⟩ := h3
          rcases g2 with g2 | ⟨B, O, n, X, sz, dd, g2, g3, g4, g5⟩
          · obtain ⟨e3, k3, h4⟩ := R.dead _ g2
            simp only at h4
            rw [hk] at h4
            simp at h4
          · simp only at g2 g3
            obtain ⟨w', j1, j2, j3, j4⟩ := mark_sim R hb hk g2 (O + (of + dd))
            have hrun : (execOp a.eval o).run P w = .ok (.value (.slice (some ad') l cp')) w' := by
              unfold execOp; rw [hop]
              simp only [hsv]
              unfold convert
              simp only [Sem.run_bind, run_underlying hs, run_underlying hd, Result.andThen_ok, beq_self_eq_true, run_underlying he, g3, j1, Sem.run_pure]
            refine ⟨_, w', ρ, .inl hrun, j2, .one (.one (.sl ⟨g0, g1, .inr ⟨B, O, n, X, sz, dd, g2, g3, g4, g5⟩⟩)), Ext.refl ρ, fun _ _ _ => rfl, fun _ => rfl, fun h => absurd rfl h, fun B' hB' => ?_, by omega, fun _ _ _ => .inl rfl⟩
            by_cases hbb : B' = B
            · subst hbb
              exact .inr ⟨b, _, List.mem_singleton.2 rfl, ⟨O, n, X, sz, g2⟩⟩
            · exact .inl (j3 B' hbb)
        · cases h
    · cases h
  · cases h
theorem evD_sim (R : RelK P N0 w0 ρ κ w) (T : TR N0 ρ ts a.tmps) {m : Nat} (hN : N0 ≤ m) {d : Dl} (hm : d.nw ≠ none → ρ m = none) (hκ : d.nw ≠ none → κ m = none) (h : evD P N0 κ ts m o = some d) : ∃ v' w' ρ', OpPost P N0 w0 ρ κ w m d ((execOp a.eval o).run P w) v' w' ρ' := by
  unfold evD at h
  split at h
  · rename_i v hv
    simp only [Option.some.injEq] at h
    subst h
    obtain ⟨v', h1, h2⟩ := evP_sim (P := P) T hv w
    exact ⟨v', w, ρ, post_same R h1 h2⟩
  · split at h
    · rename_i v rd hv
      simp only [Option.some.injEq] at h
      subst h
      obtain ⟨v', h1, h2⟩ := evL_sim R T hv
      exact ⟨v', w, ρ, post_same R h1 h2⟩
    · split at h
      · rename_i cs e v hv
        simp only [Option.some.injEq] at h
        subst h
        exact post_new R (hm (by simp)) hN (evA_sim T hv)
      · exact evW_sim R T hN hm hκ h
end
end Go.Proofs.Ytbonmmpdpahhfaa.Can
