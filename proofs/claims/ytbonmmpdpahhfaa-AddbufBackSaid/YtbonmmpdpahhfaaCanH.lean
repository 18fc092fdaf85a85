/- The engine: regions that draw their order: a call. No law, no condition. -/
import Derived.Test.YtbonmmpdpahhfaaCanG
namespace Go.Proofs.Ytbonmmpdpahhfaa.Can
open Go.RowKit
set_option linter.unusedVariables false
set_option linter.unusedSimpArgs false
def restr (ρ : Rho) (s : Nat) : Rho := fun b => if b < s then ρ b else none
section
variable {P : Program} {N0 : Nat} {w0 : World} {C : CallE} {nt : Nat} {ops : Array Oper} {T : Nat → Tm} {Cw : Nat → World} {V : Nat → Value} {F : Nat → FP} {ρ ρ0 ρ' ρs : Rho} {ws w w' : World} {df : List Deferred} {D : Nat → Bool} {a : Act} {i s : Nat} {o : Oper}
theorem ar_restr {x x' x'' : Addr} (hs : ∀ b, ρs b ≠ none → b < s) (h : AR ρ x x') (k : AR ρs x x'') : AR (restr ρ s) x x' := by
  have hlt := hs _ (ar_dom k)
  obtain ⟨h0, h1, h2⟩ := h
  refine ⟨h0, h1, ?_⟩
  have : restr ρ s x.block = ρ x.block := if_pos hlt
  rw [this]; exact h2
theorem slr_restr {x x' x'' : Addr} {l cp cp' cp'' : Nat} (hs : ∀ b, ρs b ≠ none → b < s) (h : SlR N0 ρ x l cp x' cp') (k : SlR N0 ρs x l cp x'' cp'') : SlR N0 (restr ρ s) x l cp x' cp' := by
  have hlt := hs _ (slr_dom k)
  obtain ⟨h0, h1, h2⟩ := h
  refine ⟨h0, h1, ?_⟩
  have : restr ρ s x.block = ρ x.block := if_pos hlt
  rw [this]; exact h2
theorem f2_restr {α : Type} {R S R' : α → α → Prop} (h : ∀ x y z, R x y → S x z → R' x y) : ∀ {l m n : List α}, F2 R l m → F2 S l n → F2 R' l m
  | _, _, _, .nil, .nil => .nil
  | _, _, _, .cons a b, .cons c d => .cons (h _ _ _ a c) (f2_restr h b d)
theorem ptrV_inj : ∀ {cs ds : List Addr}, (cs.map ptrV) = (ds.map ptrV) → cs = ds
  | [], [], _ => rfl
  | [], _ :: _, h => by cases h
  | _ :: _, [], h => by cases h
  | a :: cs, b :: ds, h => by
    simp only [List.map_cons, List.cons.injEq] at h
    have h1 : a = b := by
      have := h.1
      simpa [ptrV] using this
    rw [h1, ptrV_inj h.2]
theorem cr_restr (hs : ∀ b, ρs b ≠ none → b < s) {v v' v'' : Value} (h : CR N0 ρ v v') (k : CR N0 ρs v v'') : CR N0 (restr ρ s) v v' := by
  cases h with
  | bool b => exact .bool b
  | int kk n => exact .int kk n
  | str x => exact .str x
  | nilp => exact .nilp
  | ptr h => cases k with | ptr k => exact .ptr (ar_restr hs h k)
  | nils l c => exact .nils l c
  | sl h => cases k with | sl k => exact .sl (slr_restr hs h k)
  | nilf => exact .nilf
  | fn f h =>
    rename_i cs cs'
    generalize hq : Value.func (.func f) #[] (cs.map ptrV).toArray = q at k
    cases k <;> first | cases hq | skip
    rename_i f2 ds ds' k2
    simp only [Value.func.injEq] at hq
    have e1 : cs.map ptrV = ds.map ptrV := congrArg Array.toList hq.2.2
    have := ptrV_inj e1
    subst this
    have e2 : f = f2 := by simpa using hq.1
    subst e2
    exact .fn f (f2_restr (R' := AR (restr ρ s)) (fun _ _ _ a b => ar_restr hs a b) h k2)
theorem vr1_restr (hs : ∀ b, ρs b ≠ none → b < s) {v v' v'' : Value} (h : VR1 N0 ρ v v') (k : VR1 N0 ρs v v'') : VR1 N0 (restr ρ s) v v' := by
  cases h with
  | one h =>
    cases k with
    | one k => exact .one (cr_restr hs h k)
    | agg k => cases h
  | agg h =>
    rename_i xs ys
    generalize hq : Value.agg xs.toArray = q at k
    cases k with
    | one k => subst hq; cases k
    | agg k =>
      rename_i xs2 ys2
      simp only [Value.agg.injEq] at hq
      have e1 : xs = xs2 := congrArg Array.toList hq
      subst e1
      exact .agg (f2_restr (R' := CR N0 (restr ρ s)) (fun _ _ _ a b => cr_restr hs a b) h k)
theorem vr_restr (hs : ∀ b, ρs b ≠ none → b < s) {v v' v'' : Value} (h : VR N0 ρ v v') (k : VR N0 ρs v v'') : VR N0 (restr ρ s) v v' := by
  cases h with
  | one h =>
    cases k with
    | one k => exact .one (vr1_restr hs h k)
    | tup k => cases h with | one h => cases h
  | tup h =>
    rename_i xs ys
    generalize hq : Value.tuple xs.toArray = q at k
    cases k with
    | one k => subst hq; cases k with | one k => cases k
    | tup k =>
      rename_i xs2 ys2
      simp only [Value.tuple.injEq] at hq
      have e1 : xs = xs2 := congrArg Array.toList hq
      subst e1
      exact .tup (f2_restr (R' := VR1 N0 (restr ρ s)) (fun _ _ _ a b => vr1_restr hs a b) h k)
theorem step_C (h : Nx P N0 w0 C nt ops T Cw V F D i o) (I : Inv P N0 w0 nt ops T Cw V F ρ0 ws df D ρ a w) (hN : N0 ≤ (Cw 0).heap.size) {wx : World} {tmx : Array Value} {wy : World} (Rs : Rel P N0 w0 ρs (Cw i) wx) (Ts : TR N0 ρs (T i) tmx) (Ss : St ρ0 (Cw 0) wy ρs (Cw i) wx)
    {cl : Call} {f : Operand} {g : FuncId} {captured : Array Value} {xs : List Value} (hop : o.op = .call cl) (hcal : cl.callee = .value f) (hf : opd (prune (o.looksAt ops) (T i)) f = some (.func (.func g) #[] captured))
    (hxs : vals (prune (o.looksAt ops) (T i)) cl.args.toList = some xs) (hC : C g (xs ++ captured.toList) (Cw i) = some (V i, Cw (i + 1))) (hF : F i = ⟨[], [], true⟩) (hcl : Clean (Cw i) (Cw (i + 1))) :
    ∃ args', (execOp a.eval o).run P w = .ok (.enter g args') w ∧ Calls P g args' w fun e w' => ∃ v' ρ', e = .returned v' ∧ Inv P N0 w0 nt ops T Cw V F ρ0 ws df (add1 D i) ρ' (a.put o.dst v') w' := by
  have hi := h.lt
  have hc0 : (Cw 0).heap.size ≤ (Cw i).heap.size := sz_mono h.hc (k := i) (by omega) 0 (by omega)
  have hc1 : (Cw i).heap.size ≤ (Cw (i + 1)).heap.size := (h.hc i hi).1
  have TRi := tr_in h I
  have TRs := Ts.prune (o.looksAt ops)
  have hsz : ∀ b, ρs b ≠ none → b < (Cw i).heap.size := Rs.dom
  have hown : ∀ b, b < (Cw i).heap.size → ρ b ≠ none → ov Cw D ops.size b = Kof (Cw i) b := fun b hb hr => (ov_in h (I.dom b hr) hb (.inl (by rw [hF]))).1
  have hρs : ∀ b, b < (Cw i).heap.size → ∀ B O n X sz, ρ b = some (.live B O n X sz) → ρs b ≠ none := fun b hb B O n X sz hl => by
    by_cases hlt : b < (Cw 0).heap.size
    · rcases I.e1 b hlt with q | ⟨_, q⟩
      · rcases Ss.ext b hlt with q1 | ⟨_, q1⟩
        · rw [q1, ← q, hl]; simp
        · rw [q1]; simp
      · rw [hl] at q; cases q
    · exact Ss.tot b (by omega) hb
  have hrr : ∀ b, b < (Cw i).heap.size → restr ρ (Cw i).heap.size b = ρ b := fun b hb => if_pos hb
  have hrn : ∀ b, ¬ b < (Cw i).heap.size → restr ρ (Cw i).heap.size b = none := fun b hb => if_neg hb
  have Rr : Rel P N0 w0 (restr ρ (Cw i).heap.size) (Cw i) w := by
    refine ⟨⟨I.rel.n0, I.rel.wb, Rs.k.kb, fun b hb => by rw [hrr b (by omega)]; exact I.rel.old b hb, ?_, ?_, ?_⟩, ?_, by omega⟩
    · intro b B O n X sz hb hl
      by_cases hlt : b < (Cw i).heap.size
      · rw [hrr b hlt] at hl
        obtain ⟨p0, cs, e, k, C2, e', lo, hi2, p1, p2, p3, p4, p5, p6, p7⟩ := I.rel.new b B O n X sz hb hl
        rw [hown b hlt (by rw [hl]; simp)] at p1
        refine ⟨p0, cs, e, k, C2, e', lo, hi2, p1, p2, p3, p4, p5, p6, fun j v hj => ?_⟩
        obtain ⟨v', q1, q2⟩ := p7 j v hj
        refine ⟨v', q1, ?_⟩
        have hsb := hρs b hlt B O n X sz hl
        cases hq : ρs b with
        | none => exact absurd hq hsb
        | some im =>
          cases im with
          | dead =>
            obtain ⟨e3, k3, h3⟩ := Rs.k.dead b hq
            rw [p1] at h3; simp at h3
          | live B2 O2 n2 X2 sz2 =>
            obtain ⟨_, cs2, e2, k2, C3, e3, lo3, hi3, r1, _, _, _, _, _, r7⟩ := Rs.k.new b B2 O2 n2 X2 sz2 hb hq
            rw [p1] at r1
            simp only [Option.some.injEq, Obj.cells.injEq] at r1
            obtain ⟨rfl, _⟩ := r1
            obtain ⟨v'', _, r8⟩ := r7 j v hj
            exact cr_restr hsz q2 r8
      · rw [hrn b hlt] at hl; cases hl
    · intro b hd
      by_cases hlt : b < (Cw i).heap.size
      · rw [hrr b hlt] at hd
        obtain ⟨e3, k3, h3⟩ := I.rel.dead b hd
        exact ⟨e3, k3, by rw [← hown b hlt (by rw [hd]; simp)]; exact h3⟩
      · rw [hrn b hlt] at hd; cases hd
    · intro b b' B O n X sz O' n' X' sz' hb hb' h1 h2
      by_cases hlt : b < (Cw i).heap.size
      · by_cases hlt' : b' < (Cw i).heap.size
        · rw [hrr b hlt] at h1
          rw [hrr b' hlt'] at h2
          exact I.rel.inj b b' B O n X sz O' n' X' sz' hb hb' h1 h2
        · rw [hrn b' hlt'] at h2; cases h2
      · rw [hrn b hlt] at h1; cases h1
    · intro b hb
      exact Classical.byContradiction fun hh => hb (hrn b hh)
  have hfv := opd_sim (a := a) TRi hf
  have hfs := opd_sim (a := ⟨tmx, []⟩) TRs hf
  generalize hy : a.eval f = y at hfv
  have hfr := vr_restr hsz hfv hfs
  obtain ⟨cs, cs', rfl, rfl, hF2⟩ : ∃ cs cs' : List Addr, captured = (cs.map ptrV).toArray ∧ y = .func (.func g) #[] (cs'.map ptrV).toArray ∧ F2 (AR (restr ρ (Cw i).heap.size)) cs cs' := by
    cases hfr with | one h1 => cases h1 with | one h2 => cases h2 with | fn _ h3 => exact ⟨_, _, rfl, rfl, h3⟩
  have hargs : F2 (VR N0 (restr ρ (Cw i).heap.size)) (xs ++ (cs.map ptrV).toArray.toList) (cl.args.toList.map a.eval ++ cs'.map ptrV) :=
    (f2_restr (R := VR N0 ρ) (S := VR N0 ρs) (R' := VR N0 (restr ρ (Cw i).heap.size)) (fun _ _ _ p q => vr_restr hsz p q) (vals_sim (a := a) TRi _ _ hxs) (vals_sim (a := ⟨tmx, []⟩) TRs _ _ hxs)).app (f2_ptrs hF2)
  obtain ⟨hent, hcalls⟩ := h.G.hC _ _ _ _ _ hC
  refine ⟨(cl.args.toList.map a.eval ++ cs'.map ptrV).toArray, ?_, ?_⟩
  · have e1 : cl.args.map a.eval ++ (cs'.map ptrV).toArray = (cl.args.toList.map a.eval ++ cs'.map ptrV).toArray := by
      apply Array.ext'; simp
    unfold execOp; rw [hop]
    simp only [resolve, hcal, hy, Deferred.ofValue, Sem.run_bind, Sem.run_pure, Result.andThen_ok, invoke, Array.empty_append, e1, hent]
  · refine Calls.mono (hcalls _ w _ Rr hargs) ?_
    rintro e w' ⟨v', ρ2, rfl, R2, V2, S2⟩
    refine ⟨v', fun b => if b < (Cw (i + 1)).heap.size then ρ2 b else ρ b, rfl, ?_⟩
    have hns : ∀ b, b < (Cw i).heap.size → ¬ stamp (Cw i).heap[b]? < stamp (Cw (i + 1)).heap[b]? := fun b hb hh => by
      rw [hcl b hb] at hh; omega
    have h2old : ∀ b, b < (Cw i).heap.size → ρ2 b = ρ b := fun b hb => by
      rcases S2.ext b hb with q | ⟨q, _⟩
      · rw [q, hrr b hb]
      · exact absurd q (hns b hb)
    have hfr : ∀ B, B < w.heap.size → w'.heap[B]? = w.heap[B]? := fun B hB => by
      rcases S2.frame B hB with q | ⟨b, q1, _, q2⟩
      · exact q
      · exact absurd q2 (hns b q1)
    have hnw : ∀ b B, (Cw i).heap.size ≤ b → LiveAt ρ2 b B → w.heap.size ≤ B := fun b B hb hl => by
      rcases S2.new b B hb hl with q | ⟨b0, q1, _, q2⟩
      · exact q
      · exact absurd q2 (hns b0 q1)
    have hp1 : ∀ b, b < (Cw (i + 1)).heap.size → (fun b => if b < (Cw (i + 1)).heap.size then ρ2 b else ρ b : Rho) b = ρ2 b := fun b hb => if_pos hb
    have hp2 : ∀ b, ¬ ((Cw i).heap.size ≤ b ∧ b < (Cw (i + 1)).heap.size) → (fun b => if b < (Cw (i + 1)).heap.size then ρ2 b else ρ b : Rho) b = ρ b := fun b hb => by
      by_cases hlt : b < (Cw (i + 1)).heap.size
      · rw [hp1 b hlt]
        exact h2old b (by omega)
      · exact if_neg hlt
    generalize (fun b => if b < (Cw (i + 1)).heap.size then ρ2 b else ρ b : Rho) = ρ' at hp1 hp2 ⊢
    have hrng : ∀ b, (Cw i).heap.size ≤ b → b < (Cw (i + 1)).heap.size → ρ b = none := fun b q1 q2 => Classical.byContradiction fun hh => (ov_new h I q1 q2).2 (I.dom b hh)
    have hsame : ∀ b, ρ b ≠ none → ρ' b = ρ b := fun b hb => hp2 b (fun q => hb (hrng b q.1 q.2))
    have hext : Ext ρ ρ' := fun b hb => .inl (hsame b hb)
    have hext2 : Ext ρ2 ρ' := fun b hb => .inl (hp1 b (R2.dom b hb))
    have hovn : ∀ b, (Cw i).heap.size ≤ b → b < (Cw (i + 1)).heap.size → ov Cw (add1 D i) ops.size b = Kof (Cw (i + 1)) b := fun b q1 q2 => (ov_new h I q1 q2).1
    have hovo : ∀ b, ¬ ((Cw i).heap.size ≤ b ∧ b < (Cw (i + 1)).heap.size) → ov Cw (add1 D i) ops.size b = ov Cw D ops.size b := fun b hb => ov_far h (by
      by_cases hlt : b < (Cw i).heap.size
      · exact hcl b hlt
      · have e1 : Kof (Cw (i + 1)) b = none := by simp [Kof]; omega
        have e2 : Kof (Cw i) b = none := by simp [Kof]; omega
        rw [e1, e2])
    have hst : ∀ b, b < (Cw 0).heap.size → ov Cw (add1 D i) ops.size b = ov Cw D ops.size b := fun b hb => hovo b (by omega)
    have hinr : ∀ b, ρ' b ≠ none → ((Cw i).heap.size ≤ b ∧ b < (Cw (i + 1)).heap.size) ∨ ρ b ≠ none := fun b hb => by
      by_cases q : (Cw i).heap.size ≤ b ∧ b < (Cw (i + 1)).heap.size
      · exact .inl q
      · rw [hp2 b q] at hb; exact .inr hb
    refine ⟨⟨I.rel.n0, R2.k.wb, ?_, ?_, ?_, ?_, ?_⟩, ?_, ?_, ?_, tmp_out h I hext (V2.mono hext2), put_size.trans I.sz, put_defers.trans I.df, clo_out h, ?_, ?_, ?_, ?_, ?_, Nat.le_trans I.wsz S2.ws⟩
    · intro b hb
      rw [hovo b (by omega)]; exact I.rel.kb b hb
    · intro b hb
      rw [hp2 b (by omega)]; exact I.rel.old b hb
    · intro b B O n X sz hb hl
      by_cases q : (Cw i).heap.size ≤ b ∧ b < (Cw (i + 1)).heap.size
      · rw [hp1 b q.2] at hl
        exact (R2.k.new b B O n X sz hb hl).mono hext2 (hovn b q.1 q.2) rfl
      · rw [hp2 b q] at hl
        have h1 := I.rel.new b B O n X sz hb hl
        exact h1.mono hext (hovo b q) (hfr B h1.lt)
    · intro b hd
      by_cases q : (Cw i).heap.size ≤ b ∧ b < (Cw (i + 1)).heap.size
      · rw [hp1 b q.2] at hd
        rw [hovn b q.1 q.2]; exact R2.k.dead b hd
      · rw [hp2 b q] at hd
        rw [hovo b q]; exact I.rel.dead b hd
    · intro b b' B O n X sz O' n' X' sz' hb hb' h1 h2
      by_cases q : (Cw i).heap.size ≤ b ∧ b < (Cw (i + 1)).heap.size
      · rw [hp1 b q.2] at h1
        by_cases q' : (Cw i).heap.size ≤ b' ∧ b' < (Cw (i + 1)).heap.size
        · rw [hp1 b' q'.2] at h2
          exact R2.k.inj b b' B O n X sz O' n' X' sz' hb hb' h1 h2
        · rw [hp2 b' q'] at h2
          have := hnw b B q.1 ⟨O, n, X, sz, h1⟩
          have := (I.rel.new b' B O' n' X' sz' hb' h2).lt
          omega
      · rw [hp2 b q] at h1
        by_cases q' : (Cw i).heap.size ≤ b' ∧ b' < (Cw (i + 1)).heap.size
        · rw [hp1 b' q'.2] at h2
          have := hnw b' B q'.1 ⟨O', n', X', sz', h2⟩
          have := (I.rel.new b B O n X sz hb h1).lt
          omega
        · rw [hp2 b' q'] at h2
          exact I.rel.inj b b' B O n X sz O' n' X' sz' hb hb' h1 h2
    · intro b hb
      rcases hinr b hb with q | q
      · exact .inr ⟨i, hi, add1_same, q.1, q.2⟩
      · exact (I.dom b q).up
    · intro b hb
      by_cases q : (Cw i).heap.size ≤ b ∧ b < (Cw (i + 1)).heap.size
      · exact .inr ⟨i, hi, add1_same, q.1, q.2⟩
      · rw [hovo b q] at hb; exact (I.kdom b hb).up
    · intro k hk hD z hz
      by_cases hki : k = i
      · subst hki; rw [hF] at hz; cases hz
      · rw [add1_ne hki] at hD; exact (I.wrd k hk hD z hz).up
    · intro k hk hD b q1 q2
      by_cases hki : k = i
      · subst hki
        rw [hp1 b q2]
        exact S2.tot b q1 q2
      · rw [add1_ne hki] at hD
        have := I.tot k hk hD b q1 q2
        rw [hsame b this]; exact this
    · intro b hb
      rw [hst b hb]; exact I.e0 b hb
    · intro b hb
      rw [hst b hb, hp2 b (by omega)]; exact I.e1 b hb
    · intro B hB
      rw [hfr B (Nat.lt_of_lt_of_le hB I.wsz)]
      rcases I.e2 B hB with q | ⟨b, q1, q2, q3⟩
      · exact .inl q
      · exact .inr ⟨b, q1, q2, by rw [hst b q1]; exact q3⟩
    · intro b B hb hl
      by_cases q : (Cw i).heap.size ≤ b ∧ b < (Cw (i + 1)).heap.size
      · left
        obtain ⟨O, n, X, sz, q1⟩ := hl
        rw [hp1 b q.2] at q1
        exact Nat.le_trans I.wsz (hnw b B q.1 ⟨O, n, X, sz, q1⟩)
      · obtain ⟨O, n, X, sz, q1⟩ := hl
        rw [hp2 b q] at q1
        rcases I.e3 b B hb ⟨O, n, X, sz, q1⟩ with q2 | ⟨b0, q2, q3, q4⟩
        · exact .inl q2
        · exact .inr ⟨b0, q2, q3, by rw [hst b0 q2]; exact q4⟩
end
end Go.Proofs.Ytbonmmpdpahhfaa.Can
