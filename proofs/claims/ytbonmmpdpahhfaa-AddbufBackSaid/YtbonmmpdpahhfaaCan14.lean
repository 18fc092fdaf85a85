/- The engine, fourteenth part: one operation, calls among them; operations one behind the other. No law, no condition. -/
import Derived.Test.YtbonmmpdpahhfaaCan13
namespace Go.Proofs.Ytbonmmpdpahhfaa.Can
open Go.RowKit
set_option linter.unusedVariables false
set_option linter.unusedSimpArgs false

abbrev CallE := FuncId → List Value → World → Option (Value × World)
def SoundC (P : Program) (N0 : Nat) (w0 : World) (C : CallE) : Prop :=
  ∀ (f : FuncId) (args : List Value) (c : World) (v : Value) (c' : World), C f args c = some (v, c') → (∀ (xs : Array Value) (W : World), (callFunc f xs).run P W = .ok (.enter f xs) W) ∧
    ∀ (ρ : Rho) (w : World) (args' : List Value), Rel P N0 w0 ρ c w → F2 (VR N0 ρ) args args' → Calls P f args'.toArray w fun e w' => ∃ v' ρ', e = .returned v' ∧ Rel P N0 w0 ρ' c' w' ∧ VR N0 ρ' v v' ∧ St ρ c w ρ' c' w'
def vals (ts : Tm) : List Operand → Option (List Value)
  | [] => some []
  | x :: xs => match opd ts x with
    | some v => match vals ts xs with
      | some l => some (v :: l)
      | none => none
    | none => none
structure FP where
  rd : List Nat
  wr : List Nat
  cl : Bool
def evOpD (P : Program) (N0 : Nat) (ts : Tm) (c : World) (o : Oper) : Option (Value × World × FP) := match evD P N0 (Kof c) ts c.heap.size o with
  | some d => some (d.v, apC c d, ⟨d.rd, d.ups.map (fun x => x.1), false⟩)
  | none => none
def evOp (P : Program) (N0 : Nat) (C : CallE) (ts : Tm) (c : World) (o : Oper) : Option (Value × World × FP) :=
  match o.op with
  | .call cl => match cl.callee with
    | .value f => match opd ts f, vals ts cl.args.toList with
      | some (.func (.func g) first captured), some xs => bif first.toList.isEmpty then (match C g (xs ++ captured.toList) c with
        | some (v, c') => some (v, c', ⟨[], [], true⟩)
        | none => none) else none
      | _, _ => none
    | _ => evOpD P N0 ts c o
  | _ => evOpD P N0 ts c o
def wantE (ops : Array Oper) (ts : Tm) (o : Oper) : Option Bool := match o.guard with
  | none => some true
  | some (j, want) => match ops[j]? with
    | none => some false
    | some oj => match oj.dst with
      | none => some false
      | some d => match tget ts d with
        | .bool b => some (b == want)
        | v => bif known v then some false else none
def putT (ts : Tm) (dst : Option Tmp) (v : Value) : Tm := match dst with
  | some d => (d, v) :: ts
  | none => ts
def dstOk (nt : Nat) (dst : Option Tmp) : Bool := match dst with
  | some d => Nat.blt d nt
  | none => true
def evOps (P : Program) (N0 : Nat) (C : CallE) (nt : Nat) (ops : Array Oper) : List Oper → Tm → World → Option (Tm × World)
  | [], ts, c => some (ts, c)
  | o :: r, ts, c => bif dstOk nt o.dst then (match wantE ops ts o with
    | some true => match evOp P N0 C ts c o with
      | some (v, c', _) => evOps P N0 C nt ops r (putT ts o.dst v) c'
      | none => none
    | some false => evOps P N0 C nt ops r (putT ts o.dst undef) c
    | none => none) else none
section
variable {P : Program} {N0 : Nat} {w0 : World} {ρ : Rho} {κ : Kap} {c c' w : World} {ts ts' : Tm} {a : Act} {o : Oper} {C : CallE} {Q : Exit → Act → World → Prop} {next : Act → World → Prop} {ops : Array Oper} {nt : Nat}
theorem vals_sim (T : TR N0 ρ ts a.tmps) : ∀ (xs : List Operand) (l : List Value), vals ts xs = some l → F2 (VR N0 ρ) l (xs.map a.eval)
  | [], l, h => by simp only [vals, Option.some.injEq] at h; subst h; exact .nil
  | x :: xs, l, h => by
    simp only [vals] at h
    split at h
    · rename_i v hx
      split at h
      · rename_i l1 hl
        simp only [Option.some.injEq] at h
        subst h
        exact .cons (opd_sim T hx) (vals_sim T xs l1 hl)
      · cases h
    · cases h
theorem f2_ptrs : ∀ {cs cs' : List Addr}, F2 (AR ρ) cs cs' → F2 (VR N0 ρ) (cs.map ptrV) (cs'.map ptrV)
  | _, _, .nil => .nil
  | _, _, .cons h t => .cons (.one (.one (.ptr h))) (f2_ptrs t)
theorem Rel.dnone (R : Rel P N0 w0 ρ c w) : ρ c.heap.size = none := by
  cases hq : ρ c.heap.size with
  | none => rfl
  | some x => have := R.dom c.heap.size (by rw [hq]; simp); omega
theorem kof_none (c : World) : Kof c c.heap.size = none := by simp [Kof]
/-- what may follow an operation -/
def Nxt (P : Program) (N0 : Nat) (w0 : World) (ρ : Rho) (c w : World) (v : Value) (c' : World) (K : Value → World → Prop) : Prop :=
  ∀ (v' : Value) (w' : World) (ρ' : Rho), Rel P N0 w0 ρ' c' w' → VR N0 ρ' v v' → St ρ c w ρ' c' w' → K v' w'
theorem evOpD_sim (R : Rel P N0 w0 ρ c w) (T : TR N0 ρ ts a.tmps) {v : Value} {fp : FP} (h : evOpD P N0 ts c o = some (v, c', fp)) (hn : Nxt P N0 w0 ρ c w v c' fun v' w' => next (a.put o.dst v') w') : o.wp P a w next Q := by
  unfold evOpD at h
  split at h
  · rename_i d hd
    simp only [Option.some.injEq, Prod.mk.injEq] at h
    obtain ⟨rfl, rfl, rfl⟩ := h
    obtain ⟨v', w', ρ', hp⟩ := evD_sim R.k T R.cz (fun _ => R.dnone) (fun _ => kof_none c) hd
    obtain ⟨h1, h2⟩ := post_step R (evD_good hd) hp
    have h3 := hn v' w' ρ' h1 hp.val h2
    unfold Oper.wp
    rcases hp.run with hr | ⟨hr, rfl⟩
    · rw [hr]; exact h3
    · rw [hr]; exact h3
  · cases h
theorem evOp_sim (hC : SoundC P N0 w0 C) (R : Rel P N0 w0 ρ c w) (T : TR N0 ρ ts a.tmps) {v : Value} {fp : FP} (h : evOp P N0 C ts c o = some (v, c', fp)) (hn : Nxt P N0 w0 ρ c w v c' fun v' w' => next (a.put o.dst v') w') : o.wp P a w next Q := by
  unfold evOp at h
  split at h
  · rename_i cl hop
    split at h
    · rename_i f hcal
      split at h
      · rename_i g first captured xs hf hxs
        obtain ⟨hfi, h⟩ := (show first.toList.isEmpty = true ∧ _ from by
          cases hq : first.toList.isEmpty with
          | true => rw [hq] at h; exact ⟨rfl, h⟩
          | false => rw [hq] at h; cases h)
        simp only [cond_true] at h
        split at h
        · rename_i v1 c1 hc
          simp only [Option.some.injEq, Prod.mk.injEq] at h
          obtain ⟨rfl, rfl, rfl⟩ := h
          obtain ⟨hent, hcalls⟩ := hC _ _ _ _ _ hc
          have hfv := opd_sim T hf
          generalize hy : a.eval f = y at hfv
          have hfirst : first = #[] := by simpa using hfi
          subst hfirst
          obtain ⟨cs, cs', hcs, rfl, hF⟩ : ∃ cs cs' : List Addr, captured = (cs.map ptrV).toArray ∧ y = .func (.func g) #[] (cs'.map ptrV).toArray ∧ F2 (AR ρ) cs cs' := by
            cases hfv with | one h1 => cases h1 with | one h2 => cases h2 with | fn _ h3 => exact ⟨_, _, rfl, rfl, h3⟩
          subst hcs
          have hargs : F2 (VR N0 ρ) (xs ++ (cs.map ptrV).toArray.toList) (cl.args.toList.map a.eval ++ cs'.map ptrV) := (vals_sim T _ _ hxs).app (f2_ptrs hF)
          have hcl := hcalls ρ w _ R hargs
          have hrun : (execOp a.eval o).run P w = .ok (.enter g (cl.args.toList.map a.eval ++ cs'.map ptrV).toArray) w := by
            have e1 : cl.args.map a.eval ++ (cs'.map ptrV).toArray = (cl.args.toList.map a.eval ++ cs'.map ptrV).toArray := by
              apply Array.ext'; simp
            unfold execOp; rw [hop]
            simp only [resolve, hcal, hy, Deferred.ofValue, Sem.run_bind, Sem.run_pure, Result.andThen_ok, invoke, Array.empty_append, e1, hent]
          unfold Oper.wp
          rw [hrun, Oper.upon_enter]
          refine Calls.mono hcl ?_
          rintro e w' ⟨v', ρ', rfl, h1, h2, h3⟩
          exact hn v' w' ρ' h1 h2 h3
        · cases h
      · cases h
    · exact evOpD_sim R T h hn
  · exact evOpD_sim R T h hn
theorem wantE_sim (T : TR N0 ρ ts a.tmps) {b : Bool} (h : wantE ops ts o = some b) : Region.wanted o (yielded ops a.tmps) = b := by
  unfold wantE at h
  unfold Region.wanted
  split at h
  · rename_i hg
    simp only [Option.some.injEq] at h
    rw [hg]; exact h
  · rename_i j want hg
    rw [hg]
    simp only
    unfold yielded
    split at h
    · rename_i hj
      simp only [Option.some.injEq] at h
      rw [hj]; simp only [Option.bind_none]; exact h
    · rename_i oj hj
      rw [hj]
      simp only [Option.bind_some]
      split at h
      · rename_i hd
        simp only [Option.some.injEq] at h
        rw [hd]; simp only [Option.bind_none]; exact h
      · rename_i d hd
        rw [hd]
        simp only [Option.bind_some]
        have hget : ∀ b', a.tmps[d]? = some (.bool b') ↔ a.tmps.getD d undef = .bool b' := by
          intro b'
          by_cases hlt : d < a.tmps.size
          · simp [hlt]
          · simp [hlt, undef]
        split at h
        · rename_i b1 hb1
          simp only [Option.some.injEq] at h
          have := T d (by rw [hb1]; rfl)
          rw [hb1] at this
          have := this.closed_eq rfl
          rw [(hget b1).2 this]
          simpa using h
        · rename_i hnb
          obtain ⟨hk, h⟩ := (show known (tget ts d) = true ∧ _ from by
            cases hq : known (tget ts d) with
            | true => rw [hq] at h; exact ⟨rfl, h⟩
            | false => rw [hq] at h; cases h)
          simp only [cond_true, Option.some.injEq] at h
          have hv := T d hk
          have hno : ∀ b', a.tmps[d]? ≠ some (.bool b') := fun b' he => by
            rw [(hget b').1 he] at hv
            generalize hq : tget ts d = q at hv
            cases hv with
            | one h1 => cases h1 with | one h2 =>
              cases h2
              exact hnb _ hq
          subst h
          cases hq : a.tmps[d]? with
          | none => rfl
          | some u =>
            cases u <;> first | rfl | exact absurd hq (hno _)
theorem put_size {dst : Option Tmp} {v : Value} : (a.put dst v).tmps.size = a.tmps.size := by cases dst <;> simp [Act.put]
theorem put_defers {dst : Option Tmp} {v : Value} : (a.put dst v).defers = a.defers := by cases dst <;> rfl
theorem TR.put (T : TR N0 ρ ts a.tmps) {dst : Option Tmp} {v v' : Value} (hd : dstOk a.tmps.size dst = true) (hv : VR N0 ρ v v') : TR N0 ρ (putT ts dst v) (a.put dst v').tmps := by
  cases dst with
  | none => exact T
  | some d =>
    intro t ht
    simp only [dstOk, Nat.blt_eq] at hd
    simp only [putT, tget] at ht ⊢
    cases hq : Nat.beq d t with
    | true =>
      have := Nat.eq_of_beq_eq_true hq
      subst this
      simp only [hq, cond_true]
      simpa [Act.put, hd] using hv
    | false =>
      have hne : d ≠ t := fun e => by rw [e] at hq; simp at hq
      simp only [hq, cond_false] at ht ⊢
      have := T t ht
      simpa [Act.put, Array.getD_eq_getD_getElem?, Array.getElem?_setIfInBounds_ne hne] using this
theorem evOps_sim (hC : SoundC P N0 w0 C) : ∀ (l : List Oper) (ts : Tm) (c : World) (ts' : Tm) (c' : World), evOps P N0 C nt ops l ts c = some (ts', c') → ∀ (ρ : Rho) (a : Act) (w : World), Rel P N0 w0 ρ c w → TR N0 ρ ts a.tmps → a.tmps.size = nt →
    (∀ (a' : Act) (w' : World) (ρ' : Rho), Rel P N0 w0 ρ' c' w' → TR N0 ρ' ts' a'.tmps → a'.tmps.size = nt → a'.defers = a.defers → St ρ c w ρ' c' w' → Q .normal a' w') → wpList P ops Q l a w
  | [], ts, c, ts', c', h, ρ, a, w, R, T, hs, hq => by
    simp only [evOps, Option.some.injEq, Prod.mk.injEq] at h
    obtain ⟨rfl, rfl⟩ := h
    exact hq a w ρ R T hs rfl (St.refl R.dom)
  | o :: r, ts, c, ts', c', h, ρ, a, w, R, T, hs, hq => by
    simp only [evOps] at h
    obtain ⟨hd, h⟩ := (show dstOk nt o.dst = true ∧ _ from by
      cases hq : dstOk nt o.dst with
      | true => rw [hq] at h; exact ⟨rfl, h⟩
      | false => rw [hq] at h; cases h)
    simp only [cond_true] at h
    have hd' : dstOk a.tmps.size o.dst = true := by rw [hs]; exact hd
    unfold wpList
    split at h
    · rename_i hw
      rw [wantE_sim T hw, if_pos rfl]
      split at h
      · rename_i v c1 fp hop
        refine .inl (evOp_sim hC R T hop ?_)
        intro v' w' ρ' R' hv hst
        have he := hst.toExt R.dom
        exact evOps_sim hC r _ c1 ts' c' h ρ' _ w' R' ((T.mono he).put hd' hv) (put_size.trans hs) fun a' w'' ρ'' R'' T'' hs'' hdf hst'' => hq a' w'' ρ'' R'' T'' hs'' (hdf.trans put_defers) (hst.trans hst'')
      · cases h
    · rename_i hw
      rw [wantE_sim T hw, if_neg (by simp)]
      exact evOps_sim hC r _ c ts' c' h ρ _ w R (T.put hd' undef_VR) (put_size.trans hs) fun a' w'' ρ'' R'' T'' hs'' hdf hst'' => hq a' w'' ρ'' R'' T'' hs'' (hdf.trans put_defers) hst''
    · cases h
end
end Go.Proofs.Ytbonmmpdpahhfaa.Can
