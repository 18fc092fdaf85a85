/- The engine, fifth part: all pure operations in one. No law, no condition. -/
import Derived.Test.YtbonmmpdpahhfaaCan4
namespace Go.Proofs.Ytbonmmpdpahhfaa.Can
open Go.RowKit
set_option linter.unusedVariables false
set_option linter.unusedSimpArgs false

def clo (ts : Tm) (x : Operand) : Bool := match opd ts x with
  | some v => closed v
  | none => false
def runC (P : Program) (ts : Tm) (o : Oper) : Option Value :=
  bif o.op.operands.toList.all (clo ts) then (match runP P (execOp (fun x => (opd ts x).getD unk) o) with
    | some (.value v) => bif closed v then some v else none
    | _ => none) else none
def lenE (P : Program) (t : TypeId) (l : Nat) : Option Value := match P.underlying t with
  | some (.slice _) => some (.int .i64 l)
  | _ => none
def evP (P : Program) (ts : Tm) (o : Oper) : Option Value :=
  match o.op with
  | .move x => opd ts x
  | .assign x => opd ts x
  | .pick c x y => match opd ts c with
    | some (.bool t) => bif t then opd ts x else opd ts y
    | _ => none
  | .nilCheck x => match opd ts x with
    | some (.pointer (some ad)) => some (.pointer (some ad))
    | some (.func (.func f) p q) => some (.func (.func f) p q)
    | _ => none
  | .binOp op t x y _ => match opd ts x, opd ts y with
    | some u, some v => match nilEq P op t u v with
      | some b => some (.bool b)
      | none => runC P ts o
    | _, _ => none
  | .unOp _ _ _ => runC P ts o
  | .convert _ _ _ => runC P ts o
  | .makeFunc (.func f) first captured => match first.toList with
    | [] => match ptrs ts captured.toList with
      | some cs => some (.func (.func f) #[] (cs.map ptrV).toArray)
      | none => none
    | _ => none
  | .extract x i => match opd ts x with
    | some (.tuple vs) => vs.toList[i]?
    | _ => none
  | .field t x f => match opd ts x with
    | some (.agg cs) => fieldE P t cs.toList f
    | _ => none
  | .index t x i => match opd ts x, opd ts i with
    | some (.agg cs), some (.int _ n) => indexE P t cs.toList n
    | _, _ => runC P ts o
  | .build t parts => match placesE P t, pvals ts parts.toList with
    | some (z, pl), some ps => match Instr.fill pl z ps with
      | some r => some (.agg r)
      | none => none
    | _, _ => none
  | .fieldAddr t x f => match opd ts x with
    | some (.pointer (some ⟨b, o, none⟩)) => fieldAddrE P t b o f
    | _ => none
  | .indexAddr t x i => match opd ts x, opd ts i with
    | some v, some (.int _ n) => indexAddrE P t v n
    | _, _ => none
  | .slice _ _ _ _ none => runC P ts o
  | .call c => match c.callee, c.args.toList, c.argTypes.toList with
    | .builtin .len, [x], [t] => match opd ts x with
      | some (.slice _ l _) => lenE P t l
      | _ => runC P ts o
    | .builtin .min, _, _ => runC P ts o
    | .builtin .max, _, _ => runC P ts o
    | _, _, _ => none
  | _ => none
section
variable {P : Program} {N0 : Nat} {ρ : Rho} {ts : Tm} {a : Act} {o : Oper}
theorem runC_sim (T : TR N0 ρ ts a.tmps) {v : Value} (hs : ∀ cs b, o.op ≠ .select cs b) (h : runC P ts o = some v) (w : World) : ∃ v', (execOp a.eval o).run P w = .ok (.value v') w ∧ VR N0 ρ v v' := by
  unfold runC at h
  cases hb : o.op.operands.toList.all (clo ts) with
  | false => rw [hb] at h; cases h
  | true =>
    rw [hb] at h
    simp only [cond_true] at h
    split at h
    · rename_i u hu
      cases hc : closed u with
      | false => rw [hc] at h; cases h
      | true =>
        rw [hc] at h
        simp only [cond_true, Option.some.injEq] at h
        subst h
        refine ⟨u, ?_, .one (VR1.of_closed hc)⟩
        rw [← execOp_congr (ρ := fun x => (opd ts x).getD unk) (ρ' := a.eval) o hs]
        · exact runP_run _ _ hu w
        · intro x hx
          have hk := List.all_eq_true.1 hb x (by simpa using hx)
          unfold clo at hk
          split at hk
          · rename_i y hy
            rw [hy, opd_closed T hy hk]
            rfl
          · cases hk
    · cases h
theorem opd_tup (T : TR N0 ρ ts a.tmps) {x : Operand} {vs : Array Value} (h : opd ts x = some (.tuple vs)) : ∃ ds : List Value, a.eval x = .tuple ds.toArray ∧ F2 (VR1 N0 ρ) vs.toList ds := by
  have := opd_sim T h
  generalize a.eval x = y at this ⊢
  cases this with
  | one h1 => cases h1 with | one h2 => cases h2
  | tup h1 => exact ⟨_, rfl, h1⟩
theorem evP_sim (T : TR N0 ρ ts a.tmps) {v : Value} (h : evP P ts o = some v) (w : World) : ∃ v', (execOp a.eval o).run P w = .ok (.value v') w ∧ VR N0 ρ v v' := by
  unfold evP at h
  split at h
  · rename_i x hop
    refine ⟨a.eval x, ?_, opd_sim T h⟩
    unfold execOp; rw [hop]; rfl
  · rename_i x hop
    refine ⟨a.eval x, ?_, opd_sim T h⟩
    unfold execOp; rw [hop]; rfl
  · rename_i c x y hop
    split at h
    · rename_i t hc
      have hcv := opd_bool T hc
      cases t with
      | true =>
        refine ⟨a.eval x, ?_, opd_sim T h⟩
        unfold execOp; rw [hop]
        simp [hcv, asBool]
      | false =>
        refine ⟨a.eval y, ?_, opd_sim T h⟩
        unfold execOp; rw [hop]
        simp [hcv, asBool]
    · cases h
  · rename_i x hop
    split at h
    · rename_i ad hx
      simp only [Option.some.injEq] at h
      subst h
      obtain ⟨ad', h1, h2⟩ := opd_ptr T hx
      refine ⟨a.eval x, ?_, opd_sim T hx⟩
      unfold execOp; rw [hop]; simp only [h1]; rfl
    · rename_i f p q hx
      simp only [Option.some.injEq] at h
      subst h
      have h1 := opd_sim T hx
      refine ⟨a.eval x, ?_, h1⟩
      generalize hy : a.eval x = y at h1 ⊢
      cases h1 with | one h1 => cases h1 with | one h2 => cases h2 with | fn f h3 =>
      unfold execOp; rw [hop]; simp only [hy]; rfl
    · cases h
  · rename_i op t x y ty hop
    split at h
    · rename_i u v1 hx hy
      split at h
      · rename_i b hn
        simp only [Option.some.injEq] at h
        subst h
        refine ⟨.bool b, ?_, .one (.one (.bool b))⟩
        have := equalIn_nil hn (opd_sim T hx) (opd_sim T hy) x y w
        unfold execOp; rw [hop]
        simp only [Sem.run_bind] at this ⊢
        simp only [this, Result.andThen_ok, Sem.run_pure]
      · exact runC_sim T (by intro cs b; rw [hop]; simp) h w
    · cases h
  · rename_i hop
    exact runC_sim T (by intro cs b; rw [hop]; simp) h w
  · rename_i hop
    exact runC_sim T (by intro cs b; rw [hop]; simp) h w
  · rename_i f first captured hop
    split at h
    · rename_i hfi
      split at h
      · rename_i cs hcs
        simp only [Option.some.injEq] at h
        subst h
        obtain ⟨cs', h1, h2⟩ := ptrs_sim T _ _ hcs
        refine ⟨.func (.func f) #[] (cs'.map ptrV).toArray, ?_, .one (.one (.fn f h2))⟩
        have e1 : first.map a.eval = #[] := by
          have : first = #[] := by simpa using hfi
          simp [this]
        have e2 : captured.map a.eval = (cs'.map ptrV).toArray := by
          apply Array.ext'
          simpa using h1
        unfold execOp; rw [hop]
        simp only [e1, e2, Instr.makeFunc, Sem.run_bind, Sem.run_pure, Result.andThen_ok]
      · cases h
    · cases h
  · rename_i x i hop
    split at h
    · rename_i vs hx
      obtain ⟨ds, h1, h2⟩ := opd_tup T hx
      obtain ⟨v', h3, h4⟩ := h2.get i v h
      refine ⟨v', ?_, .one h4⟩
      unfold execOp; rw [hop]
      simp [h1, Instr.extract, h3]
    · cases h
  · rename_i t x f hop
    split at h
    · rename_i cs hx
      obtain ⟨ds, h1, h2⟩ := opd_agg T hx
      obtain ⟨v', h3, h4⟩ := field_sim h2 h w
      refine ⟨v', ?_, .one h4⟩
      unfold execOp; rw [hop]
      simp only [h1, Sem.run_bind, h3, Result.andThen_ok, Sem.run_pure]
    · cases h
  · rename_i t x i hop
    split at h
    · rename_i cs k n hx hi
      obtain ⟨ds, h1, h2⟩ := opd_agg T hx
      obtain ⟨v', h3, h4⟩ := index_sim (k := k) h2 h w
      refine ⟨v', ?_, .one h4⟩
      unfold execOp; rw [hop]
      simp only [h1, opd_int T hi, Sem.run_bind, h3, Result.andThen_ok, Sem.run_pure]
    · exact runC_sim T (by intro cs b; rw [hop]; simp) h w
  · rename_i t parts hop
    split at h
    · rename_i z pl ps hp hps
      split at h
      · rename_i r hr
        simp only [Option.some.injEq] at h
        subst h
        obtain ⟨r', h1, h2⟩ := build_sim hp (pvals_sim T _ _ hps) hr w
        refine ⟨.agg r'.toArray, ?_, .one (.agg (xs := r.toList) h2)⟩
        have e1 : (parts.map fun (x : Nat × Operand) => (x.1, a.eval x.2)) = (parts.toList.map fun (x : Nat × Operand) => (x.1, a.eval x.2)).toArray := by
          apply Array.ext'
          simp
        unfold execOp; rw [hop]
        simp only [e1]
        simp only [Sem.run_bind, h1, Result.andThen_ok, Sem.run_pure]
      · cases h
    · cases h
  · rename_i t x f hop
    split at h
    · rename_i b of hx
      obtain ⟨ad', h1, h2⟩ := opd_ptr T hx
      obtain ⟨v', h3, h4⟩ := fieldAddr_sim h2 h w
      refine ⟨v', ?_, .one (.one h4)⟩
      unfold execOp; rw [hop]
      simp only [h1, Sem.run_bind, h3, Result.andThen_ok, Sem.run_pure]
    · cases h
  · rename_i t x i hop
    split at h
    · rename_i u k n hx hi
      obtain ⟨v', h3, h4⟩ := indexAddr_sim (k := k) (opd_sim T hx) h w
      refine ⟨v', ?_, .one (.one h4)⟩
      unfold execOp; rw [hop]
      simp only [opd_int T hi, Sem.run_bind, h3, Result.andThen_ok, Sem.run_pure]
    · cases h
  · rename_i hop
    exact runC_sim T (by intro cs b; rw [hop]; simp) h w
  · rename_i c hop
    split at h
    · rename_i x t hcal hargs htys
      split at h
      · rename_i A l cp hx
        unfold lenE at h
        split at h
        · rename_i e hd
          simp only [Option.some.injEq] at h
          subst h
          refine ⟨.int .i64 l, ?_, .one (.one (.int _ _))⟩
          have e1 : c.args = #[x] := Array.ext' hargs
          have e2 : c.argTypes = #[t] := Array.ext' htys
          have h1 : ∃ A' cp', a.eval x = .slice A' l cp' := by
            rcases opd_slice T hx with ⟨_, h1⟩ | ⟨_, _, _, _, h1, _⟩ <;> exact ⟨_, _, h1⟩
          obtain ⟨A', cp', h1⟩ := h1
          unfold execOp; rw [hop]
          simp [resolve, hcal, e1, e2, h1, invoke, builtin, Builtin.len_, run_underlying hd, goInt]
        · cases h
      · exact runC_sim T (by intro cs b; rw [hop]; simp) h w
    · exact runC_sim T (by intro cs b; rw [hop]; simp) h w
    · exact runC_sim T (by intro cs b; rw [hop]; simp) h w
    · cases h
  · cases h
end
end Go.Proofs.Ytbonmmpdpahhfaa.Can
