/- The engine, third part: operations that read no memory. No law, no condition. -/
import Derived.Test.YtbonmmpdpahhfaaCan2
import Derived.Orders
namespace Go.Proofs.Ytbonmmpdpahhfaa.Can
open Go.RowKit
set_option linter.unusedVariables false
set_option linter.unusedSimpArgs false

/-- what asks nothing of the world -/
def runP (P : Program) {α : Type} : Sem α → Option α
  | .pure a => some a
  | .program k => runP P (k P)
  | .mark _ k => runP P k
  | _ => none
theorem runP_run {P : Program} {α : Type} : ∀ (s : Sem α) (a : α), runP P s = some a → ∀ w, s.run P w = .ok a w := by
  intro s
  induction s with
  | pure a => intro b h w; simp only [runP, Option.some.injEq] at h; subst h; rfl
  | program k ih => intro b h w; simp only [runP] at h; simp only [Sem.run]; exact ih P b h w
  | mark m k ih => intro b h w; simp only [runP] at h; simp only [Sem.run]; exact ih b h w
  | _ => intro b h; simp [runP] at h

def unk : Value := .tuple #[.tuple #[]]
abbrev Tm := List (Nat × Value)
def tget : Tm → Nat → Value
  | [], _ => unk
  | (k, v) :: r, t => bif Nat.beq k t then v else tget r t
def known : Value → Bool
  | .tuple cs => match cs.toList with | [_] => false | _ => true
  | _ => true
def opd (ts : Tm) : Operand → Option Value
  | .tmp t => bif known (tget ts t) then some (tget ts t) else none
  | .const v => bif closed v then some v else none
  | .func f => some (.func (.func f) #[] #[])
  | .global _ => none
def TR (N0 : Nat) (ρ : Rho) (ts : Tm) (tmps : Array Value) : Prop := ∀ t, known (tget ts t) = true → VR N0 ρ (tget ts t) (tmps.getD t undef)
theorem TR.mono {N0 : Nat} {ρ ρ' : Rho} {ts : Tm} {tmps : Array Value} (h : TR N0 ρ ts tmps) (e : Ext ρ ρ') : TR N0 ρ' ts tmps := fun t ht => (h t ht).mono e
theorem opd_sim {N0 : Nat} {ρ : Rho} {ts : Tm} {a : Act} (T : TR N0 ρ ts a.tmps) {x : Operand} {v : Value} (h : opd ts x = some v) : VR N0 ρ v (a.eval x) := by
  cases x with
  | tmp t =>
    simp only [opd] at h
    cases hk : known (tget ts t) with
    | false => rw [hk] at h; cases h
    | true =>
      rw [hk] at h
      simp only [cond_true, Option.some.injEq] at h
      subst h
      exact T t hk
  | const u =>
    simp only [opd] at h
    cases hk : closed u with
    | false => rw [hk] at h; cases h
    | true =>
      rw [hk] at h
      simp only [cond_true, Option.some.injEq] at h
      subst h
      exact .one (VR1.of_closed hk)
  | func f =>
    simp only [opd, Option.some.injEq] at h
    subst h
    exact .one (.one (.fn f (cs := []) (cs' := []) .nil))
  | global g => cases h
theorem opd_closed {N0 : Nat} {ρ : Rho} {ts : Tm} {a : Act} (T : TR N0 ρ ts a.tmps) {x : Operand} {v : Value} (h : opd ts x = some v) (hc : closed v = true) : a.eval x = v := (opd_sim T h).closed_eq hc
section
variable {P : Program} {N0 : Nat} {ρ : Rho} {ts : Tm} {a : Act} {o : Oper} {w : World}
theorem opd_ptr (T : TR N0 ρ ts a.tmps) {x : Operand} {ad : Addr} (h : opd ts x = some (.pointer (some ad))) : ∃ ad', a.eval x = .pointer (some ad') ∧ AR ρ ad ad' := by
  have := opd_sim T h
  generalize a.eval x = y at this ⊢
  cases this with
  | one h1 => cases h1 with | one h2 => cases h2 with | ptr h3 => exact ⟨_, rfl, h3⟩
theorem opd_int (T : TR N0 ρ ts a.tmps) {x : Operand} {k : IntKind} {n : Int} (h : opd ts x = some (.int k n)) : a.eval x = .int k n := opd_closed T h rfl
theorem opd_bool (T : TR N0 ρ ts a.tmps) {x : Operand} {b : Bool} (h : opd ts x = some (.bool b)) : a.eval x = .bool b := opd_closed T h rfl
theorem opd_str (T : TR N0 ρ ts a.tmps) {x : Operand} {s : ByteArray} (h : opd ts x = some (.string s)) : a.eval x = .string s := opd_closed T h rfl
theorem opd_slice (T : TR N0 ρ ts a.tmps) {x : Operand} {A : Option Addr} {l cp : Nat} (h : opd ts x = some (.slice A l cp)) :
    (A = none ∧ a.eval x = .slice none l cp) ∨ ∃ ad ad' cp', A = some ad ∧ a.eval x = .slice (some ad') l cp' ∧ SlR N0 ρ ad l cp ad' cp' := by
  have := opd_sim T h
  generalize a.eval x = y at this ⊢
  cases this with
  | one h1 => cases h1 with | one h2 => cases h2 with
    | nils l cp => exact .inl ⟨rfl, rfl⟩
    | sl h3 => exact .inr ⟨_, _, _, rfl, rfl, h3⟩
theorem opd_agg (T : TR N0 ρ ts a.tmps) {x : Operand} {cs : Array Value} (h : opd ts x = some (.agg cs)) : ∃ ds : List Value, a.eval x = .agg ds.toArray ∧ F2 (CR N0 ρ) cs.toList ds := by
  have := opd_sim T h
  generalize a.eval x = y at this ⊢
  cases this with
  | one h1 => cases h1 with
    | one h2 => cases h2
    | agg h2 => exact ⟨_, rfl, h2⟩
theorem opd_one (T : TR N0 ρ ts a.tmps) {x : Operand} {v : Value} (h : opd ts x = some v) (hn : ∀ cs, v ≠ .tuple cs) : VR1 N0 ρ v (a.eval x) := by
  have := opd_sim T h
  generalize a.eval x = y at this ⊢
  cases this with
  | one h1 => exact h1
  | tup h1 => exact absurd rfl (hn _)

def isAggD : TypeDesc → Bool
  | .struct _ | .array _ _ => true
  | _ => false
def partE (P : Program) (t : TypeId) (cs : List Value) (off : Nat) : Option Value :=
  match P.info? t, P.underlying t with
  | some i, some d => bif isAggD d then some (.agg ((cs.drop off).take i.size).toArray) else cs[off]?
  | _, _ => none
theorem F2.drop {α β : Type} {R : α → β → Prop} : ∀ {l : List α} {m : List β} (n : Nat), F2 R l m → F2 R (l.drop n) (m.drop n)
  | _, _, 0, h => h
  | _, _, n + 1, .nil => .nil
  | _, _, n + 1, .cons _ t => t.drop n
theorem F2.take {α β : Type} {R : α → β → Prop} : ∀ {l : List α} {m : List β} (n : Nat), F2 R l m → F2 R (l.take n) (m.take n)
  | _, _, 0, h => .nil
  | _, _, n + 1, .nil => .nil
  | _, _, n + 1, .cons h t => .cons h (t.take n)
theorem isAgg_run {t : TypeId} {d : TypeDesc} (h : P.underlying t = some d) (w : World) : (isAgg t).run P w = .ok (isAggD d) w := by
  unfold isAgg
  rw [Sem.run_bind, run_underlying h w]
  cases d <;> rfl
theorem sizeOf_run {t : TypeId} {i : TypeInfo} (h : P.info? t = some i) (w : World) : (sizeOf t).run P w = .ok i.size w := by
  simp [sizeOf, typeInfo, Sem.run_bind, h]
theorem part_sim {t : TypeId} {xs ys : List Value} {off : Nat} {v : Value} (hf : F2 (CR N0 ρ) xs ys) (h : partE P t xs off = some v) (w : World) : ∃ v', (part t ys.toArray off).run P w = .ok v' w ∧ VR1 N0 ρ v v' := by
  unfold partE at h
  split at h
  · rename_i i d hi hd
    cases hb : isAggD d with
    | true =>
      rw [hb] at h
      simp only [cond_true, Option.some.injEq] at h
      subst h
      refine ⟨.agg ((ys.drop off).take i.size).toArray, ?_, .agg ((hf.drop off).take i.size)⟩
      unfold part
      rw [Sem.run_bind, isAgg_run hd w, hb]
      simp only [Result.andThen_ok, if_true, Sem.run_bind, sizeOf_run hi w, Sem.run_pure]
      congr 2
      apply Array.ext'
      simp
    | false =>
      rw [hb] at h
      simp only [cond_false] at h
      obtain ⟨v', h1, h2⟩ := hf.get off v h
      refine ⟨v', ?_, .one h2⟩
      unfold part
      rw [Sem.run_bind, isAgg_run hd w, hb]
      simp [h1]
  · cases h

/-! ### the operations, one by one -/
def nilEq (P : Program) (op : BinOp) (t : TypeId) (x y : Value) : Option Bool :=
  match P.underlying t, x, y with
  | some (.pointer _), .pointer (some _), .pointer none | some (.slice _), .slice (some _) _ _, .slice none _ _ | some (.func _ _ _), .func _ _ _, .nilFunc =>
    match op with | .eql => some false | .neq => some true | _ => none
  | _, _, _ => none
theorem eqIn_ptr (d : Nat) {t e : TypeId} (hu : P.underlying t = some (.pointer e)) (p : Addr) (w : World) : (Op.equalIn (d + 1) t (.pointer (some p)) (.pointer none)).run P w = .ok false w := by
  simp only [Op.equalIn, Sem.run_bind, run_underlying hu, Result.andThen_ok, Sem.run_pure]
theorem eqIn_sl (d : Nat) {t e : TypeId} (hu : P.underlying t = some (.slice e)) (p : Addr) (l c l2 c2 : Nat) (w : World) : (Op.equalIn (d + 1) t (.slice (some p) l c) (.slice none l2 c2)).run P w = .ok false w := by
  simp only [Op.equalIn, Sem.run_bind, run_underlying hu, Result.andThen_ok, Sem.run_pure]
theorem eqIn_fn (d : Nat) {t : TypeId} {ps rs : Array TypeId} {b : Bool} (hu : P.underlying t = some (.func ps rs b)) (f : Fn) (x y : Array Value) (w : World) : (Op.equalIn (d + 1) t (.func f x y) .nilFunc).run P w = .ok false w := by
  simp only [Op.equalIn, Sem.run_bind, run_underlying hu, Result.andThen_ok, Sem.run_pure]
theorem eq_end {t : TypeId} {op : BinOp} {x y : Value} {b : Bool} (hop : (match op with | .eql => some false | .neq => some true | _ => none) = some b) (hq : ∀ w, (Op.equalIn (9999 + 1) t x y).run P w = .ok false w)
    (hb1 : binOp .eql t x y = (do pure (.bool (← Op.equal t x y)))) (hb2 : binOp .neq t x y = (do pure (.bool (!(← Op.equal t x y))))) (ox oy : Operand)
    (hg : ∀ op' w, (eqGuard op' t ox oy x y).run P w = .ok () w) (w : World) :
    (do eqGuard op t ox oy x y; binOp op t x y : Sem Value).run P w = .ok (.bool b) w := by
  have he : ∀ w, (Op.equal t x y).run P w = .ok false w := hq
  rw [Sem.run_bind, hg, Result.andThen_ok]
  cases op <;> simp only [reduceCtorEq, Option.some.injEq] at hop <;> subst hop
  · rw [hb1]
    simp [he]
  · rw [hb2]
    simp [he]
theorem equalIn_nil {t : TypeId} {op : BinOp} {x y x' y' : Value} {b : Bool} (h : nilEq P op t x y = some b) (hx : VR N0 ρ x x') (hy : VR N0 ρ y y') (ox oy : Operand) (w : World) :
    (do eqGuard op t ox oy x' y'; binOp op t x' y' : Sem Value).run P w = .ok (.bool b) w := by
  unfold nilEq at h
  split at h
  · rename_i e p hu
    have h2 := hy.closed_eq rfl
    subst h2
    cases hx with | one h1 => cases h1 with | one h2 => cases h2 with | ptr h3 =>
    exact eq_end h (fun w => eqIn_ptr 9999 hu _ w) rfl rfl ox oy (fun op' w => by cases op' <;> rfl) w
  · rename_i e p l c l2 c2 hu
    have h2 := hy.closed_eq rfl
    subst h2
    cases hx with | one h1 => cases h1 with | one h2 => cases h2 with | sl h3 =>
    exact eq_end h (fun w => eqIn_sl 9999 hu _ _ _ _ _ w) rfl rfl ox oy (fun op' w => by cases op' <;> rfl) w
  · rename_i hu
    have h2 := hy.closed_eq rfl
    subst h2
    cases hx with | one h1 => cases h1 with | one h2 => cases h2 with | fn f h3 =>
    exact eq_end h (fun w => eqIn_fn 9999 hu _ _ _ w) rfl rfl ox oy (fun op' w => by cases op' <;> rfl) w
  · cases h
end
end Go.Proofs.Ytbonmmpdpahhfaa.Can
