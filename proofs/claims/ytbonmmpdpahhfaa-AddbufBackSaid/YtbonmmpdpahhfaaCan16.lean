/- The engine, sixteenth part: functions; the law's own call. No law, no condition. -/
import Derived.Test.YtbonmmpdpahhfaaCan15
namespace Go.Proofs.Ytbonmmpdpahhfaa.Can
open Go.RowKit
set_option linter.unusedVariables false
set_option linter.unusedSimpArgs false

structure FD where
  body : Code
  nt : Nat
  results : List ResultVar
  keep : Nat → List Nat
structure Glob where
  ext : FuncId → Option (List Value → World → Option (Value × World))
  code : FuncId → Option FD
def argT : Nat → List Value → Tm
  | _, [] => []
  | i, v :: r => (i, v) :: argT (i + 1) r
def resE (P : Program) (N0 : Nat) (κ : Kap) (ts : Tm) : ResultVar → Option Value
  | .tmp t => bif known (tget ts t) && !(isTup (tget ts t)) then some (tget ts t) else none
  | .cell t ty => match tget ts t with
    | .pointer (some ⟨b, o, none⟩) => loadE P N0 κ ty b o
    | _ => none
def resL (P : Program) (N0 : Nat) (κ : Kap) (ts : Tm) : List ResultVar → Option (List Value)
  | [] => some []
  | r :: rs => match resE P N0 κ ts r with
    | some v => match resL P N0 κ ts rs with
      | some l => some (v :: l)
      | none => none
    | none => none
def resV : List Value → Value
  | [v] => v
  | vs => .tuple vs.toArray
def evFun (P : Program) (N0 : Nat) (G : Glob) : Nat → CallE
  | 0 => fun _ _ _ => none
  | n + 1 => fun f args c => match G.ext f with
    | some F => F args c
    | none => match G.code f with
      | some F => bif Nat.ble args.length F.nt then (match evCode ⟨P, N0, evFun P N0 G n, n, F.nt, F.keep⟩ F.body (argT 0 args) c with
        | some (.exit _, _, _) => none
        | some (_, ts, c') => match resL P N0 (Kof c') ts F.results with
          | some vs => some (resV vs, c')
          | none => none
        | none => none) else none
      | none => none
structure GOk (P : Program) (N0 : Nat) (w0 : World) (G : Glob) : Prop where
  mixed : P.follows .mixedOrders = true
  code : ∀ f F, G.code f = some F → (∃ fn, P.funcs[f]? = some fn ∧ fn.body = some F.body ∧ fn.ntmps = F.nt ∧ fn.results = F.results.toArray) ∧ ∀ (xs : Array Value) (W : World), (callFunc f xs).run P W = .ok (.enter f xs) W
  ext : SoundC P N0 w0 fun f args c => match G.ext f with
    | some F => F args c
    | none => none
section
variable {P : Program} {N0 : Nat} {w0 : World} {ρ : Rho} {c c' w : World} {ts : Tm} {tmps : Array Value} {G : Glob}
theorem argT_get : ∀ (args : List Value) (i t : Nat), tget (argT i args) t = if i ≤ t ∧ t < i + args.length then args.getD (t - i) unk else unk
  | [], i, t => by simp only [argT, tget, List.length_nil]; split <;> rfl
  | v :: r, i, t => by
    simp only [argT, tget, List.length_cons]
    cases hq : Nat.beq i t with
    | true =>
      have := Nat.eq_of_beq_eq_true hq
      subst this
      rw [if_pos (by omega)]
      simp
    | false =>
      have hne : i ≠ t := fun e => by rw [e] at hq; simp at hq
      rw [cond_false, argT_get r (i + 1) t]
      by_cases h : i ≤ t ∧ t < i + (r.length + 1)
      · rw [if_pos h, if_pos (by omega)]
        obtain ⟨d, rfl⟩ : ∃ d, t = i + 1 + d := ⟨t - (i + 1), by omega⟩
        rw [show i + 1 + d - (i + 1) = d by omega, show i + 1 + d - i = d + 1 by omega]
        rfl
      · rw [if_neg h, if_neg (by omega)]
theorem argT_sim {args args' : List Value} (h : F2 (VR N0 ρ) args args') (m : Nat) : TR N0 ρ (argT 0 args) (args'.toArray ++ Array.replicate m undef) := by
  intro t ht
  rw [argT_get] at ht ⊢
  by_cases hlt : 0 ≤ t ∧ t < 0 + args.length
  · rw [if_pos hlt] at ht ⊢
    have hl := h.len
    obtain ⟨v', h1, h2⟩ := h.get t (args[t]'(by omega)) (by simp)
    have hlt0 : t < args.length := by omega
    have e1 : args.getD (t - 0) unk = args[t] := by simp [List.getD, hlt0]
    rw [e1]
    have e2 : (args'.toArray ++ Array.replicate m undef).getD t undef = v' := by
      have hlt' : t < args'.length := by omega
      rw [Array.getD_eq_getD_getElem?, Array.getElem?_append_left (by simpa using hlt')]
      simp [h1]
    rw [e2]
    exact h2
  · rw [if_neg hlt] at ht
    cases ht
theorem resE_sim (R : Rel P N0 w0 ρ c w) (T : TR N0 ρ ts tmps) :
    ∀ (rs : List ResultVar) (vs : List Value), resL P N0 (Kof c) ts rs = some vs → ∃ vs', F2 (VR1 N0 ρ) vs vs' ∧ ∀ (f : ResultVar → Sem Value), (∀ u, f (.tmp u) = pure (tmps.getD u undef)) → (∀ a t, f (.cell a t) = (do loadVar t (← asAddr (tmps.getD a undef)))) → (rs.mapM f).run P w = .ok vs' w
  | [], vs, h => by simp only [resL, Option.some.injEq] at h; subst h; exact ⟨[], .nil, fun f _ _ => by simp⟩
  | r :: rs, vs, h => by
    simp only [resL] at h
    split at h
    · rename_i v hv
      split at h
      · rename_i l hl
        simp only [Option.some.injEq] at h
        subst h
        obtain ⟨l', h2, h1⟩ := resE_sim R T rs l hl
        cases r with
        | tmp t =>
          simp only [resE] at hv
          obtain ⟨hk, hv⟩ := (show (known (tget ts t) && !(isTup (tget ts t))) = true ∧ _ from by
            cases hq : (known (tget ts t) && !(isTup (tget ts t))) with
            | true => rw [hq] at hv; exact ⟨rfl, hv⟩
            | false => rw [hq] at hv; cases hv)
          simp only [cond_true, Option.some.injEq] at hv
          subst hv
          simp only [Bool.and_eq_true, Bool.not_eq_true'] at hk
          have h3 := T t hk.1
          refine ⟨tmps.getD t undef :: l', .cons ?_ h2, fun f hf hc => by simp [List.mapM_cons, hf, h1 f hf hc]⟩
          generalize tget ts t = u at h3 hk ⊢
          generalize tmps.getD t undef = u' at h3 ⊢
          cases h3 with
          | one h4 => exact h4
          | tup h4 => simp [isTup] at hk
        | cell t ty =>
          simp only [resE] at hv
          split at hv
          · rename_i b of hb
            have h3 := T t (by rw [hb]; rfl)
            rw [hb] at h3
            generalize hu : tmps.getD t undef = u' at h3
            cases h3 with | one h4 => cases h4 with | one h5 => cases h5 with | ptr h6 =>
            obtain ⟨v', h7, h8⟩ := load_sim R.k h6 hv
            refine ⟨v' :: l', .cons h8 h2, fun f hf hc => ?_⟩
            rw [List.mapM_cons, hc, hu]
            simp [asAddr, h7, h1 f hf hc]
          · cases hv
      · cases h
    · cases h
theorem res_sim (R : Rel P N0 w0 ρ c w) (T : TR N0 ρ ts tmps) {fn : Func} {rs : List ResultVar} (hr : fn.results = rs.toArray) {vs : List Value} (h : resL P N0 (Kof c) ts rs = some vs) : ∃ v', (results fn tmps).run P w = .ok v' w ∧ VR N0 ρ (resV vs) v' := by
  obtain ⟨vs', h2, h1⟩ := resE_sim R T rs vs h
  have hrun : (results fn tmps).run P w = .ok (if h : vs'.toArray.size = 1 then vs'.toArray[0] else .tuple vs'.toArray) w := by
    unfold results
    rw [hr, List.mapM_toArray]
    simp only [Sem.run_bind, Sem.run_map]
    rw [h1 _ (by intro u; rfl) (by intro a t; rfl)]
    rfl
  refine ⟨_, hrun, ?_⟩
  cases h2 with
  | nil => exact .tup (xs := []) (ys := []) .nil
  | cons h3 h4 =>
    cases h4 with
    | nil => exact .one h3
    | cons h5 h6 =>
      have : ∀ (x y : Value) (l : List Value), ¬ ((x :: y :: l).toArray.size = 1) := fun x y l => by simp
      rw [dif_neg (this _ _ _)]
      exact .tup (.cons h3 (.cons h5 h6))
theorem evFun_sim (g : GOk P N0 w0 G) : ∀ n, SoundC P N0 w0 (evFun P N0 G n)
  | 0 => fun f args c v c' h => by cases h
  | n + 1 => fun f args c v c' h => by
    simp only [evFun] at h
    split at h
    · rename_i F hF
      exact g.ext f args c v c' (by simp only [hF]; exact h)
    · split at h
      · rename_i F hF
        obtain ⟨⟨fn, f1, f2, f3, f4⟩, hent⟩ := g.code f F hF
        refine ⟨hent, fun ρ w args' R hargs => ?_⟩
        obtain ⟨hle, h⟩ := (show Nat.ble args.length F.nt = true ∧ _ from by
          cases hq : Nat.ble args.length F.nt with
          | true => rw [hq] at h; exact ⟨rfl, h⟩
          | false => rw [hq] at h; cases h)
        simp only [cond_true] at h
        have hle := Nat.le_of_ble_eq_true hle
        have hl := hargs.len
        refine calls_of_wp f1 f2 ?_
        have hsz : (args'.toArray ++ Array.replicate (fn.ntmps - args'.toArray.size) undef).size = F.nt := by
          rw [f3]
          simp
          omega
        split at h
        · cases h
        · rename_i e ts c1 hne hcode
          split at h
          · rename_i vs hvs
            simp only [Option.some.injEq, Prod.mk.injEq] at h
            obtain ⟨rfl, rfl⟩ := h
            refine evCode_sim (X := ⟨P, N0, evFun P N0 G n, n, F.nt, F.keep⟩) g.mixed (evFun_sim g n) F.body _ _ _ _ _ hcode ρ _ w R (argT_sim hargs _) hsz _ ?_
            intro a' w' ρ' R' T' hs' hd' st'
            obtain ⟨v', h1, h2⟩ := res_sim R' T' f4 hvs
            cases e with
            | exit i => exact absurd rfl (hne i)
            | normal => exact ⟨hd', v', h1, v', ρ', rfl, R', h2, st'⟩
            | ret => exact ⟨hd', v', h1, v', ρ', rfl, R', h2, st'⟩
          · cases h
        · cases h
      · cases h
/-- what the canonical run of a call answers, the real one answers -/
theorem calls_of_ev (g : GOk P N0 w0 G) {n : Nat} {f : FuncId} {args : List Value} {v : Value} {c' : World} (hn : N0 = w0.heap.size) (h : evFun P N0 G n f args w0 = some (v, c'))
    (hargs : F2 (VR N0 (fun b => if b < N0 then some (.live b 0 0 0 0) else none)) args args) (hv : closed v = true) : Calls P f args.toArray w0 fun e w' => e = .returned v ∧ Below w0.heap.size w0 w' := by
  have hno : ∀ b, N0 ≤ b → (fun b => if b < N0 then some (Im.live b 0 0 0 0) else none : Rho) b = none := fun b hb => if_neg (by omega)
  have R : Rel P N0 w0 (fun b => if b < N0 then some (.live b 0 0 0 0) else none) w0 w0 := by
    refine ⟨⟨hn, Below.refl _ _, fun _ _ => rfl, fun b hb => if_pos hb, ?_, ?_, ?_⟩, ?_, by omega⟩
    · intro b B O n X sz hb h
      rw [if_neg (by omega)] at h
      cases h
    · intro b h
      by_cases hb : b < N0
      · simp only [if_pos hb] at h; cases h
      · simp only [if_neg hb] at h; cases h
    · intro b b' B O n X sz O' n' X' sz' hb hb' h
      rw [if_neg (by omega)] at h
      cases h
    · intro b hb
      by_cases hlt : b < N0
      · omega
      · exact absurd (if_neg hlt) hb
  obtain ⟨_, hc⟩ := evFun_sim g n f args w0 v c' h
  refine Calls.mono (hc _ w0 args R hargs) ?_
  rintro e w' ⟨v', ρ', rfl, h1, h2, h3⟩
  refine ⟨by rw [h2.closed_eq hv], ?_⟩
  rw [← hn]
  exact h1.k.wb
end
end Go.Proofs.Ytbonmmpdpahhfaa.Can
