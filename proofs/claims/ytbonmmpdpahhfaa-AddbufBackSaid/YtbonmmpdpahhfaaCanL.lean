/- The engine: calls without addresses are run once, in the empty world. No law, no condition. -/
import Derived.Test.YtbonmmpdpahhfaaCanK
namespace Go.Proofs.Ytbonmmpdpahhfaa.Can
open Go.RowKit
set_option linter.unusedVariables false
set_option linter.unusedSimpArgs false
def W0 : World := { heap := #[], tape := fun _ _ => 0, drawn := 0, os := default, output := #[] }
def emp (w : World) : World := { w with heap := #[] }
theorem rel_emp (P : Program) (c w : World) (hc : c.heap.size = 0) : Rel P 0 (emp w) (fun _ => none) c w := by
  refine ⟨⟨rfl, ⟨rfl, rfl, rfl, by show 0 ≤ _; omega, fun k hk => by omega⟩, fun b hb => by omega, fun b hb => by omega, ?_, ?_, ?_⟩, fun b hb => absurd rfl hb, by omega⟩
  · intro b B O n X sz hb h; cases h
  · intro b h; cases h
  · intro b b' B O n X sz O' n' X' sz' hb hb' h; cases h
theorem st_below {c c' w w' : World} {ρ' : Rho} {P : Program} (hc : c.heap.size = 0) (R : Rel P 0 (emp w) ρ' c' w') (h : St (fun _ => none) c w ρ' c' w') : Below w.heap.size w w' :=
  ⟨R.k.wb.os, R.k.wb.tape, R.k.wb.output, h.ws, fun k hk => by
    rcases h.frame k hk with h | ⟨b, hb, _⟩
    · exact h
    · omega⟩
theorem f2_closed {N0 : Nat} {ρ : Rho} : ∀ {xs : List Value}, xs.all closed = true → F2 (VR N0 ρ) xs xs
  | [], _ => .nil
  | x :: xs, h => by
    simp only [List.all_cons, Bool.and_eq_true] at h
    exact .cons (.one (.of_closed h.1)) (f2_closed h.2)
theorem calls_of_empty {P : Program} {G : Glob} (g : ∀ w0 : World, w0.heap = #[] → GOk P 0 w0 G) {n : Nat} {f : FuncId} {args : List Value} {v : Value} {c c' : World} (hc : c.heap.size = 0)
    (h : evFun P 0 G n f args c = some (v, c')) (hargs : args.all closed = true) (hv : closed v = true) (w : World) : Calls P f args.toArray w fun e w' => e = .returned v ∧ Below w.heap.size w w' := by
  obtain ⟨_, hcl⟩ := evFun_sim (g (emp w) rfl) n f args c v c' h
  refine Calls.mono (hcl _ w args (rel_emp P c w hc) (f2_closed hargs)) ?_
  rintro e w' ⟨v', ρ', rfl, h1, h2, h3⟩
  exact ⟨by rw [h2.closed_eq hv], st_below hc h1 h3⟩
/-- the part of 'GOk' that asks nothing of the world -/
theorem gok_of (P : Program) (G : Glob) (N0 : Nat) (w0 : World) (hm : P.follows .mixedOrders = true) (he : ∀ f, G.ext f = none)
    (hc : ∀ f F, G.code f = some F → (∃ fn, P.funcs[f]? = some fn ∧ fn.body = some F.body ∧ fn.ntmps = F.nt ∧ fn.results = F.results.toArray) ∧ ∀ (xs : Array Value) (W : World), (callFunc f xs).run P W = .ok (.enter f xs) W) : GOk P N0 w0 G :=
  ⟨hm, hc, fun f args c v c' h => by simp only [he f] at h; cases h⟩
/-- all the functions of the program, no contract -/
def globOf (P : Program) (keep : Nat → List Nat) : Glob where
  ext := fun _ => none
  code := fun f => match P.funcs[f]? with
    | some fn => match fn.body with
      | some b => some ⟨b, fn.ntmps, fn.results.toList, keep⟩
      | none => none
    | none => none
def noNum (P : Program) : Bool := P.funcs.toList.all fun fn => !(fn.name == "runtime.NumGoroutine")
theorem code_of {P : Program} (hn : noNum P = true) {keep : Nat → List Nat} (f : FuncId) (F : FD) (h : (globOf P keep).code f = some F) :
    (∃ fn, P.funcs[f]? = some fn ∧ fn.body = some F.body ∧ fn.ntmps = F.nt ∧ fn.results = F.results.toArray) ∧ ∀ (xs : Array Value) (W : World), (callFunc f xs).run P W = .ok (.enter f xs) W := by
  simp only [globOf] at h
  cases hf : P.funcs[f]? with
  | none => rw [hf] at h; cases h
  | some fn =>
    rw [hf] at h
    simp only at h
    cases hb : fn.body with
    | none => rw [hb] at h; cases h
    | some b =>
      rw [hb] at h
      simp only [Option.some.injEq] at h
      subst h
      have hm : fn ∈ P.funcs.toList := by
        obtain ⟨h1, h2⟩ := Array.getElem?_eq_some_iff.1 hf
        rw [← h2]
        exact Array.getElem_mem_toList _
      have hq := List.all_eq_true.1 hn fn hm
      have hq : (fn.name == "runtime.NumGoroutine") = false := by simpa using hq
      refine ⟨⟨fn, rfl, hb, rfl, by simp⟩, fun xs W => ?_⟩
      simp [callFunc, go_sem, hf, hb]
      simpa using hq
theorem gok_glob {P : Program} (hm : P.follows .mixedOrders = true) (hn : noNum P = true) (keep : Nat → List Nat) (N0 : Nat) (w0 : World) : GOk P N0 w0 (globOf P keep) :=
  gok_of P _ N0 w0 hm (fun _ => rfl) (code_of hn)
end Go.Proofs.Ytbonmmpdpahhfaa.Can
