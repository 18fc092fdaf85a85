/- awake() of layer 01, by the engine in the empty world. No law, no condition. -/
import Derived.Test.YtbonmmpdpahhfaaEnD
import Derived.Test.YtbonmmpdpahhfaaProg
namespace Go.Proofs.Ytbonmmpdpahhfaa.Can
open Go.RowKit
set_option maxRecDepth 100000
theorem noNum_prog : noNum Try.prog = true := by kernel_rfl
noncomputable def gl : Glob := globOf Try.prog fun _ => List.range 300
theorem gok (N0 : Nat) (w0 : World) : GOk Try.prog N0 w0 gl := gok_glob (by kernel_rfl) noNum_prog _ N0 w0
theorem awake_ev : (evFun Try.prog 0 gl 20 12 [] W0).map (fun r => r.1) = some (.bool true) := by kernel_rfl
theorem awake_calls (w : World) : Calls Try.prog 12 #[] w fun e w' => e = .returned (.bool true) ∧ Below w.heap.size w w' := by
  cases h : evFun Try.prog 0 gl 20 12 [] W0 with
  | none => have := awake_ev; rw [h] at this; cases this
  | some r =>
    obtain ⟨v, c'⟩ := r
    have hv := awake_ev
    rw [h] at hv
    simp only [Option.map_some, Option.some.injEq] at hv
    subst hv
    exact calls_of_empty (fun w0 _ => gok 0 w0) rfl h rfl rfl w

end Go.Proofs.Ytbonmmpdpahhfaa.Can
