/- The law AddbufNil: Read with a nil buffer. No law, no condition. -/
import Derived.Test.YtbonmmpdpahhfaaNil
namespace Go.Proofs.Ytbonmmpdpahhfaa.Can
open Go.RowKit
set_option maxRecDepth 100000
def holdsF : List Value → Option Value
  | [.pointer none, .agg cs] => match cs.toList with
    | [.int .i64 a, .int .i64 b, .int .i64 c] => some (.bool (decide (Emp a b c)))
    | _ => none
  | _ => none
def fsR (f : FuncId) : Option (List Value → Option Value) := match f with
  | 17 => some holdsF
  | 12 => some fun args => match args with
    | [] => some (.bool true)
    | _ => none
  | _ => none
noncomputable def glR : Glob := globE Try.prog (fun _ => List.range 300) fsR
theorem holdsF_calls {args : List Value} {v : Value} (h : holdsF args = some v) (w : World) : Calls Try.prog 17 args.toArray w fun e w' => e = .returned v ∧ Below w.heap.size w w' := by
  unfold holdsF at h
  split at h
  · rename_i cs
    split at h
    · rename_i a b c hcs
      simp only [Option.some.injEq] at h
      subst h
      obtain rfl : cs = #[.int .i64 a, .int .i64 b, .int .i64 c] := Array.ext' hcs
      exact holds_nil a b c w
    · cases h
  · cases h
theorem gokR (N0 : Nat) (w0 : World) : GOk Try.prog N0 w0 glR := by
  refine gok_ext (by kernel_rfl) noNum_prog _ fsR (fun f F hF => ?_) N0 w0
  unfold fsR at hF
  split at hF
  · simp only [Option.some.injEq] at hF
    subst hF
    exact ⟨enters (by kernel_rfl), fun args v h w => holdsF_calls h w⟩
  · simp only [Option.some.injEq] at hF
    subst hF
    refine ⟨enters (by kernel_rfl), fun args v h w => ?_⟩
    simp only at h
    split at h
    · simp only [Option.some.injEq] at h
      subst h
      exact awake_calls w
    · cases h
  · cases hF
theorem read_K (a b c : Int) (n : Nat) (E : Bool) (h : decide (Emp a b c) = E) : evFunK (R := Value) Try.prog 0 glR (n + 2) 15 [.pointer none, .agg #[.int .i64 a, .int .i64 b, .int .i64 c]] W0 (fun v _ => some v) = some (.tuple #[.slice none 0 0, .int .i64 (if E then 0 else 10)]) := by
  cases E with
  | true =>
    kwalk [h]
  | false => kwalk [h]
theorem read_nil (a b c : Int) (w : World) : Calls Try.prog 15 #[.pointer none, .agg #[.int .i64 a, .int .i64 b, .int .i64 c]] w fun e w' => e = .returned (.tuple #[.slice none 0 0, .int .i64 (if decide (Emp a b c) then 0 else 10)]) ∧ Below w.heap.size w w' :=
  calls_of_K (args := [.pointer none, .agg #[.int .i64 a, .int .i64 b, .int .i64 c]]) (fun w0 _ => gokR 0 w0) (read_K a b c 0 _ rfl) rfl rfl w
end Go.Proofs.Ytbonmmpdpahhfaa.Can
