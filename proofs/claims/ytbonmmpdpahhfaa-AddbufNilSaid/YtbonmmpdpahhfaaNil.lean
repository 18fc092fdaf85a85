/- The law AddbufNil: what is run with a nil buffer. No law, no condition. -/
import Derived.Test.YtbonmmpdpahhfaaEnD
import Derived.Test.YtbonmmpdpahhfaaAwake
import Derived.Test.YtbonmmpdpahhfaaBkPure
namespace Go.Proofs.Ytbonmmpdpahhfaa.Can
open Go.RowKit
set_option maxRecDepth 100000
def sndF : List Value → Option Value
  | [.agg cs] => match cs.toList with
    | [.int .i64 a, .int .i64 b, .int .i64 c] => some (.bool (decide (Pure.Snd a b c)))
    | _ => none
  | _ => none
def fsN (f : FuncId) : Option (List Value → Option Value) := match f with
  | 25 => some sndF
  | 12 => some fun args => match args with
    | [] => some (.bool true)
    | _ => none
  | _ => none
noncomputable def glN : Glob := globE Try.prog (fun _ => List.range 300) fsN
theorem evFun_ext {P : Program} {N0 : Nat} {G : Glob} {n : Nat} {f : FuncId} {args : List Value} {c : World} {F : List Value → World → Option (Value × World)} {r : Value × World} (hF : G.ext f = some F) (h : F args c = some r) : evFun P N0 G (n + 1) f args c = some r := by
  simp only [evFun, hF]
  exact h
theorem holds_no (a b c : Int) (n : Nat) (h : decide (Pure.Snd a b c) = false) : evFunK (R := Value) Try.prog 0 glN (n + 2) 17 [.pointer none, .agg #[.int .i64 a, .int .i64 b, .int .i64 c]] W0 (fun v _ => some v) = some (.bool false) := by
  have h1 : decide (decide (Pure.Snd a b c) = true) = false := by rw [h]; rfl
  kwalk [h, h1]
theorem wrap_i64 {x : Int} (h0 : 0 ≤ x) (h1 : x ≤ 4611686018427387904) : IntKind.i64.wrap x = x := by
  unfold IntKind.wrap
  have e : x % (2 ^ IntKind.i64.bits : Int) = x := by
    show x % (2 ^ 64 : Int) = x
    omega
  simp only [e]
  split
  · rename_i h
    have h2 : (2 : Int) ^ (IntKind.i64.bits - 1) = 9223372036854775808 := rfl
    simp only [h2, Bool.and_eq_true, decide_eq_true_eq] at h
    omega
  · rfl
theorem holds_yes (a b c : Int) (n : Nat) (h : Pure.Snd a b c) : evFunK (R := Value) Try.prog 0 glN (n + 2) 17 [.pointer none, .agg #[.int .i64 a, .int .i64 b, .int .i64 c]] W0 (fun v _ => some v) = some (.bool (decide (b + c ≤ 0))) := by
  have h0 : decide (Pure.Snd a b c) = true := by simp [h]
  have h1 : decide (decide (Pure.Snd a b c) = true) = true := by rw [h0]; rfl
  have h2 : IntKind.i64.wrap (b + c) = b + c := by unfold Pure.Snd at h; exact wrap_i64 (by omega) (by omega)
  kwalk [h0, h1, h2]

theorem enters {f : FuncId} (h : (gl.code f).isSome = true) (xs : Array Value) (W : World) : (callFunc f xs).run Try.prog W = .ok (.enter f xs) W := by
  cases hF : gl.code f with
  | none => rw [hF] at h; cases h
  | some F => exact (code_of noNum_prog f F hF).2 xs W
theorem sndF_calls {args : List Value} {v : Value} (h : sndF args = some v) (w : World) : Calls Try.prog 25 args.toArray w fun e w' => e = .returned v ∧ Below w.heap.size w w' := by
  unfold sndF at h
  split at h
  · rename_i cs
    split at h
    · rename_i a b c hcs
      simp only [Option.some.injEq] at h
      subst h
      obtain rfl : cs = #[.int .i64 a, .int .i64 b, .int .i64 c] := Array.ext' hcs
      exact PBk.addbuf_sound.calls a b c _ w (Pure.sound_eq a b c)
    · cases h
  · cases h
theorem gokN (N0 : Nat) (w0 : World) : GOk Try.prog N0 w0 glN := by
  refine gok_ext (by kernel_rfl) noNum_prog _ fsN (fun f F hF => ?_) N0 w0
  unfold fsN at hF
  split at hF
  · simp only [Option.some.injEq] at hF
    subst hF
    exact ⟨enters (by kernel_rfl), fun args v h w => sndF_calls h w⟩
  · simp only [Option.some.injEq] at hF
    subst hF
    refine ⟨enters (by kernel_rfl), fun args v h w => ?_⟩
    simp only at h
    split at h
    · simp only [Option.some.injEq] at h
      subst h
      exact awake_calls w
    · cases h
  · cases hF
def Emp (a b c : Int) : Prop := (a = 0 ∨ a = 1) ∧ b = 0 ∧ c = 0
instance (a b c : Int) : Decidable (Emp a b c) := by unfold Emp; infer_instance
theorem holds_nil (a b c : Int) (w : World) : Calls Try.prog 17 #[.pointer none, .agg #[.int .i64 a, .int .i64 b, .int .i64 c]] w fun e w' => e = .returned (.bool (decide (Emp a b c))) ∧ Below w.heap.size w w' := by
  by_cases h : Pure.Snd a b c
  · have e : decide (b + c ≤ 0) = decide (Emp a b c) := by
      refine decide_eq_decide.2 ?_
      unfold Pure.Snd at h
      unfold Emp
      omega
    rw [← e]
    exact calls_of_K (args := [.pointer none, .agg #[.int .i64 a, .int .i64 b, .int .i64 c]]) (fun w0 _ => gokN 0 w0) (holds_yes a b c 0 h) rfl rfl w
  · have e : decide (Emp a b c) = false := by
      refine decide_eq_false ?_
      unfold Pure.Snd at h
      unfold Emp
      omega
    rw [e]
    exact calls_of_K (args := [.pointer none, .agg #[.int .i64 a, .int .i64 b, .int .i64 c]]) (fun w0 _ => gokN 0 w0) (holds_no a b c 0 (by simp [h])) rfl rfl w
end Go.Proofs.Ytbonmmpdpahhfaa.Can
