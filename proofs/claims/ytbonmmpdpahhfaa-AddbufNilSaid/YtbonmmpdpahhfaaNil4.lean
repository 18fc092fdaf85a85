/- The law AddbufNil: the contract of its function. No law, no condition. -/
import Derived.Test.YtbonmmpdpahhfaaNil3
import Derived.WideShapes
namespace Go.Proofs.Ytbonmmpdpahhfaa.Can
open Go.RowKit
set_option maxRecDepth 100000
set_option linter.unusedSimpArgs false
theorem nil_row (A : Option Addr) (l cp : Nat) (a b c : Int) (w : World) (hA : ∀ ad, A = some ad → ad.spot = none) : Calls Try.prog 5 #[.slice A l cp, .agg #[.int .i64 a, .int .i64 b, .int .i64 c]] w fun e w' => e = .returned (.bool true) ∧ Below w.heap.size w w' := by
  have hrel : F2 (VR 0 rho1) [.slice (A.map fun _ => ⟨0, 0, none⟩) l cp, .agg #[.int .i64 a, .int .i64 b, .int .i64 c]] [.slice A l cp, .agg #[.int .i64 a, .int .i64 b, .int .i64 c]] := by
    refine .cons ?_ (.cons (.one (.of_closed rfl)) .nil)
    cases A with
    | none => exact .one (.of_closed rfl)
    | some ad => exact dead_slice (hA ad rfl) l cp cp
  by_cases h : Emp a b c
  · obtain ⟨h1, rfl, rfl⟩ := h
    exact calls_of_deadK (fun w0 _ => gokL 0 w0) (nil_yes _ a l cp 0 h1) hrel rfl w
  · refine calls_of_deadK (fun w0 _ => gokL 0 w0) (nil_no _ a b c l cp 0 _ _ _ _ (by simp [h]) rfl rfl rfl rfl ?_) hrel rfl w
    unfold Emp at h
    simp only [Bool.and_eq_false_imp, Bool.or_eq_true, beq_iff_eq, beq_eq_false_iff_ne]
    intro h1
    omega
theorem spot_of {P : Program} {w : World} {r : Reach} {base : Nat} {t e : TypeId} {A : Option Addr} {l cp : Nat} (ht : P.underlying t = some (.slice e)) (h : Value.okWide P w r base t (.slice A l cp)) : ∀ ad, A = some ad → ad.spot = none := by
  rintro ad rfl
  simp only [Value.okWide, ht, Cell.okWide, Cell.ok] at h
  exact h.2.2.2.1
end Go.Proofs.Ytbonmmpdpahhfaa.Can
