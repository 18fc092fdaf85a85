/- The row of the law ShadeFinds, out of the theorem finds_row. No condition. -/
import Derived.Test.YtpjlgjhkdligfaaRows
import Derived.Test.YtpjlgjhkdligfaaOpenW
import Derived.Test.YtpjlgjhkdligfaaKSV
import Derived.WalkKit
import Derived.ProofKit
import Derived.OpenShut
import Derived.ShutString
import Derived.ChangeOld
import Derived.Below
import Derived.SizedLaws
import Derived.WideShapes
import Derived.Lib.SmallJoins
namespace Go.Proofs.Ytpjlgjhkdligfaa.shadeFinds
open Go.ChangeShapes Go.WideShapes Go.ChangeAt Go.RowKit Go.Joins Go.Proofs.Ytpjlgjhkdligfaa.Vg Go.Proofs.YtpjlgjhkdligfaaW.PrintWords
open Go.ChangeMaps (open_string shut_string)
set_option linter.unusedVariables false
theorem own : ownKnob Try.prog.godebug = none := by kernel_rfl
theorem laidOut : laidOutB Try.prog = true := by kernel_rfl
set_option maxRecDepth 100000 in
theorem lifted (os : Os) (started : os.Started) (H : Type) (enc : TypeId × Value → H) :
    ReturnsInHanded {} Try.checked os 6 .any (Rows.shadeFindsSpec.pre6 enc Try.prog Try.f6 Rows.shadeFindsRow.domain false) (Rows.shadeFindsSpec.post enc Try.prog Try.f6 false true false false) := by
  refine returnsInHanded_of_change_sized (C := Try.checked) own started (by kernel_rfl) Try.func6
    (ChangeSpec.witness6 (enc := enc) (C := Try.checked) false ⟨#[], #[.slice none 0 0, .int .i64 0], []⟩ 8 (by kernel_rfl) (by kernel_rfl) (by kernel_rfl) (by kernel_rfl)) ?_
  intro W base args ds gs before hval0 hW hcnd hsz0 _
  have hval : ∀ (j : Nat) t v, Try.f6.params[j]? = some t → args[j]? = some v → Value.okWide Try.prog W .any base t v := hval0
  have hW' := hW
  obtain ⟨p, q, hA0, hV, rfl, hfz, hnd⟩ := hW
  have hA : DataW.TrodAll enc Try.prog W 0 (fun _ => true) true Try.f6.params.toList args.toList ds p := hA0
  rw [Try.params6] at hA hval
  obtain ⟨v0, vs0, d0, ds0, p0, q0, hargs, rfl, rfl, h0, r0⟩ := trodAll_cons hA
  obtain ⟨v1, vs1, d1, ds1, p1, q1, rfl, rfl, rfl, h1, r1⟩ := trodAll_cons r0
  obtain ⟨rfl, rfl, rfl⟩ := trodAll_nil r1
  obtain rfl : args = #[v0, v1] := by cases args; simp_all
  obtain ⟨rfl, rfl⟩ := trodVars_none hV
  have k0 := h0
  have lt0 : ∀ x ∈ p0, x.block < W.heap.size := by obtain ⟨m, hm⟩ := k0; exact DataW.trod_lt m _ _ _ hm
  have hwt0 : ∀ n ∈ d0.weights Try.prog 28, n ≤ reachBytes := fun n hn => by
    have hn2 : n ∈ d0.weights Try.checked.prog 28 := hn
    have hall := List.all_eq_true.1 hsz0 n (by simp [Try.params6, DataW.weightsEach, hn2])
    simpa using hall
  obtain ⟨y0, hK0, hg0, hb0⟩ := OpensW.Reads.arg (OpensW.Reads.slice (d := (Kd.pair (Kd.pair (Kd.int .i64) (Kd.pair (Kd.int .i64) (Kd.int .i64))) (Kd.int .i64))) Try.underlying28 (by kernel_rfl) (OpensW.Reads.struct (d := (Kd.pair (Kd.pair (Kd.int .i64) (Kd.pair (Kd.int .i64) (Kd.int .i64))) (Kd.int .i64))) Try.underlying32 (by kernel_rfl) (OpensW.ReadsF.cons (by rfl) (OpensW.Reads.struct (d := (Kd.pair (Kd.int .i64) (Kd.pair (Kd.int .i64) (Kd.int .i64)))) Try.underlying30 (by kernel_rfl) (OpensW.ReadsF.cons (by rfl) (OpensW.Reads.int Try.underlying3 (by kernel_rfl)) (OpensW.ReadsF.cons (by rfl) (OpensW.Reads.int Try.underlying3 (by kernel_rfl)) (OpensW.ReadsF.last (by rfl) (OpensW.Reads.int Try.underlying3 (by kernel_rfl)))))) (OpensW.ReadsF.last (by rfl) (OpensW.Reads.int Try.underlying3 (by kernel_rfl)))))) k0 hwt0
  have hKK0 := hK0
  obtain ⟨a0, len0, cap0, hs0⟩ := okWide_slice Try.underlying28 (hval 0 28 v0 rfl rfl)
  obtain ⟨A0, c0, hq0, hc0, hr0⟩ := hK0
  obtain rfl : v0 = .slice A0 y0.length c0 := by
    subst hs0
    exact List.cons.inj hq0 |>.1
  have k1 := h1
  have lt1 : ∀ x ∈ p1, x.block < W.heap.size := by obtain ⟨m, hm⟩ := k1; exact DataW.trod_lt m _ _ _ hm
  have hwt1 : ∀ n ∈ d1.weights Try.prog 3, n ≤ reachBytes := fun n hn => by
    have hn2 : n ∈ d1.weights Try.checked.prog 3 := hn
    have hall := List.all_eq_true.1 hsz0 n (by simp [Try.params6, DataW.weightsEach, hn2])
    simpa using hall
  obtain ⟨y1, hK1, hg1, hb1⟩ := OpensW.Reads.arg (OpensW.Reads.int Try.underlying3 (by kernel_rfl)) k1 hwt1
  have hKK1 := hK1
  obtain ⟨n1, hs1⟩ := okWide_int Try.underlying3 (hval 1 3 v1 rfl rfl)
  obtain rfl : v1 = .int .i64 y1 := by
    subst hs1
    have hq : [_] = [_] := hK1
    exact List.cons.inj hq |>.1
  clear hA0 hval0
  refine (Vg.finds_row A0 c0 y0 y1 W hKK0 hKK1 hg0 hg1).mono ?_
  rintro e W' ⟨rfl, bel0⟩
  have bel : Below W.heap.size W W' := by first | exact bel0 | exact bel0.below
  exact ⟨_, rfl, _, _, _, [], _, [], hW', trodAll_mk1 (shut_bool Try.underlying4 _), (trodAll_cons_mk (Below.trod laidOut (by kernel_rfl) (of_decide_eq_true (by kernel_rfl)) k0 bel lt0) (trodAll_cons_mk (Below.trod laidOut (by kernel_rfl) (of_decide_eq_true (by kernel_rfl)) k1 bel lt1) trodAll_mk0)), rfl, bel.frame _, fun h => by cases h⟩
theorem over : Rows.shadeFindsRow.holds Try.pinned (OpenSpec.ofChange Rows.shadeFindsSpec) :=
  OpenClaim.holds_of_wide 6 Try.f6 rfl rfl rfl rfl rfl rfl rfl ⟨rfl, rfl, rfl, rfl, rfl⟩ rfl rfl rfl rfl rfl (by kernel_rfl) Try.func6 (by kernel_rfl)
    (of_decide_eq_true (by kernel_rfl)) (by unfold Func.isWrapper; first | (rw [if_pos (by decide +kernel)]; kernel_rfl) | (rw [if_neg (by decide +kernel)]; exact ⟨rfl, rfl⟩))
    (fun os started H enc _ => lifted os started H enc)
theorem proved : Rows.ShadeFindsSaid := over
#print axioms proved
end Go.Proofs.Ytpjlgjhkdligfaa.shadeFinds
namespace Go.Proofs.Ytpjlgjhkdligfaa
/-- The row, under a short name, for the claim. -/
theorem shadeFinds_holds : Rows.ShadeFindsSaid := shadeFinds.proved
end Go.Proofs.Ytpjlgjhkdligfaa
