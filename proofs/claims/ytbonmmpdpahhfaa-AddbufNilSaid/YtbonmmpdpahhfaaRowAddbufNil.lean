/- The row of the law AddbufNil, out of the pure theorem nil_row and the contract of the law's function. No condition. -/
import Derived.Test.YtbonmmpdpahhfaaRows
import Derived.Test.YtbonmmpdpahhfaaOpen
import Derived.Test.YtbonmmpdpahhfaaNbNl
import Derived.WalkKit
import Derived.ProofKit
import Derived.OpenShut
import Derived.ShutString
import Derived.ChangeOld
import Derived.Below
import Derived.SizedLaws
import Derived.WideShapes
import Derived.Lib.SmallJoins
namespace Go.Proofs.Ytbonmmpdpahhfaa.addbufNil
open Go.ChangeShapes Go.WideShapes Go.ChangeAt Go.RowKit Go.Joins Go.Proofs.Ytbonmmpdpahhfaa.Vg Go.Proofs.YtbonmmpdpahhfaaW.PrintWords
open Go.ChangeMaps (open_string shut_string)
set_option linter.unusedVariables false
theorem own : ownKnob Try.prog.godebug = none := by kernel_rfl
theorem laidOut : laidOutB Try.prog = true := by kernel_rfl
set_option maxRecDepth 100000 in
theorem lifted (os : Os) (started : os.Started) (H : Type) (enc : TypeId × Value → H) :
    ReturnsInHanded {} Try.checked os 5 .any (Rows.addbufNilSpec.pre6 enc Try.prog Try.f5 Rows.addbufNilRow.domain false) (Rows.addbufNilSpec.post enc Try.prog Try.f5 false true false false) := by
  refine returnsInHanded_of_change_sized (C := Try.checked) own started (by kernel_rfl) Try.func5
    (ChangeSpec.witness6 (enc := enc) (C := Try.checked) false ⟨#[], #[.slice none 0 0, .agg #[.int .i64 0, .int .i64 0, .int .i64 0]], []⟩ 8 (by kernel_rfl) (by kernel_rfl) (by kernel_rfl) (by kernel_rfl)) ?_
  intro W base args ds gs before hval0 hW hcnd hsz0 _
  have hval : ∀ (j : Nat) t v, Try.f5.params[j]? = some t → args[j]? = some v → Value.okWide Try.prog W .any base t v := hval0
  have hW' := hW
  obtain ⟨p, q, hA0, hV, rfl, hfz, hnd⟩ := hW
  have hA : DataW.TrodAll enc Try.prog W 0 (fun _ => true) true Try.f5.params.toList args.toList ds p := hA0
  rw [Try.params5] at hA hval
  obtain ⟨v0, vs0, d0, ds0, p0, q0, hargs, rfl, rfl, h0, r0⟩ := trodAll_cons hA
  obtain ⟨v1, vs1, d1, ds1, p1, q1, rfl, rfl, rfl, h1, r1⟩ := trodAll_cons r0
  obtain ⟨rfl, rfl, rfl⟩ := trodAll_nil r1
  obtain rfl : args = #[v0, v1] := by cases args; simp_all
  obtain ⟨rfl, rfl⟩ := trodVars_none hV
  have k0 := h0
  have lt0 : ∀ x ∈ p0, x.block < W.heap.size := by obtain ⟨m, hm⟩ := k0; exact DataW.trod_lt m _ _ _ hm
  obtain ⟨y0, hK0, hg0, hb0⟩ := Opens.Reads.arg (Opens.Reads.slice (d := (Kd.int .u8)) Try.underlying33 (by kernel_rfl) (Opens.Reads.int Try.underlying5 (by kernel_rfl))) k0
  obtain ⟨a0, len0, cap0, hs0⟩ := okWide_slice Try.underlying33 (hval 0 33 v0 rfl rfl)
  obtain ⟨A0, c0, hq0, hc0, hr0⟩ := hK0
  obtain rfl : v0 = .slice A0 y0.length c0 := by
    subst hs0
    exact List.cons.inj hq0 |>.1
  have k1 := h1
  have lt1 : ∀ x ∈ p1, x.block < W.heap.size := by obtain ⟨m, hm⟩ := k1; exact DataW.trod_lt m _ _ _ hm
  obtain ⟨y1, hK1, hg1, hb1⟩ := Opens.Reads.arg (Opens.Reads.struct (d := (Kd.pair (Kd.int .i64) (Kd.pair (Kd.int .i64) (Kd.int .i64)))) Try.underlying23 (by kernel_rfl) (Opens.ReadsF.cons (by rfl) (Opens.Reads.int Try.underlying3 (by kernel_rfl)) (Opens.ReadsF.cons (by rfl) (Opens.Reads.int Try.underlying3 (by kernel_rfl)) (Opens.ReadsF.last (by rfl) (Opens.Reads.int Try.underlying3 (by kernel_rfl)))))) k1
  obtain ⟨cs1, hs1, _⟩ := okWide_struct Try.underlying23 (hval 1 23 v1 rfl rfl)
  obtain ⟨ca1_0, cb1_0, e1_0, P1_0, n1_0⟩ := hK1
  obtain ⟨ca1_1, cb1_1, e1_1, P1_1, n1_1⟩ := n1_0
  have P1_2 := n1_1
  obtain rfl : v1 = .agg #[Value.int .i64 y1.1, Value.int .i64 y1.2.1, Value.int .i64 y1.2.2] := by
    rw [hs1]
    congr 1
    apply Array.ext'
    have hq := e1_0
    rw [hs1] at hq
    replace hq : cs1.toList = _ := hq
    rw [hq]
    have hz0 : ca1_0 = [Value.int .i64 y1.1] := P1_0
    rw [hz0]
    rw [e1_1]
    have hz1 : ca1_1 = [Value.int .i64 y1.2.1] := P1_1
    rw [hz1]
    have hz2 : cb1_1 = [Value.int .i64 y1.2.2] := P1_2
    rw [hz2]
    all_goals rfl
  clear hA0 hval0
  refine (Vg.nil_row _ y1.1 y1.2.1 y1.2.2 W).mono ?_
  rintro e W' ⟨rfl, bel0⟩
  have bel : Below W.heap.size W W' := by first | exact bel0 | exact bel0.below
  exact ⟨_, rfl, _, _, _, [], _, [], hW', trodAll_mk1 (shut_bool Try.underlying4 _), (trodAll_cons_mk (Below.trod laidOut (by kernel_rfl) (of_decide_eq_true (by kernel_rfl)) k0 bel lt0) (trodAll_cons_mk (Below.trod laidOut (by kernel_rfl) (of_decide_eq_true (by kernel_rfl)) k1 bel lt1) trodAll_mk0)), rfl, bel.frame _, fun h => by cases h⟩
theorem over : Rows.addbufNilRow.holds Try.pinned (OpenSpec.ofChange Rows.addbufNilSpec) :=
  OpenClaim.holds_of_wide 5 Try.f5 rfl rfl rfl rfl rfl rfl rfl ⟨rfl, rfl, rfl, rfl, rfl⟩ rfl rfl rfl rfl rfl (by kernel_rfl) Try.func5 (by kernel_rfl)
    (of_decide_eq_true (by kernel_rfl)) (by unfold Func.isWrapper; first | (rw [if_pos (by decide +kernel)]; kernel_rfl) | (rw [if_neg (by decide +kernel)]; exact ⟨rfl, rfl⟩))
    (fun os started H enc _ => lifted os started H enc)
theorem proved : Rows.AddbufNilSaid := over
#print axioms proved
end Go.Proofs.Ytbonmmpdpahhfaa.addbufNil
namespace Go.Proofs.Ytbonmmpdpahhfaa
/-- The row, under a short name, for the claim. -/
theorem addbufNil_holds : Rows.AddbufNilSaid := addbufNil.proved
end Go.Proofs.Ytbonmmpdpahhfaa
