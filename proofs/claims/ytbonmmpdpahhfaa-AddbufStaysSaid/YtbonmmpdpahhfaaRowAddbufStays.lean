/- The row of the law AddbufStays, out of the theorem stays_row. No condition. -/
import Derived.Test.YtbonmmpdpahhfaaRows
import Derived.Test.YtbonmmpdpahhfaaOpenW
import Derived.Test.YtbonmmpdpahhfaaKWR
import Derived.WalkKit
import Derived.ProofKit
import Derived.OpenShut
import Derived.ShutString
import Derived.ChangeOld
import Derived.Below
import Derived.SizedLaws
import Derived.WideShapes
import Derived.Lib.SmallJoins
namespace Go.Proofs.Ytbonmmpdpahhfaa.addbufStays
open Go.ChangeShapes Go.WideShapes Go.ChangeAt Go.RowKit Go.Joins Go.Proofs.Ytbonmmpdpahhfaa.Vg Go.Proofs.YtbonmmpdpahhfaaW.PrintWords
open Go.ChangeMaps (open_string shut_string)
set_option linter.unusedVariables false
theorem own : ownKnob Try.prog.godebug = none := by kernel_rfl
theorem laidOut : laidOutB Try.prog = true := by kernel_rfl
set_option maxRecDepth 100000 in
theorem lifted (os : Os) (started : os.Started) (H : Type) (enc : TypeId × Value → H) :
    ReturnsInHanded {} Try.checked os 7 .any (Rows.addbufStaysSpec.pre6 enc Try.prog Try.f7 Rows.addbufStaysRow.domain false) (Rows.addbufStaysSpec.post enc Try.prog Try.f7 false true false false) := by
  refine returnsInHanded_of_change_sized (C := Try.checked) own started (by kernel_rfl) Try.func7
    (ChangeSpec.witness6 (enc := enc) (C := Try.checked) false ⟨#[], #[.slice none 0 0, .slice none 0 0], []⟩ 8 (by kernel_rfl) (by kernel_rfl) (by kernel_rfl) (by kernel_rfl)) ?_
  intro W base args ds gs before hval0 hW hcnd hsz0 _
  have hval : ∀ (j : Nat) t v, Try.f7.params[j]? = some t → args[j]? = some v → Value.okWide Try.prog W .any base t v := hval0
  have hW' := hW
  obtain ⟨p, q, hA0, hV, rfl, hfz, hnd⟩ := hW
  have hA : DataW.TrodAll enc Try.prog W 0 (fun _ => true) true Try.f7.params.toList args.toList ds p := hA0
  rw [Try.params7] at hA hval
  obtain ⟨v0, vs0, d0, ds0, p0, q0, hargs, rfl, rfl, h0, r0⟩ := trodAll_cons hA
  obtain ⟨v1, vs1, d1, ds1, p1, q1, rfl, rfl, rfl, h1, r1⟩ := trodAll_cons r0
  obtain ⟨rfl, rfl, rfl⟩ := trodAll_nil r1
  obtain rfl : args = #[v0, v1] := by cases args; simp_all
  obtain ⟨rfl, rfl⟩ := trodVars_none hV
  have k0 := h0
  have lt0 : ∀ x ∈ p0, x.block < W.heap.size := by obtain ⟨m, hm⟩ := k0; exact DataW.trod_lt m _ _ _ hm
  have hwt0 : ∀ n ∈ d0.weights Try.prog 33, n ≤ reachBytes := fun n hn => by
    have hn2 : n ∈ d0.weights Try.checked.prog 33 := hn
    have hall := List.all_eq_true.1 hsz0 n (by simp [Try.params7, DataW.weightsEach, hn2])
    simpa using hall
  obtain ⟨y0, hK0, hg0, hb0⟩ := OpensW.Reads.arg (OpensW.Reads.slice (d := (Kd.int .u8)) Try.underlying33 (by kernel_rfl) (OpensW.Reads.int Try.underlying5 (by kernel_rfl))) k0 hwt0
  have hKK0 := hK0
  obtain ⟨a0, len0, cap0, hs0⟩ := okWide_slice Try.underlying33 (hval 0 33 v0 rfl rfl)
  obtain ⟨A0, c0, hq0, hc0, hr0⟩ := hK0
  obtain rfl : v0 = .slice A0 y0.length c0 := by
    subst hs0
    exact List.cons.inj hq0 |>.1
  have k1 := h1
  have lt1 : ∀ x ∈ p1, x.block < W.heap.size := by obtain ⟨m, hm⟩ := k1; exact DataW.trod_lt m _ _ _ hm
  have hwt1 : ∀ n ∈ d1.weights Try.prog 49, n ≤ reachBytes := fun n hn => by
    have hn2 : n ∈ d1.weights Try.checked.prog 49 := hn
    have hall := List.all_eq_true.1 hsz0 n (by simp [Try.params7, DataW.weightsEach, hn2])
    simpa using hall
  obtain ⟨y1, hK1, hg1, hb1⟩ := OpensW.Reads.arg (OpensW.Reads.slice (d := (Kd.slice 5 (Kd.int .u8))) Try.underlying49 (by kernel_rfl) (OpensW.Reads.slice (d := (Kd.int .u8)) Try.underlying33 (by kernel_rfl) (OpensW.Reads.int Try.underlying5 (by kernel_rfl)))) k1 hwt1
  have hKK1 := hK1
  obtain ⟨a1, len1, cap1, hs1⟩ := okWide_slice Try.underlying49 (hval 1 49 v1 rfl rfl)
  obtain ⟨A1, c1, hq1, hc1, hr1⟩ := hK1
  obtain rfl : v1 = .slice A1 y1.length c1 := by
    subst hs1
    exact List.cons.inj hq1 |>.1
  clear hA0 hval0
  refine (Vg.stays_row A0 c0 y0 A1 c1 y1 W hKK0 hKK1 hg0 hg1).mono ?_
  rintro e W' ⟨rfl, bel0⟩
  have bel : Below W.heap.size W W' := by first | exact bel0 | exact bel0.below
  exact ⟨_, rfl, _, _, _, [], _, [], hW', trodAll_mk1 (shut_bool Try.underlying4 _), (trodAll_cons_mk (Below.trod laidOut (by kernel_rfl) (of_decide_eq_true (by kernel_rfl)) k0 bel lt0) (trodAll_cons_mk (Below.trod laidOut (by kernel_rfl) (of_decide_eq_true (by kernel_rfl)) k1 bel lt1) trodAll_mk0)), rfl, bel.frame _, fun h => by cases h⟩
theorem over : Rows.addbufStaysRow.holds Try.pinned (OpenSpec.ofChange Rows.addbufStaysSpec) :=
  OpenClaim.holds_of_wide 7 Try.f7 rfl rfl rfl rfl rfl rfl rfl ⟨rfl, rfl, rfl, rfl, rfl⟩ rfl rfl rfl rfl rfl (by kernel_rfl) Try.func7 (by kernel_rfl)
    (of_decide_eq_true (by kernel_rfl)) (by unfold Func.isWrapper; first | (rw [if_pos (by decide +kernel)]; kernel_rfl) | (rw [if_neg (by decide +kernel)]; exact ⟨rfl, rfl⟩))
    (fun os started H enc _ => lifted os started H enc)
theorem proved : Rows.AddbufStaysSaid := over
#print axioms proved
end Go.Proofs.Ytbonmmpdpahhfaa.addbufStays
namespace Go.Proofs.Ytbonmmpdpahhfaa
/-- The row, under a short name, for the claim. -/
theorem addbufStays_holds : Rows.AddbufStaysSaid := addbufStays.proved
end Go.Proofs.Ytbonmmpdpahhfaa
