/- The row of the law BlockTimes where what it reads is of bulk at most 1048576, out of the pure theorem x and the contract of the law's function. Condition: the bound of the second form. -/
import Derived.Test.YtbklmdgmgffjeaaRows
import Derived.Test.YtbklmdgmgffjeaaOpen
import Derived.Test.YtbklmdgmgffjeaaTimes
import Derived.WalkKit
import Derived.ProofKit
import Derived.OpenShut
import Derived.ShutString
import Derived.ChangeOld
import Derived.Below
import Derived.SizedLaws
import Derived.WideShapes
import Derived.Lib.SmallJoins
import Derived.Deep.CondSized
namespace Go.Proofs.Ytbklmdgmgffjeaa.blockTimes
open Go.ChangeShapes Go.WideShapes Go.ChangeAt Go.RowKit Go.Joins Go.Proofs.Ytbklmdgmgffjeaa.Hand Go.Proofs.YtbklmdgmgffjeaaW.PrintWords Go.Proofs.YtbklmdgmgffjeaaW.PrintLast
open Go.ChangeMaps (open_string shut_string)
set_option linter.unusedVariables false
theorem own : ownKnob Try.prog.godebug = none := by kernel_rfl
theorem laidOut : laidOutB Try.prog = true := by kernel_rfl
theorem sum_ones {α : Type} : ∀ l : List α, Opens.sumOf (fun _ => 1) l = l.length
  | [] => rfl
  | x :: l => by simp only [Opens.sumOf, List.length_cons, sum_ones l]; omega
set_option maxRecDepth 100000 in
theorem lifted (os : Os) (started : os.Started) (H : Type) (enc : TypeId × Value → H) (F : Stop.Interp) :
    ReturnsInHanded {} Try.checked os 4 .any ((Rows.OpenSpec.upto Rows.blockTimesSpec).pre6 enc Try.prog Try.f4 Rows.blockTimesUptoRow.domain false) (((Rows.OpenSpec.upto Rows.blockTimesSpec).at F).post enc Try.prog Try.f4 false true false false) := by
  refine returnsInHanded_of_cond_sized (C := Try.checked) (s := Rows.OpenSpec.upto Rows.blockTimesSpec) (k := Rows.uptoSmall) rfl own started (by kernel_rfl) Try.func4
    (OpenSpec.witness (enc := enc) (C := Try.checked) (s := Rows.OpenSpec.upto Rows.blockTimesSpec) (k := Rows.uptoSmall) rfl false ⟨#[], #[.slice none 0 0, .agg #[.int .i64 0, .int .i64 0, .string ByteArray.empty]], []⟩ 8 (by kernel_rfl) (by kernel_rfl) (by kernel_rfl)
      (x := ([.nil, .agg [.lit (.int .i64 0), .lit (.int .i64 0), .lit (.string [])]], [], [])) (by kernel_rfl) rfl (by kernel_rfl)) ?_
  intro W base args ds gs before hval0 hW hcnd hk0 hsz0 _
  have hval : ∀ (j : Nat) t v, Try.f4.params[j]? = some t → args[j]? = some v → Value.okWide Try.prog W .any base t v := hval0
  have hW' := hW
  obtain ⟨p, q, hA0, hV, rfl, hfz, hnd⟩ := hW
  have hA : DataW.TrodAll enc Try.prog W 0 (fun _ => true) true Try.f4.params.toList args.toList ds p := hA0
  rw [Try.params4] at hA hval
  obtain ⟨v0, vs0, d0, ds0, p0, q0, hargs, rfl, rfl, h0, r0⟩ := trodAll_cons hA
  obtain ⟨v1, vs1, d1, ds1, p1, q1, rfl, rfl, rfl, h1, r1⟩ := trodAll_cons r0
  obtain ⟨rfl, rfl, rfl⟩ := trodAll_nil r1
  obtain rfl : args = #[v0, v1] := by cases args; simp_all
  obtain ⟨rfl, rfl⟩ := trodVars_none hV
  have hbulk : Rows.uptoBulkAll [d0, d1] ≤ 1048576 := by
    have h := of_decide_eq_true hk0
    simpa using h
  simp only [Rows.uptoBulkAll] at hbulk
  have k0 := h0
  have lt0 : ∀ x ∈ p0, x.block < W.heap.size := by obtain ⟨m, hm⟩ := k0; exact DataW.trod_lt m _ _ _ hm
  obtain ⟨y0, hK0, hg0, hb0⟩ := Opens.Reads.arg (Opens.Reads.slice (d := (Kd.int .u8)) Try.underlying22 (by kernel_rfl) (Opens.Reads.int Try.underlying5 (by kernel_rfl))) k0
  obtain ⟨a0, len0, cap0, hs0⟩ := okWide_slice Try.underlying22 (hval 0 22 v0 rfl rfl)
  obtain ⟨A0, c0, hq0, hc0, hr0⟩ := hK0
  obtain rfl : v0 = .slice A0 y0.length c0 := by
    subst hs0
    exact List.cons.inj hq0 |>.1
  have k1 := h1
  have lt1 : ∀ x ∈ p1, x.block < W.heap.size := by obtain ⟨m, hm⟩ := k1; exact DataW.trod_lt m _ _ _ hm
  obtain ⟨y1, hK1, hg1, hb1⟩ := Opens.Reads.arg (Opens.Reads.struct (d := (Kd.pair (Kd.int .i64) (Kd.pair (Kd.int .i64) Kd.string))) Try.underlying28 (by kernel_rfl) (Opens.ReadsF.cons (by rfl) (Opens.Reads.int Try.underlying3 (by kernel_rfl)) (Opens.ReadsF.cons (by rfl) (Opens.Reads.int Try.underlying3 (by kernel_rfl)) (Opens.ReadsF.last (by rfl) (Opens.Reads.string Try.underlying9 (by kernel_rfl)))))) k1
  obtain ⟨cs1, hs1, _⟩ := okWide_struct Try.underlying28 (hval 1 28 v1 rfl rfl)
  obtain ⟨ca1_0, cb1_0, e1_0, P1_0, n1_0⟩ := hK1
  obtain ⟨ca1_1, cb1_1, e1_1, P1_1, n1_1⟩ := n1_0
  have P1_2 := n1_1
  obtain rfl : v1 = .agg #[Value.int .i64 y1.1, Value.int .i64 y1.2.1, Value.string y1.2.2] := by
    rw [hs1]
    congr 1
    apply Array.ext'
    have hq := e1_0
    rw [hs1] at hq
    replace hq : cs1.toList = _ := hq
    rw [hq]
    have hz0 : ca1_0 = [Value.int .i64 y1.1] := P1_0
    rw [hz0]
    rw [e1_1]
    have hz1 : ca1_1 = [Value.int .i64 y1.2.1] := P1_1
    rw [hz1]
    have hz2 : cb1_1 = [Value.string y1.2.2] := P1_2
    rw [hz2]
    all_goals rfl
  clear hA0 hval0
  refine (Hand.times_row A0 c0 y0 y1.1 y1.2.1 y1.2.2 W hr0 hc0 hg0 hg1 (by simp only [sum_ones] at *; omega)).mono ?_
  rintro e W' ⟨rfl, bel0⟩
  have bel : Below W.heap.size W W' := by first | exact bel0 | exact bel0.below
  exact ⟨_, rfl, _, _, _, [], _, [], hW', trodAll_mk1 (shut_bool Try.underlying4 _), (trodAll_cons_mk (Below.trod laidOut (by kernel_rfl) (of_decide_eq_true (by kernel_rfl)) k0 bel lt0) (trodAll_cons_mk (Below.trod laidOut (by kernel_rfl) (of_decide_eq_true (by kernel_rfl)) k1 bel lt1) trodAll_mk0)), rfl, bel.frame _, fun h => by cases h⟩
theorem over : Rows.blockTimesUptoRow.holds Try.pinned (Rows.OpenSpec.upto Rows.blockTimesSpec) :=
  OpenClaim.holds_of_cond 4 Try.f4 rfl rfl rfl rfl rfl rfl rfl ⟨rfl, rfl, rfl, rfl, rfl⟩ rfl rfl rfl rfl rfl (by kernel_rfl) Try.func4 (by kernel_rfl)
    (of_decide_eq_true (by kernel_rfl)) (by unfold Func.isWrapper; first | (rw [if_pos (by decide +kernel)]; kernel_rfl) | (rw [if_neg (by decide +kernel)]; exact ⟨rfl, rfl⟩))
    (fun os started H enc _ F => lifted os started H enc F)
theorem proved : Rows.BlockTimesUptoSaid := over
#print axioms proved
end Go.Proofs.Ytbklmdgmgffjeaa.blockTimes
namespace Go.Proofs.Ytbklmdgmgffjeaa
/-- The row, under a short name, for the claim. -/
theorem blockTimesUpto_holds : Rows.BlockTimesUptoSaid := blockTimes.proved
end Go.Proofs.Ytbklmdgmgffjeaa
