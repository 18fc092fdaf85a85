/- The row of the law PinsCrosses, out of the pure theorem crosses_row and the contract of the law's function. No condition. -/
import Derived.Test.YtjmpmcgdfgfmfaaRows
import Derived.Test.YtjmpmcgdfgfmfaaOpenW
import Derived.Test.YtjmpmcgdfgfmfaaCrosses
import Derived.WalkKit
import Derived.ProofKit
import Derived.OpenShut
import Derived.ShutString
import Derived.ChangeOld
import Derived.Below
import Derived.SizedLaws
import Derived.WideShapes
import Derived.Lib.SmallJoins
namespace Go.Proofs.Ytjmpmcgdfgfmfaa.pinsCrosses
open Go.ChangeShapes Go.WideShapes Go.ChangeAt Go.RowKit Go.Joins Go.Proofs.Ytjmpmcgdfgfmfaa.Hand Go.Proofs.YtjmpmcgdfgfmfaaW.PrintWords Go.Proofs.YtjmpmcgdfgfmfaaW.PrintLast
open Go.ChangeMaps (open_string shut_string)
set_option linter.unusedVariables false
theorem own : ownKnob Try.prog.godebug = none := by kernel_rfl
theorem laidOut : laidOutB Try.prog = true := by kernel_rfl
set_option maxRecDepth 100000 in
theorem lifted (os : Os) (started : os.Started) (H : Type) (enc : TypeId × Value → H) :
    ReturnsInHanded {} Try.checked os 8 .any (Rows.pinsCrossesSpec.pre6 enc Try.prog Try.f8 Rows.pinsCrossesRow.domain false) (Rows.pinsCrossesSpec.post enc Try.prog Try.f8 false true false false) := by
  refine returnsInHanded_of_change_sized (C := Try.checked) own started (by kernel_rfl) Try.func8
    (ChangeSpec.witness6 (enc := enc) (C := Try.checked) false ⟨#[], #[.agg #[.int .i64 0, .int .i64 0, .int .i64 0, .int .i64 0, .int .i64 0, .int .i64 0, .int .i64 0, .int .i64 0, .int .i64 0, .int .i64 0, .int .i64 0, .int .i64 0, .int .i64 0, .int .i64 0, .int .i64 0, .int .i64 0, .int .i64 0, .int .i64 0, .int .i64 0, .int .i64 0, .int .i64 0, .int .i64 0, .int .i64 0, .int .i64 0, .int .i64 0, .int .i64 0, .int .i64 0, .int .i64 0, .int .i64 0, .int .i64 0, .int .i64 0, .int .i64 0, .int .i64 0, .int .i64 0, .int .i64 0, .int .i64 0, .int .i64 0, .int .i64 0, .int .i64 0, .int .i64 0, .int .i64 0, .int .i64 0, .int .i64 0, .int .i64 0, .int .i64 0, .int .i64 0, .int .i64 0, .int .i64 0, .int .i64 0, .int .i64 0, .int .i64 0, .int .i64 0, .int .i64 0, .int .i64 0, .int .i64 0, .int .i64 0, .int .i64 0, .int .i64 0, .int .i64 0, .int .i64 0, .int .i64 0, .int .i64 0, .int .i64 0, .int .i64 0, .int .i64 0, .int .i64 0, .int .i64 0, .int .i64 0, .int .i64 0, .int .i64 0, .int .i64 0, .int .i64 0, .int .i64 0, .int .i64 0, .int .i64 0, .int .i64 0, .int .i64 0, .int .i64 0, .int .i64 0, .int .i64 0, .int .i64 0], .slice none 0 0], []⟩ 8 (by kernel_rfl) (by kernel_rfl) (by kernel_rfl) (by kernel_rfl)) ?_
  intro W base args ds gs before hval0 hW hcnd hsz0 _
  have hval : ∀ (j : Nat) t v, Try.f8.params[j]? = some t → args[j]? = some v → Value.okWide Try.prog W .any base t v := hval0
  have hW' := hW
  obtain ⟨p, q, hA0, hV, rfl, hfz, hnd⟩ := hW
  have hA : DataW.TrodAll enc Try.prog W 0 (fun _ => true) true Try.f8.params.toList args.toList ds p := hA0
  rw [Try.params8] at hA hval
  obtain ⟨v0, vs0, d0, ds0, p0, q0, hargs, rfl, rfl, h0, r0⟩ := trodAll_cons hA
  obtain ⟨v1, vs1, d1, ds1, p1, q1, rfl, rfl, rfl, h1, r1⟩ := trodAll_cons r0
  obtain ⟨rfl, rfl, rfl⟩ := trodAll_nil r1
  obtain rfl : args = #[v0, v1] := by cases args; simp_all
  obtain ⟨rfl, rfl⟩ := trodVars_none hV
  have k0 := h0
  have lt0 : ∀ x ∈ p0, x.block < W.heap.size := by obtain ⟨m, hm⟩ := k0; exact DataW.trod_lt m _ _ _ hm
  have hwt0 : ∀ n ∈ d0.weights Try.prog 54, n ≤ reachBytes := fun n hn => by
    have hn2 : n ∈ d0.weights Try.checked.prog 54 := hn
    have hall := List.all_eq_true.1 hsz0 n (by simp [Try.params8, DataW.weightsEach, hn2])
    simpa using hall
  obtain ⟨y0, hK0, hg0, hb0⟩ := OpensW.Reads.arg (OpensW.Reads.struct (d := (Kd.pair (Kd.pair (Kd.arr 26 (Kd.int .i64) Nat.one_pos) (Kd.int .i64)) (Kd.pair (Kd.pair (Kd.arr 26 (Kd.int .i64) Nat.one_pos) (Kd.int .i64)) (Kd.pair (Kd.arr 26 (Kd.int .i64) Nat.one_pos) (Kd.int .i64))))) Try.underlying54 (by kernel_rfl) (OpensW.ReadsF.cons (by rfl) (OpensW.Reads.struct (d := (Kd.pair (Kd.arr 26 (Kd.int .i64) Nat.one_pos) (Kd.int .i64))) Try.underlying24 (by kernel_rfl) (OpensW.ReadsF.cons (by rfl) (OpensW.Reads.arr (d := (Kd.int .i64)) (hs := Nat.one_pos) Try.underlying22 (by kernel_rfl) (OpensW.Reads.int Try.underlying3 (by kernel_rfl))) (OpensW.ReadsF.last (by rfl) (OpensW.Reads.int Try.underlying3 (by kernel_rfl))))) (OpensW.ReadsF.cons (by rfl) (OpensW.Reads.struct (d := (Kd.pair (Kd.arr 26 (Kd.int .i64) Nat.one_pos) (Kd.int .i64))) Try.underlying24 (by kernel_rfl) (OpensW.ReadsF.cons (by rfl) (OpensW.Reads.arr (d := (Kd.int .i64)) (hs := Nat.one_pos) Try.underlying22 (by kernel_rfl) (OpensW.Reads.int Try.underlying3 (by kernel_rfl))) (OpensW.ReadsF.last (by rfl) (OpensW.Reads.int Try.underlying3 (by kernel_rfl))))) (OpensW.ReadsF.last (by rfl) (OpensW.Reads.struct (d := (Kd.pair (Kd.arr 26 (Kd.int .i64) Nat.one_pos) (Kd.int .i64))) Try.underlying24 (by kernel_rfl) (OpensW.ReadsF.cons (by rfl) (OpensW.Reads.arr (d := (Kd.int .i64)) (hs := Nat.one_pos) Try.underlying22 (by kernel_rfl) (OpensW.Reads.int Try.underlying3 (by kernel_rfl))) (OpensW.ReadsF.last (by rfl) (OpensW.Reads.int Try.underlying3 (by kernel_rfl))))))))) k0 hwt0
  obtain ⟨cs0, hs0, _⟩ := okWide_struct Try.underlying54 (hval 0 54 v0 rfl rfl)
  obtain ⟨ca0_0, cb0_0, e0_0, P0_0, n0_0⟩ := hK0
  obtain ⟨xa0_0_0, xb0_0_0, xe0_0_0, R0_0_0, xn0_0_0⟩ := P0_0
  have R0_0_0q : xa0_0_0 = nums .i64 (y0.1).1 := OpensW.arr_nums R0_0_0
  have R0_0_1 := xn0_0_0
  have R0_0_1q : xb0_0_0 = [Value.int .i64 (y0.1).2] := R0_0_1
  replace P0_0 : ca0_0 = nums .i64 (y0.1).1 ++ ([Value.int .i64 (y0.1).2]) := by rw [xe0_0_0, R0_0_0q, R0_0_1q]
  obtain ⟨ca0_1, cb0_1, e0_1, P0_1, n0_1⟩ := n0_0
  obtain ⟨xa0_1_0, xb0_1_0, xe0_1_0, R0_1_0, xn0_1_0⟩ := P0_1
  have R0_1_0q : xa0_1_0 = nums .i64 (y0.2.1).1 := OpensW.arr_nums R0_1_0
  have R0_1_1 := xn0_1_0
  have R0_1_1q : xb0_1_0 = [Value.int .i64 (y0.2.1).2] := R0_1_1
  replace P0_1 : ca0_1 = nums .i64 (y0.2.1).1 ++ ([Value.int .i64 (y0.2.1).2]) := by rw [xe0_1_0, R0_1_0q, R0_1_1q]
  have P0_2 := n0_1
  obtain ⟨xa0_2_0, xb0_2_0, xe0_2_0, R0_2_0, xn0_2_0⟩ := P0_2
  have R0_2_0q : xa0_2_0 = nums .i64 (y0.2.2).1 := OpensW.arr_nums R0_2_0
  have R0_2_1 := xn0_2_0
  have R0_2_1q : xb0_2_0 = [Value.int .i64 (y0.2.2).2] := R0_2_1
  replace P0_2 : cb0_1 = nums .i64 (y0.2.2).1 ++ ([Value.int .i64 (y0.2.2).2]) := by rw [xe0_2_0, R0_2_0q, R0_2_1q]
  obtain rfl : v0 = .agg ((nums .i64 (y0.1).1 ++ ([Value.int .i64 (y0.1).2])) ++ ((nums .i64 (y0.2.1).1 ++ ([Value.int .i64 (y0.2.1).2])) ++ ((nums .i64 (y0.2.2).1 ++ ([Value.int .i64 (y0.2.2).2]))))).toArray := by
    rw [hs0]
    congr 1
    apply Array.ext'
    have hq := e0_0
    rw [hs0] at hq
    replace hq : cs0.toList = _ := hq
    rw [hq]
    have hz0 : ca0_0 = (nums .i64 (y0.1).1 ++ ([Value.int .i64 (y0.1).2])) := P0_0
    rw [hz0]
    rw [e0_1]
    have hz1 : ca0_1 = (nums .i64 (y0.2.1).1 ++ ([Value.int .i64 (y0.2.1).2])) := P0_1
    rw [hz1]
    have hz2 : cb0_1 = (nums .i64 (y0.2.2).1 ++ ([Value.int .i64 (y0.2.2).2])) := P0_2
    rw [hz2]
    all_goals rfl
  have k1 := h1
  have lt1 : ∀ x ∈ p1, x.block < W.heap.size := by obtain ⟨m, hm⟩ := k1; exact DataW.trod_lt m _ _ _ hm
  have hwt1 : ∀ n ∈ d1.weights Try.prog 37, n ≤ reachBytes := fun n hn => by
    have hn2 : n ∈ d1.weights Try.checked.prog 37 := hn
    have hall := List.all_eq_true.1 hsz0 n (by simp [Try.params8, DataW.weightsEach, hn2])
    simpa using hall
  obtain ⟨y1, hK1, hg1, hb1⟩ := OpensW.Reads.arg (OpensW.Reads.slice (d := k42) Try.underlying37 (by kernel_rfl) (OpensW.Reads.iso (OpensW.Reads.struct (d := (Kd.pair (Kd.int .i64) (Kd.pair (Kd.slice 5 (Kd.int .u8)) (Kd.slice 5 (Kd.int .u8))))) Try.underlying42 (by kernel_rfl) (OpensW.ReadsF.cons (by rfl) (OpensW.Reads.int Try.underlying3 (by kernel_rfl)) (OpensW.ReadsF.cons (by rfl) (OpensW.Reads.slice (d := (Kd.int .u8)) Try.underlying40 (by kernel_rfl) (OpensW.Reads.int Try.underlying5 (by kernel_rfl))) (OpensW.ReadsF.last (by rfl) (OpensW.Reads.slice (d := (Kd.int .u8)) Try.underlying40 (by kernel_rfl) (OpensW.Reads.int Try.underlying5 (by kernel_rfl))))))) (fun x : S42 => (x.f0, x.f1, x.f2)) (fun p => ⟨p.1, p.2.1, p.2.2⟩) (fun _ => rfl))) k1 hwt1
  obtain ⟨a1, len1, cap1, hs1⟩ := okWide_slice Try.underlying37 (hval 1 37 v1 rfl rfl)
  obtain ⟨A1, c1, hq1, hc1, hr1⟩ := hK1
  obtain rfl : v1 = .slice A1 y1.length c1 := by
    subst hs1
    exact List.cons.inj hq1 |>.1
  clear hA0 hval0
  refine (Hand.crosses_row ((y0.1).1) ((y0.1).2) ((y0.2.1).1) ((y0.2.1).2) ((y0.2.2).1) ((y0.2.2).2) A1 c1 y1 W hr1 hc1 hg0 hg1).mono ?_
  rintro e W' ⟨rfl, bel0⟩
  have bel : Below W.heap.size W W' := by first | exact bel0 | exact bel0.below
  exact ⟨_, rfl, _, _, _, [], _, [], hW', trodAll_mk1 (shut_bool Try.underlying4 _), (trodAll_cons_mk (Below.trod laidOut (by kernel_rfl) (of_decide_eq_true (by kernel_rfl)) k0 bel lt0) (trodAll_cons_mk (Below.trod laidOut (by kernel_rfl) (of_decide_eq_true (by kernel_rfl)) k1 bel lt1) trodAll_mk0)), rfl, bel.frame _, fun h => by cases h⟩
theorem over : Rows.pinsCrossesRow.holds Try.pinned (OpenSpec.ofChange Rows.pinsCrossesSpec) :=
  OpenClaim.holds_of_wide 8 Try.f8 rfl rfl rfl rfl rfl rfl rfl ⟨rfl, rfl, rfl, rfl, rfl⟩ rfl rfl rfl rfl rfl (by kernel_rfl) Try.func8 (by kernel_rfl)
    (of_decide_eq_true (by kernel_rfl)) (by unfold Func.isWrapper; first | (rw [if_pos (by decide +kernel)]; kernel_rfl) | (rw [if_neg (by decide +kernel)]; exact ⟨rfl, rfl⟩))
    (fun os started H enc _ => lifted os started H enc)
theorem proved : Rows.PinsCrossesSaid := over
#print axioms proved
end Go.Proofs.Ytjmpmcgdfgfmfaa.pinsCrosses
namespace Go.Proofs.Ytjmpmcgdfgfmfaa
/-- The row, under a short name, for the claim. -/
theorem pinsCrosses_holds : Rows.PinsCrossesSaid := pinsCrosses.proved
end Go.Proofs.Ytjmpmcgdfgfmfaa
