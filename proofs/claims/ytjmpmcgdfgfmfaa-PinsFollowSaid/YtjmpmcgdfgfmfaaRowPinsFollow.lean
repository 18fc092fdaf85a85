/- The row of the law PinsFollow, out of the pure theorem follow_row and the contract of the law's function. No condition. -/
import Derived.Test.YtjmpmcgdfgfmfaaRows
import Derived.Test.YtjmpmcgdfgfmfaaOpenW
import Derived.Test.YtjmpmcgdfgfmfaaFollowQ
import Derived.WalkKit
import Derived.ProofKit
import Derived.OpenShut
import Derived.ShutString
import Derived.ChangeOld
import Derived.Below
import Derived.SizedLaws
import Derived.WideShapes
import Derived.Lib.SmallJoins
namespace Go.Proofs.Ytjmpmcgdfgfmfaa.pinsFollow
open Go.ChangeShapes Go.WideShapes Go.ChangeAt Go.RowKit Go.Joins Go.Proofs.Ytjmpmcgdfgfmfaa.Hand Go.Proofs.YtjmpmcgdfgfmfaaW.PrintWords Go.Proofs.YtjmpmcgdfgfmfaaW.PrintLast
open Go.ChangeMaps (open_string shut_string)
set_option linter.unusedVariables false
theorem own : ownKnob Try.prog.godebug = none := by kernel_rfl
theorem laidOut : laidOutB Try.prog = true := by kernel_rfl
set_option maxRecDepth 100000 in
theorem lifted (os : Os) (started : os.Started) (H : Type) (enc : TypeId × Value → H) :
    ReturnsInHanded {} Try.checked os 6 .any (Rows.pinsFollowSpec.pre6 enc Try.prog Try.f6 Rows.pinsFollowRow.domain false) (Rows.pinsFollowSpec.post enc Try.prog Try.f6 false true false false) := by
  refine returnsInHanded_of_change_sized (C := Try.checked) own started (by kernel_rfl) Try.func6
    (ChangeSpec.witness6 (enc := enc) (C := Try.checked) false ⟨#[], #[.slice none 0 0, .int .i64 0, .slice none 0 0], []⟩ 8 (by kernel_rfl) (by kernel_rfl) (by kernel_rfl) (by kernel_rfl)) ?_
  intro W base args ds gs before hval0 hW hcnd hsz0 _
  have hval : ∀ (j : Nat) t v, Try.f6.params[j]? = some t → args[j]? = some v → Value.okWide Try.prog W .any base t v := hval0
  have hW' := hW
  obtain ⟨p, q, hA0, hV, rfl, hfz, hnd⟩ := hW
  have hA : DataW.TrodAll enc Try.prog W 0 (fun _ => true) true Try.f6.params.toList args.toList ds p := hA0
  rw [Try.params6] at hA hval
  obtain ⟨v0, vs0, d0, ds0, p0, q0, hargs, rfl, rfl, h0, r0⟩ := trodAll_cons hA
  obtain ⟨v1, vs1, d1, ds1, p1, q1, rfl, rfl, rfl, h1, r1⟩ := trodAll_cons r0
  obtain ⟨v2, vs2, d2, ds2, p2, q2, rfl, rfl, rfl, h2, r2⟩ := trodAll_cons r1
  obtain ⟨rfl, rfl, rfl⟩ := trodAll_nil r2
  obtain rfl : args = #[v0, v1, v2] := by cases args; simp_all
  obtain ⟨rfl, rfl⟩ := trodVars_none hV
  have k0 := h0
  have lt0 : ∀ x ∈ p0, x.block < W.heap.size := by obtain ⟨m, hm⟩ := k0; exact DataW.trod_lt m _ _ _ hm
  have hwt0 : ∀ n ∈ d0.weights Try.prog 40, n ≤ reachBytes := fun n hn => by
    have hn2 : n ∈ d0.weights Try.checked.prog 40 := hn
    have hall := List.all_eq_true.1 hsz0 n (by simp [Try.params6, DataW.weightsEach, hn2])
    simpa using hall
  obtain ⟨y0, hK0, hg0, hb0⟩ := OpensW.Reads.arg (OpensW.Reads.slice (d := (Kd.int .u8)) Try.underlying40 (by kernel_rfl) (OpensW.Reads.int Try.underlying5 (by kernel_rfl))) k0 hwt0
  obtain ⟨a0, len0, cap0, hs0⟩ := okWide_slice Try.underlying40 (hval 0 40 v0 rfl rfl)
  obtain ⟨A0, c0, hq0, hc0, hr0⟩ := hK0
  obtain rfl : v0 = .slice A0 y0.length c0 := by
    subst hs0
    exact List.cons.inj hq0 |>.1
  have k1 := h1
  have lt1 : ∀ x ∈ p1, x.block < W.heap.size := by obtain ⟨m, hm⟩ := k1; exact DataW.trod_lt m _ _ _ hm
  have hwt1 : ∀ n ∈ d1.weights Try.prog 3, n ≤ reachBytes := fun n hn => by
    have hn2 : n ∈ d1.weights Try.checked.prog 3 := hn
    have hall := List.all_eq_true.1 hsz0 n (by simp [Try.params6, DataW.weightsEach, hn2])
    simpa using hall
  obtain ⟨y1, hK1, hg1, hb1⟩ := OpensW.Reads.arg (OpensW.Reads.int Try.underlying3 (by kernel_rfl)) k1 hwt1
  obtain ⟨s1, hs1, _, _, _⟩ := open_int Try.underlying3 (hval 1 3 v1 rfl rfl) k1
  obtain rfl : v1 = .int .i64 y1 := by
    subst hs1
    have hq : [_] = [_] := hK1
    exact List.cons.inj hq |>.1
  have k2 := h2
  have lt2 : ∀ x ∈ p2, x.block < W.heap.size := by obtain ⟨m, hm⟩ := k2; exact DataW.trod_lt m _ _ _ hm
  have hwt2 : ∀ n ∈ d2.weights Try.prog 37, n ≤ reachBytes := fun n hn => by
    have hn2 : n ∈ d2.weights Try.checked.prog 37 := hn
    have hall := List.all_eq_true.1 hsz0 n (by simp [Try.params6, DataW.weightsEach, hn2])
    simpa using hall
  obtain ⟨y2, hK2, hg2, hb2⟩ := OpensW.Reads.arg (OpensW.Reads.slice (d := k42) Try.underlying37 (by kernel_rfl) (OpensW.Reads.iso (OpensW.Reads.struct (d := (Kd.pair (Kd.int .i64) (Kd.pair (Kd.slice 5 (Kd.int .u8)) (Kd.slice 5 (Kd.int .u8))))) Try.underlying42 (by kernel_rfl) (OpensW.ReadsF.cons (by rfl) (OpensW.Reads.int Try.underlying3 (by kernel_rfl)) (OpensW.ReadsF.cons (by rfl) (OpensW.Reads.slice (d := (Kd.int .u8)) Try.underlying40 (by kernel_rfl) (OpensW.Reads.int Try.underlying5 (by kernel_rfl))) (OpensW.ReadsF.last (by rfl) (OpensW.Reads.slice (d := (Kd.int .u8)) Try.underlying40 (by kernel_rfl) (OpensW.Reads.int Try.underlying5 (by kernel_rfl))))))) (fun x : S42 => (x.f0, x.f1, x.f2)) (fun p => ⟨p.1, p.2.1, p.2.2⟩) (fun _ => rfl))) k2 hwt2
  obtain ⟨a2, len2, cap2, hs2⟩ := okWide_slice Try.underlying37 (hval 2 37 v2 rfl rfl)
  obtain ⟨A2, c2, hq2, hc2, hr2⟩ := hK2
  obtain rfl : v2 = .slice A2 y2.length c2 := by
    subst hs2
    exact List.cons.inj hq2 |>.1
  clear hA0 hval0
  refine (Hand.follow_row A0 c0 y0 y1 A2 c2 y2 W hr0 hc0 hr2 hc2 hg0 hg1 hg2).mono ?_
  rintro e W' ⟨rfl, bel0⟩
  have bel : Below W.heap.size W W' := by first | exact bel0 | exact bel0.below
  exact ⟨_, rfl, _, _, _, [], _, [], hW', trodAll_mk1 (shut_bool Try.underlying4 _), (trodAll_cons_mk (Below.trod laidOut (by kernel_rfl) (of_decide_eq_true (by kernel_rfl)) k0 bel lt0) (trodAll_cons_mk (Below.trod laidOut (by kernel_rfl) (of_decide_eq_true (by kernel_rfl)) k1 bel lt1) (trodAll_cons_mk (Below.trod laidOut (by kernel_rfl) (of_decide_eq_true (by kernel_rfl)) k2 bel lt2) trodAll_mk0))), rfl, bel.frame _, fun h => by cases h⟩
theorem over : Rows.pinsFollowRow.holds Try.pinned (OpenSpec.ofChange Rows.pinsFollowSpec) :=
  OpenClaim.holds_of_wide 6 Try.f6 rfl rfl rfl rfl rfl rfl rfl ⟨rfl, rfl, rfl, rfl, rfl⟩ rfl rfl rfl rfl rfl (by kernel_rfl) Try.func6 (by kernel_rfl)
    (of_decide_eq_true (by kernel_rfl)) (by unfold Func.isWrapper; first | (rw [if_pos (by decide +kernel)]; kernel_rfl) | (rw [if_neg (by decide +kernel)]; exact ⟨rfl, rfl⟩))
    (fun os started H enc _ => lifted os started H enc)
theorem proved : Rows.PinsFollowSaid := over
#print axioms proved
end Go.Proofs.Ytjmpmcgdfgfmfaa.pinsFollow
namespace Go.Proofs.Ytjmpmcgdfgfmfaa
/-- The row, under a short name, for the claim. -/
theorem pinsFollow_holds : Rows.PinsFollowSaid := pinsFollow.proved
end Go.Proofs.Ytjmpmcgdfgfmfaa
