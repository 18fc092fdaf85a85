/- The row of the law BankGets, out of the theorem gets_row and the contract of the law's function. No condition. -/
import Derived.Test.YtaciagpkbdjbpaaRows
import Derived.Test.YtaciagpkbdjbpaaOpenW
import Derived.Test.YtaciagpkbdjbpaaCBR
import Derived.WalkKit
import Derived.ProofKit
import Derived.OpenShut
import Derived.ShutString
import Derived.ChangeOld
import Derived.Below
import Derived.SizedLaws
import Derived.WideShapes
import Derived.Lib.SmallJoins
namespace Go.Proofs.Ytaciagpkbdjbpaa.bankGets
open Go.ChangeShapes Go.WideShapes Go.ChangeAt Go.RowKit Go.Joins Go.Proofs.Ytaciagpkbdjbpaa.Vg Go.Proofs.YtaciagpkbdjbpaaW.PrintWords
open Go.ChangeMaps (open_string shut_string)
set_option linter.unusedVariables false
theorem own : ownKnob Try.prog.godebug = none := by kernel_rfl
theorem laidOut : laidOutB Try.prog = true := by kernel_rfl
set_option maxRecDepth 100000 in
theorem lifted (os : Os) (started : os.Started) (H : Type) (enc : TypeId × Value → H) :
    ReturnsInHanded {} Try.checked os 3 .any (Rows.bankGetsSpec.pre6 enc Try.prog Try.f3 Rows.bankGetsRow.domain false) (Rows.bankGetsSpec.post enc Try.prog Try.f3 false true false false) := by
  refine returnsInHanded_of_change_sized (C := Try.checked) own started (by kernel_rfl) Try.func3
    (ChangeSpec.witness6 (enc := enc) (C := Try.checked) false ⟨#[], #[.agg #[.bool false, .bool false, .slice none 0 0, .bool false, .bool false, .slice none 0 0, .bool false, .bool false, .slice none 0 0, .bool false, .bool false, .slice none 0 0, .bool false, .bool false, .slice none 0 0, .bool false, .bool false, .slice none 0 0, .bool false, .bool false, .slice none 0 0, .bool false, .bool false, .slice none 0 0, .bool false, .bool false, .slice none 0 0, .bool false, .bool false, .slice none 0 0, .bool false, .bool false, .slice none 0 0, .bool false, .bool false, .slice none 0 0, .bool false, .bool false, .slice none 0 0, .bool false, .bool false, .slice none 0 0, .bool false, .bool false, .slice none 0 0, .bool false, .bool false, .slice none 0 0, .bool false, .bool false, .slice none 0 0, .bool false, .bool false, .slice none 0 0, .bool false, .bool false, .slice none 0 0, .bool false, .bool false, .slice none 0 0, .bool false, .bool false, .slice none 0 0, .bool false, .bool false, .slice none 0 0, .bool false, .bool false, .slice none 0 0, .bool false, .bool false, .slice none 0 0, .bool false, .bool false, .slice none 0 0, .bool false, .bool false, .slice none 0 0, .bool false, .bool false, .slice none 0 0, .bool false, .bool false, .slice none 0 0, .bool false, .bool false, .slice none 0 0, .bool false, .bool false, .slice none 0 0, .bool false, .bool false, .slice none 0 0, .bool false, .bool false, .slice none 0 0, .bool false, .bool false, .slice none 0 0, .bool false, .bool false, .slice none 0 0, .bool false, .bool false, .slice none 0 0, .bool false, .bool false, .slice none 0 0, .bool false, .bool false, .slice none 0 0], .int .u8 0], []⟩ 8 (by kernel_rfl) (by kernel_rfl) (by kernel_rfl) (by kernel_rfl)) ?_
  intro W base args ds gs before hval0 hW hcnd hsz0 _
  have hval : ∀ (j : Nat) t v, Try.f3.params[j]? = some t → args[j]? = some v → Value.okWide Try.prog W .any base t v := hval0
  have hW' := hW
  obtain ⟨p, q, hA0, hV, rfl, hfz, hnd⟩ := hW
  have hA : DataW.TrodAll enc Try.prog W 0 (fun _ => true) true Try.f3.params.toList args.toList ds p := hA0
  rw [Try.params3] at hA hval
  obtain ⟨v0, vs0, d0, ds0, p0, q0, hargs, rfl, rfl, h0, r0⟩ := trodAll_cons hA
  obtain ⟨v1, vs1, d1, ds1, p1, q1, rfl, rfl, rfl, h1, r1⟩ := trodAll_cons r0
  obtain ⟨rfl, rfl, rfl⟩ := trodAll_nil r1
  obtain rfl : args = #[v0, v1] := by cases args; simp_all
  obtain ⟨rfl, rfl⟩ := trodVars_none hV
  have k0 := h0
  have lt0 : ∀ x ∈ p0, x.block < W.heap.size := by obtain ⟨m, hm⟩ := k0; exact DataW.trod_lt m _ _ _ hm
  have hwt0 : ∀ n ∈ d0.weights Try.prog 28, n ≤ reachBytes := fun n hn => by
    have hn2 : n ∈ d0.weights Try.checked.prog 28 := hn
    have hall := List.all_eq_true.1 hsz0 n (by simp [Try.params3, DataW.weightsEach, hn2])
    simpa using hall
  obtain ⟨y0, hK0, hg0, hb0⟩ := OpensW.Reads.arg (OpensW.Reads.struct (d := BD) Try.underlying28 (by kernel_rfl) (OpensW.ReadsF.cons (by rfl) (OpensW.Reads.struct (d := RD) Try.underlying24 (by kernel_rfl) (OpensW.ReadsF.cons (by rfl) (OpensW.Reads.bool Try.underlying4 (by kernel_rfl)) (OpensW.ReadsF.cons (by rfl) (OpensW.Reads.bool Try.underlying4 (by kernel_rfl)) (OpensW.ReadsF.last (by rfl) (OpensW.Reads.slice (d := (Kd.int .u8)) Try.underlying22 (by kernel_rfl) (OpensW.Reads.int Try.underlying5 (by kernel_rfl))))))) (OpensW.ReadsF.cons (by rfl) (OpensW.Reads.struct (d := RD) Try.underlying24 (by kernel_rfl) (OpensW.ReadsF.cons (by rfl) (OpensW.Reads.bool Try.underlying4 (by kernel_rfl)) (OpensW.ReadsF.cons (by rfl) (OpensW.Reads.bool Try.underlying4 (by kernel_rfl)) (OpensW.ReadsF.last (by rfl) (OpensW.Reads.slice (d := (Kd.int .u8)) Try.underlying22 (by kernel_rfl) (OpensW.Reads.int Try.underlying5 (by kernel_rfl))))))) (OpensW.ReadsF.cons (by rfl) (OpensW.Reads.arr (d := RD) (hs := rd_pos) Try.underlying25 (by kernel_rfl) (OpensW.Reads.struct (d := RD) Try.underlying24 (by kernel_rfl) (OpensW.ReadsF.cons (by rfl) (OpensW.Reads.bool Try.underlying4 (by kernel_rfl)) (OpensW.ReadsF.cons (by rfl) (OpensW.Reads.bool Try.underlying4 (by kernel_rfl)) (OpensW.ReadsF.last (by rfl) (OpensW.Reads.slice (d := (Kd.int .u8)) Try.underlying22 (by kernel_rfl) (OpensW.Reads.int Try.underlying5 (by kernel_rfl)))))))) (OpensW.ReadsF.last (by rfl) (OpensW.Reads.arr (d := RD) (hs := rd_pos) Try.underlying26 (by kernel_rfl) (OpensW.Reads.struct (d := RD) Try.underlying24 (by kernel_rfl) (OpensW.ReadsF.cons (by rfl) (OpensW.Reads.bool Try.underlying4 (by kernel_rfl)) (OpensW.ReadsF.cons (by rfl) (OpensW.Reads.bool Try.underlying4 (by kernel_rfl)) (OpensW.ReadsF.last (by rfl) (OpensW.Reads.slice (d := (Kd.int .u8)) Try.underlying22 (by kernel_rfl) (OpensW.Reads.int Try.underlying5 (by kernel_rfl))))))))))))) k0 hwt0
  obtain ⟨cs0, hs0, _⟩ := okWide_struct Try.underlying28 (hval 0 28 v0 rfl rfl)
  have k1 := h1
  have lt1 : ∀ x ∈ p1, x.block < W.heap.size := by obtain ⟨m, hm⟩ := k1; exact DataW.trod_lt m _ _ _ hm
  have hwt1 : ∀ n ∈ d1.weights Try.prog 5, n ≤ reachBytes := fun n hn => by
    have hn2 : n ∈ d1.weights Try.checked.prog 5 := hn
    have hall := List.all_eq_true.1 hsz0 n (by simp [Try.params3, DataW.weightsEach, hn2])
    simpa using hall
  obtain ⟨y1, hK1, hg1, hb1⟩ := OpensW.Reads.arg (OpensW.Reads.int Try.underlying5 (by kernel_rfl)) k1 hwt1
  obtain ⟨n1, hs1⟩ := okWide_int Try.underlying5 (hval 1 5 v1 rfl rfl)
  subst hs1
  subst hs0
  obtain rfl : n1 = y1 := by
    have hq : [Value.int .u8 n1] = [Value.int .u8 y1] := hK1
    injection hq with hq _
    injection hq
  clear hA0 hval0
  have one : Try.prog.bytesOf 5 = 1 := by kernel_rfl
  have hr : reachBytes ≤ 140737488355328 := by decide
  have hrg : ∀ x : RT, (True ∧ True ∧ x.2.2.length * Try.prog.bytesOf 5 ≤ reachBytes ∧ ∀ z ∈ x.2.2, (Lit.int .u8 z).wf = true) → rgood 140737488355328 x := fun x hx => by
    have h2 := hx.2.2.1
    rw [one, Nat.mul_one] at h2
    exact Nat.le_trans h2 hr
  obtain ⟨ga, gb, ⟨gc1, gc2⟩, ⟨gd1, gd2⟩⟩ := hg0
  refine (Vg.gets_row y0 cs0 n1 W hK0 gc1 gd1 (bank_len (hrg _ ga) (hrg _ gb) (fun x hx => hrg _ (gc2 x hx)) (fun x hx => hrg _ (gd2 x hx))) hg1).mono ?_
  rintro e W' ⟨rfl, bel0⟩
  have bel : Below W.heap.size W W' := by first | exact bel0 | exact bel0.below
  exact ⟨_, rfl, _, _, _, [], _, [], hW', trodAll_mk1 (shut_bool Try.underlying4 _), (trodAll_cons_mk (Below.trod laidOut (by kernel_rfl) (of_decide_eq_true (by kernel_rfl)) k0 bel lt0) (trodAll_cons_mk (Below.trod laidOut (by kernel_rfl) (of_decide_eq_true (by kernel_rfl)) k1 bel lt1) trodAll_mk0)), rfl, bel.frame _, fun h => by cases h⟩
theorem over : Rows.bankGetsRow.holds Try.pinned (OpenSpec.ofChange Rows.bankGetsSpec) :=
  OpenClaim.holds_of_wide 3 Try.f3 rfl rfl rfl rfl rfl rfl rfl ⟨rfl, rfl, rfl, rfl, rfl⟩ rfl rfl rfl rfl rfl (by kernel_rfl) Try.func3 (by kernel_rfl)
    (of_decide_eq_true (by kernel_rfl)) (by unfold Func.isWrapper; first | (rw [if_pos (by decide +kernel)]; kernel_rfl) | (rw [if_neg (by decide +kernel)]; exact ⟨rfl, rfl⟩))
    (fun os started H enc _ => lifted os started H enc)
theorem proved : Rows.BankGetsSaid := over
#print axioms proved
end Go.Proofs.Ytaciagpkbdjbpaa.bankGets
namespace Go.Proofs.Ytaciagpkbdjbpaa
/-- The row, under a short name, for the claim. -/
theorem bankGets_holds : Rows.BankGetsSaid := bankGets.proved
end Go.Proofs.Ytaciagpkbdjbpaa
