/- pins: marks compared with themselves are equal. No condition. -/
import Derived.Test.YtjmpmcgdfgfmfaaHand2
import Derived.ChangeKeysEq
import Derived.Test.YtjmpmcgdfgfmfaaWEqStruct
namespace Go.Proofs.Ytjmpmcgdfgfmfaa.Hand
open Go.RowKit Go.Proofs.Ytjmpmcgdfgfmfaa.Aggs Go.Proofs.YtjmpmcgdfgfmfaaW.PrintWords Go.Proofs.YtjmpmcgdfgfmfaaW.PrintLast Go.Proofs.YtjmpmcgdfgfmfaaW.PrintMore
set_option linter.unusedVariables false
set_option linter.unusedSimpArgs false

theorem part_int (l : List Int) (i : Nat) (h : i < l.length) (w : World) : (part 3 (nums .i64 l).toArray i).run Try.prog w = .ok (.int .i64 (l[i]?.getD 0)) w := by
  have ha : (isAgg 3).run Try.prog w = .ok false w := by
    unfold isAgg
    rw [Sem.run_bind, run_underlying Try.underlying3 w]
    rfl
  have hg := nums_get l i h
  simp only [part, Sem.run_bind, ha, Result.andThen_ok]
  simp [hg]
theorem eq_int (d : Nat) (a : Int) (w : World) : (Op.equalIn (d + 1) 3 (.int .i64 a) (.int .i64 a)).run Try.prog w = .ok true w := by
  simp only [Op.equalIn, Sem.run_bind, run_underlying Try.underlying3 w, Result.andThen_ok]
  simp
theorem cells3 : Try.prog.cellsOf 3 = 1 := by kernel_rfl
theorem eq_items (d : Nat) (l : List Int) (w : World) : ∀ is : List Nat, (∀ i ∈ is, i < l.length) → (Op.eqItems (d + 1) 3 (Try.prog.cellsOf 3) (nums .i64 l).toArray (nums .i64 l).toArray is).run Try.prog w = .ok true w
  | [], _ => by simp [Op.eqItems]
  | i :: is, h => by
    have ih := eq_items d l w is (fun j hj => h j (by simp [hj]))
    rw [cells3] at ih ⊢
    simp only [Op.eqItems, Sem.run_bind, Nat.mul_one, part_int l i (h i (by simp)), Result.andThen_ok, eq_int, Bool.not_true, Bool.false_eq_true, if_false]
    exact ih
theorem info3 : ∃ i, Try.prog.info? 3 = some i := by
  have h : (Try.prog.info? 3).isSome = true := by kernel_rfl
  exact Option.isSome_iff_exists.1 h
theorem eq_names (d : Nat) (l : List Int) (h : l.length = 26) (w : World) : (Op.equalIn (d + 2) 22 (.agg (nums .i64 l).toArray) (.agg (nums .i64 l).toArray)).run Try.prog w = .ok true w := by
  obtain ⟨i, hi⟩ := info3
  rw [run_equalIn_array w (d + 1) _ _ Try.underlying22 hi]
  exact eq_items d l w _ (fun j hj => by rw [h]; simpa using hj)
theorem part_names (l : List Int) (h : l.length = 27) (w : World) : (part 22 (nums .i64 l).toArray 0).run Try.prog w = .ok (.agg (nums .i64 (l.take 26)).toArray) w := by
  have ha : (isAgg 22).run Try.prog w = .ok true w := by
    unfold isAgg
    rw [Sem.run_bind, run_underlying Try.underlying22 w]
    rfl
  have hs : ∃ i, Try.prog.info? 22 = some i ∧ i.size = 26 := by
    have h : (Try.prog.info? 22).map (fun x => x.size) = some 26 := by kernel_rfl
    obtain ⟨i, h1, h2⟩ := Option.map_eq_some_iff.1 h
    exact ⟨i, h1, h2⟩
  obtain ⟨i, hi, hs⟩ := hs
  simp only [part, Sem.run_bind, ha, Result.andThen_ok, if_true, run_sizeOf w hi, sizeOf]
  have e1 : Try.prog.cellsOf 22 = 26 := by kernel_rfl
  simp [typeInfo, hi, hs, nums, List.extract_toArray]
theorem eq_marks (l : List Int) (h : l.length = 27) (w : World) : (Op.equalIn 10000 24 (mv l) (mv l)).run Try.prog w = .ok true w := by
  refine eqA_of (d := 9999) Try.underlying24 (by kernel_rfl) ?_
  refine eqf_cons (f := _) (r := true) (s := true) ?n1 (part_names l h w) (part_names l h w) (eq_names 9997 (l.take 26) (by simp; omega) w) ?_
  case n1 => rfl
  exact eqf_last rfl (part_int l 26 (by omega) w) (part_int l 26 (by omega) w) (eq_int 9998 _ w)
theorem marks_eql (l : List Int) (h : l.length = 27) (w : World) : (binOp .eql 24 (mv l) (mv l)).run Try.prog w = .ok (.bool true) w := by
  simp only [binOp, Op.equal, Op.maxDepth]
  simp [Sem.run_bind, eq_marks l h w]
theorem marks_neq (l : List Int) (h : l.length = 27) (w : World) : (binOp .neq 24 (mv l) (mv l)).run Try.prog w = .ok (.bool false) w := by
  simp only [binOp, Op.equal, Op.maxDepth]
  simp [Sem.run_bind, eq_marks l h w]
end Go.Proofs.Ytjmpmcgdfgfmfaa.Hand
