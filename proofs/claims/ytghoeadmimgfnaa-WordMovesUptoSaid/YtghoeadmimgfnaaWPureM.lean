/- The law WordMoves, plain. Condition: the text's length is at most 1048576. -/
import Derived.Test.YtghoeadmimgfnaaMw
import Derived.Test.YtghoeadmimgfnaaPWmx2
namespace Go.Proofs.Ytghoeadmimgfnaa.Pure
open Go.RowKit Go.Proofs.Ytghoeadmimgfnaa.PWm Go.Proofs.Ytghoeadmimgfnaa.Hand Go.Proofs.YtghoeadmimgfnaaW.PrintWords
set_option linter.unusedVariables false
set_option linter.unusedSimpArgs false

theorem move_fm (T : List Int) (a c : Int) (key : ByteArray) (h : T.length ≤ 1048576) : word_Move.f T a c key = some (mwF T a c key) := by
  unfold word_Move.f
  rw [if_pos h]
theorem ref_f (T : List Int) (a c : Int) (key : ByteArray) (h : T.length ≤ 1048576) : quoinref08_Move.f T a c key = some (mwF T a c key) := by
  unfold quoinref08_Move.f
  rw [if_pos h]
theorem strs (T : List Int) : strOfNums (T ++ [120, 121]) = strOfNums T ++ (⟨#[120, 121]⟩ : ByteArray) := by
  refine ByteArray.ext ?_
  rw [ByteArray.data_append]
  simp [strOfNums]
theorem WordMoves (T : List Int) (a c : Int) (key : ByteArray) {G : Prop} (_ : G) (hn : T.length ≤ 1048576) : quoinlaw08_WordMoves.f T a c key = some true := by
  unfold quoinlaw08_WordMoves.f
  have ht : (T ++ [120, 121]).take ((T.length : Int)).toNat = T := by simp
  simp only [quoinlaw08_alive.f, Option.bind_some, if_true, ref_f T a c key hn, List.nil_append]
  rw [if_pos (by simp; omega)]
  rw [if_pos (by simp; omega), if_pos (by omega), if_pos (by simp; omega), ht, move_fm T a c key hn, Option.bind_some]
  rw [if_pos (by simp), if_pos rfl, if_pos (by rw [strOfNums_size]; omega), strs]
  simp
end Go.Proofs.Ytghoeadmimgfnaa.Pure
