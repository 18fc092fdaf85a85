/- bytes.Count of nothing. No law, no condition. -/
import Derived.Test.YtbonmmpdpahhfaaNil2
import Derived.Lib.BytesEntry
import Derived.Laws.Externs
namespace Go.Proofs.Ytbonmmpdpahhfaa.Can
open Go.RowKit Go.Proofs.YtbonmmpdpahhfaaW.PrintWords Go.Proofs.YtbonmmpdpahhfaaW.PrintLast
set_option linter.unusedVariables false
set_option linter.unusedSimpArgs false
theorem run_countNil {P : Program} (w : World) (l c : Nat) (cv : Int) : (Extern.BytealgCount.count #[.slice none l c, .int .u8 cv]).run P w = .ok (.int .i64 0) w := by
  have hs := Lib.run_countString (P := P) .empty cv w
  exact hs
set_option maxHeartbeats 2000000 in
set_option maxRecDepth 1000000 in
theorem count_nil (b o c0 c1 : Nat) (cv : Int) (w : World) (hs2 : w.cell? ⟨b, o, none⟩ = some (.int .u8 cv)) : Calls Try.prog 28 #[.slice none 0 c0, .slice (some ⟨b, o, none⟩) 1 c1] w fun e w' => e = .returned (.int .i64 0) ∧ Drawn0 w w' := by
  go_enter Try.func28, Try.ntmps28
  go_wp2
  rw [run_callFunc_extern Try.func37 (by kernel_rfl) (by kernel_rfl) (by kernel_rfl) (e := Extern.BytealgCount.count) (by kernel_rfl), run_countNil w 0 c0 cv]
  simp only [Result.andThen]
  rw [Oper.upon_value]
  go_wp2
  go_ret
  exact ⟨rfl, Drawn0.refl _⟩
end Go.Proofs.Ytbonmmpdpahhfaa.Can
