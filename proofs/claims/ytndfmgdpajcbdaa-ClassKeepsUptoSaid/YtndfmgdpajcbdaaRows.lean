/-
  No cell of these rows narrows 'for every input' (looked for: loops, veiled, ifaces, maps, wideKeys, modest, calm, conditions, laid).
  DERIVED. THE GIVEN ROWS OF THIS SEAT. 5 by the template 'for every input the law returns true; each argument reads behind the call as it read before'; 0 by the template 'total and deterministic' (their statements: YtndfmgdpajcbdaaTotals.lean).
  GIVEN WITH THE SEED: the statements are not yours to turn. If you find one false, say at which input.
  Laid BY PROGRAM, IN A SANDBOX (cutbox-rows.mjs): the forced cells as the released guide's own fill.sh prints them over the translation 34e3955a00136853… (all of the seat's roots in one cut). By AI agents, Wed Nov 11 2026. No macro, syntax, notation, axiom, sorry.
-/
import Derived.Test.YtndfmgdpajcbdaaChecked
import GoSem.Claim
import GoSem.ClaimJoined
import GoSem.ClaimMapViews
import Derived.JoinedTies
import Derived.KernelRfl
namespace Go.Proofs.Ytndfmgdpajcbdaa
/- THE CELL 'sum', in the pinned program and in every row, IS THE sha256 OF THE DUMP (.gsa) THAT YtndfmgdpajcbdaaProg.lean LOADS. Nothing in Lean hashes anything: it is a label: what it is worth is what the hold of that sum in a sandbox is worth. -/
noncomputable def Try.pinned : Pinned := { name := "ytndfmgdpajcbdaa", sum := "34e3955a00136853ee73f319b9a72f0e6b84cab8c3e8008cd1b4f0fac4b28dae", checked := Try.checked }
namespace Rows
def none {H : Type} : Left H := { results := [], args := [] }

/-- 'quoinlaw06.ClassBytes': WHATEVER THE INPUT: true; the input reads as it did. -/
def classBytesSpec : ChangeSpec := { name := "classBytes", fn := fun _ => fun
  | [d] => { results := [.lit (.bool true)], args := [d] }
  | _ => none }
def classBytesRow : OpenClaim := { program := "ytndfmgdpajcbdaa", sum := "34e3955a00136853ee73f319b9a72f0e6b84cab8c3e8008cd1b4f0fac4b28dae", func := "quoin/quoinlaw06.ClassBytes", spec := "classBytes", inPlace := ["internal/bytealg.IndexByteString"], apart := false }
def ClassBytesSaid : Prop := classBytesRow.holds Try.pinned (OpenSpec.ofChange classBytesSpec)

/-- ITS FALSE NEIGHBOUR: 'it returns false'. Refute it at one input. -/
def classBytesWrong : ChangeSpec := { name := "classBytes", fn := fun _ => fun
  | [d] => { results := [.lit (.bool false)], args := [d] }
  | _ => none }
def ClassBytesWrongFalsely : Prop := classBytesRow.holds Try.pinned (OpenSpec.ofChange classBytesWrong)

/-- 'quoinlaw06.ClassPairs': WHATEVER THE INPUT: true; the input reads as it did. -/
def classPairsSpec : ChangeSpec := { name := "classPairs", fn := fun _ => fun
  | [d] => { results := [.lit (.bool true)], args := [d] }
  | _ => none }
def classPairsRow : OpenClaim := { program := "ytndfmgdpajcbdaa", sum := "34e3955a00136853ee73f319b9a72f0e6b84cab8c3e8008cd1b4f0fac4b28dae", func := "quoin/quoinlaw06.ClassPairs", spec := "classPairs", inPlace := ["internal/bytealg.IndexByteString"], apart := false }
def ClassPairsSaid : Prop := classPairsRow.holds Try.pinned (OpenSpec.ofChange classPairsSpec)

/-- ITS FALSE NEIGHBOUR: 'it returns false'. Refute it at one input. -/
def classPairsWrong : ChangeSpec := { name := "classPairs", fn := fun _ => fun
  | [d] => { results := [.lit (.bool false)], args := [d] }
  | _ => none }
def ClassPairsWrongFalsely : Prop := classPairsRow.holds Try.pinned (OpenSpec.ofChange classPairsWrong)

/-- 'quoinlaw06.ClassRuns': WHATEVER THE INPUT: true; the input reads as it did. -/
def classRunsSpec : ChangeSpec := { name := "classRuns", fn := fun _ => fun
  | [d1, d2] => { results := [.lit (.bool true)], args := [d1, d2] }
  | _ => none }
def classRunsRow : OpenClaim := { program := "ytndfmgdpajcbdaa", sum := "34e3955a00136853ee73f319b9a72f0e6b84cab8c3e8008cd1b4f0fac4b28dae", func := "quoin/quoinlaw06.ClassRuns", spec := "classRuns", inPlace := ["internal/bytealg.IndexByteString"], apart := false }
def ClassRunsSaid : Prop := classRunsRow.holds Try.pinned (OpenSpec.ofChange classRunsSpec)

/-- ITS FALSE NEIGHBOUR: 'it returns false'. Refute it at one input. -/
def classRunsWrong : ChangeSpec := { name := "classRuns", fn := fun _ => fun
  | [d1, d2] => { results := [.lit (.bool false)], args := [d1, d2] }
  | _ => none }
def ClassRunsWrongFalsely : Prop := classRunsRow.holds Try.pinned (OpenSpec.ofChange classRunsWrong)

/-- 'quoinlaw06.ClassCuts': WHATEVER THE INPUT: true; the input reads as it did. -/
def classCutsSpec : ChangeSpec := { name := "classCuts", fn := fun _ => fun
  | [d] => { results := [.lit (.bool true)], args := [d] }
  | _ => none }
def classCutsRow : OpenClaim := { program := "ytndfmgdpajcbdaa", sum := "34e3955a00136853ee73f319b9a72f0e6b84cab8c3e8008cd1b4f0fac4b28dae", func := "quoin/quoinlaw06.ClassCuts", spec := "classCuts", inPlace := ["internal/bytealg.IndexByteString"], apart := false }
def ClassCutsSaid : Prop := classCutsRow.holds Try.pinned (OpenSpec.ofChange classCutsSpec)

/-- ITS FALSE NEIGHBOUR: 'it returns false'. Refute it at one input. -/
def classCutsWrong : ChangeSpec := { name := "classCuts", fn := fun _ => fun
  | [d] => { results := [.lit (.bool false)], args := [d] }
  | _ => none }
def ClassCutsWrongFalsely : Prop := classCutsRow.holds Try.pinned (OpenSpec.ofChange classCutsWrong)

/-- 'quoinlaw06.ClassKeeps': WHATEVER THE INPUT: true; the input reads as it did. -/
def classKeepsSpec : ChangeSpec := { name := "classKeeps", fn := fun _ => fun
  | [d1, d2] => { results := [.lit (.bool true)], args := [d1, d2] }
  | _ => none }
def classKeepsRow : OpenClaim := { program := "ytndfmgdpajcbdaa", sum := "34e3955a00136853ee73f319b9a72f0e6b84cab8c3e8008cd1b4f0fac4b28dae", func := "quoin/quoinlaw06.ClassKeeps", spec := "classKeeps", inPlace := ["internal/bytealg.IndexByteString"], apart := false }
def ClassKeepsSaid : Prop := classKeepsRow.holds Try.pinned (OpenSpec.ofChange classKeepsSpec)

/-- ITS FALSE NEIGHBOUR: 'it returns false'. Refute it at one input. -/
def classKeepsWrong : ChangeSpec := { name := "classKeeps", fn := fun _ => fun
  | [d1, d2] => { results := [.lit (.bool false)], args := [d1, d2] }
  | _ => none }
def ClassKeepsWrongFalsely : Prop := classKeepsRow.holds Try.pinned (OpenSpec.ofChange classKeepsWrong)

/- THE SECOND FORM. 'bulk': how many values and letters a reading holds, each counted each time it is reached (what is shared counts as often as it is met; a slice's spare places count too). A statement '..UptoSaid' is the law's where the arguments, and the package variables that the reading takes, are together of bulk at most 1048576: NARROWER than '..Said'. Prove '..Said' where nothing that the law and all that it calls make is longer than what came in: it says more and counts as full. Else prove '..UptoSaid'. A law counts once. -/
mutual
def uptoBulk {H : Type} : DataW H → Nat
  | .lit (.string bytes) => bytes.length + 1
  | .lit _ => 1
  | .nil => 1
  | .ptr d => uptoBulk d + 1
  | .slice elems spare => uptoBulkAll elems + uptoBulkAll spare + 1
  | .agg parts => uptoBulkAll parts + 1
  | .iface _ d => uptoBulk d + 1
  | .map entries => uptoBulkEntries entries + 1
  | .held _ => 1
def uptoBulkAll {H : Type} : List (DataW H) → Nat
  | [] => 0
  | d :: r => uptoBulk d + uptoBulkAll r
def uptoBulkEntries {H : Type} : List (Lit × DataW H) → Nat
  | [] => 0
  | x :: r => uptoBulkEntry x + uptoBulkEntries r
def uptoBulkEntry {H : Type} : Lit × DataW H → Nat
  | (.string bytes, d) => bytes.length + uptoBulk d + 1
  | (_, d) => uptoBulk d + 1
 end
def uptoSmall : (H : Type) → List (DataW H) → Bool := fun _ ds => decide (uptoBulkAll ds ≤ 1048576)
def OpenSpec.upto (s : _root_.Go.ChangeSpec) : _root_.Go.OpenSpec := { _root_.Go.OpenSpec.ofChange s with cond := some uptoSmall }

/-- 'quoinlaw06.ClassBytes', WHERE WHAT IT READS IS OF BULK AT MOST 1048576: true; the input reads as it did. -/
def classBytesUptoRow : OpenClaim := { program := "ytndfmgdpajcbdaa", sum := "34e3955a00136853ee73f319b9a72f0e6b84cab8c3e8008cd1b4f0fac4b28dae", func := "quoin/quoinlaw06.ClassBytes", spec := "classBytes", inPlace := ["internal/bytealg.IndexByteString"], apart := false, narrowed := true }
def ClassBytesUptoSaid : Prop := classBytesUptoRow.holds Try.pinned (OpenSpec.upto classBytesSpec)

/-- 'quoinlaw06.ClassPairs', WHERE WHAT IT READS IS OF BULK AT MOST 1048576: true; the input reads as it did. -/
def classPairsUptoRow : OpenClaim := { program := "ytndfmgdpajcbdaa", sum := "34e3955a00136853ee73f319b9a72f0e6b84cab8c3e8008cd1b4f0fac4b28dae", func := "quoin/quoinlaw06.ClassPairs", spec := "classPairs", inPlace := ["internal/bytealg.IndexByteString"], apart := false, narrowed := true }
def ClassPairsUptoSaid : Prop := classPairsUptoRow.holds Try.pinned (OpenSpec.upto classPairsSpec)

/-- 'quoinlaw06.ClassRuns', WHERE WHAT IT READS IS OF BULK AT MOST 1048576: true; the input reads as it did. -/
def classRunsUptoRow : OpenClaim := { program := "ytndfmgdpajcbdaa", sum := "34e3955a00136853ee73f319b9a72f0e6b84cab8c3e8008cd1b4f0fac4b28dae", func := "quoin/quoinlaw06.ClassRuns", spec := "classRuns", inPlace := ["internal/bytealg.IndexByteString"], apart := false, narrowed := true }
def ClassRunsUptoSaid : Prop := classRunsUptoRow.holds Try.pinned (OpenSpec.upto classRunsSpec)

/-- 'quoinlaw06.ClassCuts', WHERE WHAT IT READS IS OF BULK AT MOST 1048576: true; the input reads as it did. -/
def classCutsUptoRow : OpenClaim := { program := "ytndfmgdpajcbdaa", sum := "34e3955a00136853ee73f319b9a72f0e6b84cab8c3e8008cd1b4f0fac4b28dae", func := "quoin/quoinlaw06.ClassCuts", spec := "classCuts", inPlace := ["internal/bytealg.IndexByteString"], apart := false, narrowed := true }
def ClassCutsUptoSaid : Prop := classCutsUptoRow.holds Try.pinned (OpenSpec.upto classCutsSpec)

/-- 'quoinlaw06.ClassKeeps', WHERE WHAT IT READS IS OF BULK AT MOST 1048576: true; the input reads as it did. -/
def classKeepsUptoRow : OpenClaim := { program := "ytndfmgdpajcbdaa", sum := "34e3955a00136853ee73f319b9a72f0e6b84cab8c3e8008cd1b4f0fac4b28dae", func := "quoin/quoinlaw06.ClassKeeps", spec := "classKeeps", inPlace := ["internal/bytealg.IndexByteString"], apart := false, narrowed := true }
def ClassKeepsUptoSaid : Prop := classKeepsUptoRow.holds Try.pinned (OpenSpec.upto classKeepsSpec)

end Rows
end Go.Proofs.Ytndfmgdpajcbdaa
