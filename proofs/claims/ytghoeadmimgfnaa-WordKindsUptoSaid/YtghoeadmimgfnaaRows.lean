/-
  No cell of these rows narrows 'for every input' (looked for: loops, veiled, ifaces, maps, wideKeys, modest, calm, conditions, laid).
  DERIVED. THE GIVEN ROWS OF THIS SEAT. 5 by the template 'for every input the law returns true; each argument reads behind the call as it read before'; 0 by the template 'total and deterministic' (their statements: YtghoeadmimgfnaaTotals.lean).
  GIVEN WITH THE SEED: the statements are not yours to turn. If you find one false, say at which input.
  Laid BY PROGRAM, IN A SANDBOX (cutbox-rows.mjs): the forced cells as the released guide's own fill.sh prints them over the translation 57424209f109e4b8… (all of the seat's roots in one cut). By AI agents, Wed Nov 11 2026. No macro, syntax, notation, axiom, sorry.
-/
import Derived.Test.YtghoeadmimgfnaaChecked
import GoSem.Claim
import GoSem.ClaimJoined
import GoSem.ClaimMapViews
import Derived.JoinedTies
import Derived.KernelRfl
namespace Go.Proofs.Ytghoeadmimgfnaa
/- THE CELL 'sum', in the pinned program and in every row, IS THE sha256 OF THE DUMP (.gsa) THAT YtghoeadmimgfnaaProg.lean LOADS. Nothing in Lean hashes anything: it is a label: what it is worth is what the hold of that sum in a sandbox is worth. -/
noncomputable def Try.pinned : Pinned := { name := "ytghoeadmimgfnaa", sum := "57424209f109e4b85aad93e6f78faf3ba64e1272bcd52020043e5ae022a8be44", checked := Try.checked }
namespace Rows
def none {H : Type} : Left H := { results := [], args := [] }

/-- 'quoinlaw08.WordMoves': WHATEVER THE INPUT: true; the input reads as it did. -/
def wordMovesSpec : ChangeSpec := { name := "wordMoves", fn := fun _ => fun
  | [d] => { results := [.lit (.bool true)], args := [d] }
  | _ => none }
def wordMovesRow : OpenClaim := { program := "ytghoeadmimgfnaa", sum := "57424209f109e4b85aad93e6f78faf3ba64e1272bcd52020043e5ae022a8be44", func := "quoin/quoinlaw08.WordMoves", spec := "wordMoves", unfollowed := true, recurses := true, apart := false }
def WordMovesSaid : Prop := wordMovesRow.holds Try.pinned (OpenSpec.ofChange wordMovesSpec)

/-- ITS FALSE NEIGHBOUR: 'it returns false'. Refute it at one input. -/
def wordMovesWrong : ChangeSpec := { name := "wordMoves", fn := fun _ => fun
  | [d] => { results := [.lit (.bool false)], args := [d] }
  | _ => none }
def WordMovesWrongFalsely : Prop := wordMovesRow.holds Try.pinned (OpenSpec.ofChange wordMovesWrong)

/-- 'quoinlaw08.WordSteps': WHATEVER THE INPUT: true; the input reads as it did. -/
def wordStepsSpec : ChangeSpec := { name := "wordSteps", fn := fun _ => fun
  | [d] => { results := [.lit (.bool true)], args := [d] }
  | _ => none }
def wordStepsRow : OpenClaim := { program := "ytghoeadmimgfnaa", sum := "57424209f109e4b85aad93e6f78faf3ba64e1272bcd52020043e5ae022a8be44", func := "quoin/quoinlaw08.WordSteps", spec := "wordSteps", unfollowed := true, recurses := true, apart := false }
def WordStepsSaid : Prop := wordStepsRow.holds Try.pinned (OpenSpec.ofChange wordStepsSpec)

/-- ITS FALSE NEIGHBOUR: 'it returns false'. Refute it at one input. -/
def wordStepsWrong : ChangeSpec := { name := "wordSteps", fn := fun _ => fun
  | [d] => { results := [.lit (.bool false)], args := [d] }
  | _ => none }
def WordStepsWrongFalsely : Prop := wordStepsRow.holds Try.pinned (OpenSpec.ofChange wordStepsWrong)

/-- 'quoinlaw08.WordWays': WHATEVER THE INPUT: true; the input reads as it did. -/
def wordWaysSpec : ChangeSpec := { name := "wordWays", fn := fun _ => fun
  | [d1, d2, d3] => { results := [.lit (.bool true)], args := [d1, d2, d3] }
  | _ => none }
def wordWaysRow : OpenClaim := { program := "ytghoeadmimgfnaa", sum := "57424209f109e4b85aad93e6f78faf3ba64e1272bcd52020043e5ae022a8be44", func := "quoin/quoinlaw08.WordWays", spec := "wordWays", unfollowed := true, recurses := true, apart := false }
def WordWaysSaid : Prop := wordWaysRow.holds Try.pinned (OpenSpec.ofChange wordWaysSpec)

/-- ITS FALSE NEIGHBOUR: 'it returns false'. Refute it at one input. -/
def wordWaysWrong : ChangeSpec := { name := "wordWays", fn := fun _ => fun
  | [d1, d2, d3] => { results := [.lit (.bool false)], args := [d1, d2, d3] }
  | _ => none }
def WordWaysWrongFalsely : Prop := wordWaysRow.holds Try.pinned (OpenSpec.ofChange wordWaysWrong)

/-- 'quoinlaw08.WordBack': WHATEVER THE INPUT: true; the input reads as it did. -/
def wordBackSpec : ChangeSpec := { name := "wordBack", fn := fun _ => fun
  | [d1, d2, d3] => { results := [.lit (.bool true)], args := [d1, d2, d3] }
  | _ => none }
def wordBackRow : OpenClaim := { program := "ytghoeadmimgfnaa", sum := "57424209f109e4b85aad93e6f78faf3ba64e1272bcd52020043e5ae022a8be44", func := "quoin/quoinlaw08.WordBack", spec := "wordBack", unfollowed := true, recurses := true, apart := false }
def WordBackSaid : Prop := wordBackRow.holds Try.pinned (OpenSpec.ofChange wordBackSpec)

/-- ITS FALSE NEIGHBOUR: 'it returns false'. Refute it at one input. -/
def wordBackWrong : ChangeSpec := { name := "wordBack", fn := fun _ => fun
  | [d1, d2, d3] => { results := [.lit (.bool false)], args := [d1, d2, d3] }
  | _ => none }
def WordBackWrongFalsely : Prop := wordBackRow.holds Try.pinned (OpenSpec.ofChange wordBackWrong)

/-- 'quoinlaw08.WordKinds': WHATEVER THE INPUT: true; the input reads as it did. -/
def wordKindsSpec : ChangeSpec := { name := "wordKinds", fn := fun _ => fun
  | [d1, d2] => { results := [.lit (.bool true)], args := [d1, d2] }
  | _ => none }
def wordKindsRow : OpenClaim := { program := "ytghoeadmimgfnaa", sum := "57424209f109e4b85aad93e6f78faf3ba64e1272bcd52020043e5ae022a8be44", func := "quoin/quoinlaw08.WordKinds", spec := "wordKinds", unfollowed := true, recurses := true, apart := false }
def WordKindsSaid : Prop := wordKindsRow.holds Try.pinned (OpenSpec.ofChange wordKindsSpec)

/-- ITS FALSE NEIGHBOUR: 'it returns false'. Refute it at one input. -/
def wordKindsWrong : ChangeSpec := { name := "wordKinds", fn := fun _ => fun
  | [d1, d2] => { results := [.lit (.bool false)], args := [d1, d2] }
  | _ => none }
def WordKindsWrongFalsely : Prop := wordKindsRow.holds Try.pinned (OpenSpec.ofChange wordKindsWrong)

/- THE SECOND FORM. 'bulk': how many values and letters a reading holds, each counted each time it is reached (what is shared counts as often as it is met; a slice's spare places count too). A statement '..UptoSaid' is the law's where the arguments, and the package variables that the reading takes, are together of bulk at most 1048576: NARROWER than '..Said'. Prove '..Said' where nothing that the law and all that it calls make is longer than what came in: it says more and counts as full. Else prove '..UptoSaid'. A law counts once. -/
mutual
def uptoBulk {H : Type} : DataW H → Nat
  | .lit (.string bytes) => bytes.length + 1
  | .lit _ => 1
  | .nil => 1
  | .ptr d => uptoBulk d + 1
  | .slice elems spare => uptoBulkAll elems + uptoBulkAll spare + 1
  | .agg parts => uptoBulkAll parts + 1
  | .iface _ d => uptoBulk d + 1
  | .map entries => uptoBulkEntries entries + 1
  | .held _ => 1
def uptoBulkAll {H : Type} : List (DataW H) → Nat
  | [] => 0
  | d :: r => uptoBulk d + uptoBulkAll r
def uptoBulkEntries {H : Type} : List (Lit × DataW H) → Nat
  | [] => 0
  | x :: r => uptoBulkEntry x + uptoBulkEntries r
def uptoBulkEntry {H : Type} : Lit × DataW H → Nat
  | (.string bytes, d) => bytes.length + uptoBulk d + 1
  | (_, d) => uptoBulk d + 1
 end
def uptoSmall : (H : Type) → List (DataW H) → Bool := fun _ ds => decide (uptoBulkAll ds ≤ 1048576)
def OpenSpec.upto (s : _root_.Go.ChangeSpec) : _root_.Go.OpenSpec := { _root_.Go.OpenSpec.ofChange s with cond := some uptoSmall }

/-- 'quoinlaw08.WordMoves', WHERE WHAT IT READS IS OF BULK AT MOST 1048576: true; the input reads as it did. -/
def wordMovesUptoRow : OpenClaim := { program := "ytghoeadmimgfnaa", sum := "57424209f109e4b85aad93e6f78faf3ba64e1272bcd52020043e5ae022a8be44", func := "quoin/quoinlaw08.WordMoves", spec := "wordMoves", unfollowed := true, recurses := true, apart := false, narrowed := true }
def WordMovesUptoSaid : Prop := wordMovesUptoRow.holds Try.pinned (OpenSpec.upto wordMovesSpec)

/-- 'quoinlaw08.WordSteps', WHERE WHAT IT READS IS OF BULK AT MOST 1048576: true; the input reads as it did. -/
def wordStepsUptoRow : OpenClaim := { program := "ytghoeadmimgfnaa", sum := "57424209f109e4b85aad93e6f78faf3ba64e1272bcd52020043e5ae022a8be44", func := "quoin/quoinlaw08.WordSteps", spec := "wordSteps", unfollowed := true, recurses := true, apart := false, narrowed := true }
def WordStepsUptoSaid : Prop := wordStepsUptoRow.holds Try.pinned (OpenSpec.upto wordStepsSpec)

/-- 'quoinlaw08.WordWays', WHERE WHAT IT READS IS OF BULK AT MOST 1048576: true; the input reads as it did. -/
def wordWaysUptoRow : OpenClaim := { program := "ytghoeadmimgfnaa", sum := "57424209f109e4b85aad93e6f78faf3ba64e1272bcd52020043e5ae022a8be44", func := "quoin/quoinlaw08.WordWays", spec := "wordWays", unfollowed := true, recurses := true, apart := false, narrowed := true }
def WordWaysUptoSaid : Prop := wordWaysUptoRow.holds Try.pinned (OpenSpec.upto wordWaysSpec)

/-- 'quoinlaw08.WordBack', WHERE WHAT IT READS IS OF BULK AT MOST 1048576: true; the input reads as it did. -/
def wordBackUptoRow : OpenClaim := { program := "ytghoeadmimgfnaa", sum := "57424209f109e4b85aad93e6f78faf3ba64e1272bcd52020043e5ae022a8be44", func := "quoin/quoinlaw08.WordBack", spec := "wordBack", unfollowed := true, recurses := true, apart := false, narrowed := true }
def WordBackUptoSaid : Prop := wordBackUptoRow.holds Try.pinned (OpenSpec.upto wordBackSpec)

/-- 'quoinlaw08.WordKinds', WHERE WHAT IT READS IS OF BULK AT MOST 1048576: true; the input reads as it did. -/
def wordKindsUptoRow : OpenClaim := { program := "ytghoeadmimgfnaa", sum := "57424209f109e4b85aad93e6f78faf3ba64e1272bcd52020043e5ae022a8be44", func := "quoin/quoinlaw08.WordKinds", spec := "wordKinds", unfollowed := true, recurses := true, apart := false, narrowed := true }
def WordKindsUptoSaid : Prop := wordKindsUptoRow.holds Try.pinned (OpenSpec.upto wordKindsSpec)

end Rows
end Go.Proofs.Ytghoeadmimgfnaa
