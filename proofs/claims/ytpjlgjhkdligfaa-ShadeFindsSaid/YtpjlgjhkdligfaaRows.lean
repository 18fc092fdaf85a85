/-
  No cell of these rows narrows 'for every input' (looked for: loops, veiled, ifaces, maps, wideKeys, modest, calm, conditions, laid).
  DERIVED. THE GIVEN ROWS OF THIS SEAT. 6 by the template 'for every input the law returns true; each argument reads behind the call as it read before'; 0 by the template 'total and deterministic' (their statements: YtpjlgjhkdligfaaTotals.lean).
  GIVEN WITH THE SEED: the statements are not yours to turn. If you find one false, say at which input.
  Laid BY PROGRAM, IN A SANDBOX (cutbox-rows.mjs): the forced cells as the released guide's own fill.sh prints them over the translation 48c4b337386c0893… (all of the seat's roots in one cut). By AI agents, Wed Nov 11 2026. No macro, syntax, notation, axiom, sorry.
-/
import Derived.Test.YtpjlgjhkdligfaaChecked
import GoSem.Claim
import GoSem.ClaimJoined
import GoSem.ClaimMapViews
import Derived.JoinedTies
import Derived.KernelRfl
namespace Go.Proofs.Ytpjlgjhkdligfaa
/- THE CELL 'sum', in the pinned program and in every row, IS THE sha256 OF THE DUMP (.gsa) THAT YtpjlgjhkdligfaaProg.lean LOADS. Nothing in Lean hashes anything: it is a label: what it is worth is what the hold of that sum in a sandbox is worth. -/
noncomputable def Try.pinned : Pinned := { name := "ytpjlgjhkdligfaa", sum := "48c4b337386c0893679bea7c8b03816a08fc006ab2151e38099723cdb92a8a7b", checked := Try.checked }
namespace Rows
def none {H : Type} : Left H := { results := [], args := [] }

/-- 'quoinlaw02.ShadeChecks': WHATEVER THE INPUT: true; the input reads as it did. -/
def shadeChecksSpec : ChangeSpec := { name := "shadeChecks", fn := fun _ => fun
  | [d] => { results := [.lit (.bool true)], args := [d] }
  | _ => none }
def shadeChecksRow : OpenClaim := { program := "ytpjlgjhkdligfaa", sum := "48c4b337386c0893679bea7c8b03816a08fc006ab2151e38099723cdb92a8a7b", func := "quoin/quoinlaw02.ShadeChecks", spec := "shadeChecks", unfollowed := true, recurses := true, apart := false }
def ShadeChecksSaid : Prop := shadeChecksRow.holds Try.pinned (OpenSpec.ofChange shadeChecksSpec)

/-- ITS FALSE NEIGHBOUR: 'it returns false'. Refute it at one input. -/
def shadeChecksWrong : ChangeSpec := { name := "shadeChecks", fn := fun _ => fun
  | [d] => { results := [.lit (.bool false)], args := [d] }
  | _ => none }
def ShadeChecksWrongFalsely : Prop := shadeChecksRow.holds Try.pinned (OpenSpec.ofChange shadeChecksWrong)

/-- 'quoinlaw02.ShadeWalks': WHATEVER THE INPUT: true; the input reads as it did. -/
def shadeWalksSpec : ChangeSpec := { name := "shadeWalks", fn := fun _ => fun
  | [d1, d2] => { results := [.lit (.bool true)], args := [d1, d2] }
  | _ => none }
def shadeWalksRow : OpenClaim := { program := "ytpjlgjhkdligfaa", sum := "48c4b337386c0893679bea7c8b03816a08fc006ab2151e38099723cdb92a8a7b", func := "quoin/quoinlaw02.ShadeWalks", spec := "shadeWalks", unfollowed := true, recurses := true, apart := false }
def ShadeWalksSaid : Prop := shadeWalksRow.holds Try.pinned (OpenSpec.ofChange shadeWalksSpec)

/-- ITS FALSE NEIGHBOUR: 'it returns false'. Refute it at one input. -/
def shadeWalksWrong : ChangeSpec := { name := "shadeWalks", fn := fun _ => fun
  | [d1, d2] => { results := [.lit (.bool false)], args := [d1, d2] }
  | _ => none }
def ShadeWalksWrongFalsely : Prop := shadeWalksRow.holds Try.pinned (OpenSpec.ofChange shadeWalksWrong)

/-- 'quoinlaw02.ShadeScripts': WHATEVER THE INPUT: true; the input reads as it did. -/
def shadeScriptsSpec : ChangeSpec := { name := "shadeScripts", fn := fun _ => fun
  | [d] => { results := [.lit (.bool true)], args := [d] }
  | _ => none }
def shadeScriptsRow : OpenClaim := { program := "ytpjlgjhkdligfaa", sum := "48c4b337386c0893679bea7c8b03816a08fc006ab2151e38099723cdb92a8a7b", func := "quoin/quoinlaw02.ShadeScripts", spec := "shadeScripts", unfollowed := true, recurses := true, apart := false }
def ShadeScriptsSaid : Prop := shadeScriptsRow.holds Try.pinned (OpenSpec.ofChange shadeScriptsSpec)

/-- ITS FALSE NEIGHBOUR: 'it returns false'. Refute it at one input. -/
def shadeScriptsWrong : ChangeSpec := { name := "shadeScripts", fn := fun _ => fun
  | [d] => { results := [.lit (.bool false)], args := [d] }
  | _ => none }
def ShadeScriptsWrongFalsely : Prop := shadeScriptsRow.holds Try.pinned (OpenSpec.ofChange shadeScriptsWrong)

/-- 'quoinlaw02.ShadeFinds': WHATEVER THE INPUT: true; the input reads as it did. -/
def shadeFindsSpec : ChangeSpec := { name := "shadeFinds", fn := fun _ => fun
  | [d1, d2] => { results := [.lit (.bool true)], args := [d1, d2] }
  | _ => none }
def shadeFindsRow : OpenClaim := { program := "ytpjlgjhkdligfaa", sum := "48c4b337386c0893679bea7c8b03816a08fc006ab2151e38099723cdb92a8a7b", func := "quoin/quoinlaw02.ShadeFinds", spec := "shadeFinds", unfollowed := true, recurses := true, apart := false }
def ShadeFindsSaid : Prop := shadeFindsRow.holds Try.pinned (OpenSpec.ofChange shadeFindsSpec)

/-- ITS FALSE NEIGHBOUR: 'it returns false'. Refute it at one input. -/
def shadeFindsWrong : ChangeSpec := { name := "shadeFinds", fn := fun _ => fun
  | [d1, d2] => { results := [.lit (.bool false)], args := [d1, d2] }
  | _ => none }
def ShadeFindsWrongFalsely : Prop := shadeFindsRow.holds Try.pinned (OpenSpec.ofChange shadeFindsWrong)

/-- 'quoinlaw02.ShadeAsks': WHATEVER THE INPUT: true; the input reads as it did. -/
def shadeAsksSpec : ChangeSpec := { name := "shadeAsks", fn := fun _ => fun
  | [d1, d2] => { results := [.lit (.bool true)], args := [d1, d2] }
  | _ => none }
def shadeAsksRow : OpenClaim := { program := "ytpjlgjhkdligfaa", sum := "48c4b337386c0893679bea7c8b03816a08fc006ab2151e38099723cdb92a8a7b", func := "quoin/quoinlaw02.ShadeAsks", spec := "shadeAsks", unfollowed := true, recurses := true, apart := false }
def ShadeAsksSaid : Prop := shadeAsksRow.holds Try.pinned (OpenSpec.ofChange shadeAsksSpec)

/-- ITS FALSE NEIGHBOUR: 'it returns false'. Refute it at one input. -/
def shadeAsksWrong : ChangeSpec := { name := "shadeAsks", fn := fun _ => fun
  | [d1, d2] => { results := [.lit (.bool false)], args := [d1, d2] }
  | _ => none }
def ShadeAsksWrongFalsely : Prop := shadeAsksRow.holds Try.pinned (OpenSpec.ofChange shadeAsksWrong)

/-- 'quoinlaw02.ShadeBlack': WHATEVER THE INPUT: true; the input reads as it did. -/
def shadeBlackSpec : ChangeSpec := { name := "shadeBlack", fn := fun _ => fun
  | [d] => { results := [.lit (.bool true)], args := [d] }
  | _ => none }
def shadeBlackRow : OpenClaim := { program := "ytpjlgjhkdligfaa", sum := "48c4b337386c0893679bea7c8b03816a08fc006ab2151e38099723cdb92a8a7b", func := "quoin/quoinlaw02.ShadeBlack", spec := "shadeBlack", unfollowed := true, recurses := true, apart := false }
def ShadeBlackSaid : Prop := shadeBlackRow.holds Try.pinned (OpenSpec.ofChange shadeBlackSpec)

/-- ITS FALSE NEIGHBOUR: 'it returns false'. Refute it at one input. -/
def shadeBlackWrong : ChangeSpec := { name := "shadeBlack", fn := fun _ => fun
  | [d] => { results := [.lit (.bool false)], args := [d] }
  | _ => none }
def ShadeBlackWrongFalsely : Prop := shadeBlackRow.holds Try.pinned (OpenSpec.ofChange shadeBlackWrong)

/- THE SECOND FORM. 'bulk': how many values and letters a reading holds, each counted each time it is reached (what is shared counts as often as it is met; a slice's spare places count too). A statement '..UptoSaid' is the law's where the arguments, and the package variables that the reading takes, are together of bulk at most 1048576: NARROWER than '..Said'. Prove '..Said' where nothing that the law and all that it calls make is longer than what came in: it says more and counts as full. Else prove '..UptoSaid'. A law counts once. -/
mutual
def uptoBulk {H : Type} : DataW H → Nat
  | .lit (.string bytes) => bytes.length + 1
  | .lit _ => 1
  | .nil => 1
  | .ptr d => uptoBulk d + 1
  | .slice elems spare => uptoBulkAll elems + uptoBulkAll spare + 1
  | .agg parts => uptoBulkAll parts + 1
  | .iface _ d => uptoBulk d + 1
  | .map entries => uptoBulkEntries entries + 1
  | .held _ => 1
def uptoBulkAll {H : Type} : List (DataW H) → Nat
  | [] => 0
  | d :: r => uptoBulk d + uptoBulkAll r
def uptoBulkEntries {H : Type} : List (Lit × DataW H) → Nat
  | [] => 0
  | x :: r => uptoBulkEntry x + uptoBulkEntries r
def uptoBulkEntry {H : Type} : Lit × DataW H → Nat
  | (.string bytes, d) => bytes.length + uptoBulk d + 1
  | (_, d) => uptoBulk d + 1
 end
def uptoSmall : (H : Type) → List (DataW H) → Bool := fun _ ds => decide (uptoBulkAll ds ≤ 1048576)
def OpenSpec.upto (s : _root_.Go.ChangeSpec) : _root_.Go.OpenSpec := { _root_.Go.OpenSpec.ofChange s with cond := some uptoSmall }

/-- 'quoinlaw02.ShadeChecks', WHERE WHAT IT READS IS OF BULK AT MOST 1048576: true; the input reads as it did. -/
def shadeChecksUptoRow : OpenClaim := { program := "ytpjlgjhkdligfaa", sum := "48c4b337386c0893679bea7c8b03816a08fc006ab2151e38099723cdb92a8a7b", func := "quoin/quoinlaw02.ShadeChecks", spec := "shadeChecks", unfollowed := true, recurses := true, apart := false, narrowed := true }
def ShadeChecksUptoSaid : Prop := shadeChecksUptoRow.holds Try.pinned (OpenSpec.upto shadeChecksSpec)

/-- 'quoinlaw02.ShadeWalks', WHERE WHAT IT READS IS OF BULK AT MOST 1048576: true; the input reads as it did. -/
def shadeWalksUptoRow : OpenClaim := { program := "ytpjlgjhkdligfaa", sum := "48c4b337386c0893679bea7c8b03816a08fc006ab2151e38099723cdb92a8a7b", func := "quoin/quoinlaw02.ShadeWalks", spec := "shadeWalks", unfollowed := true, recurses := true, apart := false, narrowed := true }
def ShadeWalksUptoSaid : Prop := shadeWalksUptoRow.holds Try.pinned (OpenSpec.upto shadeWalksSpec)

/-- 'quoinlaw02.ShadeScripts', WHERE WHAT IT READS IS OF BULK AT MOST 1048576: true; the input reads as it did. -/
def shadeScriptsUptoRow : OpenClaim := { program := "ytpjlgjhkdligfaa", sum := "48c4b337386c0893679bea7c8b03816a08fc006ab2151e38099723cdb92a8a7b", func := "quoin/quoinlaw02.ShadeScripts", spec := "shadeScripts", unfollowed := true, recurses := true, apart := false, narrowed := true }
def ShadeScriptsUptoSaid : Prop := shadeScriptsUptoRow.holds Try.pinned (OpenSpec.upto shadeScriptsSpec)

/-- 'quoinlaw02.ShadeFinds', WHERE WHAT IT READS IS OF BULK AT MOST 1048576: true; the input reads as it did. -/
def shadeFindsUptoRow : OpenClaim := { program := "ytpjlgjhkdligfaa", sum := "48c4b337386c0893679bea7c8b03816a08fc006ab2151e38099723cdb92a8a7b", func := "quoin/quoinlaw02.ShadeFinds", spec := "shadeFinds", unfollowed := true, recurses := true, apart := false, narrowed := true }
def ShadeFindsUptoSaid : Prop := shadeFindsUptoRow.holds Try.pinned (OpenSpec.upto shadeFindsSpec)

/-- 'quoinlaw02.ShadeAsks', WHERE WHAT IT READS IS OF BULK AT MOST 1048576: true; the input reads as it did. -/
def shadeAsksUptoRow : OpenClaim := { program := "ytpjlgjhkdligfaa", sum := "48c4b337386c0893679bea7c8b03816a08fc006ab2151e38099723cdb92a8a7b", func := "quoin/quoinlaw02.ShadeAsks", spec := "shadeAsks", unfollowed := true, recurses := true, apart := false, narrowed := true }
def ShadeAsksUptoSaid : Prop := shadeAsksUptoRow.holds Try.pinned (OpenSpec.upto shadeAsksSpec)

/-- 'quoinlaw02.ShadeBlack', WHERE WHAT IT READS IS OF BULK AT MOST 1048576: true; the input reads as it did. -/
def shadeBlackUptoRow : OpenClaim := { program := "ytpjlgjhkdligfaa", sum := "48c4b337386c0893679bea7c8b03816a08fc006ab2151e38099723cdb92a8a7b", func := "quoin/quoinlaw02.ShadeBlack", spec := "shadeBlack", unfollowed := true, recurses := true, apart := false, narrowed := true }
def ShadeBlackUptoSaid : Prop := shadeBlackUptoRow.holds Try.pinned (OpenSpec.upto shadeBlackSpec)

end Rows
end Go.Proofs.Ytpjlgjhkdligfaa
