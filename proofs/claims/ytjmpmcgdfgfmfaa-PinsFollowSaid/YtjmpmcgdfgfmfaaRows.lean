/-
  No cell of these rows narrows 'for every input' (looked for: loops, veiled, ifaces, maps, wideKeys, modest, calm, conditions, laid).
  DERIVED. THE GIVEN ROWS OF THIS SEAT. 7 by the template 'for every input the law returns true; each argument reads behind the call as it read before'; 0 by the template 'total and deterministic' (their statements: YtjmpmcgdfgfmfaaTotals.lean).
  GIVEN WITH THE SEED: the statements are not yours to turn. If you find one false, say at which input.
  Laid BY PROGRAM, IN A SANDBOX (cutbox-rows.mjs): the forced cells as the released guide's own fill.sh prints them over the translation 9763dbe9ff573b21… (all of the seat's roots in one cut). By AI agents, Wed Nov 11 2026. No macro, syntax, notation, axiom, sorry.
-/
import Derived.Test.YtjmpmcgdfgfmfaaChecked
import GoSem.Claim
import GoSem.ClaimJoined
import GoSem.ClaimMapViews
import Derived.JoinedTies
import Derived.KernelRfl
namespace Go.Proofs.Ytjmpmcgdfgfmfaa
/- THE CELL 'sum', in the pinned program and in every row, IS THE sha256 OF THE DUMP (.gsa) THAT YtjmpmcgdfgfmfaaProg.lean LOADS. Nothing in Lean hashes anything: it is a label: what it is worth is what the hold of that sum in a sandbox is worth. -/
noncomputable def Try.pinned : Pinned := { name := "ytjmpmcgdfgfmfaa", sum := "9763dbe9ff573b21518e129eebde2719d23fd1536b5a4af36af9525fcbc595e2", checked := Try.checked }
namespace Rows
def none {H : Type} : Left H := { results := [], args := [] }

/-- 'quoinlaw16.PinsNames': WHATEVER THE INPUT: true; the input reads as it did. -/
def pinsNamesSpec : ChangeSpec := { name := "pinsNames", fn := fun _ => fun
  | [d1, d2, d3] => { results := [.lit (.bool true)], args := [d1, d2, d3] }
  | _ => none }
def pinsNamesRow : OpenClaim := { program := "ytjmpmcgdfgfmfaa", sum := "9763dbe9ff573b21518e129eebde2719d23fd1536b5a4af36af9525fcbc595e2", func := "quoin/quoinlaw16.PinsNames", spec := "pinsNames", unfollowed := true, recurses := true, apart := false }
def PinsNamesSaid : Prop := pinsNamesRow.holds Try.pinned (OpenSpec.ofChange pinsNamesSpec)

/-- ITS FALSE NEIGHBOUR: 'it returns false'. Refute it at one input. -/
def pinsNamesWrong : ChangeSpec := { name := "pinsNames", fn := fun _ => fun
  | [d1, d2, d3] => { results := [.lit (.bool false)], args := [d1, d2, d3] }
  | _ => none }
def PinsNamesWrongFalsely : Prop := pinsNamesRow.holds Try.pinned (OpenSpec.ofChange pinsNamesWrong)

/-- 'quoinlaw16.PinsMoves': WHATEVER THE INPUT: true; the input reads as it did. -/
def pinsMovesSpec : ChangeSpec := { name := "pinsMoves", fn := fun _ => fun
  | [d1, d2] => { results := [.lit (.bool true)], args := [d1, d2] }
  | _ => none }
def pinsMovesRow : OpenClaim := { program := "ytjmpmcgdfgfmfaa", sum := "9763dbe9ff573b21518e129eebde2719d23fd1536b5a4af36af9525fcbc595e2", func := "quoin/quoinlaw16.PinsMoves", spec := "pinsMoves", unfollowed := true, recurses := true, apart := false }
def PinsMovesSaid : Prop := pinsMovesRow.holds Try.pinned (OpenSpec.ofChange pinsMovesSpec)

/-- ITS FALSE NEIGHBOUR: 'it returns false'. Refute it at one input. -/
def pinsMovesWrong : ChangeSpec := { name := "pinsMoves", fn := fun _ => fun
  | [d1, d2] => { results := [.lit (.bool false)], args := [d1, d2] }
  | _ => none }
def PinsMovesWrongFalsely : Prop := pinsMovesRow.holds Try.pinned (OpenSpec.ofChange pinsMovesWrong)

/-- 'quoinlaw16.PinsParts': WHATEVER THE INPUT: true; the input reads as it did. -/
def pinsPartsSpec : ChangeSpec := { name := "pinsParts", fn := fun _ => fun
  | [d1, d2, d3] => { results := [.lit (.bool true)], args := [d1, d2, d3] }
  | _ => none }
def pinsPartsRow : OpenClaim := { program := "ytjmpmcgdfgfmfaa", sum := "9763dbe9ff573b21518e129eebde2719d23fd1536b5a4af36af9525fcbc595e2", func := "quoin/quoinlaw16.PinsParts", spec := "pinsParts", unfollowed := true, recurses := true, apart := false }
def PinsPartsSaid : Prop := pinsPartsRow.holds Try.pinned (OpenSpec.ofChange pinsPartsSpec)

/-- ITS FALSE NEIGHBOUR: 'it returns false'. Refute it at one input. -/
def pinsPartsWrong : ChangeSpec := { name := "pinsParts", fn := fun _ => fun
  | [d1, d2, d3] => { results := [.lit (.bool false)], args := [d1, d2, d3] }
  | _ => none }
def PinsPartsWrongFalsely : Prop := pinsPartsRow.holds Try.pinned (OpenSpec.ofChange pinsPartsWrong)

/-- 'quoinlaw16.PinsFollow': WHATEVER THE INPUT: true; the input reads as it did. -/
def pinsFollowSpec : ChangeSpec := { name := "pinsFollow", fn := fun _ => fun
  | [d1, d2, d3] => { results := [.lit (.bool true)], args := [d1, d2, d3] }
  | _ => none }
def pinsFollowRow : OpenClaim := { program := "ytjmpmcgdfgfmfaa", sum := "9763dbe9ff573b21518e129eebde2719d23fd1536b5a4af36af9525fcbc595e2", func := "quoin/quoinlaw16.PinsFollow", spec := "pinsFollow", unfollowed := true, recurses := true, apart := false }
def PinsFollowSaid : Prop := pinsFollowRow.holds Try.pinned (OpenSpec.ofChange pinsFollowSpec)

/-- ITS FALSE NEIGHBOUR: 'it returns false'. Refute it at one input. -/
def pinsFollowWrong : ChangeSpec := { name := "pinsFollow", fn := fun _ => fun
  | [d1, d2, d3] => { results := [.lit (.bool false)], args := [d1, d2, d3] }
  | _ => none }
def PinsFollowWrongFalsely : Prop := pinsFollowRow.holds Try.pinned (OpenSpec.ofChange pinsFollowWrong)

/-- 'quoinlaw16.PinsFits': WHATEVER THE INPUT: true; the input reads as it did. -/
def pinsFitsSpec : ChangeSpec := { name := "pinsFits", fn := fun _ => fun
  | [d1, d2] => { results := [.lit (.bool true)], args := [d1, d2] }
  | _ => none }
def pinsFitsRow : OpenClaim := { program := "ytjmpmcgdfgfmfaa", sum := "9763dbe9ff573b21518e129eebde2719d23fd1536b5a4af36af9525fcbc595e2", func := "quoin/quoinlaw16.PinsFits", spec := "pinsFits", unfollowed := true, recurses := true, apart := false }
def PinsFitsSaid : Prop := pinsFitsRow.holds Try.pinned (OpenSpec.ofChange pinsFitsSpec)

/-- ITS FALSE NEIGHBOUR: 'it returns false'. Refute it at one input. -/
def pinsFitsWrong : ChangeSpec := { name := "pinsFits", fn := fun _ => fun
  | [d1, d2] => { results := [.lit (.bool false)], args := [d1, d2] }
  | _ => none }
def PinsFitsWrongFalsely : Prop := pinsFitsRow.holds Try.pinned (OpenSpec.ofChange pinsFitsWrong)

/-- 'quoinlaw16.PinsCrosses': WHATEVER THE INPUT: true; the input reads as it did. -/
def pinsCrossesSpec : ChangeSpec := { name := "pinsCrosses", fn := fun _ => fun
  | [d1, d2] => { results := [.lit (.bool true)], args := [d1, d2] }
  | _ => none }
def pinsCrossesRow : OpenClaim := { program := "ytjmpmcgdfgfmfaa", sum := "9763dbe9ff573b21518e129eebde2719d23fd1536b5a4af36af9525fcbc595e2", func := "quoin/quoinlaw16.PinsCrosses", spec := "pinsCrosses", unfollowed := true, recurses := true, apart := false }
def PinsCrossesSaid : Prop := pinsCrossesRow.holds Try.pinned (OpenSpec.ofChange pinsCrossesSpec)

/-- ITS FALSE NEIGHBOUR: 'it returns false'. Refute it at one input. -/
def pinsCrossesWrong : ChangeSpec := { name := "pinsCrosses", fn := fun _ => fun
  | [d1, d2] => { results := [.lit (.bool false)], args := [d1, d2] }
  | _ => none }
def PinsCrossesWrongFalsely : Prop := pinsCrossesRow.holds Try.pinned (OpenSpec.ofChange pinsCrossesWrong)

/-- 'quoinlaw16.PinsBack': WHATEVER THE INPUT: true; the input reads as it did. -/
def pinsBackSpec : ChangeSpec := { name := "pinsBack", fn := fun _ => fun
  | [d1, d2, d3] => { results := [.lit (.bool true)], args := [d1, d2, d3] }
  | _ => none }
def pinsBackRow : OpenClaim := { program := "ytjmpmcgdfgfmfaa", sum := "9763dbe9ff573b21518e129eebde2719d23fd1536b5a4af36af9525fcbc595e2", func := "quoin/quoinlaw16.PinsBack", spec := "pinsBack", unfollowed := true, recurses := true, apart := false }
def PinsBackSaid : Prop := pinsBackRow.holds Try.pinned (OpenSpec.ofChange pinsBackSpec)

/-- ITS FALSE NEIGHBOUR: 'it returns false'. Refute it at one input. -/
def pinsBackWrong : ChangeSpec := { name := "pinsBack", fn := fun _ => fun
  | [d1, d2, d3] => { results := [.lit (.bool false)], args := [d1, d2, d3] }
  | _ => none }
def PinsBackWrongFalsely : Prop := pinsBackRow.holds Try.pinned (OpenSpec.ofChange pinsBackWrong)

/- THE SECOND FORM. 'bulk': how many values and letters a reading holds, each counted each time it is reached (what is shared counts as often as it is met; a slice's spare places count too). A statement '..UptoSaid' is the law's where the arguments, and the package variables that the reading takes, are together of bulk at most 1048576: NARROWER than '..Said'. Prove '..Said' where nothing that the law and all that it calls make is longer than what came in: it says more and counts as full. Else prove '..UptoSaid'. A law counts once. -/
mutual
def uptoBulk {H : Type} : DataW H → Nat
  | .lit (.string bytes) => bytes.length + 1
  | .lit _ => 1
  | .nil => 1
  | .ptr d => uptoBulk d + 1
  | .slice elems spare => uptoBulkAll elems + uptoBulkAll spare + 1
  | .agg parts => uptoBulkAll parts + 1
  | .iface _ d => uptoBulk d + 1
  | .map entries => uptoBulkEntries entries + 1
  | .held _ => 1
def uptoBulkAll {H : Type} : List (DataW H) → Nat
  | [] => 0
  | d :: r => uptoBulk d + uptoBulkAll r
def uptoBulkEntries {H : Type} : List (Lit × DataW H) → Nat
  | [] => 0
  | x :: r => uptoBulkEntry x + uptoBulkEntries r
def uptoBulkEntry {H : Type} : Lit × DataW H → Nat
  | (.string bytes, d) => bytes.length + uptoBulk d + 1
  | (_, d) => uptoBulk d + 1
 end
def uptoSmall : (H : Type) → List (DataW H) → Bool := fun _ ds => decide (uptoBulkAll ds ≤ 1048576)
def OpenSpec.upto (s : _root_.Go.ChangeSpec) : _root_.Go.OpenSpec := { _root_.Go.OpenSpec.ofChange s with cond := some uptoSmall }

/-- 'quoinlaw16.PinsNames', WHERE WHAT IT READS IS OF BULK AT MOST 1048576: true; the input reads as it did. -/
def pinsNamesUptoRow : OpenClaim := { program := "ytjmpmcgdfgfmfaa", sum := "9763dbe9ff573b21518e129eebde2719d23fd1536b5a4af36af9525fcbc595e2", func := "quoin/quoinlaw16.PinsNames", spec := "pinsNames", unfollowed := true, recurses := true, apart := false, narrowed := true }
def PinsNamesUptoSaid : Prop := pinsNamesUptoRow.holds Try.pinned (OpenSpec.upto pinsNamesSpec)

/-- 'quoinlaw16.PinsMoves', WHERE WHAT IT READS IS OF BULK AT MOST 1048576: true; the input reads as it did. -/
def pinsMovesUptoRow : OpenClaim := { program := "ytjmpmcgdfgfmfaa", sum := "9763dbe9ff573b21518e129eebde2719d23fd1536b5a4af36af9525fcbc595e2", func := "quoin/quoinlaw16.PinsMoves", spec := "pinsMoves", unfollowed := true, recurses := true, apart := false, narrowed := true }
def PinsMovesUptoSaid : Prop := pinsMovesUptoRow.holds Try.pinned (OpenSpec.upto pinsMovesSpec)

/-- 'quoinlaw16.PinsParts', WHERE WHAT IT READS IS OF BULK AT MOST 1048576: true; the input reads as it did. -/
def pinsPartsUptoRow : OpenClaim := { program := "ytjmpmcgdfgfmfaa", sum := "9763dbe9ff573b21518e129eebde2719d23fd1536b5a4af36af9525fcbc595e2", func := "quoin/quoinlaw16.PinsParts", spec := "pinsParts", unfollowed := true, recurses := true, apart := false, narrowed := true }
def PinsPartsUptoSaid : Prop := pinsPartsUptoRow.holds Try.pinned (OpenSpec.upto pinsPartsSpec)

/-- 'quoinlaw16.PinsFollow', WHERE WHAT IT READS IS OF BULK AT MOST 1048576: true; the input reads as it did. -/
def pinsFollowUptoRow : OpenClaim := { program := "ytjmpmcgdfgfmfaa", sum := "9763dbe9ff573b21518e129eebde2719d23fd1536b5a4af36af9525fcbc595e2", func := "quoin/quoinlaw16.PinsFollow", spec := "pinsFollow", unfollowed := true, recurses := true, apart := false, narrowed := true }
def PinsFollowUptoSaid : Prop := pinsFollowUptoRow.holds Try.pinned (OpenSpec.upto pinsFollowSpec)

/-- 'quoinlaw16.PinsFits', WHERE WHAT IT READS IS OF BULK AT MOST 1048576: true; the input reads as it did. -/
def pinsFitsUptoRow : OpenClaim := { program := "ytjmpmcgdfgfmfaa", sum := "9763dbe9ff573b21518e129eebde2719d23fd1536b5a4af36af9525fcbc595e2", func := "quoin/quoinlaw16.PinsFits", spec := "pinsFits", unfollowed := true, recurses := true, apart := false, narrowed := true }
def PinsFitsUptoSaid : Prop := pinsFitsUptoRow.holds Try.pinned (OpenSpec.upto pinsFitsSpec)

/-- 'quoinlaw16.PinsCrosses', WHERE WHAT IT READS IS OF BULK AT MOST 1048576: true; the input reads as it did. -/
def pinsCrossesUptoRow : OpenClaim := { program := "ytjmpmcgdfgfmfaa", sum := "9763dbe9ff573b21518e129eebde2719d23fd1536b5a4af36af9525fcbc595e2", func := "quoin/quoinlaw16.PinsCrosses", spec := "pinsCrosses", unfollowed := true, recurses := true, apart := false, narrowed := true }
def PinsCrossesUptoSaid : Prop := pinsCrossesUptoRow.holds Try.pinned (OpenSpec.upto pinsCrossesSpec)

/-- 'quoinlaw16.PinsBack', WHERE WHAT IT READS IS OF BULK AT MOST 1048576: true; the input reads as it did. -/
def pinsBackUptoRow : OpenClaim := { program := "ytjmpmcgdfgfmfaa", sum := "9763dbe9ff573b21518e129eebde2719d23fd1536b5a4af36af9525fcbc595e2", func := "quoin/quoinlaw16.PinsBack", spec := "pinsBack", unfollowed := true, recurses := true, apart := false, narrowed := true }
def PinsBackUptoSaid : Prop := pinsBackUptoRow.holds Try.pinned (OpenSpec.upto pinsBackSpec)

end Rows
end Go.Proofs.Ytjmpmcgdfgfmfaa
