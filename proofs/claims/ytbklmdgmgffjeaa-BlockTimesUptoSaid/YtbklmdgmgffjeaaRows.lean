/-
  No cell of these rows narrows 'for every input' (looked for: loops, veiled, ifaces, maps, wideKeys, modest, calm, conditions, laid).
  DERIVED. THE GIVEN ROWS OF THIS SEAT. 4 by the template 'for every input the law returns true; each argument reads behind the call as it read before'; 0 by the template 'total and deterministic' (their statements: YtbklmdgmgffjeaaTotals.lean).
  GIVEN WITH THE SEED: the statements are not yours to turn. If you find one false, say at which input.
  Laid BY PROGRAM, IN A SANDBOX (cutbox-rows.mjs): the forced cells as the released guide's own fill.sh prints them over the translation 971f8389d5c498f1… (all of the seat's roots in one cut). By AI agents, Wed Nov 11 2026. No macro, syntax, notation, axiom, sorry.
-/
import Derived.Test.YtbklmdgmgffjeaaChecked
import GoSem.Claim
import GoSem.ClaimJoined
import GoSem.ClaimMapViews
import Derived.JoinedTies
import Derived.KernelRfl
namespace Go.Proofs.Ytbklmdgmgffjeaa
/- THE CELL 'sum', in the pinned program and in every row, IS THE sha256 OF THE DUMP (.gsa) THAT YtbklmdgmgffjeaaProg.lean LOADS. Nothing in Lean hashes anything: it is a label: what it is worth is what the hold of that sum in a sandbox is worth. -/
noncomputable def Try.pinned : Pinned := { name := "ytbklmdgmgffjeaa", sum := "971f8389d5c498f1e1a5535d8e5fee7ba6cb7c71b328b1ac6539d567b86d725b", checked := Try.checked }
namespace Rows
def none {H : Type} : Left H := { results := [], args := [] }

/-- 'quoinlaw10.BlockMoves': WHATEVER THE INPUT: true; the input reads as it did. -/
def blockMovesSpec : ChangeSpec := { name := "blockMoves", fn := fun _ => fun
  | [d1, d2] => { results := [.lit (.bool true)], args := [d1, d2] }
  | _ => none }
def blockMovesRow : OpenClaim := { program := "ytbklmdgmgffjeaa", sum := "971f8389d5c498f1e1a5535d8e5fee7ba6cb7c71b328b1ac6539d567b86d725b", func := "quoin/quoinlaw10.BlockMoves", spec := "blockMoves", inPlace := ["internal/bytealg.IndexByteString", "internal/bytealg.Count", "internal/bytealg.IndexByte", "internal/bytealg.Index"], named := ["internal/bytealg.MaxLen"], apart := false }
def BlockMovesSaid : Prop := blockMovesRow.holds Try.pinned (OpenSpec.ofChange blockMovesSpec)

/-- ITS FALSE NEIGHBOUR: 'it returns false'. Refute it at one input. -/
def blockMovesWrong : ChangeSpec := { name := "blockMoves", fn := fun _ => fun
  | [d1, d2] => { results := [.lit (.bool false)], args := [d1, d2] }
  | _ => none }
def BlockMovesWrongFalsely : Prop := blockMovesRow.holds Try.pinned (OpenSpec.ofChange blockMovesWrong)

/-- 'quoinlaw10.BlockTimes': WHATEVER THE INPUT: true; the input reads as it did. -/
def blockTimesSpec : ChangeSpec := { name := "blockTimes", fn := fun _ => fun
  | [d1, d2] => { results := [.lit (.bool true)], args := [d1, d2] }
  | _ => none }
def blockTimesRow : OpenClaim := { program := "ytbklmdgmgffjeaa", sum := "971f8389d5c498f1e1a5535d8e5fee7ba6cb7c71b328b1ac6539d567b86d725b", func := "quoin/quoinlaw10.BlockTimes", spec := "blockTimes", inPlace := ["internal/bytealg.IndexByteString", "internal/bytealg.Count", "internal/bytealg.IndexByte", "internal/bytealg.Index"], named := ["internal/bytealg.MaxLen"], apart := false }
def BlockTimesSaid : Prop := blockTimesRow.holds Try.pinned (OpenSpec.ofChange blockTimesSpec)

/-- ITS FALSE NEIGHBOUR: 'it returns false'. Refute it at one input. -/
def blockTimesWrong : ChangeSpec := { name := "blockTimes", fn := fun _ => fun
  | [d1, d2] => { results := [.lit (.bool false)], args := [d1, d2] }
  | _ => none }
def BlockTimesWrongFalsely : Prop := blockTimesRow.holds Try.pinned (OpenSpec.ofChange blockTimesWrong)

/-- 'quoinlaw10.BlockPairs': WHATEVER THE INPUT: true; the input reads as it did. -/
def blockPairsSpec : ChangeSpec := { name := "blockPairs", fn := fun _ => fun
  | [d1, d2] => { results := [.lit (.bool true)], args := [d1, d2] }
  | _ => none }
def blockPairsRow : OpenClaim := { program := "ytbklmdgmgffjeaa", sum := "971f8389d5c498f1e1a5535d8e5fee7ba6cb7c71b328b1ac6539d567b86d725b", func := "quoin/quoinlaw10.BlockPairs", spec := "blockPairs", inPlace := ["internal/bytealg.IndexByteString", "internal/bytealg.Count", "internal/bytealg.IndexByte", "internal/bytealg.Index"], named := ["internal/bytealg.MaxLen"], apart := false }
def BlockPairsSaid : Prop := blockPairsRow.holds Try.pinned (OpenSpec.ofChange blockPairsSpec)

/-- ITS FALSE NEIGHBOUR: 'it returns false'. Refute it at one input. -/
def blockPairsWrong : ChangeSpec := { name := "blockPairs", fn := fun _ => fun
  | [d1, d2] => { results := [.lit (.bool false)], args := [d1, d2] }
  | _ => none }
def BlockPairsWrongFalsely : Prop := blockPairsRow.holds Try.pinned (OpenSpec.ofChange blockPairsWrong)

/-- 'quoinlaw10.BlockStops': WHATEVER THE INPUT: true; the input reads as it did. -/
def blockStopsSpec : ChangeSpec := { name := "blockStops", fn := fun _ => fun
  | [d1, d2] => { results := [.lit (.bool true)], args := [d1, d2] }
  | _ => none }
def blockStopsRow : OpenClaim := { program := "ytbklmdgmgffjeaa", sum := "971f8389d5c498f1e1a5535d8e5fee7ba6cb7c71b328b1ac6539d567b86d725b", func := "quoin/quoinlaw10.BlockStops", spec := "blockStops", inPlace := ["internal/bytealg.IndexByteString", "internal/bytealg.Count", "internal/bytealg.IndexByte", "internal/bytealg.Index"], unfollowed := true, recurses := true, named := ["internal/bytealg.MaxLen"], apart := false }
def BlockStopsSaid : Prop := blockStopsRow.holds Try.pinned (OpenSpec.ofChange blockStopsSpec)

/-- ITS FALSE NEIGHBOUR: 'it returns false'. Refute it at one input. -/
def blockStopsWrong : ChangeSpec := { name := "blockStops", fn := fun _ => fun
  | [d1, d2] => { results := [.lit (.bool false)], args := [d1, d2] }
  | _ => none }
def BlockStopsWrongFalsely : Prop := blockStopsRow.holds Try.pinned (OpenSpec.ofChange blockStopsWrong)

/- THE SECOND FORM. 'bulk': how many values and letters a reading holds, each counted each time it is reached (what is shared counts as often as it is met; a slice's spare places count too). A statement '..UptoSaid' is the law's where the arguments, and the package variables that the reading takes, are together of bulk at most 1048576: NARROWER than '..Said'. Prove '..Said' where nothing that the law and all that it calls make is longer than what came in: it says more and counts as full. Else prove '..UptoSaid'. A law counts once. -/
mutual
def uptoBulk {H : Type} : DataW H → Nat
  | .lit (.string bytes) => bytes.length + 1
  | .lit _ => 1
  | .nil => 1
  | .ptr d => uptoBulk d + 1
  | .slice elems spare => uptoBulkAll elems + uptoBulkAll spare + 1
  | .agg parts => uptoBulkAll parts + 1
  | .iface _ d => uptoBulk d + 1
  | .map entries => uptoBulkEntries entries + 1
  | .held _ => 1
def uptoBulkAll {H : Type} : List (DataW H) → Nat
  | [] => 0
  | d :: r => uptoBulk d + uptoBulkAll r
def uptoBulkEntries {H : Type} : List (Lit × DataW H) → Nat
  | [] => 0
  | x :: r => uptoBulkEntry x + uptoBulkEntries r
def uptoBulkEntry {H : Type} : Lit × DataW H → Nat
  | (.string bytes, d) => bytes.length + uptoBulk d + 1
  | (_, d) => uptoBulk d + 1
 end
def uptoSmall : (H : Type) → List (DataW H) → Bool := fun _ ds => decide (uptoBulkAll ds ≤ 1048576)
def OpenSpec.upto (s : _root_.Go.ChangeSpec) : _root_.Go.OpenSpec := { _root_.Go.OpenSpec.ofChange s with cond := some uptoSmall }

/-- 'quoinlaw10.BlockMoves', WHERE WHAT IT READS IS OF BULK AT MOST 1048576: true; the input reads as it did. -/
def blockMovesUptoRow : OpenClaim := { program := "ytbklmdgmgffjeaa", sum := "971f8389d5c498f1e1a5535d8e5fee7ba6cb7c71b328b1ac6539d567b86d725b", func := "quoin/quoinlaw10.BlockMoves", spec := "blockMoves", inPlace := ["internal/bytealg.IndexByteString", "internal/bytealg.Count", "internal/bytealg.IndexByte", "internal/bytealg.Index"], named := ["internal/bytealg.MaxLen"], apart := false, narrowed := true }
def BlockMovesUptoSaid : Prop := blockMovesUptoRow.holds Try.pinned (OpenSpec.upto blockMovesSpec)

/-- 'quoinlaw10.BlockTimes', WHERE WHAT IT READS IS OF BULK AT MOST 1048576: true; the input reads as it did. -/
def blockTimesUptoRow : OpenClaim := { program := "ytbklmdgmgffjeaa", sum := "971f8389d5c498f1e1a5535d8e5fee7ba6cb7c71b328b1ac6539d567b86d725b", func := "quoin/quoinlaw10.BlockTimes", spec := "blockTimes", inPlace := ["internal/bytealg.IndexByteString", "internal/bytealg.Count", "internal/bytealg.IndexByte", "internal/bytealg.Index"], named := ["internal/bytealg.MaxLen"], apart := false, narrowed := true }
def BlockTimesUptoSaid : Prop := blockTimesUptoRow.holds Try.pinned (OpenSpec.upto blockTimesSpec)

/-- 'quoinlaw10.BlockPairs', WHERE WHAT IT READS IS OF BULK AT MOST 1048576: true; the input reads as it did. -/
def blockPairsUptoRow : OpenClaim := { program := "ytbklmdgmgffjeaa", sum := "971f8389d5c498f1e1a5535d8e5fee7ba6cb7c71b328b1ac6539d567b86d725b", func := "quoin/quoinlaw10.BlockPairs", spec := "blockPairs", inPlace := ["internal/bytealg.IndexByteString", "internal/bytealg.Count", "internal/bytealg.IndexByte", "internal/bytealg.Index"], named := ["internal/bytealg.MaxLen"], apart := false, narrowed := true }
def BlockPairsUptoSaid : Prop := blockPairsUptoRow.holds Try.pinned (OpenSpec.upto blockPairsSpec)

/-- 'quoinlaw10.BlockStops', WHERE WHAT IT READS IS OF BULK AT MOST 1048576: true; the input reads as it did. -/
def blockStopsUptoRow : OpenClaim := { program := "ytbklmdgmgffjeaa", sum := "971f8389d5c498f1e1a5535d8e5fee7ba6cb7c71b328b1ac6539d567b86d725b", func := "quoin/quoinlaw10.BlockStops", spec := "blockStops", inPlace := ["internal/bytealg.IndexByteString", "internal/bytealg.Count", "internal/bytealg.IndexByte", "internal/bytealg.Index"], unfollowed := true, recurses := true, named := ["internal/bytealg.MaxLen"], apart := false, narrowed := true }
def BlockStopsUptoSaid : Prop := blockStopsUptoRow.holds Try.pinned (OpenSpec.upto blockStopsSpec)

end Rows
end Go.Proofs.Ytbklmdgmgffjeaa
