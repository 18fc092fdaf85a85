/-
  No cell of these rows narrows 'for every input' (looked for: loops, veiled, ifaces, maps, wideKeys, modest, calm, conditions, laid).
  DERIVED. THE GIVEN ROWS OF THIS SEAT. 6 by the template 'for every input the law returns true; each argument reads behind the call as it read before'; 0 by the template 'total and deterministic' (their statements: YtaciagpkbdjbpaaTotals.lean).
  GIVEN WITH THE SEED: the statements are not yours to turn. If you find one false, say at which input.
  Laid BY PROGRAM, IN A SANDBOX (cutbox-rows.mjs): the forced cells as the released guide's own fill.sh prints them over the translation deab8ed239a6c2ba… (all of the seat's roots in one cut). By AI agents, Wed Nov 11 2026. No macro, syntax, notation, axiom, sorry.
-/
import Derived.Test.YtaciagpkbdjbpaaChecked
import GoSem.Claim
import GoSem.ClaimJoined
import GoSem.ClaimMapViews
import Derived.JoinedTies
import Derived.KernelRfl
namespace Go.Proofs.Ytaciagpkbdjbpaa
/- THE CELL 'sum', in the pinned program and in every row, IS THE sha256 OF THE DUMP (.gsa) THAT YtaciagpkbdjbpaaProg.lean LOADS. Nothing in Lean hashes anything: it is a label: what it is worth is what the hold of that sum in a sandbox is worth. -/
noncomputable def Try.pinned : Pinned := { name := "ytaciagpkbdjbpaa", sum := "deab8ed239a6c2ba7bca2cb5afffec24c1997c74f69273cd1d1d2d9c096e29fe", checked := Try.checked }
namespace Rows
def none {H : Type} : Left H := { results := [], args := [] }

/-- 'quoinlaw15.BankGets': WHATEVER THE INPUT: true; the input reads as it did. -/
def bankGetsSpec : ChangeSpec := { name := "bankGets", fn := fun _ => fun
  | [d1, d2] => { results := [.lit (.bool true)], args := [d1, d2] }
  | _ => none }
def bankGetsRow : OpenClaim := { program := "ytaciagpkbdjbpaa", sum := "deab8ed239a6c2ba7bca2cb5afffec24c1997c74f69273cd1d1d2d9c096e29fe", func := "quoin/quoinlaw15.BankGets", spec := "bankGets", apart := false }
def BankGetsSaid : Prop := bankGetsRow.holds Try.pinned (OpenSpec.ofChange bankGetsSpec)

/-- ITS FALSE NEIGHBOUR: 'it returns false'. Refute it at one input. -/
def bankGetsWrong : ChangeSpec := { name := "bankGets", fn := fun _ => fun
  | [d1, d2] => { results := [.lit (.bool false)], args := [d1, d2] }
  | _ => none }
def BankGetsWrongFalsely : Prop := bankGetsRow.holds Try.pinned (OpenSpec.ofChange bankGetsWrong)

/-- 'quoinlaw15.BankPuts': WHATEVER THE INPUT: true; the input reads as it did. -/
def bankPutsSpec : ChangeSpec := { name := "bankPuts", fn := fun _ => fun
  | [d1, d2] => { results := [.lit (.bool true)], args := [d1, d2] }
  | _ => none }
def bankPutsRow : OpenClaim := { program := "ytaciagpkbdjbpaa", sum := "deab8ed239a6c2ba7bca2cb5afffec24c1997c74f69273cd1d1d2d9c096e29fe", func := "quoin/quoinlaw15.BankPuts", spec := "bankPuts", apart := false }
def BankPutsSaid : Prop := bankPutsRow.holds Try.pinned (OpenSpec.ofChange bankPutsSpec)

/-- ITS FALSE NEIGHBOUR: 'it returns false'. Refute it at one input. -/
def bankPutsWrong : ChangeSpec := { name := "bankPuts", fn := fun _ => fun
  | [d1, d2] => { results := [.lit (.bool false)], args := [d1, d2] }
  | _ => none }
def BankPutsWrongFalsely : Prop := bankPutsRow.holds Try.pinned (OpenSpec.ofChange bankPutsWrong)

/-- 'quoinlaw15.BankOthers': WHATEVER THE INPUT: true; the input reads as it did. -/
def bankOthersSpec : ChangeSpec := { name := "bankOthers", fn := fun _ => fun
  | [d1, d2] => { results := [.lit (.bool true)], args := [d1, d2] }
  | _ => none }
def bankOthersRow : OpenClaim := { program := "ytaciagpkbdjbpaa", sum := "deab8ed239a6c2ba7bca2cb5afffec24c1997c74f69273cd1d1d2d9c096e29fe", func := "quoin/quoinlaw15.BankOthers", spec := "bankOthers", apart := false }
def BankOthersSaid : Prop := bankOthersRow.holds Try.pinned (OpenSpec.ofChange bankOthersSpec)

/-- ITS FALSE NEIGHBOUR: 'it returns false'. Refute it at one input. -/
def bankOthersWrong : ChangeSpec := { name := "bankOthers", fn := fun _ => fun
  | [d1, d2] => { results := [.lit (.bool false)], args := [d1, d2] }
  | _ => none }
def BankOthersWrongFalsely : Prop := bankOthersRow.holds Try.pinned (OpenSpec.ofChange bankOthersWrong)

/-- 'quoinlaw15.BankPushes': WHATEVER THE INPUT: true; the input reads as it did. -/
def bankPushesSpec : ChangeSpec := { name := "bankPushes", fn := fun _ => fun
  | [d] => { results := [.lit (.bool true)], args := [d] }
  | _ => none }
def bankPushesRow : OpenClaim := { program := "ytaciagpkbdjbpaa", sum := "deab8ed239a6c2ba7bca2cb5afffec24c1997c74f69273cd1d1d2d9c096e29fe", func := "quoin/quoinlaw15.BankPushes", spec := "bankPushes", apart := false }
def BankPushesSaid : Prop := bankPushesRow.holds Try.pinned (OpenSpec.ofChange bankPushesSpec)

/-- ITS FALSE NEIGHBOUR: 'it returns false'. Refute it at one input. -/
def bankPushesWrong : ChangeSpec := { name := "bankPushes", fn := fun _ => fun
  | [d] => { results := [.lit (.bool false)], args := [d] }
  | _ => none }
def BankPushesWrongFalsely : Prop := bankPushesRow.holds Try.pinned (OpenSpec.ofChange bankPushesWrong)

/-- 'quoinlaw15.BankAppends': WHATEVER THE INPUT: true; the input reads as it did. -/
def bankAppendsSpec : ChangeSpec := { name := "bankAppends", fn := fun _ => fun
  | [d1, d2, d3] => { results := [.lit (.bool true)], args := [d1, d2, d3] }
  | _ => none }
def bankAppendsRow : OpenClaim := { program := "ytaciagpkbdjbpaa", sum := "deab8ed239a6c2ba7bca2cb5afffec24c1997c74f69273cd1d1d2d9c096e29fe", func := "quoin/quoinlaw15.BankAppends", spec := "bankAppends", apart := false }
def BankAppendsSaid : Prop := bankAppendsRow.holds Try.pinned (OpenSpec.ofChange bankAppendsSpec)

/-- ITS FALSE NEIGHBOUR: 'it returns false'. Refute it at one input. -/
def bankAppendsWrong : ChangeSpec := { name := "bankAppends", fn := fun _ => fun
  | [d1, d2, d3] => { results := [.lit (.bool false)], args := [d1, d2, d3] }
  | _ => none }
def BankAppendsWrongFalsely : Prop := bankAppendsRow.holds Try.pinned (OpenSpec.ofChange bankAppendsWrong)

/-- 'quoinlaw15.BankKeeps': WHATEVER THE INPUT: true; the input reads as it did. -/
def bankKeepsSpec : ChangeSpec := { name := "bankKeeps", fn := fun _ => fun
  | [d1, d2] => { results := [.lit (.bool true)], args := [d1, d2] }
  | _ => none }
def bankKeepsRow : OpenClaim := { program := "ytaciagpkbdjbpaa", sum := "deab8ed239a6c2ba7bca2cb5afffec24c1997c74f69273cd1d1d2d9c096e29fe", func := "quoin/quoinlaw15.BankKeeps", spec := "bankKeeps", apart := false }
def BankKeepsSaid : Prop := bankKeepsRow.holds Try.pinned (OpenSpec.ofChange bankKeepsSpec)

/-- ITS FALSE NEIGHBOUR: 'it returns false'. Refute it at one input. -/
def bankKeepsWrong : ChangeSpec := { name := "bankKeeps", fn := fun _ => fun
  | [d1, d2] => { results := [.lit (.bool false)], args := [d1, d2] }
  | _ => none }
def BankKeepsWrongFalsely : Prop := bankKeepsRow.holds Try.pinned (OpenSpec.ofChange bankKeepsWrong)

/- THE SECOND FORM. 'bulk': how many values and letters a reading holds, each counted each time it is reached (what is shared counts as often as it is met; a slice's spare places count too). A statement '..UptoSaid' is the law's where the arguments, and the package variables that the reading takes, are together of bulk at most 1048576: NARROWER than '..Said'. Prove '..Said' where nothing that the law and all that it calls make is longer than what came in: it says more and counts as full. Else prove '..UptoSaid'. A law counts once. -/
mutual
def uptoBulk {H : Type} : DataW H → Nat
  | .lit (.string bytes) => bytes.length + 1
  | .lit _ => 1
  | .nil => 1
  | .ptr d => uptoBulk d + 1
  | .slice elems spare => uptoBulkAll elems + uptoBulkAll spare + 1
  | .agg parts => uptoBulkAll parts + 1
  | .iface _ d => uptoBulk d + 1
  | .map entries => uptoBulkEntries entries + 1
  | .held _ => 1
def uptoBulkAll {H : Type} : List (DataW H) → Nat
  | [] => 0
  | d :: r => uptoBulk d + uptoBulkAll r
def uptoBulkEntries {H : Type} : List (Lit × DataW H) → Nat
  | [] => 0
  | x :: r => uptoBulkEntry x + uptoBulkEntries r
def uptoBulkEntry {H : Type} : Lit × DataW H → Nat
  | (.string bytes, d) => bytes.length + uptoBulk d + 1
  | (_, d) => uptoBulk d + 1
 end
def uptoSmall : (H : Type) → List (DataW H) → Bool := fun _ ds => decide (uptoBulkAll ds ≤ 1048576)
def OpenSpec.upto (s : _root_.Go.ChangeSpec) : _root_.Go.OpenSpec := { _root_.Go.OpenSpec.ofChange s with cond := some uptoSmall }

/-- 'quoinlaw15.BankGets', WHERE WHAT IT READS IS OF BULK AT MOST 1048576: true; the input reads as it did. -/
def bankGetsUptoRow : OpenClaim := { program := "ytaciagpkbdjbpaa", sum := "deab8ed239a6c2ba7bca2cb5afffec24c1997c74f69273cd1d1d2d9c096e29fe", func := "quoin/quoinlaw15.BankGets", spec := "bankGets", apart := false, narrowed := true }
def BankGetsUptoSaid : Prop := bankGetsUptoRow.holds Try.pinned (OpenSpec.upto bankGetsSpec)

/-- 'quoinlaw15.BankPuts', WHERE WHAT IT READS IS OF BULK AT MOST 1048576: true; the input reads as it did. -/
def bankPutsUptoRow : OpenClaim := { program := "ytaciagpkbdjbpaa", sum := "deab8ed239a6c2ba7bca2cb5afffec24c1997c74f69273cd1d1d2d9c096e29fe", func := "quoin/quoinlaw15.BankPuts", spec := "bankPuts", apart := false, narrowed := true }
def BankPutsUptoSaid : Prop := bankPutsUptoRow.holds Try.pinned (OpenSpec.upto bankPutsSpec)

/-- 'quoinlaw15.BankOthers', WHERE WHAT IT READS IS OF BULK AT MOST 1048576: true; the input reads as it did. -/
def bankOthersUptoRow : OpenClaim := { program := "ytaciagpkbdjbpaa", sum := "deab8ed239a6c2ba7bca2cb5afffec24c1997c74f69273cd1d1d2d9c096e29fe", func := "quoin/quoinlaw15.BankOthers", spec := "bankOthers", apart := false, narrowed := true }
def BankOthersUptoSaid : Prop := bankOthersUptoRow.holds Try.pinned (OpenSpec.upto bankOthersSpec)

/-- 'quoinlaw15.BankPushes', WHERE WHAT IT READS IS OF BULK AT MOST 1048576: true; the input reads as it did. -/
def bankPushesUptoRow : OpenClaim := { program := "ytaciagpkbdjbpaa", sum := "deab8ed239a6c2ba7bca2cb5afffec24c1997c74f69273cd1d1d2d9c096e29fe", func := "quoin/quoinlaw15.BankPushes", spec := "bankPushes", apart := false, narrowed := true }
def BankPushesUptoSaid : Prop := bankPushesUptoRow.holds Try.pinned (OpenSpec.upto bankPushesSpec)

/-- 'quoinlaw15.BankAppends', WHERE WHAT IT READS IS OF BULK AT MOST 1048576: true; the input reads as it did. -/
def bankAppendsUptoRow : OpenClaim := { program := "ytaciagpkbdjbpaa", sum := "deab8ed239a6c2ba7bca2cb5afffec24c1997c74f69273cd1d1d2d9c096e29fe", func := "quoin/quoinlaw15.BankAppends", spec := "bankAppends", apart := false, narrowed := true }
def BankAppendsUptoSaid : Prop := bankAppendsUptoRow.holds Try.pinned (OpenSpec.upto bankAppendsSpec)

/-- 'quoinlaw15.BankKeeps', WHERE WHAT IT READS IS OF BULK AT MOST 1048576: true; the input reads as it did. -/
def bankKeepsUptoRow : OpenClaim := { program := "ytaciagpkbdjbpaa", sum := "deab8ed239a6c2ba7bca2cb5afffec24c1997c74f69273cd1d1d2d9c096e29fe", func := "quoin/quoinlaw15.BankKeeps", spec := "bankKeeps", apart := false, narrowed := true }
def BankKeepsUptoSaid : Prop := bankKeepsUptoRow.holds Try.pinned (OpenSpec.upto bankKeepsSpec)

end Rows
end Go.Proofs.Ytaciagpkbdjbpaa
