/-
  No cell of these rows narrows 'for every input' (looked for: loops, veiled, ifaces, maps, wideKeys, modest, calm, conditions, laid).
  DERIVED. THE GIVEN ROWS OF THIS SEAT. 5 by the template 'for every input the law returns true; each argument reads behind the call as it read before'; 0 by the template 'total and deterministic' (their statements: YtbonmmpdpahhfaaTotals.lean).
  GIVEN WITH THE SEED: the statements are not yours to turn. If you find one false, say at which input.
  Laid BY PROGRAM, IN A SANDBOX (cutbox-rows.mjs): the forced cells as the released guide's own fill.sh prints them over the translation 8a7448cdc0abef52… (all of the seat's roots in one cut). By AI agents, Wed Nov 11 2026. No macro, syntax, notation, axiom, sorry.
-/
import Derived.Test.YtbonmmpdpahhfaaChecked
import GoSem.Claim
import GoSem.ClaimJoined
import GoSem.ClaimMapViews
import Derived.JoinedTies
import Derived.KernelRfl
namespace Go.Proofs.Ytbonmmpdpahhfaa
/- THE CELL 'sum', in the pinned program and in every row, IS THE sha256 OF THE DUMP (.gsa) THAT YtbonmmpdpahhfaaProg.lean LOADS. Nothing in Lean hashes anything: it is a label: what it is worth is what the hold of that sum in a sandbox is worth. -/
noncomputable def Try.pinned : Pinned := { name := "ytbonmmpdpahhfaa", sum := "8a7448cdc0abef521855ce6b80e62577b072479f5cd91fcb100743a3e10fb8ea", checked := Try.checked }
namespace Rows
def none {H : Type} : Left H := { results := [], args := [] }

/-- 'quoinlaw01.AddbufSpans': WHATEVER THE INPUT: true; the input reads as it did. -/
def addbufSpansSpec : ChangeSpec := { name := "addbufSpans", fn := fun _ => fun
  | [d1, d2, d3] => { results := [.lit (.bool true)], args := [d1, d2, d3] }
  | _ => none }
def addbufSpansRow : OpenClaim := { program := "ytbonmmpdpahhfaa", sum := "8a7448cdc0abef521855ce6b80e62577b072479f5cd91fcb100743a3e10fb8ea", func := "quoin/quoinlaw01.AddbufSpans", spec := "addbufSpans", apart := false }
def AddbufSpansSaid : Prop := addbufSpansRow.holds Try.pinned (OpenSpec.ofChange addbufSpansSpec)

/-- ITS FALSE NEIGHBOUR: 'it returns false'. Refute it at one input. -/
def addbufSpansWrong : ChangeSpec := { name := "addbufSpans", fn := fun _ => fun
  | [d1, d2, d3] => { results := [.lit (.bool false)], args := [d1, d2, d3] }
  | _ => none }
def AddbufSpansWrongFalsely : Prop := addbufSpansRow.holds Try.pinned (OpenSpec.ofChange addbufSpansWrong)

/-- 'quoinlaw01.AddbufBack': WHATEVER THE INPUT: true; the input reads as it did. -/
def addbufBackSpec : ChangeSpec := { name := "addbufBack", fn := fun _ => fun
  | [d1, d2, d3] => { results := [.lit (.bool true)], args := [d1, d2, d3] }
  | _ => none }
def addbufBackRow : OpenClaim := { program := "ytbonmmpdpahhfaa", sum := "8a7448cdc0abef521855ce6b80e62577b072479f5cd91fcb100743a3e10fb8ea", func := "quoin/quoinlaw01.AddbufBack", spec := "addbufBack", apart := false }
def AddbufBackSaid : Prop := addbufBackRow.holds Try.pinned (OpenSpec.ofChange addbufBackSpec)

/-- ITS FALSE NEIGHBOUR: 'it returns false'. Refute it at one input. -/
def addbufBackWrong : ChangeSpec := { name := "addbufBack", fn := fun _ => fun
  | [d1, d2, d3] => { results := [.lit (.bool false)], args := [d1, d2, d3] }
  | _ => none }
def AddbufBackWrongFalsely : Prop := addbufBackRow.holds Try.pinned (OpenSpec.ofChange addbufBackWrong)

/-- 'quoinlaw01.AddbufNil': WHATEVER THE INPUT: true; the input reads as it did. -/
def addbufNilSpec : ChangeSpec := { name := "addbufNil", fn := fun _ => fun
  | [d1, d2] => { results := [.lit (.bool true)], args := [d1, d2] }
  | _ => none }
def addbufNilRow : OpenClaim := { program := "ytbonmmpdpahhfaa", sum := "8a7448cdc0abef521855ce6b80e62577b072479f5cd91fcb100743a3e10fb8ea", func := "quoin/quoinlaw01.AddbufNil", spec := "addbufNil", inPlace := ["internal/bytealg.Count", "internal/bytealg.IndexByte", "internal/bytealg.Index"], named := ["internal/bytealg.MaxLen"], apart := false }
def AddbufNilSaid : Prop := addbufNilRow.holds Try.pinned (OpenSpec.ofChange addbufNilSpec)

/-- ITS FALSE NEIGHBOUR: 'it returns false'. Refute it at one input. -/
def addbufNilWrong : ChangeSpec := { name := "addbufNil", fn := fun _ => fun
  | [d1, d2] => { results := [.lit (.bool false)], args := [d1, d2] }
  | _ => none }
def AddbufNilWrongFalsely : Prop := addbufNilRow.holds Try.pinned (OpenSpec.ofChange addbufNilWrong)

/-- 'quoinlaw01.AddbufScripts': WHATEVER THE INPUT: true; the input reads as it did. -/
def addbufScriptsSpec : ChangeSpec := { name := "addbufScripts", fn := fun _ => fun
  | [d1, d2] => { results := [.lit (.bool true)], args := [d1, d2] }
  | _ => none }
def addbufScriptsRow : OpenClaim := { program := "ytbonmmpdpahhfaa", sum := "8a7448cdc0abef521855ce6b80e62577b072479f5cd91fcb100743a3e10fb8ea", func := "quoin/quoinlaw01.AddbufScripts", spec := "addbufScripts", inPlace := ["internal/bytealg.Count", "internal/bytealg.IndexByte", "internal/bytealg.Index"], named := ["internal/bytealg.MaxLen"], apart := false }
def AddbufScriptsSaid : Prop := addbufScriptsRow.holds Try.pinned (OpenSpec.ofChange addbufScriptsSpec)

/-- ITS FALSE NEIGHBOUR: 'it returns false'. Refute it at one input. -/
def addbufScriptsWrong : ChangeSpec := { name := "addbufScripts", fn := fun _ => fun
  | [d1, d2] => { results := [.lit (.bool false)], args := [d1, d2] }
  | _ => none }
def AddbufScriptsWrongFalsely : Prop := addbufScriptsRow.holds Try.pinned (OpenSpec.ofChange addbufScriptsWrong)

/-- 'quoinlaw01.AddbufStays': WHATEVER THE INPUT: true; the input reads as it did. -/
def addbufStaysSpec : ChangeSpec := { name := "addbufStays", fn := fun _ => fun
  | [d1, d2] => { results := [.lit (.bool true)], args := [d1, d2] }
  | _ => none }
def addbufStaysRow : OpenClaim := { program := "ytbonmmpdpahhfaa", sum := "8a7448cdc0abef521855ce6b80e62577b072479f5cd91fcb100743a3e10fb8ea", func := "quoin/quoinlaw01.AddbufStays", spec := "addbufStays", inPlace := ["internal/bytealg.Count", "internal/bytealg.IndexByte", "internal/bytealg.Index"], named := ["internal/bytealg.MaxLen"], apart := false }
def AddbufStaysSaid : Prop := addbufStaysRow.holds Try.pinned (OpenSpec.ofChange addbufStaysSpec)

/-- ITS FALSE NEIGHBOUR: 'it returns false'. Refute it at one input. -/
def addbufStaysWrong : ChangeSpec := { name := "addbufStays", fn := fun _ => fun
  | [d1, d2] => { results := [.lit (.bool false)], args := [d1, d2] }
  | _ => none }
def AddbufStaysWrongFalsely : Prop := addbufStaysRow.holds Try.pinned (OpenSpec.ofChange addbufStaysWrong)

/- THE SECOND FORM. 'bulk': how many values and letters a reading holds, each counted each time it is reached (what is shared counts as often as it is met; a slice's spare places count too). A statement '..UptoSaid' is the law's where the arguments, and the package variables that the reading takes, are together of bulk at most 1048576: NARROWER than '..Said'. Prove '..Said' where nothing that the law and all that it calls make is longer than what came in: it says more and counts as full. Else prove '..UptoSaid'. A law counts once. -/
mutual
def uptoBulk {H : Type} : DataW H → Nat
  | .lit (.string bytes) => bytes.length + 1
  | .lit _ => 1
  | .nil => 1
  | .ptr d => uptoBulk d + 1
  | .slice elems spare => uptoBulkAll elems + uptoBulkAll spare + 1
  | .agg parts => uptoBulkAll parts + 1
  | .iface _ d => uptoBulk d + 1
  | .map entries => uptoBulkEntries entries + 1
  | .held _ => 1
def uptoBulkAll {H : Type} : List (DataW H) → Nat
  | [] => 0
  | d :: r => uptoBulk d + uptoBulkAll r
def uptoBulkEntries {H : Type} : List (Lit × DataW H) → Nat
  | [] => 0
  | x :: r => uptoBulkEntry x + uptoBulkEntries r
def uptoBulkEntry {H : Type} : Lit × DataW H → Nat
  | (.string bytes, d) => bytes.length + uptoBulk d + 1
  | (_, d) => uptoBulk d + 1
 end
def uptoSmall : (H : Type) → List (DataW H) → Bool := fun _ ds => decide (uptoBulkAll ds ≤ 1048576)
def OpenSpec.upto (s : _root_.Go.ChangeSpec) : _root_.Go.OpenSpec := { _root_.Go.OpenSpec.ofChange s with cond := some uptoSmall }

/-- 'quoinlaw01.AddbufSpans', WHERE WHAT IT READS IS OF BULK AT MOST 1048576: true; the input reads as it did. -/
def addbufSpansUptoRow : OpenClaim := { program := "ytbonmmpdpahhfaa", sum := "8a7448cdc0abef521855ce6b80e62577b072479f5cd91fcb100743a3e10fb8ea", func := "quoin/quoinlaw01.AddbufSpans", spec := "addbufSpans", apart := false, narrowed := true }
def AddbufSpansUptoSaid : Prop := addbufSpansUptoRow.holds Try.pinned (OpenSpec.upto addbufSpansSpec)

/-- 'quoinlaw01.AddbufBack', WHERE WHAT IT READS IS OF BULK AT MOST 1048576: true; the input reads as it did. -/
def addbufBackUptoRow : OpenClaim := { program := "ytbonmmpdpahhfaa", sum := "8a7448cdc0abef521855ce6b80e62577b072479f5cd91fcb100743a3e10fb8ea", func := "quoin/quoinlaw01.AddbufBack", spec := "addbufBack", apart := false, narrowed := true }
def AddbufBackUptoSaid : Prop := addbufBackUptoRow.holds Try.pinned (OpenSpec.upto addbufBackSpec)

/-- 'quoinlaw01.AddbufNil', WHERE WHAT IT READS IS OF BULK AT MOST 1048576: true; the input reads as it did. -/
def addbufNilUptoRow : OpenClaim := { program := "ytbonmmpdpahhfaa", sum := "8a7448cdc0abef521855ce6b80e62577b072479f5cd91fcb100743a3e10fb8ea", func := "quoin/quoinlaw01.AddbufNil", spec := "addbufNil", inPlace := ["internal/bytealg.Count", "internal/bytealg.IndexByte", "internal/bytealg.Index"], named := ["internal/bytealg.MaxLen"], apart := false, narrowed := true }
def AddbufNilUptoSaid : Prop := addbufNilUptoRow.holds Try.pinned (OpenSpec.upto addbufNilSpec)

/-- 'quoinlaw01.AddbufScripts', WHERE WHAT IT READS IS OF BULK AT MOST 1048576: true; the input reads as it did. -/
def addbufScriptsUptoRow : OpenClaim := { program := "ytbonmmpdpahhfaa", sum := "8a7448cdc0abef521855ce6b80e62577b072479f5cd91fcb100743a3e10fb8ea", func := "quoin/quoinlaw01.AddbufScripts", spec := "addbufScripts", inPlace := ["internal/bytealg.Count", "internal/bytealg.IndexByte", "internal/bytealg.Index"], named := ["internal/bytealg.MaxLen"], apart := false, narrowed := true }
def AddbufScriptsUptoSaid : Prop := addbufScriptsUptoRow.holds Try.pinned (OpenSpec.upto addbufScriptsSpec)

/-- 'quoinlaw01.AddbufStays', WHERE WHAT IT READS IS OF BULK AT MOST 1048576: true; the input reads as it did. -/
def addbufStaysUptoRow : OpenClaim := { program := "ytbonmmpdpahhfaa", sum := "8a7448cdc0abef521855ce6b80e62577b072479f5cd91fcb100743a3e10fb8ea", func := "quoin/quoinlaw01.AddbufStays", spec := "addbufStays", inPlace := ["internal/bytealg.Count", "internal/bytealg.IndexByte", "internal/bytealg.Index"], named := ["internal/bytealg.MaxLen"], apart := false, narrowed := true }
def AddbufStaysUptoSaid : Prop := addbufStaysUptoRow.holds Try.pinned (OpenSpec.upto addbufStaysSpec)

end Rows
end Go.Proofs.Ytbonmmpdpahhfaa
