/- A bank's functions, third part. No law, no condition. -/
import Derived.Test.YtaciagpkbdjbpaaCBk2
namespace Go.Proofs.Ytaciagpkbdjbpaa.Vg
open Go.RowKit
set_option maxRecDepth 100000
set_option linter.unusedVariables false
def cpO (f : FuncId) (B : Nat → Reg) (m o : Nat) : List Prop := (List.range m).flatMap fun i : Nat => [(0 : Int) ≤ (i : Int), (i : Int) < (m : Int), VC Try.prog f [tA (B (o + i)).cs] [] (tA (B (o + i)).cs) [], (0 : Int) ≤ (i : Int), (i : Int) < (m : Int)]
def cp1 (f : FuncId) (B : Nat → Reg) (i : Nat) : Prop := VC Try.prog f [tA (B i).cs] [] (tA (B i).cs) []
theorem cpO_ok {f : FuncId} {B : Nat → Reg} (h : ∀ i, cp1 f B i) (m o : Nat) {r : List Prop} (hr : AllP r) : AllP (cpO f B m o ++ r) := by
  refine allP_flat _ (fun i hi => ?_) hr
  have := List.mem_range.1 hi
  have h1 : (0 : Int) ≤ (i : Int) := by omega
  have h2 : (i : Int) < (m : Int) := by omega
  exact ⟨h1, h2, h _, h1, h2⟩
theorem whole (B : Nat → Reg) (hB : ∀ i, (B i).t.length ≤ 140737488355328) : VC Try.prog 30 ([tA (bk B)]) ([]) (tA (bk B)) ([]) :=
  vc_q mixed nonum (orc [(6, [(2, .fn fun ts => .call [] (tget ts 16) [])]), (11, [(2, .fn fun ts => .call [] (tget ts 27) [])]), (13, [(2, .fn fun ts => .call [] (tget ts 32) []), (5, .fn fun ts => .call [] (tget ts 35) [])])]) ([]) ([]) 97562675711270101268233955998934764050018338164166237040332391812599276591693501369532128906043222366793021713443767642197020305576800122846812932220653328719650582223044804856741545731251936434818531803716852082836979792670752648544333311617755668800100904605912274010935837493642755932772084070581047933183685098412793952057384589859863847462919125983294010025878956263333555105641558167277254458448522049526652270713683419891654569121138078776910925983194083300213299009533433171388661733607320059073261955967085219171588818700266225223756445004600648144613208442625872571929923021682357017535160914057705808145343280449605009876850815261314191841544260699532109875456946773188227840309478171636032081287376717133656324397750747167812156993067523334196479270968947787784330695991278229847231556855775928167173311884654751267249208637699553 (cpO 26 B 9 2 ++ (cpO 26 B 26 11 ++ [cp1 26 B 0, cp1 26 B 1])) (cpO_ok (fun i => copied _ (hB i)) _ _ (cpO_ok (fun i => copied _ (hB i)) _ _ ⟨copied _ (hB 0), copied _ (hB 1)⟩)) (by kernel_rfl)
end Go.Proofs.Ytaciagpkbdjbpaa.Vg
