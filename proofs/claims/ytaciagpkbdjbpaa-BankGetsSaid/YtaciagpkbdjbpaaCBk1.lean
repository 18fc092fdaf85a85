/- A bank's functions, first part. No law, no condition. -/
import Derived.Test.YtaciagpkbdjbpaaVgC
import Derived.Test.YtaciagpkbdjbpaaProg
namespace Go.Proofs.Ytaciagpkbdjbpaa.Vg
open Go.RowKit
set_option maxRecDepth 100000
set_option linter.unusedVariables false
theorem mixed : Try.prog.follows .mixedOrders = true := by kernel_rfl
theorem nonum : noNum Try.prog = true := by kernel_rfl
/-- a content -/
structure Reg where
  s : Bool
  l : Bool
  t : List Int
def txt (t : List Int) : FV := .sl none (t.map u8v) t.length
def Reg.cs (r : Reg) : List CV := [cB r.s, cB r.l, .f (txt r.t)]
def bk (B : Nat → Reg) : List CV := (List.range 37).flatMap fun i => (B i).cs
def ge (a b : Nat) : Bool := Nat.ble b a
/-- a name's sort and its number -/
def srt (k : Nat) : Nat := bif Nat.beq k 0 then 1 else bif Nat.beq k 34 then 1 else bif Nat.beq k 45 then 2 else bif ge k 49 && ge 57 k then 3 else bif ge k 97 && ge 122 k then 4 else bif ge k 65 && ge 90 k then 5 else 0
def num (k : Nat) : Nat := match srt k with
  | 3 => k - 49
  | 4 => k - 97
  | 5 => k - 65
  | _ => 0
/-- how the code comes there -/
def way (k : Nat) : Nat := bif Nat.beq k 0 then 0 else bif Nat.beq k 34 then 1 else bif Nat.beq k 45 then 2 else bif ge 48 k then 3 else bif ge 57 k then 4 else bif ge 64 k then 5 else bif ge 90 k then 6 else bif ge 96 k then 7 else bif ge 122 k then 8 else 9
theorem sort  : ∀ k : Nat, k < (256) → VC Try.prog 27 ([tU k]) ([]) (.tp [.c (cI (srt k)), .c (cI (num k))]) ([]) :=
  vc_all mixed nonum (256) (fun k : Nat => [tU k]) (fun k : Nat => []) (fun k : Nat => []) (fun k : Nat => .tp [.c (cI (srt k)), .c (cI (num k))]) (fun k : Nat => orc []) (fun k : Nat => []) (fun k : Nat => []) (fun k : Nat => [27321403086942096230, 27321403086942096230, 1613301530891009753603348, 844317524453960932437356376158680871679937615346072, 455643834238729843429797370324579184, 844317524453960932437356376158680871679937615346072, 68389695125388476971173526228842089228158887753522284, 844317524453960932437356376158680871679937615346072, 176525757070603658680461595898832360699924374, 844317524453960932437356376158680871679937615346072].getD ((way) k) 0) (fun k : Nat => [[], [], [], [], [], [], [], [], [], []].getD ((way) k) []) (fun k hk  => allP_getD fun c hc => match c, hc with | 0, hc => trivial | 1, hc => trivial | 2, hc => trivial | 3, hc => trivial | 4, hc => trivial | 5, hc => trivial | 6, hc => trivial | 7, hc => trivial | 8, hc => trivial | 9, hc => trivial | _ + 10, hc => trivial) (by kernel_rfl)
theorem valid  : ∀ k : Nat, k < (256) → VC Try.prog 13 ([tU k]) ([]) (tB (!(Nat.beq (srt k) 0))) ([]) :=
  vc_all mixed nonum (256) (fun k : Nat => [tU k]) (fun k : Nat => []) (fun k : Nat => []) (fun k : Nat => tB (!(Nat.beq (srt k) 0))) (fun k : Nat => orc [(1, [(1, .call [] (.tp [.c (cI (srt k)), .c (cI (num k))]) [])])]) (fun k : Nat => []) (fun k : Nat => []) (fun k : Nat => [3006063131084642231, 3006063131084642231].getD (((fun k => bif Nat.beq (srt k) 0 then 1 else 0)) k) 0) (fun k : Nat => [[VC Try.prog 27 [tU k] [] (.tp [.c (cI (srt k)), .c (cI (num k))]) []], [VC Try.prog 27 [tU k] [] (.tp [.c (cI (srt k)), .c (cI (num k))]) []]].getD (((fun k => bif Nat.beq (srt k) 0 then 1 else 0)) k) []) (fun k hk  => allP_getD fun c hc => match c, hc with | 0, hc => (show VC Try.prog 27 [tU k] [] (.tp [.c (cI (srt k)), .c (cI (num k))]) [] from sort k hk) | 1, hc => (show VC Try.prog 27 [tU k] [] (.tp [.c (cI (srt k)), .c (cI (num k))]) [] from sort k hk) | _ + 2, hc => trivial) (by kernel_rfl)
theorem clone_f (t : List Int) (h : t.length ≤ 140737488355328) : VC Try.prog 32 ([tF (.sl (some false) (t.map u8v) t.length)]) ([]) (tF (txt t)) ([]) :=
  vc_q mixed nonum (orc []) ([.frz 0]) ([]) 315071683361737370 ([(t.map u8v).length = t.length * 1, t.length * 1 ≤ 140737488355328]) (⟨(show (t.map u8v).length = t.length * 1 from by rw [List.length_map, Nat.mul_one]), (show t.length * 1 ≤ 140737488355328 from by omega)⟩) (by kernel_rfl)
theorem clone_t  : VC Try.prog 32 ([tF (.sl (some true) [] 0)]) ([]) (tC cNS) ([]) :=
  vc_q mixed nonum (orc []) ([]) ([]) 628512023078 ([]) (trivial) (by kernel_rfl)
theorem clone (t : List Int) (h : t.length ≤ 140737488355328) : VC Try.prog 32 [tF (txt t)] [] (tF (txt t)) [] := by
  cases t with
  | nil =>
    refine VC.args (as1 := [tF (.sl (some false) [] 0)]) (as2 := [tF (.sl (some true) [] 0)]) (fun K κ β vs hv => ?_) (clone_f [] h) (clone_t.le (.c (.f .nil)))
    cases hv with | cons h1 h2 => cases h2 with | nil => cases h1 with | o h1 => cases h1 with | c h1 => cases h1 with
    | f h1 =>
      rcases FR.cases_nil h1 with h1 | h1
      · exact .inl (.cons (.o (.c (.f h1))) .nil)
      · exact .inr (.cons (.o (.c (.f h1))) .nil)
    | dead hx hd h1 => cases hx
  | cons x t =>
    refine (clone_f (x :: t) h).arg fun K κ β vs hv => ?_
    cases hv with | cons h1 h2 => cases h2 with | nil => cases h1 with | o h1 => cases h1 with | c h1 => cases h1 with
    | f h1 =>
      rcases FR.cases_nil h1 with h1 | h1
      · exact .cons (.o (.c (.f h1))) .nil
      · cases (FR.true_nil h1).1
    | dead hx hd h1 => cases hx
theorem copied (r : Reg) (h : r.t.length ≤ 140737488355328) : VC Try.prog 26 ([tA r.cs]) ([]) (tA r.cs) ([]) :=
  vc_q mixed nonum (orc [(1, [(2, .call [] (tF (txt r.t)) [])])]) ([]) ([]) 37112002213465331 ([VC Try.prog 32 [tF (txt r.t)] [] (tF (txt r.t)) []]) (clone r.t h) (by kernel_rfl)
theorem copy (r : Reg) (h : r.t.length ≤ 140737488355328) : VC Try.prog 21 ([tA r.cs]) ([]) (tA r.cs) ([]) :=
  vc_q mixed nonum (orc []) ([.frz 2]) ([]) 25520318300694673358 ([(r.t.map u8v).length = r.t.length * 1, r.t.length * 1 ≤ 140737488355328]) (⟨(show (r.t.map u8v).length = r.t.length * 1 from by rw [List.length_map, Nat.mul_one]), (show r.t.length * 1 ≤ 140737488355328 from by omega)⟩) (by kernel_rfl)
theorem num9 {k : Nat} (hk : k < 256) (h : srt k = 3) : num k < 9 := by
  have := all_k (p := fun k => !(Nat.beq (srt k) 3) || Nat.blt (num k) 9) (n := 256) (by kernel_rfl) k hk
  rw [h] at this
  simpa [Nat.blt_eq] using this
theorem num26 {k : Nat} (hk : k < 256) (h : srt k = 4 ∨ srt k = 5) : num k < 26 := by
  have := all_k (p := fun k => !(Nat.beq (srt k) 4 || Nat.beq (srt k) 5) || Nat.blt (num k) 26) (n := 256) (by kernel_rfl) k hk
  rcases h with h | h <;> · rw [h] at this; simpa [Nat.blt_eq] using this
/-- a name's place -/
def plc (k : Nat) : Nat := match srt k with
  | 2 => 1
  | 3 => k - 47
  | 4 => k - 86
  | 5 => k - 54
  | _ => 0
theorem at_ (B : Nat → Reg) : ∀ k : Nat, k < (256) → VC Try.prog 25 ([tC (.rp 0 0), tU k]) ([.bx (bk B) 28]) (bif Nat.beq (srt k) 0 then tC cNP else tC (.rp 0 (3 * plc k))) ([.bx (bk B) 28]) :=
  vc_all mixed nonum (256) (fun k : Nat => [tC (.rp 0 0), tU k]) (fun k : Nat => [.bx (bk B) 28]) (fun k : Nat => [.bx (bk B) 28]) (fun k : Nat => bif Nat.beq (srt k) 0 then tC cNP else tC (.rp 0 (3 * plc k))) (fun k : Nat => orc [(1, [(1, .call [] (.tp [.c (cI (srt k)), .c (cI (num k))]) [])])]) (fun k : Nat => []) (fun k : Nat => [0]) (fun k : Nat => [2960368746255116955111340949641017592373, 129401117685687994065927503, 849000733135792341669563538779, 4061485693913103775599743163537087749, 239826668739301508154881946107181810358031, 174833641511366678894975534744906210292797813].getD ((srt) k) 0) (fun k : Nat => [[VC Try.prog 27 [tU k] [] (.tp [.c (cI (srt k)), .c (cI (num k))]) []], [VC Try.prog 27 [tU k] [] (.tp [.c (cI (srt k)), .c (cI (num k))]) []], [VC Try.prog 27 [tU k] [] (.tp [.c (cI (srt k)), .c (cI (num k))]) []], [VC Try.prog 27 [tU k] [] (.tp [.c (cI (srt k)), .c (cI (num k))]) [], (0 : Int) ≤ (num k : Int), (num k : Int) < 9], [VC Try.prog 27 [tU k] [] (.tp [.c (cI (srt k)), .c (cI (num k))]) [], (0 : Int) ≤ (num k : Int), (num k : Int) < 26], [VC Try.prog 27 [tU k] [] (.tp [.c (cI (srt k)), .c (cI (num k))]) [], (0 : Int) ≤ (num k : Int), (num k : Int) < 26]].getD ((srt) k) []) (fun k hk  => allP_getD fun c hc => match c, hc with | 0, hc => (show VC Try.prog 27 [tU k] [] (.tp [.c (cI (srt k)), .c (cI (num k))]) [] from sort k hk) | 1, hc => (show VC Try.prog 27 [tU k] [] (.tp [.c (cI (srt k)), .c (cI (num k))]) [] from sort k hk) | 2, hc => (show VC Try.prog 27 [tU k] [] (.tp [.c (cI (srt k)), .c (cI (num k))]) [] from sort k hk) | 3, hc => ⟨sort k hk, Int.natCast_nonneg _, (show (num k : Int) < 9 from by have := num9 hk hc; omega)⟩ | 4, hc => ⟨sort k hk, Int.natCast_nonneg _, (show (num k : Int) < 26 from by have := num26 hk (.inl hc); omega)⟩ | 5, hc => ⟨sort k hk, Int.natCast_nonneg _, (show (num k : Int) < 26 from by have := num26 hk (.inr hc); omega)⟩ | _ + 6, hc => trivial) (by kernel_rfl)
end Go.Proofs.Ytaciagpkbdjbpaa.Vg
