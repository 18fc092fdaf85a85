/- A buffer's functions. No law, no condition. -/
import Derived.Test.YtbonmmpdpahhfaaVgD
import Derived.Test.YtbonmmpdpahhfaaProg
namespace Go.Proofs.Ytbonmmpdpahhfaa.Vg
open Go.RowKit
set_option maxRecDepth 100000
set_option linter.unusedVariables false
set_option linter.unusedSimpArgs false
theorem mixed : Try.prog.follows .mixedOrders = true := by kernel_rfl
theorem nonum : noNum Try.prog = true := by kernel_rfl
def spn (a b c : Int) : List CV := [cI a, cI b, cI c]
def Snd (a b c : Int) : Prop := (a = 0 ∨ a = 1) ∧ 0 ≤ b ∧ 0 ≤ c ∧ b ≤ 4611686018427387904 ∧ c ≤ 4611686018427387904 - b
instance (a b c : Int) : Decidable (Snd a b c) := by unfold Snd; infer_instance
theorem sound_w (a b c : Int) : Ck [0, 20, 0] [] (
 brP (a == 0) (
  brP (decide (b ≥ 0)) (
   brP (decide (c ≥ 0)) (
    brP (decide (b ≤ 4611686018427387904)) (
     Ck [456663638973005467358718044925177590, 0, 20, 1] [tB (a == 0) = tB true, tB true = tB true, tB (decide (b ≥ 0)) = tB true, tB (decide (c ≥ 0)) = tB true, tB (decide (b ≤ 4611686018427387904)) = tB true, tI (IntKind.i64.wrap (4611686018427387904 - b)) = tI (4611686018427387904 - b), tB (decide (c ≤ 4611686018427387904 - b)) = tB (decide (Snd a b c))] (
     ([] : List VO) = [])) (
     Ck [50688899848360838760166573552217117, 0, 20, 1] [tB (a == 0) = tB true, tB true = tB true, tB (decide (b ≥ 0)) = tB true, tB (decide (c ≥ 0)) = tB true, tB (decide (b ≤ 4611686018427387904)) = tB false, tB false = tB (decide (Snd a b c))] (
     ([] : List VO) = []))) (
    Ck [50688899848360838760166573552217117, 0, 20, 1] [tB (a == 0) = tB true, tB true = tB true, tB (decide (b ≥ 0)) = tB true, tB (decide (c ≥ 0)) = tB false, tB false = tB false, tB false = tB (decide (Snd a b c))] (
    ([] : List VO) = []))) (
   Ck [50688899848360838760166573552217117, 0, 20, 1] [tB (a == 0) = tB true, tB true = tB true, tB (decide (b ≥ 0)) = tB false, tB false = tB false, tB false = tB false, tB false = tB (decide (Snd a b c))] (
   ([] : List VO) = []))) (
  brP (a == 1) (
   brP (decide (b ≥ 0)) (
    brP (decide (c ≥ 0)) (
     brP (decide (b ≤ 4611686018427387904)) (
      Ck [456663638973005467358718044925177590, 0, 20, 1] [tB (a == 0) = tB false, tB (a == 1) = tB true, tB (decide (b ≥ 0)) = tB true, tB (decide (c ≥ 0)) = tB true, tB (decide (b ≤ 4611686018427387904)) = tB true, tI (IntKind.i64.wrap (4611686018427387904 - b)) = tI (4611686018427387904 - b), tB (decide (c ≤ 4611686018427387904 - b)) = tB (decide (Snd a b c))] (
      ([] : List VO) = [])) (
      Ck [50688899848360838760166573552217117, 0, 20, 1] [tB (a == 0) = tB false, tB (a == 1) = tB true, tB (decide (b ≥ 0)) = tB true, tB (decide (c ≥ 0)) = tB true, tB (decide (b ≤ 4611686018427387904)) = tB false, tB false = tB (decide (Snd a b c))] (
      ([] : List VO) = []))) (
     Ck [50688899848360838760166573552217117, 0, 20, 1] [tB (a == 0) = tB false, tB (a == 1) = tB true, tB (decide (b ≥ 0)) = tB true, tB (decide (c ≥ 0)) = tB false, tB false = tB false, tB false = tB (decide (Snd a b c))] (
     ([] : List VO) = []))) (
    Ck [50688899848360838760166573552217117, 0, 20, 1] [tB (a == 0) = tB false, tB (a == 1) = tB true, tB (decide (b ≥ 0)) = tB false, tB false = tB false, tB false = tB false, tB false = tB (decide (Snd a b c))] (
    ([] : List VO) = []))) (
   Ck [50688899848360838760166573552217117, 0, 20, 1] [tB (a == 0) = tB false, tB (a == 1) = tB false, tB false = tB false, tB false = tB false, tB false = tB false, tB false = tB (decide (Snd a b c))] (
   ([] : List VO) = [])))) := by
  repeat' first
    | refine brE (fun _ _ => ?_) (fun _ _ => ?_)
    | refine brN (fun _ _ => ?_) (fun _ _ => ?_)
    | refine brD (fun _ _ => ?_) (fun _ _ => ?_)
    | refine brP_intro (fun _ => ?_) (fun _ => ?_)
    | refine ck ?_ ?_
    | exact allp0
    | refine allp2 ?_ ?_
    | (intro i hi)
  all_goals try first
    | with_reducible rfl
    | exact ⟨_, rfl⟩
    | exact tI_nw (by omega) (by omega)
    | exact tB_of (by assumption)
    | omega
    | exact tB_dd (by unfold Snd; omega)
    | exact tB_df (by unfold Snd; omega)
    | (simp only [*]; done)
theorem sound (a b c : Int) : VC Try.prog 25 ([tA (spn a b c)]) ([]) (tB (decide (Snd a b c))) ([]) :=
  vc_wp mixed nonum ⟨cmOf [(1, [(28, .nw)])], spOf [(1, [3, 8, 13, 18, 23])], ghOf [], loOf [], []⟩ [] (by kernel_rfl) (sound_w a b c)
noncomputable def t25_0_WA  : List TV → List VO → Option Alt
  | [(.o (.ag [(.f (.v (.int .i64 a))), (.f (.v (.int .i64 b))), (.f (.v (.int .i64 c)))]))], _ => some (.one (tB (decide (Snd a b c))) [])
  | _, _ => none
/-- a buffer -/
def Bf (o A : List Int) : List VO := [.bx [.f (.v (.string (sO o))), .rw 1 A.length] 60, .fx (A.map u8v) 5]
def szI (m n : Nat) (k : Int) : Int := bif k == 0 then m else bif k == 1 then n else 0
theorem new_w (o : List Int) : Ck [0, 2, 0, 133076, 2, 20, 1] [∃ ns : List Int, (List.map u8v o : List FV) = List.map u8v ns, (List.map u8v o).length = o.length, tC (CV.rp 0 0) = tC (CV.rp 0 0)] (
 ([VO.bx [CV.f (FV.v (Value.string (strF (List.map u8v o)))), CV.rw 1 0] 60, VO.fx [] 5] : List VO) = [VO.bx [CV.f (FV.v (Value.string (sO o))), CV.rw 1 0] 60, VO.fx [] 5]) := by
  repeat' first
    | refine brE (fun _ _ => ?_) (fun _ _ => ?_)
    | refine brN (fun _ _ => ?_) (fun _ _ => ?_)
    | refine brD (fun _ _ => ?_) (fun _ _ => ?_)
    | refine brP_intro (fun _ => ?_) (fun _ => ?_)
    | refine ck ?_ ?_
    | exact allp0
    | refine allp2 ?_ ?_
    | (intro i hi)
  all_goals try first
    | with_reducible rfl
    | exact ⟨_, rfl⟩
    | exact tI_nw (by omega) (by omega)
    | exact tB_of (by assumption)
    | omega
    | (simp [sO_size]; done)
    | rfl
    | (simp only [*]; done)
theorem new (o : List Int) : VC Try.prog 19 ([tF (byt none o)]) ([]) (tC (.rp 0 0)) (Bf o []) :=
  vc_wp mixed nonum ⟨cmOf [], spOf [], ghOf [], loOf [], [.po 0 1 5]⟩ [] (by kernel_rfl) (new_w o)
theorem size_w (o A : List Int) (k : Int) : Ck [0, 2, 0, 182, 0, 182] [] (
 brP (k == 0) (
  Ck [0, 132860, 0, 20, 1] [tI (↑(sO o).size : Int) = tI (szI o.length A.length k)] (
  ([VO.bx [CV.f (FV.v (Value.string (sO o))), CV.rw 1 A.length] 60, VO.fx (List.map u8v A) 5] : List VO) = [VO.bx [CV.f (FV.v (Value.string (sO o))), CV.rw 1 A.length] 60, VO.fx (List.map u8v A) 5])) (
  Ck [0, 182] [] (
  brP (k == 1) (
   Ck [0, 132860, 0, 20, 1] [tI (↑A.length : Int) = tI (szI o.length A.length k)] (
   ([VO.bx [CV.f (FV.v (Value.string (sO o))), CV.rw 1 A.length] 60, VO.fx (List.map u8v A) 5] : List VO) = [VO.bx [CV.f (FV.v (Value.string (sO o))), CV.rw 1 A.length] 60, VO.fx (List.map u8v A) 5])) (
   Ck [0, 2, 0, 20, 1] [tI 0 = tI (szI o.length A.length k)] (
   ([VO.bx [CV.f (FV.v (Value.string (sO o))), CV.rw 1 A.length] 60, VO.fx (List.map u8v A) 5] : List VO) = [VO.bx [CV.f (FV.v (Value.string (sO o))), CV.rw 1 A.length] 60, VO.fx (List.map u8v A) 5]))))) := by
  repeat' first
    | refine brE (fun _ _ => ?_) (fun _ _ => ?_)
    | refine brN (fun _ _ => ?_) (fun _ _ => ?_)
    | refine brD (fun _ _ => ?_) (fun _ _ => ?_)
    | refine brP_intro (fun _ => ?_) (fun _ => ?_)
    | refine ck ?_ ?_
    | exact allp0
    | refine allp2 ?_ ?_
    | (intro i hi)
  all_goals try first
    | with_reducible rfl
    | exact ⟨_, rfl⟩
    | exact tI_nw (by omega) (by omega)
    | exact tB_of (by assumption)
    | omega
    | (simp [szI, sO_size, *]; done)
    | (simp only [*]; done)
theorem size (o A : List Int) (k : Int) : VC Try.prog 14 ([tC (.rp 0 0), tI k]) (Bf o A) (tI (szI o.length A.length k)) (Bf o A) :=
  vc_wp mixed nonum ⟨cmOf [], spOf [], ghOf [], loOf [], []⟩ [] (by kernel_rfl) (size_w o A k)
noncomputable def t14_0_WA (o A : List Int) : List TV → List VO → Option Alt
  | [_, (.o (.c (.f (.v (.int .i64 k)))))], H => some (.one (tI (szI o.length A.length k)) H)
  | _, _ => none
theorem add_w (o A p : List Int) (h : A.length + p.length ≤ 140737488355328) : Ck [0, 2, 0, 20, 0, 871696100, 0, 7858019486, 0, 20, 0, 20, 1] [(List.map u8v p).length = p.length * 1, (A.length + p.length) * 1 ≤ 140737488355328, tA [cI 1, cI (↑A.length : Int), cI (↑p.length : Int)] = tA [cI 1, cI (↑A.length : Int), cI (↑p.length : Int)]] (
 ([VO.bx [CV.f (FV.v (Value.string (sO o))), CV.rw 2 (A.length + p.length)] 60, VO.dead, VO.fx (List.map u8v A ++ List.map u8v p) 5] : List VO) = [VO.bx [CV.f (FV.v (Value.string (sO o))), CV.rw 2 (A.length + p.length)] 60, VO.dead, VO.fx (List.map u8v A ++ List.map u8v p) 5]) := by
  repeat' first
    | refine brE (fun _ _ => ?_) (fun _ _ => ?_)
    | refine brN (fun _ _ => ?_) (fun _ _ => ?_)
    | refine brD (fun _ _ => ?_) (fun _ _ => ?_)
    | refine brP_intro (fun _ => ?_) (fun _ => ?_)
    | refine ck ?_ ?_
    | exact allp0
    | refine allp2 ?_ ?_
    | (intro i hi)
  all_goals try first
    | with_reducible rfl
    | exact ⟨_, rfl⟩
    | exact tI_nw (by omega) (by omega)
    | exact tB_of (by assumption)
    | omega
    | (simp; done)
    | (simp only [*]; done)
theorem add (o A p : List Int) (h : A.length + p.length ≤ 140737488355328) : VC Try.prog 13 ([tC (.rp 0 0), tF (byt none p)]) (Bf o A) (tA (spn 1 A.length p.length)) ([.bx [.f (.v (.string (sO o))), .rw 2 (A.length + p.length)] 60, .dead, .fx (A.map u8v ++ p.map u8v) 5]) :=
  vc_wp mixed nonum ⟨cmOf [], spOf [], ghOf [], loOf [], []⟩ [] (by kernel_rfl) (add_w o A p h)
/-- what is read -/
def Hd (o A : List Int) (a b c : Int) : Bool := decide (Snd a b c) && decide (b + c ≤ szI o.length A.length a)
def src (o A : List Int) (a : Int) : List Int := bif a == 0 then o else A
def rdB (o A : List Int) (a b c : Int) : List Int := bif Hd o A a b c then ((src o A a).drop b.toNat).take c.toNat else []
def rdE (o A : List Int) (a b c : Int) : Int := bif Hd o A a b c then 0 else 10
def rdT (o A : List Int) (a b c : Int) : TV := .tp [.c (.f (byt none (rdB o A a b c))), .c (cI (rdE o A a b c))]
noncomputable def tq_holds (o A : List Int) (a b c : Int) : FuncId → List TV → List VO → Option Alt := tabOf [(14, t14_0_WA o A), (25, t25_0_WA)]
theorem holds_w (o A : List Int) (a b c : Int) : Ck [0, 20, 0] [] (
 brP (decide (Snd a b c)) (
  Ck [37592295012933149, 0, 20, 1] [VC Try.prog 25 [tA [cI a, cI b, cI c]] [] (tB (decide (Snd a b c))) [], tB (decide (Snd a b c)) = tB true, tB true = tB true, tI (IntKind.i64.wrap (b + c)) = tI (b + c), VC Try.prog 14 [tC (CV.rp 0 0), tI a] [VO.bx [CV.f (FV.v (Value.string (sO o))), CV.rw 1 A.length] 60, VO.fx (List.map u8v A) 5] (tI (szI o.length A.length a)) [VO.bx [CV.f (FV.v (Value.string (sO o))), CV.rw 1 A.length] 60, VO.fx (List.map u8v A) 5], tB (decide (b + c ≤ szI o.length A.length a)) = tB (Hd o A a b c)] (
  ([VO.bx [CV.f (FV.v (Value.string (sO o))), CV.rw 1 A.length] 60, VO.fx (List.map u8v A) 5] : List VO) = [VO.bx [CV.f (FV.v (Value.string (sO o))), CV.rw 1 A.length] 60, VO.fx (List.map u8v A) 5])) (
  Ck [4169295424927793, 0, 20, 1] [VC Try.prog 25 [tA [cI a, cI b, cI c]] [] (tB (decide (Snd a b c))) [], tB (decide (Snd a b c)) = tB false, tB false = tB false, tB false = tB (Hd o A a b c)] (
  ([VO.bx [CV.f (FV.v (Value.string (sO o))), CV.rw 1 A.length] 60, VO.fx (List.map u8v A) 5] : List VO) = [VO.bx [CV.f (FV.v (Value.string (sO o))), CV.rw 1 A.length] 60, VO.fx (List.map u8v A) 5]))) := by
  repeat' first
    | refine brE (fun _ _ => ?_) (fun _ _ => ?_)
    | refine brN (fun _ _ => ?_) (fun _ _ => ?_)
    | refine brD (fun _ _ => ?_) (fun _ _ => ?_)
    | refine brP_intro (fun _ => ?_) (fun _ => ?_)
    | refine ck ?_ ?_
    | exact allp0
    | refine allp2 ?_ ?_
    | (intro i hi)
  all_goals try first
    | with_reducible rfl
    | exact ⟨_, rfl⟩
    | exact tI_nw (by omega) (by omega)
    | exact tB_of (by assumption)
    | omega
    | exact sound _ _ _
    | exact size _ _ _
    | exact tI_nw (by unfold Snd at *; omega) (by unfold Snd at *; omega)
    | exact tB_of (by simp [Hd, *])
    | (simp only [*]; done)
theorem holds (o A : List Int) (a b c : Int) : VC Try.prog 17 ([tC (.rp 0 0), tA (spn a b c)]) (Bf o A) (tB (Hd o A a b c)) (Bf o A) :=
  vc_wp mixed nonum ⟨cmOf [(1, [(1, .tb (tq_holds o A a b c) [] none), (7, .nw), (11, .tb (tq_holds o A a b c) [] none)])], spOf [(1, [1, 2, 11])], ghOf [], loOf [], []⟩ [] (by kernel_rfl) (holds_w o A a b c)
noncomputable def t17_0_WA (o A : List Int) : List TV → List VO → Option Alt
  | [_, (.o (.ag [(.f (.v (.int .i64 a))), (.f (.v (.int .i64 b))), (.f (.v (.int .i64 c)))]))], H => some (.one (tB (Hd o A a b c)) H)
  | _, _ => none
theorem clone_f_w (z : Bool) (A : List Int) (h : z = true → A.map u8v = [] ∧ A.length = 0) (hl : A.length ≤ 140737488355328) : Ck [0, 2, 0, 20] [] (
 brP (z) (
  Ck [0, 2, 2, 20, 1] [tF (FV.sl none [] 0) = tF (FV.sl none (List.map u8v A) A.length)] (
  ([] : List VO) = [])) (
  Ck [0, 16706, 2, 170, 1] [(List.map u8v A).length = A.length * 1, A.length * 1 ≤ 140737488355328, tF (FV.sl none (List.map u8v A) A.length) = tF (FV.sl none (List.map u8v A) A.length)] (
  ([] : List VO) = []))) := by
  repeat' first
    | refine brE (fun _ _ => ?_) (fun _ _ => ?_)
    | refine brN (fun _ _ => ?_) (fun _ _ => ?_)
    | refine brD (fun _ _ => ?_) (fun _ _ => ?_)
    | refine brP_intro (fun _ => ?_) (fun _ => ?_)
    | refine ck ?_ ?_
    | exact allp0
    | refine allp2 ?_ ?_
    | (intro i hi)
  all_goals try first
    | with_reducible rfl
    | exact ⟨_, rfl⟩
    | exact tI_nw (by omega) (by omega)
    | exact tB_of (by assumption)
    | omega
    | (simp; done)
    | (obtain ⟨h1, h2⟩ := h ‹_›; rw [h1, h2])
    | (simp only [*]; done)
theorem clone_f (z : Bool) (A : List Int) (h : z = true → A.map u8v = [] ∧ A.length = 0) (hl : A.length ≤ 140737488355328) : VC Try.prog 27 ([tF (byt (some z) A)]) ([]) (tF (byt none A)) ([]) :=
  vc_wp mixed nonum ⟨cmOf [], spOf [], ghOf [], loOf [], [.tn 2]⟩ [0] (by kernel_rfl) (clone_f_w z A h hl)
theorem clone (A : List Int) (hl : A.length ≤ 140737488355328) : VC Try.prog 27 [tF (byt none A)] [] (tF (byt none A)) [] :=
  VC.nil_arg fun z h => clone_f z A h hl
theorem clone_z_w (z : Bool) (X : List FV) : Ck [0, 2, 0, 20] [] (
 brP (z) (
  Ck [0, 2, 2, 20, 1] [tF (FV.sl none [] 0) = tF (FV.sl none [] 0)] (
  ([VO.fx X 5] : List VO) = [VO.fx X 5])) (
  Ck [0, 16706, 2, 170, 1] [0 = 0, 0 ≤ 140737488355328, tF (FV.sl none [] 0) = tF (FV.sl none [] 0)] (
  ([VO.fx X 5] : List VO) = [VO.fx X 5]))) := by
  repeat' first
    | refine brE (fun _ _ => ?_) (fun _ _ => ?_)
    | refine brN (fun _ _ => ?_) (fun _ _ => ?_)
    | refine brD (fun _ _ => ?_) (fun _ _ => ?_)
    | refine brP_intro (fun _ => ?_) (fun _ => ?_)
    | refine ck ?_ ?_
    | exact allp0
    | refine allp2 ?_ ?_
    | (intro i hi)
  all_goals try first
    | with_reducible rfl
    | exact ⟨_, rfl⟩
    | exact tI_nw (by omega) (by omega)
    | exact tB_of (by assumption)
    | omega
    | (simp; done)
    | (simp only [*]; done)
theorem clone_z (z : Bool) (X : List FV) : VC Try.prog 27 ([tF (.sl (some z) [] 0)]) ([.fx X 5]) (tF (.sl none [] 0)) ([.fx X 5]) :=
  vc_wp mixed nonum ⟨cmOf [], spOf [], ghOf [], loOf [], [.tn 2]⟩ [0] (by kernel_rfl) (clone_z_w z X)
theorem clone_s_w (A : List Int) (i n k : Nat) (h : i + (n + 1) ≤ A.length) (hl : n + 1 ≤ 140737488355328) : Ck [0, 2, 0, 20, 0, 16706, 0, 170, 1] [(List.take ((n + 1) * 1) (List.drop i (List.map u8v A))).length = (n + 1) * 1, (n + 1) * 1 ≤ 140737488355328, tF (FV.sl none (List.take ((n + 1) * 1) (List.drop i (List.map u8v A))) (n + 1)) = tF (FV.sl none (List.take (n + 1) (List.drop i (List.map u8v A))) (n + 1))] (
 ([VO.fx (List.map u8v A) 5] : List VO) = [VO.fx (List.map u8v A) 5]) := by
  repeat' first
    | refine brE (fun _ _ => ?_) (fun _ _ => ?_)
    | refine brN (fun _ _ => ?_) (fun _ _ => ?_)
    | refine brD (fun _ _ => ?_) (fun _ _ => ?_)
    | refine brP_intro (fun _ => ?_) (fun _ => ?_)
    | refine ck ?_ ?_
    | exact allp0
    | refine allp2 ?_ ?_
    | (intro i hi)
  all_goals try first
    | with_reducible rfl
    | exact ⟨_, rfl⟩
    | exact tI_nw (by omega) (by omega)
    | exact tB_of (by assumption)
    | omega
    | (simp; omega)
    | (simp; done)
    | (simp only [*]; done)
theorem clone_s (A : List Int) (i n k : Nat) (h : i + (n + 1) ≤ A.length) (hl : n + 1 ≤ 140737488355328) : VC Try.prog 27 ([tC (.rs 0 i (n + 1) k 1)]) ([.fx (A.map u8v) 5]) (tF (.sl none (((A.map u8v).drop i).take (n + 1)) (n + 1))) ([.fx (A.map u8v) 5]) :=
  vc_wp mixed nonum ⟨cmOf [], spOf [], ghOf [], loOf [], []⟩ [0] (by kernel_rfl) (clone_s_w A i n k h hl)
theorem clone_r (A : List Int) (i n k : Nat) (h : i + n ≤ A.length) (hl : n ≤ 140737488355328) : VC Try.prog 27 [tC (.rs 0 i n k 1)] [.fx (A.map u8v) 5] (tF (.sl none (((A.map u8v).drop i).take n) n)) [.fx (A.map u8v) 5] := by
  cases n with
  | zero =>
    rw [List.take_zero]
    refine VC.arg2 (as1 := [tF (.sl none [] 0)]) (fun w K β vs R hv => ?_) (VC.nil_arg fun z _ => clone_z z _)
    cases hv with | cons h1 h2 => cases h1 with | o h1 => cases h1 with | c h1 => exact .cons (.o (.c (rs0_sl ⟨_, _, rfl, rfl⟩ h1))) h2
  | succ n => exact clone_s A i n k h hl
noncomputable def t27_0_WA  : List TV → List VO → Option Alt
  | [(.o (.c (.rs _ i n k s)))], [.fx A t] => some (.one (tF (.sl none ((A.drop i).take n) n)) [.fx A t])
  | [(.o (.c (.f (.sl _ cs n))))], _ => some (.one (tF (.sl none cs n)) [])
  | _, _ => none
theorem hd_out {o A : List Int} {a b c : Int} (h : Hd o A a b c = true) : Snd a b c ∧ b + c ≤ szI o.length A.length a := by
  unfold Hd at h
  simpa using h
theorem rd_o {o A : List Int} {a b c : Int} (hb : Byt o) (h : Hd o A a b c = true) (ha : a = 0) : TV.tp [T1.c (CV.f (FV.sl none (List.map (fun x => u8v x.toNat) ((sO o).extract b.toNat (b + c).toNat).data.toList) ((sO o).extract b.toNat (b + c).toNat).size)), T1.c (cI 0)] = rdT o A a b c := by
  obtain ⟨h1, h2⟩ := hd_out h
  unfold Snd at h1
  have e : (b + c).toNat - b.toNat = c.toNat := by omega
  rw [sO_ext hb, sO_ext_size, e]
  subst ha
  simp only [rdT, rdB, rdE, h, src, byt]
  rfl
theorem rd_a {o A : List Int} {a b c : Int} (h : Hd o A a b c = true) (ha : ¬ a = 0) : TV.tp [T1.c (CV.f (FV.sl none (List.take ((b + c).toNat - b.toNat) (List.drop (b.toNat * 1) (List.map u8v A))) ((b + c).toNat - b.toNat))), T1.c (cI 0)] = rdT o A a b c := by
  obtain ⟨h1, h2⟩ := hd_out h
  unfold Snd at h1
  unfold szI at h2
  have ha1 : a = 1 := by omega
  subst ha1
  have e : (b + c).toNat - b.toNat = c.toNat := by omega
  have e2 : (((A.drop b.toNat).take c.toNat)).length = c.toNat := by
    have h3 : b + c ≤ (A.length : Int) := h2
    rw [List.length_take, List.length_drop]
    omega
  rw [Nat.mul_one, e, ← List.map_drop, ← List.map_take]
  simp only [rdT, rdB, rdE, h, src, byt, cond_true]
  show _ = TV.tp [T1.c (CV.f (FV.sl none (List.map u8v ((A.drop b.toNat).take c.toNat)) ((A.drop b.toNat).take c.toNat).length)), T1.c (cI 0)]
  rw [e2]
theorem rd_n {o A : List Int} {a b c : Int} (h : Hd o A a b c = false) : TV.tp [T1.c (CV.f (FV.sl none [] 0)), T1.c (cI 10)] = rdT o A a b c := by
  simp only [rdT, rdB, rdE, h, byt]
  rfl
noncomputable def tq_read (o A : List Int) (a b c : Int) (hb : Byt o) (hl : A.length ≤ 140737488355328) : FuncId → List TV → List VO → Option Alt := tabOf [(27, t27_0_WA), (17, t17_0_WA o A), (14, t14_0_WA o A), (25, t25_0_WA)]
theorem read_w (o A : List Int) (a b c : Int) (hb : Byt o) (hl : A.length ≤ 140737488355328) : Ck [0, 182, 0] [] (
 brP (Hd o A a b c) (
  Ck [16706, 0, 20, 0, 182] [VC Try.prog 17 [tC (CV.rp 0 0), tA [cI a, cI b, cI c]] [VO.bx [CV.f (FV.v (Value.string (sO o))), CV.rw 1 A.length] 60, VO.fx (List.map u8v A) 5] (tB (Hd o A a b c)) [VO.bx [CV.f (FV.v (Value.string (sO o))), CV.rw 1 A.length] 60, VO.fx (List.map u8v A) 5], tB (Hd o A a b c) = tB true] (
  brP (a == 0) (
   Ck [0, 37583868617286248, 2, 1628, 1] [tI (IntKind.i64.wrap (b + c)) = tI (b + c), 0 ≤ b, b ≤ b + c, b + c ≤ (↑(sO o).size : Int), TV.tp [T1.c (CV.f (FV.sl none (List.map (fun x => u8v (↑x.toNat : Int)) ((sO o).extract b.toNat (b + c).toNat).data.toList) ((sO o).extract b.toNat (b + c).toNat).size)), T1.c (cI 0)] = TV.tp [T1.c (CV.f (FV.sl none (List.map u8v (rdB o A a b c)) (rdB o A a b c).length)), T1.c (cI (rdE o A a b c))]] (
   ([VO.bx [CV.f (FV.v (Value.string (sO o))), CV.rw 1 A.length] 60, VO.fx (List.map u8v A) 5] : List VO) = [VO.bx [CV.f (FV.v (Value.string (sO o))), CV.rw 1 A.length] 60, VO.fx (List.map u8v A) 5])) (
   Ck [0, 343807528687737536, 2, 182, 1] [tI (IntKind.i64.wrap (b + c)) = tI (b + c), 0 ≤ b + c, b + c ≤ (↑A.length : Int), 0 ≤ b, b ≤ b + c, VC Try.prog 27 [tC (CV.rs 0 (b.toNat * 1) ((b + c).toNat - b.toNat) (A.length - b.toNat) 1)] [VO.fx (List.map u8v A) 5] (tF (FV.sl none (List.take ((b + c).toNat - b.toNat) (List.drop (b.toNat * 1) (List.map u8v A))) ((b + c).toNat - b.toNat))) [VO.fx (List.map u8v A) 5], TV.tp [T1.c (CV.f (FV.sl none (List.take ((b + c).toNat - b.toNat) (List.drop (b.toNat * 1) (List.map u8v A))) ((b + c).toNat - b.toNat))), T1.c (cI 0)] = TV.tp [T1.c (CV.f (FV.sl none (List.map u8v (rdB o A a b c)) (rdB o A a b c).length)), T1.c (cI (rdE o A a b c))]] (
   ([VO.bx [CV.f (FV.v (Value.string (sO o))), CV.rw 1 A.length] 60, VO.fx (List.map u8v A) 5] : List VO) = [VO.bx [CV.f (FV.v (Value.string (sO o))), CV.rw 1 A.length] 60, VO.fx (List.map u8v A) 5])))) (
  Ck [16706, 0, 20, 2, 182, 1] [VC Try.prog 17 [tC (CV.rp 0 0), tA [cI a, cI b, cI c]] [VO.bx [CV.f (FV.v (Value.string (sO o))), CV.rw 1 A.length] 60, VO.fx (List.map u8v A) 5] (tB (Hd o A a b c)) [VO.bx [CV.f (FV.v (Value.string (sO o))), CV.rw 1 A.length] 60, VO.fx (List.map u8v A) 5], tB (Hd o A a b c) = tB false, TV.tp [T1.c (CV.f (FV.sl none [] 0)), T1.c (cI 10)] = TV.tp [T1.c (CV.f (FV.sl none (List.map u8v (rdB o A a b c)) (rdB o A a b c).length)), T1.c (cI (rdE o A a b c))]] (
  ([VO.bx [CV.f (FV.v (Value.string (sO o))), CV.rw 1 A.length] 60, VO.fx (List.map u8v A) 5] : List VO) = [VO.bx [CV.f (FV.v (Value.string (sO o))), CV.rw 1 A.length] 60, VO.fx (List.map u8v A) 5]))) := by
  repeat' first
    | refine brE (fun _ _ => ?_) (fun _ _ => ?_)
    | refine brN (fun _ _ => ?_) (fun _ _ => ?_)
    | refine brD (fun _ _ => ?_) (fun _ _ => ?_)
    | refine brP_intro (fun _ => ?_) (fun _ => ?_)
    | refine ck ?_ ?_
    | exact allp0
    | refine allp2 ?_ ?_
    | (intro i hi)
  all_goals try (have hh := hd_out ‹Hd o A a b c = true›; unfold Snd szI at hh; have hs := sO_size o; have h1 : a = 0 ∨ a = 1 := hh.1.1; rcases h1 with rfl | rfl <;> simp at hh)
  repeat' first
    | refine brE (fun _ _ => ?_) (fun _ _ => ?_)
    | refine brN (fun _ _ => ?_) (fun _ _ => ?_)
    | refine brD (fun _ _ => ?_) (fun _ _ => ?_)
    | refine brP_intro (fun _ => ?_) (fun _ => ?_)
    | refine ck ?_ ?_
    | exact allp0
    | refine allp2 ?_ ?_
    | (intro i hi)
  all_goals try first
    | with_reducible rfl
    | exact ⟨_, rfl⟩
    | exact tI_nw (by omega) (by omega)
    | exact tB_of (by assumption)
    | omega
    | exact holds _ _ _ _ _
    | exact clone_f _ _ (by first | assumption | omega | (simp; done)) (by first | assumption | omega | (simp; done))
    | exact clone _ (by first | assumption | omega | (simp; done))
    | exact clone_z _ _
    | exact clone_s _ _ _ _ (by first | assumption | omega | (simp; done)) (by first | assumption | omega | (simp; done))
    | exact clone_r _ _ _ _ (by first | assumption | omega | (simp; done)) (by first | assumption | omega | (simp; done))
    | exact rd_o hb (by assumption) (by assumption)
    | exact rd_a (by assumption) (by assumption)
    | exact rd_n (by assumption)
    | (rw [sO_size]; omega)
    | (simp only [*]; done)
theorem read (o A : List Int) (a b c : Int) (hb : Byt o) (hl : A.length ≤ 140737488355328) : VC Try.prog 15 ([tC (.rp 0 0), tA (spn a b c)]) (Bf o A) (rdT o A a b c) (Bf o A) :=
  vc_wp mixed nonum ⟨cmOf [(1, [(2, .tb (tq_read o A a b c hb hl) [] none)]), (6, [(10, .nw), (11, .sx)]), (7, [(10, .nw), (12, .tb (tq_read o A a b c hb hl) [] none)])], spOf [(1, [2]), (7, [12])], ghOf [], loOf [], [.tn 4]⟩ [0] (by kernel_rfl) (read_w o A a b c hb hl)
end Go.Proofs.Ytbonmmpdpahhfaa.Vg
