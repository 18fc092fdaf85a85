/- The tree's methods. No law, no condition. -/
import Derived.Test.YtpjlgjhkdligfaaKSE
namespace Go.Proofs.Ytpjlgjhkdligfaa.Vg
open Go.RowKit
set_option maxRecDepth 100000
set_option linter.unusedVariables false
set_option linter.unusedSimpArgs false
def tT (x : FV) : TV := tA [.f x]
def fN : FV := .v (.pointer none)
noncomputable def tq_tlen (x : FV) (hx : isT x) : FuncId → List TV → List VO → Option Alt := tabOf [(75, t75_0_SB), (69, t69_0_SA), (40, t40_0_SA), (63, t63_0_SA), (68, t68_0_SA), (57, t57_0_SA), (55, t55_0_SA), (44, t44_0_SA)]
theorem tlen_w (x : FV) (hx : isT x) : Ck [0, 20, 0, 1883, 0, 20, 1] [VC Try.prog 44 [tF x] [] (tI (cntF x)) [], tI (cntF x) = tI (cntF x)] (
 ([] : List VO) = []) := by
  repeat' first
    | refine brE (fun _ _ => ?_) (fun _ _ => ?_)
    | refine brN (fun _ _ => ?_) (fun _ _ => ?_)
    | refine brD (fun _ _ => ?_) (fun _ _ => ?_)
    | refine brP_intro (fun _ => ?_) (fun _ => ?_)
    | refine ck ?_ ?_
    | exact allp0
    | refine allp2 ?_ ?_
  all_goals try first
    | with_reducible rfl
    | exact Exists.intro _ rfl
    | exact tI_nw (by omega) (by omega)
    | exact tB_of (by assumption)
    | exact cnt_n 
    | exact cnt_d _ _ _ _
    | exact cnt_x _ (by first | assumption | omega | (simp; done))
    | ((with_reducible show (_ : Int) ≤ _); omega)
    | ((with_reducible show (_ : Nat) ≤ _); omega)
    | ((with_reducible show (_ : Int) < _); omega)
theorem tlen (x : FV) (hx : isT x) : VC Try.prog 13 ([tT x]) ([]) (tI (cntF x)) ([]) :=
  vc_wp mixed nonum ⟨cmOf [(1, [(2, .tb (tq_tlen x hx) [] none)])], spOf [], ghOf [], loOf [], []⟩ [] (by kernel_rfl) (tlen_w x hx)
noncomputable def tq_tbyt (x : FV) (hx : isT x) : FuncId → List TV → List VO → Option Alt := tabOf [(75, t75_0_SB), (69, t69_0_SA), (40, t40_0_SA), (63, t63_0_SA), (68, t68_0_SA), (57, t57_0_SA), (55, t55_0_SA), (44, t44_0_SA)]
theorem tbyt_w (x : FV) (hx : isT x) : Ck [0, 20, 0, 1883, 0, 20, 1] [VC Try.prog 55 [tF x] [] (tI (sizF x)) [], tI (sizF x) = tI (sizF x)] (
 ([] : List VO) = []) := by
  repeat' first
    | refine brE (fun _ _ => ?_) (fun _ _ => ?_)
    | refine brN (fun _ _ => ?_) (fun _ _ => ?_)
    | refine brD (fun _ _ => ?_) (fun _ _ => ?_)
    | refine brP_intro (fun _ => ?_) (fun _ => ?_)
    | refine ck ?_ ?_
    | exact allp0
    | refine allp2 ?_ ?_
  all_goals try first
    | with_reducible rfl
    | exact Exists.intro _ rfl
    | exact tI_nw (by omega) (by omega)
    | exact tB_of (by assumption)
    | exact siz_n 
    | exact siz_d _ _ _ _
    | exact siz_x _ (by first | assumption | omega | (simp; done))
    | ((with_reducible show (_ : Int) ≤ _); omega)
    | ((with_reducible show (_ : Nat) ≤ _); omega)
    | ((with_reducible show (_ : Int) < _); omega)
theorem tbyt (x : FV) (hx : isT x) : VC Try.prog 22 ([tT x]) ([]) (tI (sizF x)) ([]) :=
  vc_wp mixed nonum ⟨cmOf [(1, [(2, .tb (tq_tbyt x hx) [] none)])], spOf [], ghOf [], loOf [], []⟩ [] (by kernel_rfl) (tbyt_w x hx)
noncomputable def tq_tlin (x : FV) (hx : isT x) : FuncId → List TV → List VO → Option Alt := tabOf [(75, t75_0_SB), (69, t69_0_SA), (40, t40_0_SA), (63, t63_0_SA), (68, t68_0_SA), (57, t57_0_SA), (55, t55_0_SA), (44, t44_0_SA)]
theorem tlin_w (x : FV) (hx : isT x) : Ck [0, 20, 0, 1883, 0, 20, 1] [VC Try.prog 57 [tF x] [] (tI (lnsF x)) [], tI (lnsF x) = tI (lnsF x)] (
 ([] : List VO) = []) := by
  repeat' first
    | refine brE (fun _ _ => ?_) (fun _ _ => ?_)
    | refine brN (fun _ _ => ?_) (fun _ _ => ?_)
    | refine brD (fun _ _ => ?_) (fun _ _ => ?_)
    | refine brP_intro (fun _ => ?_) (fun _ => ?_)
    | refine ck ?_ ?_
    | exact allp0
    | refine allp2 ?_ ?_
  all_goals try first
    | with_reducible rfl
    | exact Exists.intro _ rfl
    | exact tI_nw (by omega) (by omega)
    | exact tB_of (by assumption)
    | exact lns_n 
    | exact lns_d _ _ _ _
    | exact lns_x _ (by first | assumption | omega | (simp; done))
    | ((with_reducible show (_ : Int) ≤ _); omega)
    | ((with_reducible show (_ : Nat) ≤ _); omega)
    | ((with_reducible show (_ : Int) < _); omega)
theorem tlin (x : FV) (hx : isT x) : VC Try.prog 23 ([tT x]) ([]) (tI (lnsF x)) ([]) :=
  vc_wp mixed nonum ⟨cmOf [(1, [(2, .tb (tq_tlin x hx) [] none)])], spOf [], ghOf [], loOf [], []⟩ [] (by kernel_rfl) (tlin_w x hx)
noncomputable def tq_thgh (x : FV) (hx : isT x) : FuncId → List TV → List VO → Option Alt := tabOf [(75, t75_0_SB), (69, t69_0_SA), (40, t40_0_SA), (63, t63_0_SA), (68, t68_0_SA), (57, t57_0_SA), (55, t55_0_SA), (44, t44_0_SA)]
theorem thgh_w (x : FV) (hx : isT x) : Ck [0, 20, 0, 1883, 0, 20, 1] [VC Try.prog 63 [tF x] [] (tI (hghF x)) [], tI (hghF x) = tI (hghF x)] (
 ([] : List VO) = []) := by
  repeat' first
    | refine brE (fun _ _ => ?_) (fun _ _ => ?_)
    | refine brN (fun _ _ => ?_) (fun _ _ => ?_)
    | refine brD (fun _ _ => ?_) (fun _ _ => ?_)
    | refine brP_intro (fun _ => ?_) (fun _ => ?_)
    | refine ck ?_ ?_
    | exact allp0
    | refine allp2 ?_ ?_
  all_goals try first
    | with_reducible rfl
    | exact Exists.intro _ rfl
    | exact tI_nw (by omega) (by omega)
    | exact tB_of (by assumption)
    | exact hgh_n 
    | exact hgh_d _ _ _ _
    | exact hgh_x _ (by first | assumption | omega | (simp; done))
    | ((with_reducible show (_ : Int) ≤ _); omega)
    | ((with_reducible show (_ : Nat) ≤ _); omega)
    | ((with_reducible show (_ : Int) < _); omega)
theorem thgh (x : FV) (hx : isT x) : VC Try.prog 27 ([tT x]) ([]) (tI (hghF x)) ([]) :=
  vc_wp mixed nonum ⟨cmOf [(1, [(2, .tb (tq_thgh x hx) [] none)])], spOf [], ghOf [], loOf [], []⟩ [] (by kernel_rfl) (thgh_w x hx)
theorem has_w (x : FV) (i : Int) (hx : isT x) : Ck [0, 20, 0] [] (
 brP (decide (i ≥ 0)) (
 Ck [873291638, 0, 20, 1] [tB (decide (i ≥ 0)) = tB true, VC Try.prog 13 [tA [CV.f x]] [] (tI (cntF x)) [], tB (decide (i < cntF x)) = tB (decide (0 ≤ i) && decide (i < cntF x))] (
 ([] : List VO) = [])) (
 Ck [871697315, 0, 20, 1] [tB (decide (i ≥ 0)) = tB false, tB false = tB (decide (0 ≤ i) && decide (i < cntF x))] (
 ([] : List VO) = []))) := by
  cases h : decide (0 ≤ i) with
  | true =>
    have hg : decide (i ≥ 0) = true := h
    rw [Bool.true_and]
    repeat' first
      | refine brE (fun _ _ => ?_) (fun _ _ => ?_)
      | refine brN (fun _ _ => ?_) (fun _ _ => ?_)
      | refine brD (fun _ _ => ?_) (fun _ _ => ?_)
      | refine brP_intro (fun _ => ?_) (fun _ => ?_)
      | refine ck ?_ ?_
      | exact allp0
      | refine allp2 ?_ ?_
    repeat' first
      | refine brE (fun _ _ => ?_) (fun _ _ => ?_)
      | refine brN (fun _ _ => ?_) (fun _ _ => ?_)
      | refine brD (fun _ _ => ?_) (fun _ _ => ?_)
      | refine brP_intro (fun _ => ?_) (fun _ => ?_)
      | refine ck ?_ ?_
      | exact allp0
      | refine allp2 ?_ ?_
    all_goals try first
      | with_reducible rfl
      | exact Exists.intro _ rfl
      | exact tI_nw (by omega) (by omega)
      | exact tB_of (by assumption)
      | exact tlen _ (by first | assumption | omega | (simp; done))
      | ((with_reducible show (_ : Int) ≤ _); omega)
      | ((with_reducible show (_ : Nat) ≤ _); omega)
      | ((with_reducible show (_ : Int) < _); omega)
    all_goals contradiction
  | false =>
    repeat' first
      | refine brE (fun _ _ => ?_) (fun _ _ => ?_)
      | refine brN (fun _ _ => ?_) (fun _ _ => ?_)
      | refine brD (fun _ _ => ?_) (fun _ _ => ?_)
      | refine brP_intro (fun _ => ?_) (fun _ => ?_)
      | refine ck ?_ ?_
      | exact allp0
      | refine allp2 ?_ ?_
    repeat' first
      | refine brE (fun _ _ => ?_) (fun _ _ => ?_)
      | refine brN (fun _ _ => ?_) (fun _ _ => ?_)
      | refine brD (fun _ _ => ?_) (fun _ _ => ?_)
      | refine brP_intro (fun _ => ?_) (fun _ => ?_)
      | refine ck ?_ ?_
      | exact allp0
      | refine allp2 ?_ ?_
    all_goals try first
      | with_reducible rfl
      | exact Exists.intro _ rfl
      | exact tI_nw (by omega) (by omega)
      | exact tB_of (by assumption)
      | exact tlen _ (by first | assumption | omega | (simp; done))
      | ((with_reducible show (_ : Int) ≤ _); omega)
      | ((with_reducible show (_ : Nat) ≤ _); omega)
      | ((with_reducible show (_ : Int) < _); omega)
    all_goals contradiction
theorem has (x : FV) (i : Int) (hx : isT x) : VC Try.prog 48 ([tT x, tI i]) ([]) (tB (decide (0 ≤ i) && decide (i < cntF x))) ([]) :=
  vc_wp mixed nonum ⟨cmOf [(1, [(5, .tb (fun g xs H => some (.one (tI (cntF x)) H)) [] none)])], spOf [(1, [2])], ghOf [], loOf [], []⟩ [] (by kernel_rfl) (has_w x i hx)
theorem tjoin_f_w (x y : FV) (p : Pc) (z : FV) (w : FV) (hp : decide (Fit p) = true → VC Try.prog 65 [tF x, tA p.cs, tF y] [] (tF z) []) (hw : decide (Fit p) = false → VC Try.prog 64 [tF x, tF y] [] (tF w) []) : Ck [0, 1640, 0] [] (
 brP (decide (Fit p)) (
 Ck [1856, 0, 10938827, 0, 20, 1] [VC Try.prog 42 [tA [cI p.s, cI p.o, cI p.n, cI p.k]] [] (tB (decide (Fit p))) [], tB (decide (Fit p)) = tB true, VC Try.prog 65 [tF x, tA [cI p.s, cI p.o, cI p.n, cI p.k], tF y] [] (tF z) [], tA [CV.f z] = tA [CV.f (bif decide (Fit p) then z else w)]] (
 ([] : List VO) = [])) (
 Ck [1856, 0, 1215425, 0, 20, 1] [VC Try.prog 42 [tA [cI p.s, cI p.o, cI p.n, cI p.k]] [] (tB (decide (Fit p))) [], tB (decide (Fit p)) = tB false, VC Try.prog 64 [tF x, tF y] [] (tF w) [], tA [CV.f w] = tA [CV.f (bif decide (Fit p) then z else w)]] (
 ([] : List VO) = []))) := by
  repeat' first
    | refine brE (fun _ _ => ?_) (fun _ _ => ?_)
    | refine brN (fun _ _ => ?_) (fun _ _ => ?_)
    | refine brD (fun _ _ => ?_) (fun _ _ => ?_)
    | refine brP_intro (fun _ => ?_) (fun _ => ?_)
    | refine ck ?_ ?_
    | exact allp0
    | refine allp2 ?_ ?_
  all_goals try (have hd : decide (Fit p) = true := (by assumption); rw [hd]; rfl)
  all_goals try (have hd : decide (Fit p) = false := (by assumption); rw [hd]; rfl)
  repeat' first
    | refine brE (fun _ _ => ?_) (fun _ _ => ?_)
    | refine brN (fun _ _ => ?_) (fun _ _ => ?_)
    | refine brD (fun _ _ => ?_) (fun _ _ => ?_)
    | refine brP_intro (fun _ => ?_) (fun _ => ?_)
    | refine ck ?_ ?_
    | exact allp0
    | refine allp2 ?_ ?_
  all_goals try first
    | with_reducible rfl
    | exact Exists.intro _ rfl
    | exact tI_nw (by omega) (by omega)
    | exact tB_of (by assumption)
    | exact fit _
    | exact join _ _ _ (by first | assumption | omega | (simp; done)) (by first | assumption | omega | (simp; done)) (by first | assumption | omega | (simp; done)) (by first | assumption | omega | (simp; done))
    | exact tog_l _
    | exact tog_r _ _ _ _
    | exact tog_d _ _ _ _ _ _ _ _ _ _ (by first | assumption | omega | (simp; done)) (by first | assumption | omega | (simp; done)) (by first | assumption | omega | (simp; done))
    | exact fit p
    | exact hp (by assumption)
    | exact hw (by assumption)
    | exact hp (decide_eq_true (by assumption))
    | exact hw (decide_eq_false (by assumption))
    | ((with_reducible show (_ : Int) ≤ _); omega)
    | ((with_reducible show (_ : Nat) ≤ _); omega)
    | ((with_reducible show (_ : Int) < _); omega)
theorem tjoin_f (x y : FV) (p : Pc) (z : FV) (w : FV) (hp : decide (Fit p) = true → VC Try.prog 65 [tF x, tA p.cs, tF y] [] (tF z) []) (hw : decide (Fit p) = false → VC Try.prog 64 [tF x, tF y] [] (tF w) []) : VC Try.prog 31 ([tT x, tA p.cs, tT y]) ([]) (tT (bif decide (Fit p) then z else w)) ([]) :=
  vc_wp mixed nonum ⟨cmOf [(1, [(1, .tb (fun g xs H => some (.one (tB (decide (Fit p))) H)) [] none)]), (2, [(4, .tb (fun g xs H => some (.one (tF w) H)) [] none)]), (3, [(5, .tb (fun g xs H => some (.one (tF z) H)) [] none)])], spOf [(1, [1])], ghOf [], loOf [], []⟩ [] (by kernel_rfl) (tjoin_f_w x y p z w hp hw)
noncomputable def tq_tsplit_o (x : FV) (i : Int) (hx : isT x) (ho : i < 0 ∨ i > cntF x) : FuncId → List TV → List VO → Option Alt := tabOf [(75, t75_0_SB), (69, t69_0_SA), (40, t40_0_SA), (63, t63_0_SA), (68, t68_0_SA), (57, t57_0_SA), (55, t55_0_SA), (44, t44_0_SA)]
theorem tsplit_o_w (x : FV) (i : Int) (hx : isT x) (ho : i < 0 ∨ i > cntF x) : Ck [0, 1640, 0] [] (
 brP (decide (i < 0)) (
 Ck [96856337, 0, 14762, 0, 1640, 1] [tB (decide (i < 0)) = tB true, TV.tp [T1.ag [CV.f (FV.v (Value.pointer none))], T1.ag [CV.f (FV.v (Value.pointer none))], T1.c (cI 20)] = TV.tp [T1.ag [CV.f (FV.v (Value.pointer none))], T1.ag [CV.f (FV.v (Value.pointer none))], T1.c (cI 20)]] (
 ([] : List VO) = [])) (
 Ck [98450660] [tB (decide (i < 0)) = tB false, VC Try.prog 13 [tA [CV.f x]] [] (tI (cntF x)) []] (
 brP (decide (i > cntF x)) (
 Ck [0, 14762, 0, 1640, 1] [TV.tp [T1.ag [CV.f (FV.v (Value.pointer none))], T1.ag [CV.f (FV.v (Value.pointer none))], T1.c (cI 20)] = TV.tp [T1.ag [CV.f (FV.v (Value.pointer none))], T1.ag [CV.f (FV.v (Value.pointer none))], T1.c (cI 20)]] (
 ([] : List VO) = [])) (
 Ck [0] [] (
   Stuck [3, 3] [(16, tB (decide (i > cntF x))), (15, tB (decide (i > cntF x))), (14, tI (cntF x)), (13, tA [CV.f x]), (12, tI i), (11, tB false), (10, tB (decide (i < 0))), (9, tI i), (6, tI 0), (5, tC (CV.rp 2 0)), (4, tC (CV.rp 1 0)), (2, tC (CV.rp 0 0)), (0, tA [CV.f x]), (1, tI i)] [VO.bx [CV.f x] 35, VO.bx [CV.f (FV.v (Value.pointer none))] 35, VO.bx [CV.f (FV.v (Value.pointer none))] 35]))))) := by
  repeat' first
    | refine brE (fun _ _ => ?_) (fun _ _ => ?_)
    | refine brN (fun _ _ => ?_) (fun _ _ => ?_)
    | refine brD (fun _ _ => ?_) (fun _ _ => ?_)
    | refine brP_intro (fun _ => ?_) (fun _ => ?_)
    | refine ck ?_ ?_
    | exact allp0
    | refine allp2 ?_ ?_
  repeat' first
    | refine brE (fun _ _ => ?_) (fun _ _ => ?_)
    | refine brN (fun _ _ => ?_) (fun _ _ => ?_)
    | refine brD (fun _ _ => ?_) (fun _ _ => ?_)
    | refine brP_intro (fun _ => ?_) (fun _ => ?_)
    | refine ck ?_ ?_
    | exact allp0
    | refine allp2 ?_ ?_
  all_goals try first
    | with_reducible rfl
    | exact Exists.intro _ rfl
    | exact tI_nw (by omega) (by omega)
    | exact tB_of (by assumption)
    | exact tlen _ (by first | assumption | omega | (simp; done))
    | exact absurd ho (by omega)
    | ((with_reducible show (_ : Int) ≤ _); omega)
    | ((with_reducible show (_ : Nat) ≤ _); omega)
    | ((with_reducible show (_ : Int) < _); omega)
theorem tsplit_o (x : FV) (i : Int) (hx : isT x) (ho : i < 0 ∨ i > cntF x) : VC Try.prog 33 ([tT x, tI i]) ([]) (.tp [.ag [.f fN], .ag [.f fN], .c (cI 20)]) ([]) :=
  vc_wp mixed nonum ⟨cmOf [(1, [(5, .tb (fun g xs H => some (.one (tI (cntF x)) H)) [] none)]), (3, [(3, .tb (tq_tsplit_o x i hx ho) [] none)])], spOf [(1, [2])], ghOf [], loOf [], []⟩ [] (by kernel_rfl) (tsplit_o_w x i hx ho)
theorem tsplit_w (x u v : FV) (i : Int) (hx : isT x) (h0 : 0 ≤ i) (h1 : i ≤ cntF x) (hs : VC Try.prog 66 [tF x, tI i] [] (tp2 u v) []) : Ck [0, 1640, 0] [] (
 brP (decide (i < 0)) (
 Ck [96856337, 0, 14762, 0, 1640, 1] [tB (decide (i < 0)) = tB true, TV.tp [T1.ag [CV.f (FV.v (Value.pointer none))], T1.ag [CV.f (FV.v (Value.pointer none))], T1.c (cI 20)] = TV.tp [T1.ag [CV.f u], T1.ag [CV.f v], T1.c (cI 0)]] (
 ([] : List VO) = [])) (
 Ck [98450660] [tB (decide (i < 0)) = tB false, VC Try.prog 13 [tA [CV.f x]] [] (tI (cntF x)) []] (
 brP (decide (i > cntF x)) (
 Ck [0, 14762, 0, 1640, 1] [TV.tp [T1.ag [CV.f (FV.v (Value.pointer none))], T1.ag [CV.f (FV.v (Value.pointer none))], T1.c (cI 20)] = TV.tp [T1.ag [CV.f u], T1.ag [CV.f v], T1.c (cI 0)]] (
 ([] : List VO) = [])) (
 Ck [0, 96857309, 0, 1195742, 0, 1640, 1] [VC Try.prog 66 [tF x, tI i] [] (TV.tp [T1.c (CV.f u), T1.c (CV.f v)]) [], TV.tp [T1.ag [CV.f u], T1.ag [CV.f v], T1.c (cI 0)] = TV.tp [T1.ag [CV.f u], T1.ag [CV.f v], T1.c (cI 0)]] (
 ([] : List VO) = []))))) := by
  repeat' first
    | refine brE (fun _ _ => ?_) (fun _ _ => ?_)
    | refine brN (fun _ _ => ?_) (fun _ _ => ?_)
    | refine brD (fun _ _ => ?_) (fun _ _ => ?_)
    | refine brP_intro (fun _ => ?_) (fun _ => ?_)
    | refine ck ?_ ?_
    | exact allp0
    | refine allp2 ?_ ?_
  all_goals try first
    | with_reducible rfl
    | exact Exists.intro _ rfl
    | exact tI_nw (by omega) (by omega)
    | exact tB_of (by assumption)
    | exact split_n _
    | exact split_d _ _ _ _ _ _ _ _ _ (by first | assumption | omega | (simp; done)) (by first | assumption | omega | (simp; done)) _ (by first | assumption | omega | (simp; done)) (by first | assumption | omega | (simp; done)) (by first | assumption | omega | (simp; done)) (by first | assumption | omega | (simp; done)) (by first | assumption | omega | (simp; done)) (by first | assumption | omega | (simp; done))
    | exact tlen _ (by first | assumption | omega | (simp; done))
    | (exfalso; omega)
    | exact hs
    | ((with_reducible show (_ : Int) ≤ _); omega)
    | ((with_reducible show (_ : Nat) ≤ _); omega)
    | ((with_reducible show (_ : Int) < _); omega)
theorem tsplit (x u v : FV) (i : Int) (hx : isT x) (h0 : 0 ≤ i) (h1 : i ≤ cntF x) (hs : VC Try.prog 66 [tF x, tI i] [] (tp2 u v) []) : VC Try.prog 33 ([tT x, tI i]) ([]) (.tp [.ag [.f u], .ag [.f v], .c (cI 0)]) ([]) :=
  vc_wp mixed nonum ⟨cmOf [(1, [(5, .tb (fun g xs H => some (.one (tI (cntF x)) H)) [] none)]), (3, [(3, .tb (fun g xs H => some (.one (tp2 u v) H)) [] none)])], spOf [(1, [2])], ghOf [], loOf [], []⟩ [] (by kernel_rfl) (tsplit_w x u v i hx h0 h1 hs)
noncomputable def tq_tins_o (x : FV) (i : Int) (p : Pc) (hx : isT x) (ho : i < 0 ∨ i > cntF x) : FuncId → List TV → List VO → Option Alt := tabOf [(75, t75_0_SB), (69, t69_0_SA), (40, t40_0_SA), (63, t63_0_SA), (68, t68_0_SA), (57, t57_0_SA), (55, t55_0_SA), (44, t44_0_SA)]
theorem tins_o_w (x : FV) (i : Int) (p : Pc) (hx : isT x) (ho : i < 0 ∨ i > cntF x) : Ck [0, 1640, 0] [] (
 brP (decide (i < 0)) (
 Ck [96856337, 0, 182, 0, 182, 1] [tB (decide (i < 0)) = tB true, TV.tp [T1.ag [CV.f (FV.v (Value.pointer none))], T1.c (cI 20)] = TV.tp [T1.ag [CV.f (FV.v (Value.pointer none))], T1.c (cI 20)]] (
 ([] : List VO) = [])) (
 Ck [98450660] [tB (decide (i < 0)) = tB false, VC Try.prog 13 [tA [CV.f x]] [] (tI (cntF x)) []] (
 brP (decide (i > cntF x)) (
 Ck [0, 182, 0, 182, 1] [TV.tp [T1.ag [CV.f (FV.v (Value.pointer none))], T1.c (cI 20)] = TV.tp [T1.ag [CV.f (FV.v (Value.pointer none))], T1.c (cI 20)]] (
 ([] : List VO) = [])) (
 Ck [0] [] (
   Stuck [3, 951, 1] [(17, tB (decide (i > cntF x))), (16, tB (decide (i > cntF x))), (15, tI (cntF x)), (14, tA [CV.f x]), (13, tI i), (12, tB false), (11, tB (decide (i < 0))), (10, tI i), (7, tI 0), (6, tC (CV.rp 2 0)), (5, tC (CV.rp 1 0)), (3, tC (CV.rp 0 0)), (0, tA [CV.f x]), (1, tI i), (2, tA [cI p.s, cI p.o, cI p.n, cI p.k])] [VO.bx [CV.f x] 35, VO.bx [cI p.s, cI p.o, cI p.n, cI p.k] 32, VO.bx [CV.f (FV.v (Value.pointer none))] 35]))))) := by
  repeat' first
    | refine brE (fun _ _ => ?_) (fun _ _ => ?_)
    | refine brN (fun _ _ => ?_) (fun _ _ => ?_)
    | refine brD (fun _ _ => ?_) (fun _ _ => ?_)
    | refine brP_intro (fun _ => ?_) (fun _ => ?_)
    | refine ck ?_ ?_
    | exact allp0
    | refine allp2 ?_ ?_
  repeat' first
    | refine brE (fun _ _ => ?_) (fun _ _ => ?_)
    | refine brN (fun _ _ => ?_) (fun _ _ => ?_)
    | refine brD (fun _ _ => ?_) (fun _ _ => ?_)
    | refine brP_intro (fun _ => ?_) (fun _ => ?_)
    | refine ck ?_ ?_
    | exact allp0
    | refine allp2 ?_ ?_
  all_goals try first
    | with_reducible rfl
    | exact Exists.intro _ rfl
    | exact tI_nw (by omega) (by omega)
    | exact tB_of (by assumption)
    | exact tlen _ (by first | assumption | omega | (simp; done))
    | exact absurd ho (by omega)
    | ((with_reducible show (_ : Int) ≤ _); omega)
    | ((with_reducible show (_ : Nat) ≤ _); omega)
    | ((with_reducible show (_ : Int) < _); omega)
theorem tins_o (x : FV) (i : Int) (p : Pc) (hx : isT x) (ho : i < 0 ∨ i > cntF x) : VC Try.prog 34 ([tT x, tI i, tA p.cs]) ([]) (.tp [.ag [.f fN], .c (cI 20)]) ([]) :=
  vc_wp mixed nonum ⟨cmOf [(1, [(5, .tb (fun g xs H => some (.one (tI (cntF x)) H)) [] none)]), (3, [(1, .tb (tq_tins_o x i p hx ho) [] none)]), (5, [(3, .tb (tq_tins_o x i p hx ho) [] none)]), (6, [(3, .tb (tq_tins_o x i p hx ho) [] none)])], spOf [(1, [2]), (3, [1])], ghOf [], loOf [], []⟩ [] (by kernel_rfl) (tins_o_w x i p hx ho)
noncomputable def tq_tins_f (x : FV) (i : Int) (p : Pc) (hx : isT x) (h0 : 0 ≤ i) (h1 : i ≤ cntF x) (hp : ¬ Fit p) : FuncId → List TV → List VO → Option Alt := tabOf [(75, t75_0_SB), (69, t69_0_SA), (40, t40_0_SA), (63, t63_0_SA), (68, t68_0_SA), (57, t57_0_SA), (55, t55_0_SA), (44, t44_0_SA)]
theorem tins_f_w (x : FV) (i : Int) (p : Pc) (hx : isT x) (h0 : 0 ≤ i) (h1 : i ≤ cntF x) (hp : ¬ Fit p) : Ck [0, 1640, 0] [] (
 brP (decide (i < 0)) (
 Ck [96856337, 0, 182, 0, 182, 1] [tB (decide (i < 0)) = tB true, TV.tp [T1.ag [CV.f (FV.v (Value.pointer none))], T1.c (cI 20)] = TV.tp [T1.ag [CV.f (FV.v (Value.pointer none))], T1.c (cI 2)]] (
 ([] : List VO) = [])) (
 Ck [98450660] [tB (decide (i < 0)) = tB false, VC Try.prog 13 [tA [CV.f x]] [] (tI (cntF x)) []] (
 brP (decide (i > cntF x)) (
 Ck [0, 182, 0, 182, 1] [TV.tp [T1.ag [CV.f (FV.v (Value.pointer none))], T1.c (cI 20)] = TV.tp [T1.ag [CV.f (FV.v (Value.pointer none))], T1.c (cI 2)]] (
 ([] : List VO) = [])) (
 Ck [0, 1856, 0, 182, 0, 182, 1] [VC Try.prog 42 [tA [cI p.s, cI p.o, cI p.n, cI p.k]] [] (tB false) [], tB false = tB false, TV.tp [T1.ag [CV.f (FV.v (Value.pointer none))], T1.c (cI 2)] = TV.tp [T1.ag [CV.f (FV.v (Value.pointer none))], T1.c (cI 2)]] (
 ([] : List VO) = []))))) := by
  have hq : VC Try.prog 42 [tA p.cs] [] (tB false) [] := by
    have := fit p
    rwa [decide_eq_false hp] at this
  repeat' first
    | refine brE (fun _ _ => ?_) (fun _ _ => ?_)
    | refine brN (fun _ _ => ?_) (fun _ _ => ?_)
    | refine brD (fun _ _ => ?_) (fun _ _ => ?_)
    | refine brP_intro (fun _ => ?_) (fun _ => ?_)
    | refine ck ?_ ?_
    | exact allp0
    | refine allp2 ?_ ?_
  all_goals try first
    | with_reducible rfl
    | exact Exists.intro _ rfl
    | exact tI_nw (by omega) (by omega)
    | exact tB_of (by assumption)
    | exact fit _
    | exact tlen _ (by first | assumption | omega | (simp; done))
    | (exfalso; omega)
    | exact hq
    | ((with_reducible show (_ : Int) ≤ _); omega)
    | ((with_reducible show (_ : Nat) ≤ _); omega)
    | ((with_reducible show (_ : Int) < _); omega)
theorem tins_f (x : FV) (i : Int) (p : Pc) (hx : isT x) (h0 : 0 ≤ i) (h1 : i ≤ cntF x) (hp : ¬ Fit p) : VC Try.prog 34 ([tT x, tI i, tA p.cs]) ([]) (.tp [.ag [.f fN], .c (cI 2)]) ([]) :=
  vc_wp mixed nonum ⟨cmOf [(1, [(5, .tb (fun g xs H => some (.one (tI (cntF x)) H)) [] none)]), (3, [(1, .tb (fun g xs H => some (.one (tB false) H)) [] none)]), (5, [(3, .tb (tq_tins_f x i p hx h0 h1 hp) [] none)]), (6, [(3, .tb (tq_tins_f x i p hx h0 h1 hp) [] none)])], spOf [(1, [2]), (3, [1])], ghOf [], loOf [], []⟩ [] (by kernel_rfl) (tins_f_w x i p hx h0 h1 hp)
theorem tins_w (x u v z : FV) (i : Int) (p : Pc) (hx : isT x) (h0 : 0 ≤ i) (h1 : i ≤ cntF x) (hp : Fit p) (hs : VC Try.prog 66 [tF x, tI i] [] (tp2 u v) []) (hj : VC Try.prog 65 [tF u, tA p.cs, tF v] [] (tF z) []) : Ck [0, 1640, 0] [] (
 brP (decide (i < 0)) (
 Ck [96856337, 0, 182, 0, 182, 1] [tB (decide (i < 0)) = tB true, TV.tp [T1.ag [CV.f (FV.v (Value.pointer none))], T1.c (cI 20)] = TV.tp [T1.ag [CV.f z], T1.c (cI 0)]] (
 ([] : List VO) = [])) (
 Ck [98450660] [tB (decide (i < 0)) = tB false, VC Try.prog 13 [tA [CV.f x]] [] (tI (cntF x)) []] (
 brP (decide (i > cntF x)) (
 Ck [0, 182, 0, 182, 1] [TV.tp [T1.ag [CV.f (FV.v (Value.pointer none))], T1.c (cI 20)] = TV.tp [T1.ag [CV.f z], T1.c (cI 0)]] (
 ([] : List VO) = [])) (
 Ck [0, 1856, 0, 96857309, 0, 1197929, 0, 182, 1] [VC Try.prog 42 [tA [cI p.s, cI p.o, cI p.n, cI p.k]] [] (tB true) [], tB true = tB true, VC Try.prog 66 [tF x, tI i] [] (TV.tp [T1.c (CV.f u), T1.c (CV.f v)]) [], VC Try.prog 65 [tF u, tA [cI p.s, cI p.o, cI p.n, cI p.k], tF v] [] (tF z) [], TV.tp [T1.ag [CV.f z], T1.c (cI 0)] = TV.tp [T1.ag [CV.f z], T1.c (cI 0)]] (
 ([] : List VO) = []))))) := by
  have hq : VC Try.prog 42 [tA p.cs] [] (tB true) [] := by
    have := fit p
    rwa [decide_eq_true hp] at this
  repeat' first
    | refine brE (fun _ _ => ?_) (fun _ _ => ?_)
    | refine brN (fun _ _ => ?_) (fun _ _ => ?_)
    | refine brD (fun _ _ => ?_) (fun _ _ => ?_)
    | refine brP_intro (fun _ => ?_) (fun _ => ?_)
    | refine ck ?_ ?_
    | exact allp0
    | refine allp2 ?_ ?_
  all_goals try first
    | with_reducible rfl
    | exact Exists.intro _ rfl
    | exact tI_nw (by omega) (by omega)
    | exact tB_of (by assumption)
    | exact fit _
    | exact join _ _ _ (by first | assumption | omega | (simp; done)) (by first | assumption | omega | (simp; done)) (by first | assumption | omega | (simp; done)) (by first | assumption | omega | (simp; done))
    | exact split_n _
    | exact split_d _ _ _ _ _ _ _ _ _ (by first | assumption | omega | (simp; done)) (by first | assumption | omega | (simp; done)) _ (by first | assumption | omega | (simp; done)) (by first | assumption | omega | (simp; done)) (by first | assumption | omega | (simp; done)) (by first | assumption | omega | (simp; done)) (by first | assumption | omega | (simp; done)) (by first | assumption | omega | (simp; done))
    | exact tlen _ (by first | assumption | omega | (simp; done))
    | (exfalso; omega)
    | exact hq
    | exact hs
    | exact hj
    | ((with_reducible show (_ : Int) ≤ _); omega)
    | ((with_reducible show (_ : Nat) ≤ _); omega)
    | ((with_reducible show (_ : Int) < _); omega)
theorem tins (x u v z : FV) (i : Int) (p : Pc) (hx : isT x) (h0 : 0 ≤ i) (h1 : i ≤ cntF x) (hp : Fit p) (hs : VC Try.prog 66 [tF x, tI i] [] (tp2 u v) []) (hj : VC Try.prog 65 [tF u, tA p.cs, tF v] [] (tF z) []) : VC Try.prog 34 ([tT x, tI i, tA p.cs]) ([]) (.tp [.ag [.f z], .c (cI 0)]) ([]) :=
  vc_wp mixed nonum ⟨cmOf [(1, [(5, .tb (fun g xs H => some (.one (tI (cntF x)) H)) [] none)]), (3, [(1, .tb (fun g xs H => some (.one (tB true) H)) [] none)]), (5, [(3, .tb (fun g xs H => some (.one (tp2 u v) H)) [] none)]), (6, [(3, .tb (fun g xs H => some (.one (tF z) H)) [] none)])], spOf [(1, [2]), (3, [1])], ghOf [], loOf [], []⟩ [] (by kernel_rfl) (tins_w x u v z i p hx h0 h1 hp hs hj)
noncomputable def tq_tdel_o (x : FV) (i : Int) (hx : isT x) (ho : i < 0 ∨ i ≥ cntF x) : FuncId → List TV → List VO → Option Alt := tabOf [(75, t75_0_SB), (69, t69_0_SA), (40, t40_0_SA), (63, t63_0_SA), (68, t68_0_SA), (57, t57_0_SA), (55, t55_0_SA), (44, t44_0_SA)]
theorem tdel_o_w (x : FV) (i : Int) (hx : isT x) (ho : i < 0 ∨ i ≥ cntF x) : Ck [0, 182, 0, 16706, 0, 182, 0, 182, 1] [VC Try.prog 48 [tA [CV.f x], tI i] [] (tB false) [], tB false = tB false, TV.tp [T1.ag [CV.f (FV.v (Value.pointer none))], T1.c (cI 20)] = TV.tp [T1.ag [CV.f (FV.v (Value.pointer none))], T1.c (cI 20)]] (
 ([] : List VO) = []) := by
  have hq : VC Try.prog 48 [tT x, tI i] [] (tB false) [] := by
    have h := has x i hx
    have e : (decide (0 ≤ i) && decide (i < cntF x)) = false := by
      rw [Bool.and_eq_false_iff]
      rcases ho with h | h
      · exact .inl (decide_eq_false (by omega))
      · exact .inr (decide_eq_false (by omega))
    rwa [e] at h
  repeat' first
    | refine brE (fun _ _ => ?_) (fun _ _ => ?_)
    | refine brN (fun _ _ => ?_) (fun _ _ => ?_)
    | refine brD (fun _ _ => ?_) (fun _ _ => ?_)
    | refine brP_intro (fun _ => ?_) (fun _ => ?_)
    | refine ck ?_ ?_
    | exact allp0
    | refine allp2 ?_ ?_
  all_goals try first
    | with_reducible rfl
    | exact Exists.intro _ rfl
    | exact tI_nw (by omega) (by omega)
    | exact tB_of (by assumption)
    | exact has _ _ (by first | assumption | omega | (simp; done))
    | (exfalso; omega)
    | exact hq
    | ((with_reducible show (_ : Int) ≤ _); omega)
    | ((with_reducible show (_ : Nat) ≤ _); omega)
    | ((with_reducible show (_ : Int) < _); omega)
theorem tdel_o (x : FV) (i : Int) (hx : isT x) (ho : i < 0 ∨ i ≥ cntF x) : VC Try.prog 35 ([tT x, tI i]) ([]) (.tp [.ag [.f fN], .c (cI 20)]) ([]) :=
  vc_wp mixed nonum ⟨cmOf [(1, [(2, .tb (fun g xs H => some (.one (tB false) H)) [] none)]), (3, [(3, .tb (tq_tdel_o x i hx ho) [] none)]), (4, [(3, .nw), (4, .tb (tq_tdel_o x i hx ho) [] none)]), (5, [(2, .tb (tq_tdel_o x i hx ho) [] none)])], spOf [(1, [2])], ghOf [], loOf [], []⟩ [] (by kernel_rfl) (tdel_o_w x i hx ho)
theorem tdel_w (x u v u1 v1 z : FV) (i : Int) (hx : isT x) (h0 : 0 ≤ i) (h1 : i < cntF x) (hs : VC Try.prog 66 [tF x, tI i] [] (tp2 u v) []) (ht : VC Try.prog 66 [tF x, tI (i + 1)] [] (tp2 u1 v1) []) (hj : VC Try.prog 64 [tF u, tF v1] [] (tF z) []) : Ck [0, 182, 0, 16706, 0, 96857309, 0, 7845452984, 0, 133103, 0, 182, 1] [VC Try.prog 48 [tA [CV.f x], tI i] [] (tB true) [], tB true = tB true, VC Try.prog 66 [tF x, tI i] [] (TV.tp [T1.c (CV.f u), T1.c (CV.f v)]) [], tI (IntKind.i64.wrap (i + 1)) = tI (i + 1), VC Try.prog 66 [tF x, tI (i + 1)] [] (TV.tp [T1.c (CV.f u1), T1.c (CV.f v1)]) [], VC Try.prog 64 [tF u, tF v1] [] (tF z) [], TV.tp [T1.ag [CV.f z], T1.c (cI 0)] = TV.tp [T1.ag [CV.f z], T1.c (cI 0)]] (
 ([] : List VO) = []) := by
  have hq : VC Try.prog 48 [tT x, tI i] [] (tB true) [] := by
    have h := has x i hx
    rwa [decide_eq_true h0, decide_eq_true h1] at h
  have hb := hx.bd
  repeat' first
    | refine brE (fun _ _ => ?_) (fun _ _ => ?_)
    | refine brN (fun _ _ => ?_) (fun _ _ => ?_)
    | refine brD (fun _ _ => ?_) (fun _ _ => ?_)
    | refine brP_intro (fun _ => ?_) (fun _ => ?_)
    | refine ck ?_ ?_
    | exact allp0
    | refine allp2 ?_ ?_
  all_goals try first
    | with_reducible rfl
    | exact Exists.intro _ rfl
    | exact tI_nw (by omega) (by omega)
    | exact tB_of (by assumption)
    | exact split_n _
    | exact split_d _ _ _ _ _ _ _ _ _ (by first | assumption | omega | (simp; done)) (by first | assumption | omega | (simp; done)) _ (by first | assumption | omega | (simp; done)) (by first | assumption | omega | (simp; done)) (by first | assumption | omega | (simp; done)) (by first | assumption | omega | (simp; done)) (by first | assumption | omega | (simp; done)) (by first | assumption | omega | (simp; done))
    | exact tog_l _
    | exact tog_r _ _ _ _
    | exact tog_d _ _ _ _ _ _ _ _ _ _ (by first | assumption | omega | (simp; done)) (by first | assumption | omega | (simp; done)) (by first | assumption | omega | (simp; done))
    | exact has _ _ (by first | assumption | omega | (simp; done))
    | exact hq
    | exact hs
    | exact ht
    | exact hj
    | ((with_reducible show (_ : Int) ≤ _); omega)
    | ((with_reducible show (_ : Nat) ≤ _); omega)
    | ((with_reducible show (_ : Int) < _); omega)
theorem tdel (x u v u1 v1 z : FV) (i : Int) (hx : isT x) (h0 : 0 ≤ i) (h1 : i < cntF x) (hs : VC Try.prog 66 [tF x, tI i] [] (tp2 u v) []) (ht : VC Try.prog 66 [tF x, tI (i + 1)] [] (tp2 u1 v1) []) (hj : VC Try.prog 64 [tF u, tF v1] [] (tF z) []) : VC Try.prog 35 ([tT x, tI i]) ([]) (.tp [.ag [.f z], .c (cI 0)]) ([]) :=
  vc_wp mixed nonum ⟨cmOf [(1, [(2, .tb (fun g xs H => some (.one (tB true) H)) [] none)]), (3, [(3, .tb (fun g xs H => some (.one (tp2 u v) H)) [] none)]), (4, [(3, .nw), (4, .tb (fun g xs H => some (.one (tp2 u1 v1) H)) [] none)]), (5, [(2, .tb (fun g xs H => some (.one (tF z) H)) [] none)])], spOf [(1, [2])], ghOf [], loOf [], []⟩ [] (by kernel_rfl) (tdel_w x u v u1 v1 z i hx h0 h1 hs ht hj)
end Go.Proofs.Ytpjlgjhkdligfaa.Vg
