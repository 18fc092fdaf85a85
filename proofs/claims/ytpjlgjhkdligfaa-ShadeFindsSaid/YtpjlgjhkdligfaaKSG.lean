/- Trees set, built. No law, no condition. -/
import Derived.Test.YtpjlgjhkdligfaaKSF
namespace Go.Proofs.Ytpjlgjhkdligfaa.Vg
open Go.RowKit
set_option maxRecDepth 100000
set_option linter.unusedVariables false
set_option linter.unusedSimpArgs false
noncomputable def tq_set_l (c : Bool) (x y z : FV) (q p : Pc) (i : Int) (hx : isT x) (hy : isT y) (hz : isT z) (hq : Fit q) (hi : i < cntF x) (h : VC Try.prog 67 [tF x, tI i, tA p.cs] [] (tF z) []) : FuncId → List TV → List VO → Option Alt := tabOf [(75, t75_0_SB), (69, t69_0_SA), (40, t40_0_SA), (63, t63_0_SA), (68, t68_0_SA), (57, t57_0_SA), (55, t55_0_SA), (44, t44_0_SA)]
theorem set_l_w (c : Bool) (x y z : FV) (q p : Pc) (i : Int) (hx : isT x) (hy : isT y) (hz : isT z) (hq : Fit q) (hi : i < cntF x) (h : VC Try.prog 67 [tF x, tI i, tA p.cs] [] (tF z) []) : Ck [0, 20, 0, 152543, 0, 1640] [VC Try.prog 44 [tF x] [] (tI (cntF x)) []] (
 brP (decide (i < cntF x)) (
 Ck [0, 31407302446357419272, 0, 20, 1] [VC Try.prog 67 [tF x, tI i, tA [cI p.s, cI p.o, cI p.n, cI p.k]] [] (tF z) [], VC Try.prog 69 [tB c, tF z, tA [cI q.s, cI q.o, cI q.n, cI q.k], tF y] [] (tF (FV.pt [fI q.s, fI q.o, fI q.n, fI q.k, fB c, z, y, fI (cntF z + 1 + cntF y), fI (sizF z + q.n + sizF y), fI (lnsF z + q.k + lnsF y), fI (bif c then blkF z else blkF z + 1), fI (1 + if hghF y > hghF z then hghF y else hghF z)] 0)) [], tF (FV.pt [fI q.s, fI q.o, fI q.n, fI q.k, fB c, z, y, fI (cntF z + 1 + cntF y), fI (sizF z + q.n + sizF y), fI (lnsF z + q.k + lnsF y), fI (bif c then blkF z else blkF z + 1), fI (1 + if hghF y > hghF z then hghF y else hghF z)] 0) = tF (FV.pt [fI q.s, fI q.o, fI q.n, fI q.k, fB c, z, y, fI (cntF z + 1 + cntF y), fI (sizF z + q.n + sizF y), fI (lnsF z + q.k + lnsF y), fI (bif c then blkF z else blkF z + 1), fI (1 + if hghF y > hghF z then hghF y else hghF z)] 0)] (
 ([] : List VO) = [])) (
 Ck [0, 1640] [] (
 brP (decide (i > cntF x)) (
 Ck [0] [] (
   Stuck [5, 21] [(37, tB (decide (i > cntF x))), (40, tB (decide (i > cntF x))), (39, tI (cntF x)), (38, tI i), (13, tB (decide (i < cntF x))), (16, tB (decide (i < cntF x))), (15, tI (cntF x)), (14, tI i), (7, tI (cntF x)), (12, tI (cntF x)), (11, tF x), (10, tF (FV.pt [fI q.s, fI q.o, fI q.n, fI q.k, fB c, x, y, fI (cntF x + 1 + cntF y), fI (sizF x + q.n + sizF y), fI (lnsF x + q.k + lnsF y), fI (bif c then blkF x else blkF x + 1), fI (1 + if hghF y > hghF x then hghF y else hghF x)] 5)), (9, tF (FV.pt [fI q.s, fI q.o, fI q.n, fI q.k, fB c, x, y, fI (cntF x + 1 + cntF y), fI (sizF x + q.n + sizF y), fI (lnsF x + q.k + lnsF y), fI (bif c then blkF x else blkF x + 1), fI (1 + if hghF y > hghF x then hghF y else hghF x)] 0)), (8, tF (FV.pt [fI q.s, fI q.o, fI q.n, fI q.k, fB c, x, y, fI (cntF x + 1 + cntF y), fI (sizF x + q.n + sizF y), fI (lnsF x + q.k + lnsF y), fI (bif c then blkF x else blkF x + 1), fI (1 + if hghF y > hghF x then hghF y else hghF x)] 0)), (6, tF (FV.v (Value.pointer none))), (5, tC (CV.rp 0 0)), (0, tF (FV.pt [fI q.s, fI q.o, fI q.n, fI q.k, fB c, x, y, fI (cntF x + 1 + cntF y), fI (sizF x + q.n + sizF y), fI (lnsF x + q.k + lnsF y), fI (bif c then blkF x else blkF x + 1), fI (1 + if hghF y > hghF x then hghF y else hghF x)] 0)), (1, tI i), (2, tA [cI p.s, cI p.o, cI p.n, cI p.k])] [VO.bx [cI p.s, cI p.o, cI p.n, cI p.k] 32])) (
 Ck [0, 59098380508649, 0, 20, 1] [VC Try.prog 69 [tB c, tF x, tA [cI p.s, cI p.o, cI p.n, cI p.k], tF y] [] (tF (FV.pt [fI p.s, fI p.o, fI p.n, fI p.k, fB c, x, y, fI (cntF x + 1 + cntF y), fI (sizF x + p.n + sizF y), fI (lnsF x + p.k + lnsF y), fI (bif c then blkF x else blkF x + 1), fI (1 + if hghF y > hghF x then hghF y else hghF x)] 0)) [], tF (FV.pt [fI p.s, fI p.o, fI p.n, fI p.k, fB c, x, y, fI (cntF x + 1 + cntF y), fI (sizF x + p.n + sizF y), fI (lnsF x + p.k + lnsF y), fI (bif c then blkF x else blkF x + 1), fI (1 + if hghF y > hghF x then hghF y else hghF x)] 0) = tF (FV.pt [fI q.s, fI q.o, fI q.n, fI q.k, fB c, z, y, fI (cntF z + 1 + cntF y), fI (sizF z + q.n + sizF y), fI (lnsF z + q.k + lnsF y), fI (bif c then blkF z else blkF z + 1), fI (1 + if hghF y > hghF z then hghF y else hghF z)] 0)] (
 ([] : List VO) = []))))) := by
  repeat' first
    | refine brE (fun _ _ => ?_) (fun _ _ => ?_)
    | refine brN (fun _ _ => ?_) (fun _ _ => ?_)
    | refine brD (fun _ _ => ?_) (fun _ _ => ?_)
    | refine brP_intro (fun _ => ?_) (fun _ => ?_)
    | refine ck ?_ ?_
    | exact allp0
    | refine allp2 ?_ ?_
  repeat' first
    | refine brE (fun _ _ => ?_) (fun _ _ => ?_)
    | refine brN (fun _ _ => ?_) (fun _ _ => ?_)
    | refine brD (fun _ _ => ?_) (fun _ _ => ?_)
    | refine brP_intro (fun _ => ?_) (fun _ => ?_)
    | refine ck ?_ ?_
    | exact allp0
    | refine allp2 ?_ ?_
  all_goals try first
    | with_reducible rfl
    | exact Exists.intro _ rfl
    | exact tI_nw (by omega) (by omega)
    | exact tB_of (by assumption)
    | exact cnt_n 
    | exact cnt_d _ _ _ _
    | exact cnt_x _ (by first | assumption | omega | (simp; done))
    | exact made _ _ _ _ (by first | assumption | omega | (simp; done)) (by first | assumption | omega | (simp; done)) (by first | assumption | omega | (simp; done))
    | exact made c z y q hz hy hq
    | exact h
    | (exfalso; omega)
    | ((with_reducible show (_ : Int) ≤ _); omega)
    | ((with_reducible show (_ : Nat) ≤ _); omega)
    | ((with_reducible show (_ : Int) < _); omega)
theorem set_l (c : Bool) (x y z : FV) (q p : Pc) (i : Int) (hx : isT x) (hy : isT y) (hz : isT z) (hq : Fit q) (hi : i < cntF x) (h : VC Try.prog 67 [tF x, tI i, tA p.cs] [] (tF z) []) : VC Try.prog 67 ([tF (mkF c x q y), tI i, tA p.cs]) ([]) (tF (mkF c z q y)) ([]) :=
  vc_wp mixed nonum ⟨cmOf [(1, [(4, .tb (tq_set_l c x y z q p i hx hy hz hq hi h) [] none)]), (3, [(10, .tb (fun g xs H => some (.one (tF z) H)) [] none), (19, .tb (tq_set_l c x y z q p i hx hy hz hq hi h) [] none)]), (5, [(18, .nw), (19, .nw), (21, .tb (tq_set_l c x y z q p i hx hy hz hq hi h) [] none), (22, .tb (tq_set_l c x y z q p i hx hy hz hq hi h) [] none)]), (6, [(13, .tb (tq_set_l c x y z q p i hx hy hz hq hi h) [] none)])], spOf [], ghOf [], loOf [], []⟩ [] (by kernel_rfl) (set_l_w c x y z q p i hx hy hz hq hi h)
noncomputable def tq_set_r (c : Bool) (x y z : FV) (q p : Pc) (i : Int) (hx : isT x) (hy : isT y) (hz : isT z) (hq : Fit q) (hi : i > cntF x) (hi2 : i ≤ 2305843009213693952) (h : VC Try.prog 67 [tF y, tI (i - cntF x - 1), tA p.cs] [] (tF z) []) : FuncId → List TV → List VO → Option Alt := tabOf [(75, t75_0_SB), (69, t69_0_SA), (40, t40_0_SA), (63, t63_0_SA), (68, t68_0_SA), (57, t57_0_SA), (55, t55_0_SA), (44, t44_0_SA)]
theorem set_r_w (c : Bool) (x y z : FV) (q p : Pc) (i : Int) (hx : isT x) (hy : isT y) (hz : isT z) (hq : Fit q) (hi : i > cntF x) (hi2 : i ≤ 2305843009213693952) (h : VC Try.prog 67 [tF y, tI (i - cntF x - 1), tA p.cs] [] (tF z) []) : Ck [0, 20, 0, 152543, 0, 1640] [VC Try.prog 44 [tF x] [] (tI (cntF x)) []] (
 brP (decide (i < cntF x)) (
 Ck [0] [] (
  Stuck [3, 10] [(13, tB (decide (i < cntF x))), (16, tB (decide (i < cntF x))), (15, tI (cntF x)), (14, tI i), (7, tI (cntF x)), (12, tI (cntF x)), (11, tF x), (10, tF (FV.pt [fI q.s, fI q.o, fI q.n, fI q.k, fB c, x, y, fI (cntF x + 1 + cntF y), fI (sizF x + q.n + sizF y), fI (lnsF x + q.k + lnsF y), fI (bif c then blkF x else blkF x + 1), fI (1 + if hghF y > hghF x then hghF y else hghF x)] 5)), (9, tF (FV.pt [fI q.s, fI q.o, fI q.n, fI q.k, fB c, x, y, fI (cntF x + 1 + cntF y), fI (sizF x + q.n + sizF y), fI (lnsF x + q.k + lnsF y), fI (bif c then blkF x else blkF x + 1), fI (1 + if hghF y > hghF x then hghF y else hghF x)] 0)), (8, tF (FV.pt [fI q.s, fI q.o, fI q.n, fI q.k, fB c, x, y, fI (cntF x + 1 + cntF y), fI (sizF x + q.n + sizF y), fI (lnsF x + q.k + lnsF y), fI (bif c then blkF x else blkF x + 1), fI (1 + if hghF y > hghF x then hghF y else hghF x)] 0)), (6, tF (FV.v (Value.pointer none))), (5, tC (CV.rp 0 0)), (0, tF (FV.pt [fI q.s, fI q.o, fI q.n, fI q.k, fB c, x, y, fI (cntF x + 1 + cntF y), fI (sizF x + q.n + sizF y), fI (lnsF x + q.k + lnsF y), fI (bif c then blkF x else blkF x + 1), fI (1 + if hghF y > hghF x then hghF y else hghF x)] 0)), (1, tI i), (2, tA [cI p.s, cI p.o, cI p.n, cI p.k])] [VO.bx [cI p.s, cI p.o, cI p.n, cI p.k] 32])) (
 Ck [0, 1640] [] (
 brP (decide (i > cntF x)) (
 Ck [0, 1881343232297658666529760, 0, 20, 1] [tI (IntKind.i64.wrap (i - cntF x)) = tI (i - cntF x), tI (IntKind.i64.wrap (i - cntF x - 1)) = tI (i - cntF x - 1), VC Try.prog 67 [tF y, tI (i - cntF x - 1), tA [cI p.s, cI p.o, cI p.n, cI p.k]] [] (tF z) [], VC Try.prog 69 [tB c, tF x, tA [cI q.s, cI q.o, cI q.n, cI q.k], tF z] [] (tF (FV.pt [fI q.s, fI q.o, fI q.n, fI q.k, fB c, x, z, fI (cntF x + 1 + cntF z), fI (sizF x + q.n + sizF z), fI (lnsF x + q.k + lnsF z), fI (bif c then blkF x else blkF x + 1), fI (1 + if hghF z > hghF x then hghF z else hghF x)] 0)) [], tF (FV.pt [fI q.s, fI q.o, fI q.n, fI q.k, fB c, x, z, fI (cntF x + 1 + cntF z), fI (sizF x + q.n + sizF z), fI (lnsF x + q.k + lnsF z), fI (bif c then blkF x else blkF x + 1), fI (1 + if hghF z > hghF x then hghF z else hghF x)] 0) = tF (FV.pt [fI q.s, fI q.o, fI q.n, fI q.k, fB c, x, z, fI (cntF x + 1 + cntF z), fI (sizF x + q.n + sizF z), fI (lnsF x + q.k + lnsF z), fI (bif c then blkF x else blkF x + 1), fI (1 + if hghF z > hghF x then hghF z else hghF x)] 0)] (
 ([] : List VO) = [])) (
 Ck [0, 59098380508649, 0, 20, 1] [VC Try.prog 69 [tB c, tF x, tA [cI p.s, cI p.o, cI p.n, cI p.k], tF y] [] (tF (FV.pt [fI p.s, fI p.o, fI p.n, fI p.k, fB c, x, y, fI (cntF x + 1 + cntF y), fI (sizF x + p.n + sizF y), fI (lnsF x + p.k + lnsF y), fI (bif c then blkF x else blkF x + 1), fI (1 + if hghF y > hghF x then hghF y else hghF x)] 0)) [], tF (FV.pt [fI p.s, fI p.o, fI p.n, fI p.k, fB c, x, y, fI (cntF x + 1 + cntF y), fI (sizF x + p.n + sizF y), fI (lnsF x + p.k + lnsF y), fI (bif c then blkF x else blkF x + 1), fI (1 + if hghF y > hghF x then hghF y else hghF x)] 0) = tF (FV.pt [fI q.s, fI q.o, fI q.n, fI q.k, fB c, x, z, fI (cntF x + 1 + cntF z), fI (sizF x + q.n + sizF z), fI (lnsF x + q.k + lnsF z), fI (bif c then blkF x else blkF x + 1), fI (1 + if hghF z > hghF x then hghF z else hghF x)] 0)] (
 ([] : List VO) = []))))) := by
  have hb := hx.bd
  repeat' first
    | refine brE (fun _ _ => ?_) (fun _ _ => ?_)
    | refine brN (fun _ _ => ?_) (fun _ _ => ?_)
    | refine brD (fun _ _ => ?_) (fun _ _ => ?_)
    | refine brP_intro (fun _ => ?_) (fun _ => ?_)
    | refine ck ?_ ?_
    | exact allp0
    | refine allp2 ?_ ?_
  repeat' first
    | refine brE (fun _ _ => ?_) (fun _ _ => ?_)
    | refine brN (fun _ _ => ?_) (fun _ _ => ?_)
    | refine brD (fun _ _ => ?_) (fun _ _ => ?_)
    | refine brP_intro (fun _ => ?_) (fun _ => ?_)
    | refine ck ?_ ?_
    | exact allp0
    | refine allp2 ?_ ?_
  all_goals try first
    | with_reducible rfl
    | exact Exists.intro _ rfl
    | exact tI_nw (by omega) (by omega)
    | exact tB_of (by assumption)
    | exact cnt_n 
    | exact cnt_d _ _ _ _
    | exact cnt_x _ (by first | assumption | omega | (simp; done))
    | exact made _ _ _ _ (by first | assumption | omega | (simp; done)) (by first | assumption | omega | (simp; done)) (by first | assumption | omega | (simp; done))
    | exact set_l _ _ _ _ _ _ _ (by first | assumption | omega | (simp; done)) (by first | assumption | omega | (simp; done)) (by first | assumption | omega | (simp; done)) (by first | assumption | omega | (simp; done)) (by first | assumption | omega | (simp; done)) (by first | assumption | omega | (simp; done))
    | exact made c x z q hx hz hq
    | exact h
    | (exfalso; omega)
    | ((with_reducible show (_ : Int) ≤ _); omega)
    | ((with_reducible show (_ : Nat) ≤ _); omega)
    | ((with_reducible show (_ : Int) < _); omega)
theorem set_r (c : Bool) (x y z : FV) (q p : Pc) (i : Int) (hx : isT x) (hy : isT y) (hz : isT z) (hq : Fit q) (hi : i > cntF x) (hi2 : i ≤ 2305843009213693952) (h : VC Try.prog 67 [tF y, tI (i - cntF x - 1), tA p.cs] [] (tF z) []) : VC Try.prog 67 ([tF (mkF c x q y), tI i, tA p.cs]) ([]) (tF (mkF c x q z)) ([]) :=
  vc_wp mixed nonum ⟨cmOf [(1, [(4, .tb (tq_set_r c x y z q p i hx hy hz hq hi hi2 h) [] none)]), (3, [(10, .tb (tq_set_r c x y z q p i hx hy hz hq hi hi2 h) [] none), (19, .tb (tq_set_r c x y z q p i hx hy hz hq hi hi2 h) [] none)]), (5, [(18, .nw), (19, .nw), (21, .tb (fun g xs H => some (.one (tF z) H)) [] none), (22, .tb (tq_set_r c x y z q p i hx hy hz hq hi hi2 h) [] none)]), (6, [(13, .tb (tq_set_r c x y z q p i hx hy hz hq hi hi2 h) [] none)])], spOf [], ghOf [], loOf [], []⟩ [] (by kernel_rfl) (set_r_w c x y z q p i hx hy hz hq hi hi2 h)
noncomputable def tq_set_m (c : Bool) (x y : FV) (q p : Pc) (i : Int) (hx : isT x) (hy : isT y) (hp : Fit p) (hi : i = cntF x) : FuncId → List TV → List VO → Option Alt := tabOf [(75, t75_0_SB), (69, t69_0_SA), (40, t40_0_SA), (63, t63_0_SA), (68, t68_0_SA), (57, t57_0_SA), (55, t55_0_SA), (44, t44_0_SA)]
theorem set_m_w (c : Bool) (x y : FV) (q p : Pc) (i : Int) (hx : isT x) (hy : isT y) (hp : Fit p) (hi : i = cntF x) : Ck [0, 20, 0, 152543, 0, 1640] [VC Try.prog 44 [tF x] [] (tI (cntF x)) []] (
 brP (decide (i < cntF x)) (
 Ck [0] [] (
  Stuck [3, 10] [(13, tB (decide (i < cntF x))), (16, tB (decide (i < cntF x))), (15, tI (cntF x)), (14, tI i), (7, tI (cntF x)), (12, tI (cntF x)), (11, tF x), (10, tF (FV.pt [fI q.s, fI q.o, fI q.n, fI q.k, fB c, x, y, fI (cntF x + 1 + cntF y), fI (sizF x + q.n + sizF y), fI (lnsF x + q.k + lnsF y), fI (bif c then blkF x else blkF x + 1), fI (1 + if hghF y > hghF x then hghF y else hghF x)] 5)), (9, tF (FV.pt [fI q.s, fI q.o, fI q.n, fI q.k, fB c, x, y, fI (cntF x + 1 + cntF y), fI (sizF x + q.n + sizF y), fI (lnsF x + q.k + lnsF y), fI (bif c then blkF x else blkF x + 1), fI (1 + if hghF y > hghF x then hghF y else hghF x)] 0)), (8, tF (FV.pt [fI q.s, fI q.o, fI q.n, fI q.k, fB c, x, y, fI (cntF x + 1 + cntF y), fI (sizF x + q.n + sizF y), fI (lnsF x + q.k + lnsF y), fI (bif c then blkF x else blkF x + 1), fI (1 + if hghF y > hghF x then hghF y else hghF x)] 0)), (6, tF (FV.v (Value.pointer none))), (5, tC (CV.rp 0 0)), (0, tF (FV.pt [fI q.s, fI q.o, fI q.n, fI q.k, fB c, x, y, fI (cntF x + 1 + cntF y), fI (sizF x + q.n + sizF y), fI (lnsF x + q.k + lnsF y), fI (bif c then blkF x else blkF x + 1), fI (1 + if hghF y > hghF x then hghF y else hghF x)] 0)), (1, tI i), (2, tA [cI p.s, cI p.o, cI p.n, cI p.k])] [VO.bx [cI p.s, cI p.o, cI p.n, cI p.k] 32])) (
 Ck [0, 1640] [] (
 brP (decide (i > cntF x)) (
 Ck [0] [] (
   Stuck [5, 21] [(37, tB (decide (i > cntF x))), (40, tB (decide (i > cntF x))), (39, tI (cntF x)), (38, tI i), (13, tB (decide (i < cntF x))), (16, tB (decide (i < cntF x))), (15, tI (cntF x)), (14, tI i), (7, tI (cntF x)), (12, tI (cntF x)), (11, tF x), (10, tF (FV.pt [fI q.s, fI q.o, fI q.n, fI q.k, fB c, x, y, fI (cntF x + 1 + cntF y), fI (sizF x + q.n + sizF y), fI (lnsF x + q.k + lnsF y), fI (bif c then blkF x else blkF x + 1), fI (1 + if hghF y > hghF x then hghF y else hghF x)] 5)), (9, tF (FV.pt [fI q.s, fI q.o, fI q.n, fI q.k, fB c, x, y, fI (cntF x + 1 + cntF y), fI (sizF x + q.n + sizF y), fI (lnsF x + q.k + lnsF y), fI (bif c then blkF x else blkF x + 1), fI (1 + if hghF y > hghF x then hghF y else hghF x)] 0)), (8, tF (FV.pt [fI q.s, fI q.o, fI q.n, fI q.k, fB c, x, y, fI (cntF x + 1 + cntF y), fI (sizF x + q.n + sizF y), fI (lnsF x + q.k + lnsF y), fI (bif c then blkF x else blkF x + 1), fI (1 + if hghF y > hghF x then hghF y else hghF x)] 0)), (6, tF (FV.v (Value.pointer none))), (5, tC (CV.rp 0 0)), (0, tF (FV.pt [fI q.s, fI q.o, fI q.n, fI q.k, fB c, x, y, fI (cntF x + 1 + cntF y), fI (sizF x + q.n + sizF y), fI (lnsF x + q.k + lnsF y), fI (bif c then blkF x else blkF x + 1), fI (1 + if hghF y > hghF x then hghF y else hghF x)] 0)), (1, tI i), (2, tA [cI p.s, cI p.o, cI p.n, cI p.k])] [VO.bx [cI p.s, cI p.o, cI p.n, cI p.k] 32])) (
 Ck [0, 59098380508649, 0, 20, 1] [VC Try.prog 69 [tB c, tF x, tA [cI p.s, cI p.o, cI p.n, cI p.k], tF y] [] (tF (FV.pt [fI p.s, fI p.o, fI p.n, fI p.k, fB c, x, y, fI (cntF x + 1 + cntF y), fI (sizF x + p.n + sizF y), fI (lnsF x + p.k + lnsF y), fI (bif c then blkF x else blkF x + 1), fI (1 + if hghF y > hghF x then hghF y else hghF x)] 0)) [], tF (FV.pt [fI p.s, fI p.o, fI p.n, fI p.k, fB c, x, y, fI (cntF x + 1 + cntF y), fI (sizF x + p.n + sizF y), fI (lnsF x + p.k + lnsF y), fI (bif c then blkF x else blkF x + 1), fI (1 + if hghF y > hghF x then hghF y else hghF x)] 0) = tF (FV.pt [fI p.s, fI p.o, fI p.n, fI p.k, fB c, x, y, fI (cntF x + 1 + cntF y), fI (sizF x + p.n + sizF y), fI (lnsF x + p.k + lnsF y), fI (bif c then blkF x else blkF x + 1), fI (1 + if hghF y > hghF x then hghF y else hghF x)] 0)] (
 ([] : List VO) = []))))) := by
  repeat' first
    | refine brE (fun _ _ => ?_) (fun _ _ => ?_)
    | refine brN (fun _ _ => ?_) (fun _ _ => ?_)
    | refine brD (fun _ _ => ?_) (fun _ _ => ?_)
    | refine brP_intro (fun _ => ?_) (fun _ => ?_)
    | refine ck ?_ ?_
    | exact allp0
    | refine allp2 ?_ ?_
  repeat' first
    | refine brE (fun _ _ => ?_) (fun _ _ => ?_)
    | refine brN (fun _ _ => ?_) (fun _ _ => ?_)
    | refine brD (fun _ _ => ?_) (fun _ _ => ?_)
    | refine brP_intro (fun _ => ?_) (fun _ => ?_)
    | refine ck ?_ ?_
    | exact allp0
    | refine allp2 ?_ ?_
  all_goals try first
    | with_reducible rfl
    | exact Exists.intro _ rfl
    | exact tI_nw (by omega) (by omega)
    | exact tB_of (by assumption)
    | exact cnt_n 
    | exact cnt_d _ _ _ _
    | exact cnt_x _ (by first | assumption | omega | (simp; done))
    | exact made _ _ _ _ (by first | assumption | omega | (simp; done)) (by first | assumption | omega | (simp; done)) (by first | assumption | omega | (simp; done))
    | exact made c x y p hx hy hp
    | (exfalso; omega)
    | ((with_reducible show (_ : Int) ≤ _); omega)
    | ((with_reducible show (_ : Nat) ≤ _); omega)
    | ((with_reducible show (_ : Int) < _); omega)
theorem set_m (c : Bool) (x y : FV) (q p : Pc) (i : Int) (hx : isT x) (hy : isT y) (hp : Fit p) (hi : i = cntF x) : VC Try.prog 67 ([tF (mkF c x q y), tI i, tA p.cs]) ([]) (tF (mkF c x p y)) ([]) :=
  vc_wp mixed nonum ⟨cmOf [(1, [(4, .tb (tq_set_m c x y q p i hx hy hp hi) [] none)]), (3, [(10, .tb (tq_set_m c x y q p i hx hy hp hi) [] none), (19, .tb (tq_set_m c x y q p i hx hy hp hi) [] none)]), (5, [(18, .nw), (19, .nw), (21, .tb (tq_set_m c x y q p i hx hy hp hi) [] none), (22, .tb (tq_set_m c x y q p i hx hy hp hi) [] none)]), (6, [(13, .tb (tq_set_m c x y q p i hx hy hp hi) [] none)])], spOf [], ghOf [], loOf [], []⟩ [] (by kernel_rfl) (set_m_w c x y q p i hx hy hp hi)
noncomputable def tq_build_n (z : Option Bool) : FuncId → List TV → List VO → Option Alt := tabOf [(75, t75_0_SB), (69, t69_0_SA), (40, t40_0_SA), (63, t63_0_SA), (68, t68_0_SA), (57, t57_0_SA), (55, t55_0_SA), (44, t44_0_SA)]
theorem build_n_w (z : Option Bool) : Ck [0, 2, 0, 182, 0, 2, 0, 20, 1] [tF (FV.v (Value.pointer none)) = tF (FV.v (Value.pointer none))] (
 ([] : List VO) = []) := by
  repeat' first
    | refine brE (fun _ _ => ?_) (fun _ _ => ?_)
    | refine brN (fun _ _ => ?_) (fun _ _ => ?_)
    | refine brD (fun _ _ => ?_) (fun _ _ => ?_)
    | refine brP_intro (fun _ => ?_) (fun _ => ?_)
    | refine ck ?_ ?_
    | exact allp0
    | refine allp2 ?_ ?_
  all_goals try first
    | with_reducible rfl
    | exact Exists.intro _ rfl
    | exact tI_nw (by omega) (by omega)
    | exact tB_of (by assumption)
    | ((with_reducible show (_ : Int) ≤ _); omega)
    | ((with_reducible show (_ : Nat) ≤ _); omega)
    | ((with_reducible show (_ : Int) < _); omega)
theorem build_n (z : Option Bool) : VC Try.prog 43 ([tF (.sl z [] 0)]) ([]) (tF fN) ([]) :=
  vc_wp mixed nonum ⟨cmOf [(4, [(3, .tb (tq_build_n z) [] none), (10, .nw), (12, .tb (tq_build_n z) [] none), (13, .tb (tq_build_n z) [] none)])], spOf [], ghOf [], loOf [], []⟩ [] (by kernel_rfl) (build_n_w z)
def Pc.fs (p : Pc) : List FV := [fI p.s, fI p.o, fI p.n, fI p.k]
def rowP (l : List Pc) : List FV := l.flatMap Pc.fs
theorem rowP_cons (p : Pc) (l : List Pc) : rowP (p :: l) = fI p.s :: fI p.o :: fI p.n :: fI p.k :: rowP l := rfl
theorem rowP_app (l m : List Pc) : rowP (l ++ m) = rowP l ++ rowP m := List.flatMap_append
theorem rowP_take : ∀ (l : List Pc) (m : Nat), (rowP l).take (m * 4) = rowP (l.take m)
  | [], m => by simp [rowP]
  | p :: l, 0 => by simp [rowP]
  | p :: l, m + 1 => by
    rw [show (m + 1) * 4 = m * 4 + 1 + 1 + 1 + 1 from by omega, rowP_cons, List.take_succ_cons, List.take_succ_cons, List.take_succ_cons, List.take_succ_cons, rowP_take l m, List.take_succ_cons, rowP_cons]
theorem rowP_drop : ∀ (l : List Pc) (m : Nat), (rowP l).drop (m * 4) = rowP (l.drop m)
  | [], m => by simp [rowP]
  | p :: l, 0 => by simp [rowP]
  | p :: l, m + 1 => by
    rw [show (m + 1) * 4 = m * 4 + 1 + 1 + 1 + 1 from by omega, rowP_cons, List.drop_succ_cons, List.drop_succ_cons, List.drop_succ_cons, List.drop_succ_cons, rowP_drop l m, List.drop_succ_cons]
theorem rowP_at (l : List Pc) (m : Nat) (h : m < l.length) : ((rowP l).drop (m * 4)).take 4 = (l.getD m default).fs := by
  rw [rowP_drop, List.drop_eq_getElem_cons h, rowP_cons]
  rw [List.getD_eq_getElem?_getD, List.getElem?_eq_getElem h]
  rfl
theorem build_d_w (z : Option Bool) (l : List Pc) (m : Nat) (u v w : FV) (hn : l.length ≠ 0) (hl : l.length ≤ 1073741824) (hm : m = l.length / 2) (hu : VC Try.prog 43 [tF (.sl z (rowP (l.take m)) m)] [] (tF u) []) (hv : VC Try.prog 43 [tF (.sl z (rowP (l.drop (m + 1))) (l.length - (m + 1)))] [] (tF v) []) (hj : VC Try.prog 65 [tF u, tA (l.getD m default).cs, tF v] [] (tF w) []) : Ck [0, 2, 0, 182] [] (
 brP ((↑l.length : Int) == 0) (
 Ck [0, 2, 0, 20, 1] [tF (FV.v (Value.pointer none)) = tF w] (
 ([] : List VO) = [])) (
 Ck [0, 1640, 0, 31901479292405296370, 0, 20, 1] [0 ≤ IntKind.i64.wrap (↑(l.length / 2) : Int), IntKind.i64.wrap (↑(l.length / 2) : Int) ≤ (↑l.length : Int), VC Try.prog 43 [tF (FV.sl z (List.take (((IntKind.i64.wrap (↑(l.length / 2) : Int)).toNat - 0) * 4) (List.drop 0 (rowP l))) ((IntKind.i64.wrap (↑(l.length / 2) : Int)).toNat - 0))] [] (tF u) [], 0 ≤ IntKind.i64.wrap (↑(l.length / 2) : Int), IntKind.i64.wrap (↑(l.length / 2) : Int) < (↑l.length : Int), (List.take 4 (List.drop ((IntKind.i64.wrap (↑(l.length / 2) : Int)).toNat * 4) (rowP l)) : List FV) = [fI (l.getD m { s := 0, o := 0, n := 0, k := 0 }).s, fI (l.getD m { s := 0, o := 0, n := 0, k := 0 }).o, fI (l.getD m { s := 0, o := 0, n := 0, k := 0 }).n, fI (l.getD m { s := 0, o := 0, n := 0, k := 0 }).k], tI (IntKind.i64.wrap (IntKind.i64.wrap (↑(l.length / 2) : Int) + 1)) = tI (IntKind.i64.wrap (↑(l.length / 2) : Int) + 1), l.length ≤ l.length, 0 ≤ IntKind.i64.wrap (↑(l.length / 2) : Int) + 1, IntKind.i64.wrap (↑(l.length / 2) : Int) + 1 ≤ (↑l.length : Int), VC Try.prog 43 [tF (FV.sl z (List.take ((l.length - (IntKind.i64.wrap (↑(l.length / 2) : Int) + 1).toNat) * 4) (List.drop ((IntKind.i64.wrap (↑(l.length / 2) : Int) + 1).toNat * 4) (rowP l))) (l.length - (IntKind.i64.wrap (↑(l.length / 2) : Int) + 1).toNat))] [] (tF v) [], VC Try.prog 65 [tF u, tA [cI (l.getD m { s := 0, o := 0, n := 0, k := 0 }).s, cI (l.getD m { s := 0, o := 0, n := 0, k := 0 }).o, cI (l.getD m { s := 0, o := 0, n := 0, k := 0 }).n, cI (l.getD m { s := 0, o := 0, n := 0, k := 0 }).k], tF v] [] (tF w) [], tF w = tF w] (
 ([] : List VO) = []))) := by
  have hw : IntKind.i64.wrap ((l.length / 2 : Nat) : Int) = (m : Int) := by rw [hm]; exact wrap_in (by omega) (by omega)
  have hw2 : IntKind.i64.wrap ((m : Int) + 1) = (m : Int) + 1 := wrap_in (by omega) (by omega)
  have hz : (((l.length : Nat) : Int) == 0) = false := by
    rw [beq_eq_false_iff_ne]; omega
  have ht : ((m : Int)).toNat = m := rfl
  have ht2 : ((m : Int) + 1).toNat = m + 1 := by omega
  have hle : m < l.length := by omega
  rw [hz, hw, ht, ht2]
  repeat' first
    | refine brE (fun _ _ => ?_) (fun _ _ => ?_)
    | refine brN (fun _ _ => ?_) (fun _ _ => ?_)
    | refine brD (fun _ _ => ?_) (fun _ _ => ?_)
    | refine brP_intro (fun _ => ?_) (fun _ => ?_)
    | refine ck ?_ ?_
    | exact allp0
    | refine allp2 ?_ ?_
  repeat' first
    | refine brE (fun _ _ => ?_) (fun _ _ => ?_)
    | refine brN (fun _ _ => ?_) (fun _ _ => ?_)
    | refine brD (fun _ _ => ?_) (fun _ _ => ?_)
    | refine brP_intro (fun _ => ?_) (fun _ => ?_)
    | refine ck ?_ ?_
    | exact allp0
    | refine allp2 ?_ ?_
  all_goals try first
    | with_reducible rfl
    | exact Exists.intro _ rfl
    | exact tI_nw (by omega) (by omega)
    | exact tB_of (by assumption)
    | exact join _ _ _ (by first | assumption | omega | (simp; done)) (by first | assumption | omega | (simp; done)) (by first | assumption | omega | (simp; done)) (by first | assumption | omega | (simp; done))
    | exact build_n _
    | contradiction
    | (rw [Nat.sub_zero, List.drop_zero, rowP_take]; exact hu)
    | (rw [rowP_drop, rowP_take, List.take_of_length_le (by rw [List.length_drop]; omega)]; exact hv)
    | exact rowP_at _ _ hle
    | exact hj
    | exact congrArg tI hw2
    | ((with_reducible show (_ : Int) ≤ _); omega)
    | ((with_reducible show (_ : Nat) ≤ _); omega)
    | ((with_reducible show (_ : Int) < _); omega)
theorem build_d (z : Option Bool) (l : List Pc) (m : Nat) (u v w : FV) (hn : l.length ≠ 0) (hl : l.length ≤ 1073741824) (hm : m = l.length / 2) (hu : VC Try.prog 43 [tF (.sl z (rowP (l.take m)) m)] [] (tF u) []) (hv : VC Try.prog 43 [tF (.sl z (rowP (l.drop (m + 1))) (l.length - (m + 1)))] [] (tF v) []) (hj : VC Try.prog 65 [tF u, tA (l.getD m default).cs, tF v] [] (tF w) []) : VC Try.prog 43 ([tF (.sl z (rowP l) l.length)]) ([]) (tF w) ([]) :=
  vc_wp mixed nonum ⟨cmOf [(4, [(3, .tb (fun g xs H => some (.one (tF u) H)) [] none), (7, .ld [fI (l.getD m default).s, fI (l.getD m default).o, fI (l.getD m default).n, fI (l.getD m default).k]), (10, .nw), (12, .tb (fun g xs H => some (.one (tF v) H)) [] none), (13, .tb (fun g xs H => some (.one (tF w) H)) [] none)])], spOf [], ghOf [], loOf [], []⟩ [] (by kernel_rfl) (build_d_w z l m u v w hn hl hm hu hv hj)
def bldT : Nat → List Pc → Tr
  | 0, _ => .nil
  | k + 1, l => bif Nat.beq l.length 0 then .nil else (bldT k (l.take (l.length / 2))).join (l.getD (l.length / 2) default) (bldT k (l.drop (l.length / 2 + 1)))
theorem bld_ok (z : Option Bool) : ∀ (k : Nat) (l : List Pc), l.length ≤ k → (∀ p ∈ l, Fit p) → l.length ≤ 1073741824 → VC Try.prog 43 [tF (.sl z (rowP l) l.length)] [] (tF (enc (bldT k l))) [] ∧ Whole (bldT k l) ∧ (bldT k l).num = l.length
  | 0, [], _, _, _ => ⟨build_n z, ⟨trivial, trivial⟩, rfl⟩
  | 0, p :: l, h, _, _ => absurd h (by simp)
  | k + 1, l, hk, hf, hn => by
    cases hb : Nat.beq l.length 0 with
    | true =>
      have h0 : l.length = 0 := Nat.eq_of_beq_eq_true hb
      have : l = [] := List.eq_nil_of_length_eq_zero h0
      subst this
      exact ⟨build_n z, ⟨trivial, trivial⟩, rfl⟩
    | false =>
      have h0 : l.length ≠ 0 := Nat.ne_of_beq_eq_false hb
      have e : bldT (k + 1) l = (bldT k (l.take (l.length / 2))).join (l.getD (l.length / 2) default) (bldT k (l.drop (l.length / 2 + 1))) := by simp only [bldT, hb, cond_false]
      have l1 : (l.take (l.length / 2)).length = l.length / 2 := by rw [List.length_take]; omega
      have l2 : (l.drop (l.length / 2 + 1)).length = l.length - (l.length / 2 + 1) := List.length_drop
      have A := bld_ok z k (l.take (l.length / 2)) (by omega) (fun p h => hf p (List.mem_of_mem_take h)) (by omega)
      have B := bld_ok z k (l.drop (l.length / 2 + 1)) (by omega) (fun p h => hf p (List.mem_of_mem_drop h)) (by omega)
      have hp : Fit (l.getD (l.length / 2) default) := by
        have hlt : l.length / 2 < l.length := by omega
        rw [List.getD_eq_getElem?_getD, List.getElem?_eq_getElem hlt]
        exact hf _ (List.getElem_mem hlt)
      have hm : (bldT k (l.take (l.length / 2))).num + 1 + (bldT k (l.drop (l.length / 2 + 1))).num ≤ 1073741824 := by rw [A.2.2, B.2.2]; omega
      have J := join_wh (p := l.getD (l.length / 2) default) A.2.1 B.2.1 hp hm
      have a1 := A.1
      have b1 := B.1
      rw [l1] at a1
      rw [l2] at b1
      rw [e]
      exact ⟨build_d z l (l.length / 2) _ _ _ h0 hn rfl a1 b1 (join _ _ _ A.2.1 B.2.1 hp hm), J.1, by rw [J.2, A.2.2, B.2.2]; omega⟩
end Go.Proofs.Ytpjlgjhkdligfaa.Vg
