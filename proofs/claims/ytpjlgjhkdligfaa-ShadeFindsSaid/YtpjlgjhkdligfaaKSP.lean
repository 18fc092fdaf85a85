/- The law ShadeChecks: the reference's Check, the fixed facts, the law. No condition. -/
import Derived.Test.YtpjlgjhkdligfaaKSO
namespace Go.Proofs.Ytpjlgjhkdligfaa.Vg
open Go.RowKit
set_option maxRecDepth 100000
set_option maxHeartbeats 8000000
set_option linter.unusedVariables false
set_option linter.unusedSimpArgs false
theorem rchk_w (z : Option Bool) (F : List FV) (n : Nat) (a : Su) (ok : Bool) (h : VC Try.prog 41 [tF (.sl z F n)] [] (lookV (a, ok)) []) : Ck [0, 2, 0, 10761707, 0, 20] [VC Try.prog 41 [tF (FV.sl z F n)] [] (TV.tp [T1.ag [cB a.c, cI a.b, cI a.h, cI a.n, cI a.s, cI a.l], T1.c (cB ok)]) []] (
 brP (!ok) (
 Ck [0, 2, 0, 20, 1] [tI 21 = tI (bif ok then 0 else 21)] (
 ([] : List VO) = [])) (
 Ck [0, 2, 0, 20, 1] [tI 0 = tI (bif ok then 0 else 21)] (
 ([] : List VO) = []))) := by
  cases ok with
  | true =>
    repeat' first
      | refine brE (fun _ _ => ?_) (fun _ _ => ?_)
      | refine brN (fun _ _ => ?_) (fun _ _ => ?_)
      | refine brD (fun _ _ => ?_) (fun _ _ => ?_)
      | refine brP_intro (fun _ => ?_) (fun _ => ?_)
      | refine ck ?_ ?_
      | exact allp0
      | refine allp2 ?_ ?_
    all_goals try first
      | with_reducible rfl
      | exact Exists.intro _ rfl
      | exact tI_nw (by omega) (by omega)
      | exact tB_of (by assumption)
      | exact look _ _ _ _ _ _ _ (by first | assumption | omega | (simp; done)) (by first | assumption | omega | (simp; done)) (by first | assumption | omega | (simp; done)) (by first | assumption | omega | (simp; done)) _ _ _ _ _ _ _
      | contradiction
      | exact h
      | rfl
      | ((with_reducible show (_ : Int) ≤ _); omega)
      | ((with_reducible show (_ : Nat) ≤ _); omega)
      | ((with_reducible show (_ : Int) < _); omega)
  | false =>
    repeat' first
      | refine brE (fun _ _ => ?_) (fun _ _ => ?_)
      | refine brN (fun _ _ => ?_) (fun _ _ => ?_)
      | refine brD (fun _ _ => ?_) (fun _ _ => ?_)
      | refine brP_intro (fun _ => ?_) (fun _ => ?_)
      | refine ck ?_ ?_
      | exact allp0
      | refine allp2 ?_ ?_
    all_goals try first
      | with_reducible rfl
      | exact Exists.intro _ rfl
      | exact tI_nw (by omega) (by omega)
      | exact tB_of (by assumption)
      | exact look _ _ _ _ _ _ _ (by first | assumption | omega | (simp; done)) (by first | assumption | omega | (simp; done)) (by first | assumption | omega | (simp; done)) (by first | assumption | omega | (simp; done)) _ _ _ _ _ _ _
      | contradiction
      | exact h
      | rfl
      | ((with_reducible show (_ : Int) ≤ _); omega)
      | ((with_reducible show (_ : Nat) ≤ _); omega)
      | ((with_reducible show (_ : Int) < _); omega)
theorem rchk (z : Option Bool) (F : List FV) (n : Nat) (a : Su) (ok : Bool) (h : VC Try.prog 41 [tF (.sl z F n)] [] (lookV (a, ok)) []) : VC Try.prog 11 ([tF (.sl z F n)]) ([]) (tI (bif ok then 0 else 21)) ([]) :=
  vc_wp mixed nonum ⟨cmOf [(1, [(1, .tb (fun g xs H => some (.one (lookV (a, ok)) H)) [] none)])], spOf [], ghOf [], loOf [], []⟩ [] (by kernel_rfl) (rchk_w z F n a ok h)
noncomputable def t42_1_SP  : List TV → List VO → Option Alt
  | [(.o (.ag [(.f (.v (.int .i64 a))), (.f (.v (.int .i64 b))), (.f (.v (.int .i64 d))), (.f (.v (.int .i64 e)))]))], _ => some (.one (tB (decide (Fit ⟨a, b, d, e⟩))) [])
  | _, _ => none
/-! ### what the fixed facts call -/
def pc (n : Int) : Pc := ⟨0, 0, n, 0⟩
def ta1 : Tr := .nd (pc 2) false (.nd (pc 1) false .nil .nil) (.nd (pc 3) false .nil .nil)
def ta2 : Tr := .nd (pc 3) false (.nd (pc 1) true .nil .nil) .nil
theorem al_pl3_w  : Ck [0, 2, 0, 2, 0, 2, 2, 0, 1640, 0, 79905493352, 0, 1775, 2, 0, 1640, 0, 79905493352, 0, 1775, 2, 0, 1640, 0, 79905493352, 0, 1775, 2, 0, 1640, 0, 20, 0, 20, 1] [(0 : Int) ≤ 0, (0 : Int) < 3, 4 = 4, 32 ≤ 140737488355328, tI 1 = tI 1, (0 : Int) ≤ 1, (1 : Int) < 3, 4 = 4, 64 ≤ 140737488355328, tI 2 = tI 2, (0 : Int) ≤ 2, (2 : Int) < 3, 4 = 4, 96 ≤ 140737488355328, tI 3 = tI 3, tC (CV.rw 1 3) = tC (CV.rw 1 3)] (
 ([VO.fx [fI 1, fI 2, fI 3] 3, VO.fx [fI 0, fI 0, fI 1, fI 0, fI 0, fI 0, fI 2, fI 0, fI 0, fI 0, fI 3, fI 0] 32] : List VO) = [VO.fx [fI 1, fI 2, fI 3] 3, VO.fx [fI 0, fI 0, fI 1, fI 0, fI 0, fI 0, fI 2, fI 0, fI 0, fI 0, fI 3, fI 0] 32]) := by
  repeat' first
    | refine brE (fun _ _ => ?_) (fun _ _ => ?_)
    | refine brN (fun _ _ => ?_) (fun _ _ => ?_)
    | refine brD (fun _ _ => ?_) (fun _ _ => ?_)
    | refine brP_intro (fun _ => ?_) (fun _ => ?_)
    | refine ck ?_ ?_
    | exact allp0
    | refine allp2 ?_ ?_
  all_goals try first
    | with_reducible rfl
    | exact Exists.intro _ rfl
    | exact tI_nw (by omega) (by omega)
    | exact tB_of (by assumption)
    | ((with_reducible show (_ : Int) ≤ _); omega)
    | ((with_reducible show (_ : Nat) ≤ _); omega)
    | ((with_reducible show (_ : Int) < _); omega)
theorem al_pl3  : VC Try.prog 38 ([tC (.rw 0 3)]) ([.fx [fI 1, fI 2, fI 3] 3]) (tC (.rw 1 3)) ([.fx [fI 1, fI 2, fI 3] 3, .fx (rowP [pc 1, pc 2, pc 3]) 32]) :=
  vc_wp mixed nonum ⟨cmOf [(4, [(1, .nw)])], spOf [], ghOf [], loOf [(3, .un 4 [0, 3, 4])], []⟩ [] (by kernel_rfl) (al_pl3_w )
theorem al_pl1_w  : Ck [0, 2, 0, 2, 0, 2, 2, 0, 1640, 0, 79905493352, 0, 1775, 2, 0, 1640, 0, 20, 0, 20, 1] [(0 : Int) ≤ 0, (0 : Int) < 1, 4 = 4, 32 ≤ 140737488355328, tI 1 = tI 1, tC (CV.rw 1 1) = tC (CV.rw 1 1)] (
 ([VO.fx [fI 1] 3, VO.fx [fI 0, fI 0, fI 1, fI 0] 32] : List VO) = [VO.fx [fI 1] 3, VO.fx [fI 0, fI 0, fI 1, fI 0] 32]) := by
  repeat' first
    | refine brE (fun _ _ => ?_) (fun _ _ => ?_)
    | refine brN (fun _ _ => ?_) (fun _ _ => ?_)
    | refine brD (fun _ _ => ?_) (fun _ _ => ?_)
    | refine brP_intro (fun _ => ?_) (fun _ => ?_)
    | refine ck ?_ ?_
    | exact allp0
    | refine allp2 ?_ ?_
  all_goals try first
    | with_reducible rfl
    | exact Exists.intro _ rfl
    | exact tI_nw (by omega) (by omega)
    | exact tB_of (by assumption)
    | ((with_reducible show (_ : Int) ≤ _); omega)
    | ((with_reducible show (_ : Nat) ≤ _); omega)
    | ((with_reducible show (_ : Int) < _); omega)
theorem al_pl1  : VC Try.prog 38 ([tC (.rw 0 1)]) ([.fx [fI 1] 3]) (tC (.rw 1 1)) ([.fx [fI 1] 3, .fx (rowP [pc 1]) 32]) :=
  vc_wp mixed nonum ⟨cmOf [(4, [(1, .nw)])], spOf [], ghOf [], loOf [(3, .un 2 [0, 3, 4])], []⟩ [] (by kernel_rfl) (al_pl1_w )
theorem fit_pc {n : Int} (q : decide (Fit (pc n)) = true) : VC Try.prog 42 [tA [cI 0, cI 0, cI n, cI 0]] [] (tB true) [] := by
  have := fit (pc n)
  rw [q] at this
  exact this
theorem fit_pcs : ∀ p ∈ [pc 1, pc 2, pc 3], Fit p := by
  intro p hp
  simp only [List.mem_cons, List.mem_nil_iff, or_false] at hp
  rcases hp with rfl | rfl | rfl <;> decide
theorem al_b43 : VC Try.prog 43 [tF (.sl none (rowP [pc 1, pc 2, pc 3]) 3)] [] (tF (enc ta1)) [] := (bld_ok none 3 [pc 1, pc 2, pc 3] (by decide) fit_pcs (by decide)).1
noncomputable def tq_al_bld  : FuncId → List TV → List VO → Option Alt := tabOf [(42, t42_1_SP), (30, t30_0_SN), (58, t58_0_SJ), (56, t56_0_SJ), (42, t42_0_SI), (75, t75_0_SB), (69, t69_0_SA), (40, t40_0_SA), (63, t63_0_SA), (68, t68_0_SA), (57, t57_0_SA), (55, t55_0_SA), (44, t44_0_SA)]
theorem al_bld_w  : Ck [0, 2, 0, 2, 0, 182, 2, 0, 2, 0, 14786, 0, 398, 0, 150356, 0, 197, 2, 0, 2, 0, 14786, 0, 398, 0, 150356, 0, 197, 2, 0, 2, 0, 14786, 0, 398, 0, 150356, 0, 197, 2, 0, 2, 2, 1667, 0, 20, 1] [(0 : Int) ≤ 0, (0 : Int) < 3, VC Try.prog 42 [tA [cI 0, cI 0, cI 1, cI 0]] [] (tB true) [], tB true = tB true, 4 = 4, 32 ≤ 140737488355328, tI 1 = tI 1, (0 : Int) ≤ 1, (1 : Int) < 3, VC Try.prog 42 [tA [cI 0, cI 0, cI 2, cI 0]] [] (tB true) [], tB true = tB true, 4 = 4, 64 ≤ 140737488355328, tI 2 = tI 2, (0 : Int) ≤ 2, (2 : Int) < 3, VC Try.prog 42 [tA [cI 0, cI 0, cI 3, cI 0]] [] (tB true) [], tB true = tB true, 4 = 4, 96 ≤ 140737488355328, tI 3 = tI 3, VC Try.prog 43 [tF (FV.sl none [fI 0, fI 0, fI 1, fI 0, fI 0, fI 0, fI 2, fI 0, fI 0, fI 0, fI 3, fI 0] 3)] [] (tF (FV.pt [fI 0, fI 0, fI 2, fI 0, fB false, FV.pt [fI 0, fI 0, fI 1, fI 0, fB false, FV.v (Value.pointer none), FV.v (Value.pointer none), fI 1, fI 1, fI 0, fI 1, fI 1] 0, FV.pt [fI 0, fI 0, fI 3, fI 0, fB false, FV.v (Value.pointer none), FV.v (Value.pointer none), fI 1, fI 3, fI 0, fI 1, fI 1] 0, fI 3, fI 6, fI 0, fI 2, fI 2] 0)) [], tA [CV.f (FV.pt [fI 0, fI 0, fI 2, fI 0, fB false, FV.pt [fI 0, fI 0, fI 1, fI 0, fB false, FV.v (Value.pointer none), FV.v (Value.pointer none), fI 1, fI 1, fI 0, fI 1, fI 1] 0, FV.pt [fI 0, fI 0, fI 3, fI 0, fB false, FV.v (Value.pointer none), FV.v (Value.pointer none), fI 1, fI 3, fI 0, fI 1, fI 1] 0, fI 3, fI 6, fI 0, fI 2, fI 2] 0)] = tA [CV.f (FV.pt [fI 0, fI 0, fI 2, fI 0, fB false, FV.pt [fI 0, fI 0, fI 1, fI 0, fB false, FV.v (Value.pointer none), FV.v (Value.pointer none), fI 1, fI 1, fI 0, fI 1, fI 1] 0, FV.pt [fI 0, fI 0, fI 3, fI 0, fB false, FV.v (Value.pointer none), FV.v (Value.pointer none), fI 1, fI 3, fI 0, fI 1, fI 1] 0, fI 3, fI 6, fI 0, fI 2, fI 2] 0)]] (
 ([VO.fx [fI 0, fI 0, fI 1, fI 0, fI 0, fI 0, fI 2, fI 0, fI 0, fI 0, fI 3, fI 0] 32] : List VO) = [VO.fx [fI 0, fI 0, fI 1, fI 0, fI 0, fI 0, fI 2, fI 0, fI 0, fI 0, fI 3, fI 0] 32]) := by
  repeat' first
    | refine brE (fun _ _ => ?_) (fun _ _ => ?_)
    | refine brN (fun _ _ => ?_) (fun _ _ => ?_)
    | refine brD (fun _ _ => ?_) (fun _ _ => ?_)
    | refine brP_intro (fun _ => ?_) (fun _ => ?_)
    | refine ck ?_ ?_
    | exact allp0
    | refine allp2 ?_ ?_
  all_goals try first
    | with_reducible rfl
    | exact Exists.intro _ rfl
    | exact tI_nw (by omega) (by omega)
    | exact tB_of (by assumption)
    | exact fit _
    | exact build_n _
    | exact build_d _ _ _ _ _ _ (by first | assumption | omega | (simp; done)) (by first | assumption | omega | (simp; done)) (by first | assumption | omega | (simp; done)) (by first | assumption | omega | (simp; done)) (by first | assumption | omega | (simp; done)) (by first | assumption | omega | (simp; done))
    | exact fit_pc _
    | exact al_b43 
    | exact fit_pc (by decide)
    | exact al_b43
    | ((with_reducible show (_ : Int) ≤ _); omega)
    | ((with_reducible show (_ : Nat) ≤ _); omega)
    | ((with_reducible show (_ : Int) < _); omega)
theorem al_bld  : VC Try.prog 12 ([tC (.rw 0 3)]) ([.fx (rowP [pc 1, pc 2, pc 3]) 32]) (tT (enc ta1)) ([.fx (rowP [pc 1, pc 2, pc 3]) 32]) :=
  vc_wp mixed nonum ⟨cmOf [(5, [(1, .tb tq_al_bld [] none)]), (7, [(0, .nw)]), (8, [(1, .tb (fun g xs H => some (.one (tF (enc ta1)) H)) [] none)])], spOf [(5, [1])], ghOf [(8, [.frz 2])], loOf [(3, .un 4 [2, 3, 6, 7, 8])], []⟩ [] (by kernel_rfl) (al_bld_w )
theorem ta1_w : Whole ta1 ∧ ta1.num = 3 := ⟨(bld_ok none 3 [pc 1, pc 2, pc 3] (by decide) fit_pcs (by decide)).2.1, rfl⟩
theorem ta1_T : isT (enc ta1) := isT_of ta1_w.1.ok (by decide)
theorem al_del : VC Try.prog 35 [tT (enc ta1), tI 1] [] (.tp [.ag [.f (enc ta2)], .c (cI 0)]) [] := by
  have s1 := spl_ok 3 ta1 1 (by decide) ta1_w.1 (by decide) (by decide) (by decide)
  have s2 := spl_ok 3 ta1 (1 + 1) (by decide) ta1_w.1 (by decide) (by decide) (by decide)
  have t1 := tog_ok _ _ s1.wu s2.wv (by decide)
  exact tdel (enc ta1) _ _ _ _ _ 1 ta1_T (by decide) (by decide) s1.vc s2.vc t1.1
theorem al_srp : SrP sizF Pc.n (2, 0) (pc 2) false (.nd (pc 1) false .nil .nil) (.nd (pc 3) false .nil .nil) 3 0 := by
  have h := ta1_w.1.ok
  constructor <;> first | decide | exact h | exact h.1 | exact h.2.1 | exact h.2.2 | rfl
theorem al_find : VC Try.prog 20 [tT (enc ta1), tI 3] [] (.tp [.c (cI 2), .c (cI 0), .c (cB true)]) [] := tfind (enc ta1) 3 (2, 0) ta1_T (by decide) (by decide) (search_s false _ _ (pc 2) 3 (2, 0) al_srp)
theorem al_ins : VC Try.prog 34 [tT (enc ta1), tI 4, tA [cI 0, cI 0, cI 1, cI 0]] [] (.tp [.ag [.f fN], .c (cI 20)]) [] := tins_o (enc ta1) 4 (pc 1) ta1_T (.inr (by decide))
theorem al_rows : VC Try.prog 14 [tT (enc ta2)] [] (tC (.rw 0 2)) [.fx (rowsL ta2) 40] := trows (enc ta2) 2 (rowsL ta2) (rows_z _ _ _ _ (by decide))
theorem al_len : VC Try.prog 13 [tT (enc ta1)] [] (tI 3) [] := tlen (enc ta1) ta1_T
theorem al_byt : VC Try.prog 22 [tT (enc ta1)] [] (tI 6) [] := tbyt (enc ta1) ta1_T
def al_r1 : Rw := ⟨pc 1, true, false, false, 1, 1, 0⟩
theorem al_chk : VC Try.prog 10 [tF (.sl none (rowsC [al_r1]) 1)] [] (tI 21) [] := by
  have h := rd_ok none [al_r1] (by decide) 129 0 false (by decide) (by decide)
  have e : rdT [al_r1] 129 0 false = (.nd (pc 1) true .nil .nil, 1, false) := by rfl
  rw [e] at h
  exact check none (rowsC [al_r1]) 1 (enc (.nd (pc 1) true .nil .nil)) 1 false (by decide) (isT_of h.ok (by decide)) h.vc
theorem alive_w  : Ck [0, 2, 0, 15032, 0, 10761707, 0, 96855149, 0, 635468069144, 0, 209, 2, 14126318520489975502919654973184271285548750676018997857512989672881, 0, 20, 1] [VC Try.prog 38 [tC (CV.rw 0 3)] [VO.fx [fI 1, fI 2, fI 3] 3] (tC (CV.rw 1 3)) [VO.fx [fI 1, fI 2, fI 3] 3, VO.fx [fI 0, fI 0, fI 1, fI 0, fI 0, fI 0, fI 2, fI 0, fI 0, fI 0, fI 3, fI 0] 32], VC Try.prog 12 [tC (CV.rw 0 3)] [VO.fx [fI 0, fI 0, fI 1, fI 0, fI 0, fI 0, fI 2, fI 0, fI 0, fI 0, fI 3, fI 0] 32] (tA [CV.f (FV.pt [fI 0, fI 0, fI 2, fI 0, fB false, FV.pt [fI 0, fI 0, fI 1, fI 0, fB false, FV.v (Value.pointer none), FV.v (Value.pointer none), fI 1, fI 1, fI 0, fI 1, fI 1] 0, FV.pt [fI 0, fI 0, fI 3, fI 0, fB false, FV.v (Value.pointer none), FV.v (Value.pointer none), fI 1, fI 3, fI 0, fI 1, fI 1] 0, fI 3, fI 6, fI 0, fI 2, fI 2] 0)]) [VO.fx [fI 0, fI 0, fI 1, fI 0, fI 0, fI 0, fI 2, fI 0, fI 0, fI 0, fI 3, fI 0] 32], VC Try.prog 35 [tA [CV.f (FV.pt [fI 0, fI 0, fI 2, fI 0, fB false, FV.pt [fI 0, fI 0, fI 1, fI 0, fB false, FV.v (Value.pointer none), FV.v (Value.pointer none), fI 1, fI 1, fI 0, fI 1, fI 1] 0, FV.pt [fI 0, fI 0, fI 3, fI 0, fB false, FV.v (Value.pointer none), FV.v (Value.pointer none), fI 1, fI 3, fI 0, fI 1, fI 1] 0, fI 3, fI 6, fI 0, fI 2, fI 2] 0)], tI 1] [] (TV.tp [T1.ag [CV.f (FV.pt [fI 0, fI 0, fI 3, fI 0, fB false, FV.pt [fI 0, fI 0, fI 1, fI 0, fB true, FV.v (Value.pointer none), FV.v (Value.pointer none), fI 1, fI 1, fI 0, fI 0, fI 1] 0, FV.v (Value.pointer none), fI 2, fI 4, fI 0, fI 1, fI 2] 0)], T1.c (cI 0)]) [], VC Try.prog 20 [tA [CV.f (FV.pt [fI 0, fI 0, fI 2, fI 0, fB false, FV.pt [fI 0, fI 0, fI 1, fI 0, fB false, FV.v (Value.pointer none), FV.v (Value.pointer none), fI 1, fI 1, fI 0, fI 1, fI 1] 0, FV.pt [fI 0, fI 0, fI 3, fI 0, fB false, FV.v (Value.pointer none), FV.v (Value.pointer none), fI 1, fI 3, fI 0, fI 1, fI 1] 0, fI 3, fI 6, fI 0, fI 2, fI 2] 0)], tI 3] [] (TV.tp [T1.c (cI 2), T1.c (cI 0), T1.c (cB true)]) [], VC Try.prog 38 [tC (CV.rw 0 1)] [VO.fx [fI 1] 3] (tC (CV.rw 1 1)) [VO.fx [fI 1] 3, VO.fx [fI 0, fI 0, fI 1, fI 0] 32], (0 : Int) ≤ 0, (0 : Int) < 1, VC Try.prog 34 [tA [CV.f (FV.pt [fI 0, fI 0, fI 2, fI 0, fB false, FV.pt [fI 0, fI 0, fI 1, fI 0, fB false, FV.v (Value.pointer none), FV.v (Value.pointer none), fI 1, fI 1, fI 0, fI 1, fI 1] 0, FV.pt [fI 0, fI 0, fI 3, fI 0, fB false, FV.v (Value.pointer none), FV.v (Value.pointer none), fI 1, fI 3, fI 0, fI 1, fI 1] 0, fI 3, fI 6, fI 0, fI 2, fI 2] 0)], tI 4, tA [cI 0, cI 0, cI 1, cI 0]] [] (TV.tp [T1.ag [CV.f (FV.v (Value.pointer none))], T1.c (cI 20)]) [], VC Try.prog 14 [tA [CV.f (FV.pt [fI 0, fI 0, fI 3, fI 0, fB false, FV.pt [fI 0, fI 0, fI 1, fI 0, fB true, FV.v (Value.pointer none), FV.v (Value.pointer none), fI 1, fI 1, fI 0, fI 0, fI 1] 0, FV.v (Value.pointer none), fI 2, fI 4, fI 0, fI 1, fI 2] 0)]] [] (tC (CV.rw 0 2)) [VO.fx [fI 0, fI 0, fI 3, fI 0, fB false, fB true, fB false, fI 2, fI 4, fI 0, fI 0, fI 0, fI 1, fI 0, fB true, fB false, fB false, fI 1, fI 1, fI 0] 40], tB true = tB true, VC Try.prog 13 [tA [CV.f (FV.pt [fI 0, fI 0, fI 2, fI 0, fB false, FV.pt [fI 0, fI 0, fI 1, fI 0, fB false, FV.v (Value.pointer none), FV.v (Value.pointer none), fI 1, fI 1, fI 0, fI 1, fI 1] 0, FV.pt [fI 0, fI 0, fI 3, fI 0, fB false, FV.v (Value.pointer none), FV.v (Value.pointer none), fI 1, fI 3, fI 0, fI 1, fI 1] 0, fI 3, fI 6, fI 0, fI 2, fI 2] 0)]] [] (tI 3) [], tB true = tB true, VC Try.prog 22 [tA [CV.f (FV.pt [fI 0, fI 0, fI 2, fI 0, fB false, FV.pt [fI 0, fI 0, fI 1, fI 0, fB false, FV.v (Value.pointer none), FV.v (Value.pointer none), fI 1, fI 1, fI 0, fI 1, fI 1] 0, FV.pt [fI 0, fI 0, fI 3, fI 0, fB false, FV.v (Value.pointer none), FV.v (Value.pointer none), fI 1, fI 3, fI 0, fI 1, fI 1] 0, fI 3, fI 6, fI 0, fI 2, fI 2] 0)]] [] (tI 6) [], tB true = tB true, tB true = tB true, tB true = tB true, tB true = tB true, tB true = tB true, tB true = tB true, tB true = tB true, (0 : Int) ≤ 0, (0 : Int) < 2, tB true = tB true, (0 : Int) ≤ 1, (1 : Int) < 2, tB true = tB true, 2 ≤ 2, (0 : Int) ≤ 1, (1 : Int) ≤ 2, VC Try.prog 10 [tF (FV.sl none [fI 0, fI 0, fI 1, fI 0, fB true, fB false, fB false, fI 1, fI 1, fI 0] 1)] [] (tI 21) [], tB true = tB true] (
 ([] : List VO) = []) := by
  repeat' first
    | refine brE (fun _ _ => ?_) (fun _ _ => ?_)
    | refine brN (fun _ _ => ?_) (fun _ _ => ?_)
    | refine brD (fun _ _ => ?_) (fun _ _ => ?_)
    | refine brP_intro (fun _ => ?_) (fun _ => ?_)
    | refine ck ?_ ?_
    | exact allp0
    | refine allp2 ?_ ?_
  all_goals try first
    | with_reducible rfl
    | exact Exists.intro _ rfl
    | exact tI_nw (by omega) (by omega)
    | exact tB_of (by assumption)
    | exact tlen _ (by first | assumption | omega | (simp; done))
    | exact tbyt _ (by first | assumption | omega | (simp; done))
    | exact tins_o _ _ _ (by first | assumption | omega | (simp; done)) (by first | assumption | omega | (simp; done))
    | exact tins_f _ _ _ (by first | assumption | omega | (simp; done)) (by first | assumption | omega | (simp; done)) (by first | assumption | omega | (simp; done)) (by first | assumption | omega | (simp; done))
    | exact tins _ _ _ _ _ _ (by first | assumption | omega | (simp; done)) (by first | assumption | omega | (simp; done)) (by first | assumption | omega | (simp; done)) (by first | assumption | omega | (simp; done)) (by first | assumption | omega | (simp; done)) (by first | assumption | omega | (simp; done))
    | exact tdel_o _ _ (by first | assumption | omega | (simp; done)) (by first | assumption | omega | (simp; done))
    | exact tdel _ _ _ _ _ _ _ (by first | assumption | omega | (simp; done)) (by first | assumption | omega | (simp; done)) (by first | assumption | omega | (simp; done)) (by first | assumption | omega | (simp; done)) (by first | assumption | omega | (simp; done)) (by first | assumption | omega | (simp; done))
    | exact trows_n 
    | exact trows _ _ _ (by first | assumption | omega | (simp; done))
    | exact tbuild _ _ _ (by first | assumption | omega | (simp; done)) (by first | assumption | omega | (simp; done))
    | exact plain _ _ (by first | assumption | omega | (simp; done))
    | exact tfind_o _ _ (by first | assumption | omega | (simp; done)) (by first | assumption | omega | (simp; done))
    | exact tfind _ _ _ (by first | assumption | omega | (simp; done)) (by first | assumption | omega | (simp; done)) (by first | assumption | omega | (simp; done)) (by first | assumption | omega | (simp; done))
    | exact check_0 _
    | exact check _ _ _ _ _ _ (by first | assumption | omega | (simp; done)) (by first | assumption | omega | (simp; done)) (by first | assumption | omega | (simp; done))
    | exact al_pl3 
    | exact al_pl1 
    | exact al_bld 
    | exact al_del 
    | exact al_find 
    | exact al_ins 
    | exact al_rows 
    | exact al_len 
    | exact al_byt 
    | exact al_chk 
    | exact al_pl3
    | exact al_pl1
    | exact al_bld
    | exact al_del
    | exact al_find
    | exact al_ins
    | exact al_rows
    | exact al_len
    | exact al_byt
    | exact al_chk
    | ((with_reducible show (_ : Int) ≤ _); omega)
    | ((with_reducible show (_ : Nat) ≤ _); omega)
    | ((with_reducible show (_ : Int) < _); omega)
theorem alive  : VC Try.prog 9 ([]) ([]) (tB true) ([]) :=
  vc_wp mixed nonum ⟨cmOf [(1, [(1, .tb (fun g xs H => some (.one (tC (.rw 1 3)) [.fx [fI 1, fI 2, fI 3] 3, .fx (rowP [pc 1, pc 2, pc 3]) 32])) [] none), (2, .tb (fun g xs H => some (.one (tT (enc ta1)) H)) [] none)]), (2, [(1, .tb (fun g xs H => some (.one (.tp [.ag [.f (enc ta2)], .c (cI 0)]) H)) [] none)]), (3, [(1, .tb (fun g xs H => some (.one (.tp [.c (cI 2), .c (cI 0), .c (cB true)]) H)) [] none)]), (4, [(2, .tb (fun g xs H => some (.one (tC (.rw 1 1)) [.fx [fI 1] 3, .fx (rowP [pc 1]) 32])) [] none), (5, .tb (fun g xs H => some (.one (.tp [.ag [.f fN], .c (cI 20)]) H)) [] none)]), (5, [(1, .tb (fun g xs H => some (.one (tC (.rw 0 2)) [.fx (rowsL ta2) 40])) [] none)]), (6, [(2, .tb (fun g xs H => some (.one (tI 3) H)) [] none), (7, .tb (fun g xs H => some (.one (tI 6) H)) [] none), (52, .tb (fun g xs H => some (.one (tI 21) H)) [] none)])], spOf [(6, [0, 5, 10, 14, 17, 21, 25, 29, 34, 43, 49])], ghOf [(6, [.frz 7])], loOf [], []⟩ [] (by kernel_rfl) (alive_w )
theorem checks_law_w (z : Option Bool) (F : List FV) (n : Nat) (v : Int) (h10 : n ≤ 65536 → VC Try.prog 10 [tF (.sl z F n)] [] (tI v) []) (h11 : n ≤ 65536 → VC Try.prog 11 [tF (.sl z F n)] [] (tI v) []) : Ck [0, 2, 0, 206, 0, 182] [VC Try.prog 9 [] [] (tB true) [], tB true = tB true] (
 brP (decide ((↑n : Int) > 65536)) (
 Ck [0, 2, 0, 20, 1] [tB true = tB true] (
 ([] : List VO) = [])) (
 Ck [0, 135074, 0, 20, 1] [VC Try.prog 10 [tF (FV.sl z F n)] [] (tI v) [], VC Try.prog 11 [tF (FV.sl z F n)] [] (tI v) [], tB (v == v) = tB true] (
 ([] : List VO) = []))) := by
  repeat' first
    | refine brE (fun _ _ => ?_) (fun _ _ => ?_)
    | refine brN (fun _ _ => ?_) (fun _ _ => ?_)
    | refine brD (fun _ _ => ?_) (fun _ _ => ?_)
    | refine brP_intro (fun _ => ?_) (fun _ => ?_)
    | refine ck ?_ ?_
    | exact allp0
    | refine allp2 ?_ ?_
  all_goals try first
    | with_reducible rfl
    | exact Exists.intro _ rfl
    | exact tI_nw (by omega) (by omega)
    | exact tB_of (by assumption)
    | exact check_0 _
    | exact check _ _ _ _ _ _ (by first | assumption | omega | (simp; done)) (by first | assumption | omega | (simp; done)) (by first | assumption | omega | (simp; done))
    | exact rchk _ _ _ _ _ (by first | assumption | omega | (simp; done))
    | exact al_chk 
    | exact alive 
    | exact alive
    | exact h10 (by omega)
    | exact h11 (by omega)
    | exact congrArg tB (beq_self_eq_true v)
    | ((with_reducible show (_ : Int) ≤ _); omega)
    | ((with_reducible show (_ : Nat) ≤ _); omega)
    | ((with_reducible show (_ : Int) < _); omega)
theorem checks_law (z : Option Bool) (F : List FV) (n : Nat) (v : Int) (h10 : n ≤ 65536 → VC Try.prog 10 [tF (.sl z F n)] [] (tI v) []) (h11 : n ≤ 65536 → VC Try.prog 11 [tF (.sl z F n)] [] (tI v) []) : VC Try.prog 3 ([tF (.sl z F n)]) ([]) (tB true) ([]) :=
  vc_wp mixed nonum ⟨cmOf [(1, [(0, .tb (fun g xs H => some (.one (tB true) H)) [] none)]), (5, [(1, .tb (fun g xs H => some (.one (tI v) H)) [] none), (3, .tb (fun g xs H => some (.one (tI v) H)) [] none)])], spOf [(1, [0])], ghOf [], loOf [], []⟩ [] (by kernel_rfl) (checks_law_w z F n v h10 h11)
theorem nthF_app : ∀ (A B : List FV) (i : Nat), nthF (A ++ B) (A.length + i) = nthF B i
  | [], B, i => by rw [List.nil_append, List.length_nil, Nat.zero_add]
  | a :: A, B, i => by
    rw [List.cons_append, List.length_cons, Nat.add_right_comm]
    exact nthF_app A B i
def suC (l : List Su) : List FV := l.flatMap Su.fs
theorem suC_app (a b : List Su) : suC (a ++ b) = suC a ++ suC b := List.flatMap_append
theorem suC_one (s : Su) : suC [s] = s.fs := by unfold suC; rw [List.flatMap_cons, List.flatMap_nil, List.append_nil]
theorem suC_len : ∀ l : List Su, (suC l).length = l.length * 6
  | [] => rfl
  | a :: l => by
    have : suC (a :: l) = a.fs ++ suC l := List.flatMap_cons
    rw [this, List.length_append, suC_len l, List.length_cons]
    show 6 + _ = _
    omega
def suR (cs : List FV) (off : Nat) : Su := ⟨boolF (nthF cs off), intF (nthF cs (off + 1)), intF (nthF cs (off + 2)), intF (nthF cs (off + 3)), intF (nthF cs (off + 4)), intF (nthF cs (off + 5))⟩
theorem suR_app (A : List FV) (s : Su) (B : List FV) : suR (A ++ (s.fs ++ B)) A.length = s := by
  unfold suR
  have h0 := nthF_app A (s.fs ++ B) 0
  rw [Nat.add_zero] at h0
  rw [h0, nthF_app, nthF_app, nthF_app, nthF_app, nthF_app]
  rfl
theorem su_last (s : Su) (st : List Su) : ∃ (l : List Su) (x : Su), (s :: st).reverse = x :: l ∧ (s :: st).getLastD su0 = x := by
  rcases List.eq_nil_or_concat (s :: st) with h | ⟨l, x, h⟩
  · cases h
  · refine ⟨l.reverse, x, ?_, ?_⟩
    · rw [h]; simp
    · rw [h]; simp [List.getLastD_eq_getLast?]
theorem ref_look (z : Option Bool) (L : List Rw) (hn : L.length ≤ 65536) : VC Try.prog 41 [tF (.sl z (rowsC L) L.length)] [] (lookV (goS (fun off => L.getD (off / 10) default) L.length [])) [] := by
  have hlen : ∀ st : List Su, (suC st.reverse).length = st.length * 6 := fun st => by rw [suC_len, List.length_reverse]
  have hr : ∀ (s : Su) (st : List Su), suC (s :: st).reverse = suC st.reverse ++ (s.fs ++ []) := fun s st => by rw [List.reverse_cons, suC_app, suC_one, List.append_nil]
  refine look z (rowsC L) L.length (fun off => L.getD (off / 10) default) (fun st => suC st.reverse) suR _ hn rfl ?_ ?_ ?_ ?_ ?_ rfl ?_ ?_ ?_
  · intro k hk
    show _ = (L.getD (k * 10 / 10) default).fs
    rw [Nat.mul_div_cancel k (by decide)]
    exact rowsC_at L k hk
  · intro s st
    show ((suC (s :: st).reverse).drop (st.length * 6)).take 6 = s.fs
    rw [hr, List.drop_left' (hlen st)]
    rfl
  · intro s st
    show suR (suC (s :: st).reverse) (st.length * 6) = s
    rw [hr, ← hlen st]
    exact suR_app _ s []
  · intro s st
    show (suC (s :: st).reverse).take (st.length * 6) = suC st.reverse
    rw [hr, List.take_left' (hlen st)]
  · intro s st
    show suC st.reverse ++ s.fs = suC (s :: st).reverse
    rw [hr, List.append_nil]
  · intro s st
    obtain ⟨l, x, h1, h2⟩ := su_last s st
    show ((suC (s :: st).reverse).drop 0).take 6 = _
    rw [h1, h2]
    rfl
  · intro s st
    obtain ⟨l, x, h1, h2⟩ := su_last s st
    show suR (suC (s :: st).reverse) 0 = _
    rw [h1, h2]
    exact suR_app [] x (suC l)
  · intro s st
    obtain ⟨l, x, h1, h2⟩ := su_last s st
    show ((suC (s :: st).reverse).drop 0).take 1 = _
    rw [h1, h2]
    rfl
/-- the law -/
theorem checks_all (z : Option Bool) (L : List Rw) : VC Try.prog 3 [tF (.sl z (rowsC L) L.length)] [] (tB true) [] := by
  by_cases hL : L.length = 0
  · obtain rfl : L = [] := List.eq_nil_of_length_eq_zero hL
    exact checks_law z [] 0 0 (fun _ => check_0 z) (fun h => rchk z [] 0 _ true (ref_look z [] (by decide)))
  · refine checks_law z (rowsC L) L.length (bif (goS (fun off => L.getD (off / 10) default) L.length []).2 then 0 else 21) (fun hn => ?_) (fun hn => rchk z _ _ _ _ (ref_look z L hn))
    have h := rd_ok z L (by omega) 129 0 false (by decide) (by omega)
    have e := chk_eq (fun off => L.getD (off / 10) default) L hn (fun k hk => by rw [Nat.mul_div_cancel k (by decide)]) hL
    rw [← e]
    have hk := h.kn
    exact check z (rowsC L) L.length (enc (rdT L 129 0 false).1) (rdT L 129 0 false).2.1 (rdT L 129 0 false).2.2 hL (isT_of h.ok (by have := h.k1; omega)) h.vc
end Go.Proofs.Ytpjlgjhkdligfaa.Vg
