/- Searching. No law, no condition. -/
import Derived.Test.YtpjlgjhkdligfaaKSI
namespace Go.Proofs.Ytpjlgjhkdligfaa.Vg
open Go.RowKit
set_option maxRecDepth 100000
set_option linter.unusedVariables false
set_option linter.unusedSimpArgs false
theorem fd1_w (p : Pc) : Ck [0, 20, 0, 1640, 0, 20, 1] [tI p.n = tI p.n] (
 ([] : List VO) = []) := by
  repeat' first
    | refine brE (fun _ _ => ?_) (fun _ _ => ?_)
    | refine brN (fun _ _ => ?_) (fun _ _ => ?_)
    | refine brD (fun _ _ => ?_) (fun _ _ => ?_)
    | refine brP_intro (fun _ => ?_) (fun _ => ?_)
    | refine ck ?_ ?_
    | exact allp0
    | refine allp2 ?_ ?_
  all_goals try first
    | with_reducible rfl
    | exact Exists.intro _ rfl
    | exact tI_nw (by omega) (by omega)
    | exact tB_of (by assumption)
    | ((with_reducible show (_ : Int) ≤ _); omega)
    | ((with_reducible show (_ : Nat) ≤ _); omega)
    | ((with_reducible show (_ : Int) < _); omega)
theorem fd1 (p : Pc) : VC Try.prog 56 ([tA p.cs]) ([]) (tI p.n) ([]) :=
  vc_wp mixed nonum ⟨cmOf [], spOf [], ghOf [], loOf [], []⟩ [] (by kernel_rfl) (fd1_w p)
theorem fl1_w (p : Pc) : Ck [0, 20, 0, 182, 0, 20, 1] [tI p.k = tI p.k] (
 ([] : List VO) = []) := by
  repeat' first
    | refine brE (fun _ _ => ?_) (fun _ _ => ?_)
    | refine brN (fun _ _ => ?_) (fun _ _ => ?_)
    | refine brD (fun _ _ => ?_) (fun _ _ => ?_)
    | refine brP_intro (fun _ => ?_) (fun _ => ?_)
    | refine ck ?_ ?_
    | exact allp0
    | refine allp2 ?_ ?_
  all_goals try first
    | with_reducible rfl
    | exact Exists.intro _ rfl
    | exact tI_nw (by omega) (by omega)
    | exact tB_of (by assumption)
    | ((with_reducible show (_ : Int) ≤ _); omega)
    | ((with_reducible show (_ : Nat) ≤ _); omega)
    | ((with_reducible show (_ : Int) < _); omega)
theorem fl1 (p : Pc) : VC Try.prog 58 ([tA p.cs]) ([]) (tI p.k) ([]) :=
  vc_wp mixed nonum ⟨cmOf [], spOf [], ghOf [], loOf [], []⟩ [] (by kernel_rfl) (fl1_w p)
noncomputable def t56_0_SJ  : List TV → List VO → Option Alt
  | [(.o (.ag [(.f (.v (.int .i64 a))), (.f (.v (.int .i64 b))), (.f (.v (.int .i64 d))), (.f (.v (.int .i64 e)))]))], _ => some (.one (tI d) [])
  | _, _ => none
noncomputable def t58_0_SJ  : List TV → List VO → Option Alt
  | [(.o (.ag [(.f (.v (.int .i64 a))), (.f (.v (.int .i64 b))), (.f (.v (.int .i64 d))), (.f (.v (.int .i64 e)))]))], _ => some (.one (tI e) [])
  | _, _ => none
def srS (F : FV → Int) (g : Pc → Int) : Tr → Int → Int → Int × Int
  | .nil, t, k => (k, t)
  | .nd p c a b, t, k => bif decide (t < F (enc a)) then srS F g a t k else bif decide (t - F (enc a) ≥ g p) then srS F g b (t - F (enc a) - g p) (k + cntF (enc a) + 1) else (k + cntF (enc a), t - F (enc a))
structure SrP (F : FV → Int) (g : Pc → Int) (R : Int × Int) (p : Pc) (c : Bool) (a b : Tr) (t k : Int) : Prop where
  ok : (Tr.nd p c a b).Ok
  t0 : 0 ≤ t
  t1 : t < F (enc (.nd p c a b))
  k0 : 0 ≤ k
  kn : k + (Tr.nd p c a b).num ≤ 1073741824
  eq : srS F g (.nd p c a b) t k = R
theorem sr_s_l {R : Int × Int} {p : Pc} {c : Bool} {a b : Tr} {t k : Int} (h : SrP sizF Pc.n R p c a b t k) (hl : t < sizF (enc a)) : ∃ q d x y, a = .nd q d x y ∧ SrP sizF Pc.n R q d x y t k := by
  cases a with
  | nil => exact absurd hl (by have := h.t0; show ¬ t < 0; omega)
  | nd q d x y =>
    refine ⟨q, d, x, y, rfl, h.ok.2.1, h.t0, hl, h.k0, ?_, ?_⟩
    · have := h.kn
      have e : (Tr.nd p c (.nd q d x y) b).num = (Tr.nd q d x y).num + 1 + b.num := rfl
      rw [e] at this; omega
    · have e := h.eq
      rw [srS, decide_eq_true hl, cond_true] at e
      exact e
theorem sr_s_r {R : Int × Int} {p : Pc} {c : Bool} {a b : Tr} {t k : Int} (h : SrP sizF Pc.n R p c a b t k) (hl : ¬ t < sizF (enc a)) (hr : t - sizF (enc a) ≥ Pc.n p) : ∃ q d x y, b = .nd q d x y ∧ SrP sizF Pc.n R q d x y (t - sizF (enc a) - Pc.n p) (k + cntF (enc a) + 1) := by
  have ht := h.t1
  have e1 : sizF (enc (.nd p c a b)) = sizF (enc a) + Pc.n p + sizF (enc b) := rfl
  have ea : cntF (enc a) = a.num := cnt_num h.ok.2.1
  rw [e1] at ht
  cases b with
  | nil =>
    have : sizF (enc .nil) = 0 := rfl
    rw [this] at ht
    omega
  | nd q d x y =>
    have hk := h.kn
    have e : (Tr.nd p c a (.nd q d x y)).num = a.num + 1 + (Tr.nd q d x y).num := rfl
    rw [e] at hk
    refine ⟨q, d, x, y, rfl, h.ok.2.2, by omega, by omega, by have := h.k0; omega, by omega, ?_⟩
    have e := h.eq
    rw [srS, decide_eq_false hl, cond_false, decide_eq_true hr, cond_true] at e
    exact e
theorem sr_s_e {R : Int × Int} {p : Pc} {c : Bool} {a b : Tr} {t k : Int} (h : SrP sizF Pc.n R p c a b t k) (hl : ¬ t < sizF (enc a)) (hr : ¬ t - sizF (enc a) ≥ Pc.n p) : R = (k + cntF (enc a), t - sizF (enc a)) := by
  have e := h.eq
  rw [srS, decide_eq_false hl, cond_false, decide_eq_false hr, cond_false] at e
  exact e.symm
noncomputable def tq_search_s (c : Bool) (x y : Tr) (p : Pc) (t : Int) (R : Int × Int) (hs : SrP sizF Pc.n R p c x y t 0) : FuncId → List TV → List VO → Option Alt := tabOf [(58, t58_0_SJ), (56, t56_0_SJ), (42, t42_0_SI), (75, t75_0_SB), (69, t69_0_SA), (40, t40_0_SA), (63, t63_0_SA), (68, t68_0_SA), (57, t57_0_SA), (55, t55_0_SA), (44, t44_0_SA)]
def search_s_b1 (c : Bool) (x y : Tr) (p : Pc) (t : Int) (R : Int × Int) (hs : SrP sizF Pc.n R p c x y t 0) (i : (Pc × Bool × Tr × Tr) × Int × Int) : Prop :=
 Ck [0, 1372889, 0, 182] [VC Try.prog 55 [tF (enc i.fst.snd.snd.fst)] [] (tI (sizF (enc i.fst.snd.snd.fst))) []] (
 brP (decide (i.snd.fst < sizF (enc i.fst.snd.snd.fst))) (
 Ck [0, 14762, 2] [] (
 ∃ j : (Pc × Bool × Tr × Tr) × Int × Int, Ck [1, 1, 1] [SrP sizF Pc.n R j.fst.fst j.fst.snd.fst j.fst.snd.snd.fst j.fst.snd.snd.snd j.snd.fst j.snd.snd, (j.fst.snd.snd.fst.num + 1 + j.fst.snd.snd.snd.num).succ ≤ i.fst.snd.snd.fst.num + 1 + i.fst.snd.snd.snd.num, [(0, tF (enc i.fst.snd.snd.fst)), (1, tI i.snd.fst), (2, tC (CV.fn 55 [])), (3, tC (CV.fn 56 [])), (10, tI i.snd.snd)] = [(0, tF (FV.pt [fI j.fst.fst.s, fI j.fst.fst.o, fI j.fst.fst.n, fI j.fst.fst.k, fB j.fst.snd.fst, enc j.fst.snd.snd.fst, enc j.fst.snd.snd.snd, fI (cntF (enc j.fst.snd.snd.fst) + 1 + cntF (enc j.fst.snd.snd.snd)), fI (sizF (enc j.fst.snd.snd.fst) + j.fst.fst.n + sizF (enc j.fst.snd.snd.snd)), fI (lnsF (enc j.fst.snd.snd.fst) + j.fst.fst.k + lnsF (enc j.fst.snd.snd.snd)), fI (bif j.fst.snd.fst then blkF (enc j.fst.snd.snd.fst) else blkF (enc j.fst.snd.snd.fst) + 1), fI (1 + if hghF (enc j.fst.snd.snd.snd) > hghF (enc j.fst.snd.snd.fst) then hghF (enc j.fst.snd.snd.snd) else hghF (enc j.fst.snd.snd.fst))] 0)), (1, tI j.snd.fst), (2, tC (CV.fn 55 [])), (3, tC (CV.fn 56 [])), (10, tI j.snd.snd)]] (
 ([] : List VO) = []))) (
 Ck [0, 15977, 0, 105003884, 0, 1372889, 0, 182] [tI (IntKind.i64.wrap (i.snd.fst - sizF (enc i.fst.snd.snd.fst))) = tI (i.snd.fst - sizF (enc i.fst.snd.snd.fst)), VC Try.prog 44 [tF (enc i.fst.snd.snd.fst)] [] (tI (cntF (enc i.fst.snd.snd.fst))) [], tI (IntKind.i64.wrap (i.snd.snd + cntF (enc i.fst.snd.snd.fst))) = tI (i.snd.snd + cntF (enc i.fst.snd.snd.fst)), VC Try.prog 56 [tA [cI i.fst.fst.s, cI i.fst.fst.o, cI i.fst.fst.n, cI i.fst.fst.k]] [] (tI i.fst.fst.n) []] (
 brP (decide (i.snd.fst - sizF (enc i.fst.snd.snd.fst) ≥ i.fst.fst.n)) (
 Ck [0, 15977, 0, 1775, 0, 14762, 2] [tI (IntKind.i64.wrap (i.snd.fst - sizF (enc i.fst.snd.snd.fst) - i.fst.fst.n)) = tI (i.snd.fst - sizF (enc i.fst.snd.snd.fst) - i.fst.fst.n), tI (IntKind.i64.wrap (i.snd.snd + cntF (enc i.fst.snd.snd.fst) + 1)) = tI (i.snd.snd + cntF (enc i.fst.snd.snd.fst) + 1)] (
 ∃ j : (Pc × Bool × Tr × Tr) × Int × Int, Ck [1, 1, 1] [SrP sizF Pc.n R j.fst.fst j.fst.snd.fst j.fst.snd.snd.fst j.fst.snd.snd.snd j.snd.fst j.snd.snd, (j.fst.snd.snd.fst.num + 1 + j.fst.snd.snd.snd.num).succ ≤ i.fst.snd.snd.fst.num + 1 + i.fst.snd.snd.snd.num, [(0, tF (enc i.fst.snd.snd.snd)), (1, tI (i.snd.fst - sizF (enc i.fst.snd.snd.fst) - i.fst.fst.n)), (2, tC (CV.fn 55 [])), (3, tC (CV.fn 56 [])), (10, tI (i.snd.snd + cntF (enc i.fst.snd.snd.fst) + 1))] = [(0, tF (FV.pt [fI j.fst.fst.s, fI j.fst.fst.o, fI j.fst.fst.n, fI j.fst.fst.k, fB j.fst.snd.fst, enc j.fst.snd.snd.fst, enc j.fst.snd.snd.snd, fI (cntF (enc j.fst.snd.snd.fst) + 1 + cntF (enc j.fst.snd.snd.snd)), fI (sizF (enc j.fst.snd.snd.fst) + j.fst.fst.n + sizF (enc j.fst.snd.snd.snd)), fI (lnsF (enc j.fst.snd.snd.fst) + j.fst.fst.k + lnsF (enc j.fst.snd.snd.snd)), fI (bif j.fst.snd.fst then blkF (enc j.fst.snd.snd.fst) else blkF (enc j.fst.snd.snd.fst) + 1), fI (1 + if hghF (enc j.fst.snd.snd.snd) > hghF (enc j.fst.snd.snd.fst) then hghF (enc j.fst.snd.snd.snd) else hghF (enc j.fst.snd.snd.fst))] 0)), (1, tI j.snd.fst), (2, tC (CV.fn 55 [])), (3, tC (CV.fn 56 [])), (10, tI j.snd.snd)]] (
 ([] : List VO) = []))) (
 Ck [0, 1640, 0, 182, 1] [TV.tp [T1.c (cI (i.snd.snd + cntF (enc i.fst.snd.snd.fst))), T1.c (cI (i.snd.fst - sizF (enc i.fst.snd.snd.fst)))] = TV.tp [T1.c (cI R.fst), T1.c (cI R.snd)]] (
 ([] : List VO) = [])))))
theorem search_s_b1_ok (c : Bool) (x y : Tr) (p : Pc) (t : Int) (R : Int × Int) (hs : SrP sizF Pc.n R p c x y t 0) (i : (Pc × Bool × Tr × Tr) × Int × Int) (hi : SrP sizF Pc.n R i.fst.fst i.fst.snd.fst i.fst.snd.snd.fst i.fst.snd.snd.snd i.snd.fst i.snd.snd) : search_s_b1 c x y p t R hs i := by
  unfold search_s_b1
  obtain ⟨⟨q, d, a, b⟩, u, k⟩ := i
  have hi : SrP sizF Pc.n R q d a b u k := hi
  have en : (Tr.nd q d a b).num = a.num + 1 + b.num := rfl
  have h1 := hi.t0
  have h2 := hi.t1
  have h3 := hi.k0
  have h4 := hi.kn
  have haT : isT (enc a) := isT_of hi.ok.2.1 (by omega)
  have hba := haT.bd
  have hbd := (isT_of hi.ok (by omega)).bd
  have hq := hi.ok.1
  unfold Fit at hq
  dsimp only
  repeat' first
    | refine brE (fun _ _ => ?_) (fun _ _ => ?_)
    | refine brN (fun _ _ => ?_) (fun _ _ => ?_)
    | refine brD (fun _ _ => ?_) (fun _ _ => ?_)
    | refine brP_intro (fun _ => ?_) (fun _ => ?_)
    | refine ck ?_ ?_
    | exact allp0
    | refine allp2 ?_ ?_
  all_goals try first
    | with_reducible rfl
    | exact Exists.intro _ rfl
    | exact tI_nw (by omega) (by omega)
    | exact tB_of (by assumption)
    | exact cnt_n 
    | exact cnt_d _ _ _ _
    | exact cnt_x _ (by first | assumption | omega | (simp; done))
    | exact siz_n 
    | exact siz_d _ _ _ _
    | exact siz_x _ (by first | assumption | omega | (simp; done))
    | exact fd1 _
    | exact fd1 q
    | exact fl1 q
    | (obtain ⟨q1, d1, x1, y1, rfl, J⟩ := sr_s_l hi (by assumption); exact ⟨((q1, d1, x1, y1), u, k), ck (allp2 J (allp2 (by show x1.num + 1 + y1.num + 1 ≤ (x1.num + 1 + y1.num) + 1 + b.num; omega) (allp2 rfl allp0))) rfl⟩)
    | (obtain ⟨q1, d1, x1, y1, rfl, J⟩ := sr_s_r hi (by assumption) (by assumption); exact ⟨((q1, d1, x1, y1), _, _), ck (allp2 J (allp2 (by show x1.num + 1 + y1.num + 1 ≤ a.num + 1 + (x1.num + 1 + y1.num); omega) (allp2 rfl allp0))) rfl⟩)
    | (have J := sr_s_e hi (by assumption) (by assumption); rw [J])
    | ((with_reducible show (_ : Int) ≤ _); omega)
    | ((with_reducible show (_ : Nat) ≤ _); omega)
    | ((with_reducible show (_ : Int) < _); omega)
theorem search_s_w (c : Bool) (x y : Tr) (p : Pc) (t : Int) (R : Int × Int) (hs : SrP sizF Pc.n R p c x y t 0) : Ck [0, 20, 0, 2, 803] [∃ i : (Pc × Bool × Tr × Tr) × Int × Int, Ck [1, 1] [SrP sizF Pc.n R i.fst.fst i.fst.snd.fst i.fst.snd.snd.fst i.fst.snd.snd.snd i.snd.fst i.snd.snd, [(0, tF (FV.pt [fI p.s, fI p.o, fI p.n, fI p.k, fB c, enc x, enc y, fI (cntF (enc x) + 1 + cntF (enc y)), fI (sizF (enc x) + p.n + sizF (enc y)), fI (lnsF (enc x) + p.k + lnsF (enc y)), fI (bif c then blkF (enc x) else blkF (enc x) + 1), fI (1 + if hghF (enc y) > hghF (enc x) then hghF (enc y) else hghF (enc x))] 0)), (1, tI t), (2, tC (CV.fn 55 [])), (3, tC (CV.fn 56 [])), (10, tI 0)] = [(0, tF (FV.pt [fI i.fst.fst.s, fI i.fst.fst.o, fI i.fst.fst.n, fI i.fst.fst.k, fB i.fst.snd.fst, enc i.fst.snd.snd.fst, enc i.fst.snd.snd.snd, fI (cntF (enc i.fst.snd.snd.fst) + 1 + cntF (enc i.fst.snd.snd.snd)), fI (sizF (enc i.fst.snd.snd.fst) + i.fst.fst.n + sizF (enc i.fst.snd.snd.snd)), fI (lnsF (enc i.fst.snd.snd.fst) + i.fst.fst.k + lnsF (enc i.fst.snd.snd.snd)), fI (bif i.fst.snd.fst then blkF (enc i.fst.snd.snd.fst) else blkF (enc i.fst.snd.snd.fst) + 1), fI (1 + if hghF (enc i.fst.snd.snd.snd) > hghF (enc i.fst.snd.snd.fst) then hghF (enc i.fst.snd.snd.snd) else hghF (enc i.fst.snd.snd.fst))] 0)), (1, tI i.snd.fst), (2, tC (CV.fn 55 [])), (3, tC (CV.fn 56 [])), (10, tI i.snd.snd)]] (
 ([] : List VO) = [])] (
 ∀ i : (Pc × Bool × Tr × Tr) × Int × Int, ((SrP sizF Pc.n R i.fst.fst i.fst.snd.fst i.fst.snd.snd.fst i.fst.snd.snd.snd i.snd.fst i.snd.snd) → search_s_b1 c x y p t R hs i)) := by
  repeat' first
    | refine brE (fun _ _ => ?_) (fun _ _ => ?_)
    | refine brN (fun _ _ => ?_) (fun _ _ => ?_)
    | refine brD (fun _ _ => ?_) (fun _ _ => ?_)
    | refine brP_intro (fun _ => ?_) (fun _ => ?_)
    | refine ck ?_ ?_
    | exact allp0
    | refine allp2 ?_ ?_
  all_goals try first
    | with_reducible rfl
    | exact Exists.intro _ rfl
    | exact tI_nw (by omega) (by omega)
    | exact tB_of (by assumption)
    | exact fun i h_ => search_s_b1_ok c x y p t R hs i h_
    | exact ⟨((p, c, x, y), t, 0), ck (allp2 hs (allp2 rfl allp0)) rfl⟩
    | ((with_reducible show (_ : Int) ≤ _); omega)
    | ((with_reducible show (_ : Nat) ≤ _); omega)
    | ((with_reducible show (_ : Int) < _); omega)
theorem search_s (c : Bool) (x y : Tr) (p : Pc) (t : Int) (R : Int × Int) (hs : SrP sizF Pc.n R p c x y t 0) : VC Try.prog 54 ([tF (mkF c (enc x) p (enc y)), tI t, tC (.fn 55 []), tC (.fn 56 [])]) ([]) (.tp [.c (cI R.1), .c (cI R.2)]) ([]) :=
  vc_wp mixed nonum ⟨cmOf [(2, [(5, .tb (tq_search_s c x y p t R hs) [] none)]), (5, [(2, .nw)]), (6, [(5, .tb (tq_search_s c x y p t R hs) [] none), (6, .nw)]), (7, [(5, .tb (tq_search_s c x y p t R hs) [] none)]), (9, [(2, .nw)]), (10, [(1, .nw)])], spOf [], ghOf [], loOf [(2, .inv [] [0, 1, 2, 3, 10] ⟨(Pc × Bool × Tr × Tr) × Int × Int, fun i => SrP sizF Pc.n R i.1.1 i.1.2.1 i.1.2.2.1 i.1.2.2.2 i.2.1 i.2.2, fun i => [(0, tF (mkF i.1.2.1 (enc i.1.2.2.1) i.1.1 (enc i.1.2.2.2))), (1, tI i.2.1), (2, tC (.fn 55 [])), (3, tC (.fn 56 [])), (10, tI i.2.2)], fun i => [], fun i => i.1.2.2.1.num + 1 + i.1.2.2.2.num⟩)], []⟩ [] (by kernel_rfl) (search_s_w c x y p t R hs)
theorem sr_l_l {R : Int × Int} {p : Pc} {c : Bool} {a b : Tr} {t k : Int} (h : SrP lnsF Pc.k R p c a b t k) (hl : t < lnsF (enc a)) : ∃ q d x y, a = .nd q d x y ∧ SrP lnsF Pc.k R q d x y t k := by
  cases a with
  | nil => exact absurd hl (by have := h.t0; show ¬ t < 0; omega)
  | nd q d x y =>
    refine ⟨q, d, x, y, rfl, h.ok.2.1, h.t0, hl, h.k0, ?_, ?_⟩
    · have := h.kn
      have e : (Tr.nd p c (.nd q d x y) b).num = (Tr.nd q d x y).num + 1 + b.num := rfl
      rw [e] at this; omega
    · have e := h.eq
      rw [srS, decide_eq_true hl, cond_true] at e
      exact e
theorem sr_l_r {R : Int × Int} {p : Pc} {c : Bool} {a b : Tr} {t k : Int} (h : SrP lnsF Pc.k R p c a b t k) (hl : ¬ t < lnsF (enc a)) (hr : t - lnsF (enc a) ≥ Pc.k p) : ∃ q d x y, b = .nd q d x y ∧ SrP lnsF Pc.k R q d x y (t - lnsF (enc a) - Pc.k p) (k + cntF (enc a) + 1) := by
  have ht := h.t1
  have e1 : lnsF (enc (.nd p c a b)) = lnsF (enc a) + Pc.k p + lnsF (enc b) := rfl
  have ea : cntF (enc a) = a.num := cnt_num h.ok.2.1
  rw [e1] at ht
  cases b with
  | nil =>
    have : lnsF (enc .nil) = 0 := rfl
    rw [this] at ht
    omega
  | nd q d x y =>
    have hk := h.kn
    have e : (Tr.nd p c a (.nd q d x y)).num = a.num + 1 + (Tr.nd q d x y).num := rfl
    rw [e] at hk
    refine ⟨q, d, x, y, rfl, h.ok.2.2, by omega, by omega, by have := h.k0; omega, by omega, ?_⟩
    have e := h.eq
    rw [srS, decide_eq_false hl, cond_false, decide_eq_true hr, cond_true] at e
    exact e
theorem sr_l_e {R : Int × Int} {p : Pc} {c : Bool} {a b : Tr} {t k : Int} (h : SrP lnsF Pc.k R p c a b t k) (hl : ¬ t < lnsF (enc a)) (hr : ¬ t - lnsF (enc a) ≥ Pc.k p) : R = (k + cntF (enc a), t - lnsF (enc a)) := by
  have e := h.eq
  rw [srS, decide_eq_false hl, cond_false, decide_eq_false hr, cond_false] at e
  exact e.symm
noncomputable def tq_search_l (c : Bool) (x y : Tr) (p : Pc) (t : Int) (R : Int × Int) (hs : SrP lnsF Pc.k R p c x y t 0) : FuncId → List TV → List VO → Option Alt := tabOf [(58, t58_0_SJ), (56, t56_0_SJ), (42, t42_0_SI), (75, t75_0_SB), (69, t69_0_SA), (40, t40_0_SA), (63, t63_0_SA), (68, t68_0_SA), (57, t57_0_SA), (55, t55_0_SA), (44, t44_0_SA)]
def search_l_b1 (c : Bool) (x y : Tr) (p : Pc) (t : Int) (R : Int × Int) (hs : SrP lnsF Pc.k R p c x y t 0) (i : (Pc × Bool × Tr × Tr) × Int × Int) : Prop :=
 Ck [0, 1372889, 0, 182] [VC Try.prog 57 [tF (enc i.fst.snd.snd.fst)] [] (tI (lnsF (enc i.fst.snd.snd.fst))) []] (
 brP (decide (i.snd.fst < lnsF (enc i.fst.snd.snd.fst))) (
 Ck [0, 14762, 2] [] (
 ∃ j : (Pc × Bool × Tr × Tr) × Int × Int, Ck [1, 1, 1] [SrP lnsF Pc.k R j.fst.fst j.fst.snd.fst j.fst.snd.snd.fst j.fst.snd.snd.snd j.snd.fst j.snd.snd, (j.fst.snd.snd.fst.num + 1 + j.fst.snd.snd.snd.num).succ ≤ i.fst.snd.snd.fst.num + 1 + i.fst.snd.snd.snd.num, [(0, tF (enc i.fst.snd.snd.fst)), (1, tI i.snd.fst), (2, tC (CV.fn 57 [])), (3, tC (CV.fn 58 [])), (10, tI i.snd.snd)] = [(0, tF (FV.pt [fI j.fst.fst.s, fI j.fst.fst.o, fI j.fst.fst.n, fI j.fst.fst.k, fB j.fst.snd.fst, enc j.fst.snd.snd.fst, enc j.fst.snd.snd.snd, fI (cntF (enc j.fst.snd.snd.fst) + 1 + cntF (enc j.fst.snd.snd.snd)), fI (sizF (enc j.fst.snd.snd.fst) + j.fst.fst.n + sizF (enc j.fst.snd.snd.snd)), fI (lnsF (enc j.fst.snd.snd.fst) + j.fst.fst.k + lnsF (enc j.fst.snd.snd.snd)), fI (bif j.fst.snd.fst then blkF (enc j.fst.snd.snd.fst) else blkF (enc j.fst.snd.snd.fst) + 1), fI (1 + if hghF (enc j.fst.snd.snd.snd) > hghF (enc j.fst.snd.snd.fst) then hghF (enc j.fst.snd.snd.snd) else hghF (enc j.fst.snd.snd.fst))] 0)), (1, tI j.snd.fst), (2, tC (CV.fn 57 [])), (3, tC (CV.fn 58 [])), (10, tI j.snd.snd)]] (
 ([] : List VO) = []))) (
 Ck [0, 15977, 0, 105003884, 0, 1372889, 0, 182] [tI (IntKind.i64.wrap (i.snd.fst - lnsF (enc i.fst.snd.snd.fst))) = tI (i.snd.fst - lnsF (enc i.fst.snd.snd.fst)), VC Try.prog 44 [tF (enc i.fst.snd.snd.fst)] [] (tI (cntF (enc i.fst.snd.snd.fst))) [], tI (IntKind.i64.wrap (i.snd.snd + cntF (enc i.fst.snd.snd.fst))) = tI (i.snd.snd + cntF (enc i.fst.snd.snd.fst)), VC Try.prog 58 [tA [cI i.fst.fst.s, cI i.fst.fst.o, cI i.fst.fst.n, cI i.fst.fst.k]] [] (tI i.fst.fst.k) []] (
 brP (decide (i.snd.fst - lnsF (enc i.fst.snd.snd.fst) ≥ i.fst.fst.k)) (
 Ck [0, 15977, 0, 1775, 0, 14762, 2] [tI (IntKind.i64.wrap (i.snd.fst - lnsF (enc i.fst.snd.snd.fst) - i.fst.fst.k)) = tI (i.snd.fst - lnsF (enc i.fst.snd.snd.fst) - i.fst.fst.k), tI (IntKind.i64.wrap (i.snd.snd + cntF (enc i.fst.snd.snd.fst) + 1)) = tI (i.snd.snd + cntF (enc i.fst.snd.snd.fst) + 1)] (
 ∃ j : (Pc × Bool × Tr × Tr) × Int × Int, Ck [1, 1, 1] [SrP lnsF Pc.k R j.fst.fst j.fst.snd.fst j.fst.snd.snd.fst j.fst.snd.snd.snd j.snd.fst j.snd.snd, (j.fst.snd.snd.fst.num + 1 + j.fst.snd.snd.snd.num).succ ≤ i.fst.snd.snd.fst.num + 1 + i.fst.snd.snd.snd.num, [(0, tF (enc i.fst.snd.snd.snd)), (1, tI (i.snd.fst - lnsF (enc i.fst.snd.snd.fst) - i.fst.fst.k)), (2, tC (CV.fn 57 [])), (3, tC (CV.fn 58 [])), (10, tI (i.snd.snd + cntF (enc i.fst.snd.snd.fst) + 1))] = [(0, tF (FV.pt [fI j.fst.fst.s, fI j.fst.fst.o, fI j.fst.fst.n, fI j.fst.fst.k, fB j.fst.snd.fst, enc j.fst.snd.snd.fst, enc j.fst.snd.snd.snd, fI (cntF (enc j.fst.snd.snd.fst) + 1 + cntF (enc j.fst.snd.snd.snd)), fI (sizF (enc j.fst.snd.snd.fst) + j.fst.fst.n + sizF (enc j.fst.snd.snd.snd)), fI (lnsF (enc j.fst.snd.snd.fst) + j.fst.fst.k + lnsF (enc j.fst.snd.snd.snd)), fI (bif j.fst.snd.fst then blkF (enc j.fst.snd.snd.fst) else blkF (enc j.fst.snd.snd.fst) + 1), fI (1 + if hghF (enc j.fst.snd.snd.snd) > hghF (enc j.fst.snd.snd.fst) then hghF (enc j.fst.snd.snd.snd) else hghF (enc j.fst.snd.snd.fst))] 0)), (1, tI j.snd.fst), (2, tC (CV.fn 57 [])), (3, tC (CV.fn 58 [])), (10, tI j.snd.snd)]] (
 ([] : List VO) = []))) (
 Ck [0, 1640, 0, 182, 1] [TV.tp [T1.c (cI (i.snd.snd + cntF (enc i.fst.snd.snd.fst))), T1.c (cI (i.snd.fst - lnsF (enc i.fst.snd.snd.fst)))] = TV.tp [T1.c (cI R.fst), T1.c (cI R.snd)]] (
 ([] : List VO) = [])))))
theorem search_l_b1_ok (c : Bool) (x y : Tr) (p : Pc) (t : Int) (R : Int × Int) (hs : SrP lnsF Pc.k R p c x y t 0) (i : (Pc × Bool × Tr × Tr) × Int × Int) (hi : SrP lnsF Pc.k R i.fst.fst i.fst.snd.fst i.fst.snd.snd.fst i.fst.snd.snd.snd i.snd.fst i.snd.snd) : search_l_b1 c x y p t R hs i := by
  unfold search_l_b1
  obtain ⟨⟨q, d, a, b⟩, u, k⟩ := i
  have hi : SrP lnsF Pc.k R q d a b u k := hi
  have en : (Tr.nd q d a b).num = a.num + 1 + b.num := rfl
  have h1 := hi.t0
  have h2 := hi.t1
  have h3 := hi.k0
  have h4 := hi.kn
  have haT : isT (enc a) := isT_of hi.ok.2.1 (by omega)
  have hba := haT.bd
  have hbd := (isT_of hi.ok (by omega)).bd
  have hq := hi.ok.1
  unfold Fit at hq
  dsimp only
  repeat' first
    | refine brE (fun _ _ => ?_) (fun _ _ => ?_)
    | refine brN (fun _ _ => ?_) (fun _ _ => ?_)
    | refine brD (fun _ _ => ?_) (fun _ _ => ?_)
    | refine brP_intro (fun _ => ?_) (fun _ => ?_)
    | refine ck ?_ ?_
    | exact allp0
    | refine allp2 ?_ ?_
  all_goals try first
    | with_reducible rfl
    | exact Exists.intro _ rfl
    | exact tI_nw (by omega) (by omega)
    | exact tB_of (by assumption)
    | exact cnt_n 
    | exact cnt_d _ _ _ _
    | exact cnt_x _ (by first | assumption | omega | (simp; done))
    | exact lns_n 
    | exact lns_d _ _ _ _
    | exact lns_x _ (by first | assumption | omega | (simp; done))
    | exact fl1 _
    | exact fd1 q
    | exact fl1 q
    | (obtain ⟨q1, d1, x1, y1, rfl, J⟩ := sr_l_l hi (by assumption); exact ⟨((q1, d1, x1, y1), u, k), ck (allp2 J (allp2 (by show x1.num + 1 + y1.num + 1 ≤ (x1.num + 1 + y1.num) + 1 + b.num; omega) (allp2 rfl allp0))) rfl⟩)
    | (obtain ⟨q1, d1, x1, y1, rfl, J⟩ := sr_l_r hi (by assumption) (by assumption); exact ⟨((q1, d1, x1, y1), _, _), ck (allp2 J (allp2 (by show x1.num + 1 + y1.num + 1 ≤ a.num + 1 + (x1.num + 1 + y1.num); omega) (allp2 rfl allp0))) rfl⟩)
    | (have J := sr_l_e hi (by assumption) (by assumption); rw [J])
    | ((with_reducible show (_ : Int) ≤ _); omega)
    | ((with_reducible show (_ : Nat) ≤ _); omega)
    | ((with_reducible show (_ : Int) < _); omega)
theorem search_l_w (c : Bool) (x y : Tr) (p : Pc) (t : Int) (R : Int × Int) (hs : SrP lnsF Pc.k R p c x y t 0) : Ck [0, 20, 0, 2, 803] [∃ i : (Pc × Bool × Tr × Tr) × Int × Int, Ck [1, 1] [SrP lnsF Pc.k R i.fst.fst i.fst.snd.fst i.fst.snd.snd.fst i.fst.snd.snd.snd i.snd.fst i.snd.snd, [(0, tF (FV.pt [fI p.s, fI p.o, fI p.n, fI p.k, fB c, enc x, enc y, fI (cntF (enc x) + 1 + cntF (enc y)), fI (sizF (enc x) + p.n + sizF (enc y)), fI (lnsF (enc x) + p.k + lnsF (enc y)), fI (bif c then blkF (enc x) else blkF (enc x) + 1), fI (1 + if hghF (enc y) > hghF (enc x) then hghF (enc y) else hghF (enc x))] 0)), (1, tI t), (2, tC (CV.fn 57 [])), (3, tC (CV.fn 58 [])), (10, tI 0)] = [(0, tF (FV.pt [fI i.fst.fst.s, fI i.fst.fst.o, fI i.fst.fst.n, fI i.fst.fst.k, fB i.fst.snd.fst, enc i.fst.snd.snd.fst, enc i.fst.snd.snd.snd, fI (cntF (enc i.fst.snd.snd.fst) + 1 + cntF (enc i.fst.snd.snd.snd)), fI (sizF (enc i.fst.snd.snd.fst) + i.fst.fst.n + sizF (enc i.fst.snd.snd.snd)), fI (lnsF (enc i.fst.snd.snd.fst) + i.fst.fst.k + lnsF (enc i.fst.snd.snd.snd)), fI (bif i.fst.snd.fst then blkF (enc i.fst.snd.snd.fst) else blkF (enc i.fst.snd.snd.fst) + 1), fI (1 + if hghF (enc i.fst.snd.snd.snd) > hghF (enc i.fst.snd.snd.fst) then hghF (enc i.fst.snd.snd.snd) else hghF (enc i.fst.snd.snd.fst))] 0)), (1, tI i.snd.fst), (2, tC (CV.fn 57 [])), (3, tC (CV.fn 58 [])), (10, tI i.snd.snd)]] (
 ([] : List VO) = [])] (
 ∀ i : (Pc × Bool × Tr × Tr) × Int × Int, ((SrP lnsF Pc.k R i.fst.fst i.fst.snd.fst i.fst.snd.snd.fst i.fst.snd.snd.snd i.snd.fst i.snd.snd) → search_l_b1 c x y p t R hs i)) := by
  repeat' first
    | refine brE (fun _ _ => ?_) (fun _ _ => ?_)
    | refine brN (fun _ _ => ?_) (fun _ _ => ?_)
    | refine brD (fun _ _ => ?_) (fun _ _ => ?_)
    | refine brP_intro (fun _ => ?_) (fun _ => ?_)
    | refine ck ?_ ?_
    | exact allp0
    | refine allp2 ?_ ?_
  all_goals try first
    | with_reducible rfl
    | exact Exists.intro _ rfl
    | exact tI_nw (by omega) (by omega)
    | exact tB_of (by assumption)
    | exact fun i h_ => search_l_b1_ok c x y p t R hs i h_
    | exact ⟨((p, c, x, y), t, 0), ck (allp2 hs (allp2 rfl allp0)) rfl⟩
    | ((with_reducible show (_ : Int) ≤ _); omega)
    | ((with_reducible show (_ : Nat) ≤ _); omega)
    | ((with_reducible show (_ : Int) < _); omega)
theorem search_l (c : Bool) (x y : Tr) (p : Pc) (t : Int) (R : Int × Int) (hs : SrP lnsF Pc.k R p c x y t 0) : VC Try.prog 54 ([tF (mkF c (enc x) p (enc y)), tI t, tC (.fn 57 []), tC (.fn 58 [])]) ([]) (.tp [.c (cI R.1), .c (cI R.2)]) ([]) :=
  vc_wp mixed nonum ⟨cmOf [(2, [(5, .tb (tq_search_l c x y p t R hs) [] none)]), (5, [(2, .nw)]), (6, [(5, .tb (tq_search_l c x y p t R hs) [] none), (6, .nw)]), (7, [(5, .tb (tq_search_l c x y p t R hs) [] none)]), (9, [(2, .nw)]), (10, [(1, .nw)])], spOf [], ghOf [], loOf [(2, .inv [] [0, 1, 2, 3, 10] ⟨(Pc × Bool × Tr × Tr) × Int × Int, fun i => SrP lnsF Pc.k R i.1.1 i.1.2.1 i.1.2.2.1 i.1.2.2.2 i.2.1 i.2.2, fun i => [(0, tF (mkF i.1.2.1 (enc i.1.2.2.1) i.1.1 (enc i.1.2.2.2))), (1, tI i.2.1), (2, tC (.fn 57 [])), (3, tC (.fn 58 [])), (10, tI i.2.2)], fun i => [], fun i => i.1.2.2.1.num + 1 + i.1.2.2.2.num⟩)], []⟩ [] (by kernel_rfl) (search_l_w c x y p t R hs)
theorem fn_rel {P : Program} {K : Kap} {κ : Hp} {β : Bt} {a : FuncId} {v : Value} (h : VR P K κ β (tF (.v (.func (.func a) #[] #[]))) v) : VR P K κ β (tC (.fn a [])) v := by
  cases h with
  | o h => cases h with
    | c h => cases h with
      | dead hx _ _ => cases hx
      | f h => cases h with
        | v _ => exact .o (.c (.fn a .nil))
theorem fn2 {P : Program} {f a b : FuncId} {x y r : TV} {H H' : List VO} (h : VC P f [x, y, tC (.fn a []), tC (.fn b [])] H r H') : VC P f [x, y, tF (.v (.func (.func a) #[] #[])), tF (.v (.func (.func b) #[] #[]))] H r H' :=
  h.arg2 fun w K β vs _ hv => by
    cases hv with
    | cons h1 hv => cases hv with
      | cons h2 hv => cases hv with
        | cons h3 hv => cases hv with
          | cons h4 hv => exact .cons h1 (.cons h2 (.cons (fn_rel h3) (.cons (fn_rel h4) hv)))
noncomputable def tq_tfind_o (x : FV) (t : Int) (hx : isT x) (ho : t < 0 ∨ t ≥ sizF x) : FuncId → List TV → List VO → Option Alt := tabOf [(58, t58_0_SJ), (56, t56_0_SJ), (42, t42_0_SI), (75, t75_0_SB), (69, t69_0_SA), (40, t40_0_SA), (63, t63_0_SA), (68, t68_0_SA), (57, t57_0_SA), (55, t55_0_SA), (44, t44_0_SA)]
theorem tfind_o_w (x : FV) (t : Int) (hx : isT x) (ho : t < 0 ∨ t ≥ sizF x) : Ck [0, 1640, 0] [] (
 brP (decide (t < 0)) (
 Ck [96856337, 0, 182, 0, 1640, 1] [tB (decide (t < 0)) = tB true, TV.tp [T1.c (cI 0), T1.c (cI 0), T1.c (cB false)] = TV.tp [T1.c (cI 0), T1.c (cI 0), T1.c (cB false)]] (
 ([] : List VO) = [])) (
 Ck [98450660] [tB (decide (t < 0)) = tB false, VC Try.prog 22 [tA [CV.f x]] [] (tI (sizF x)) []] (
 brP (decide (t ≥ sizF x)) (
 Ck [0, 182, 0, 1640, 1] [TV.tp [T1.c (cI 0), T1.c (cI 0), T1.c (cB false)] = TV.tp [T1.c (cI 0), T1.c (cI 0), T1.c (cB false)]] (
 ([] : List VO) = [])) (
 Ck [0] [] (
   Stuck [3, 3] [(14, tB (decide (t ≥ sizF x))), (13, tB (decide (t ≥ sizF x))), (12, tI (sizF x)), (11, tA [CV.f x]), (10, tI t), (9, tB false), (8, tB (decide (t < 0))), (7, tI t), (6, tB false), (5, tI 0), (4, tI 0), (2, tC (CV.rp 0 0)), (0, tA [CV.f x]), (1, tI t)] [VO.bx [CV.f x] 35]))))) := by
  repeat' first
    | refine brE (fun _ _ => ?_) (fun _ _ => ?_)
    | refine brN (fun _ _ => ?_) (fun _ _ => ?_)
    | refine brD (fun _ _ => ?_) (fun _ _ => ?_)
    | refine brP_intro (fun _ => ?_) (fun _ => ?_)
    | refine ck ?_ ?_
    | exact allp0
    | refine allp2 ?_ ?_
  all_goals try first
    | with_reducible rfl
    | exact Exists.intro _ rfl
    | exact tI_nw (by omega) (by omega)
    | exact tB_of (by assumption)
    | exact tbyt _ (by first | assumption | omega | (simp; done))
    | (exfalso; omega)
    | ((with_reducible show (_ : Int) ≤ _); omega)
    | ((with_reducible show (_ : Nat) ≤ _); omega)
    | ((with_reducible show (_ : Int) < _); omega)
theorem tfind_o (x : FV) (t : Int) (hx : isT x) (ho : t < 0 ∨ t ≥ sizF x) : VC Try.prog 20 ([tT x, tI t]) ([]) (.tp [.c (cI 0), .c (cI 0), .c (cB false)]) ([]) :=
  vc_wp mixed nonum ⟨cmOf [(1, [(5, .tb (fun g xs H => some (.one (tI (sizF x)) H)) [] none)]), (3, [(3, .tb (tq_tfind_o x t hx ho) [] none)])], spOf [(1, [2])], ghOf [], loOf [], []⟩ [] (by kernel_rfl) (tfind_o_w x t hx ho)
theorem tfind_w (x : FV) (t : Int) (R : Int × Int) (hx : isT x) (h0 : 0 ≤ t) (h1 : t < sizF x) (h : VC Try.prog 54 [tF x, tI t, tC (.fn 55 []), tC (.fn 56 [])] [] (.tp [.c (cI R.1), .c (cI R.2)]) []) : Ck [0, 1640, 0] [] (
 brP (decide (t < 0)) (
 Ck [96856337, 0, 182, 0, 1640, 1] [tB (decide (t < 0)) = tB true, TV.tp [T1.c (cI 0), T1.c (cI 0), T1.c (cB false)] = TV.tp [T1.c (cI R.fst), T1.c (cI R.snd), T1.c (cB true)]] (
 ([] : List VO) = [])) (
 Ck [98450660] [tB (decide (t < 0)) = tB false, VC Try.prog 22 [tA [CV.f x]] [] (tI (sizF x)) []] (
 brP (decide (t ≥ sizF x)) (
 Ck [0, 182, 0, 1640, 1] [TV.tp [T1.c (cI 0), T1.c (cI 0), T1.c (cB false)] = TV.tp [T1.c (cI R.fst), T1.c (cI R.snd), T1.c (cB true)]] (
 ([] : List VO) = [])) (
 Ck [0, 96857309, 0, 14762, 0, 1640, 1] [VC Try.prog 54 [tF x, tI t, tF (FV.v (Value.func (Fn.func 55) #[] #[])), tF (FV.v (Value.func (Fn.func 56) #[] #[]))] [] (TV.tp [T1.c (cI R.fst), T1.c (cI R.snd)]) [], TV.tp [T1.c (cI R.fst), T1.c (cI R.snd), T1.c (cB true)] = TV.tp [T1.c (cI R.fst), T1.c (cI R.snd), T1.c (cB true)]] (
 ([] : List VO) = []))))) := by
  repeat' first
    | refine brE (fun _ _ => ?_) (fun _ _ => ?_)
    | refine brN (fun _ _ => ?_) (fun _ _ => ?_)
    | refine brD (fun _ _ => ?_) (fun _ _ => ?_)
    | refine brP_intro (fun _ => ?_) (fun _ => ?_)
    | refine ck ?_ ?_
    | exact allp0
    | refine allp2 ?_ ?_
  all_goals try first
    | with_reducible rfl
    | exact Exists.intro _ rfl
    | exact tI_nw (by omega) (by omega)
    | exact tB_of (by assumption)
    | exact tbyt _ (by first | assumption | omega | (simp; done))
    | exact search_s _ _ _ _ _ _ (by first | assumption | omega | (simp; done))
    | exact search_l _ _ _ _ _ _ (by first | assumption | omega | (simp; done))
    | (exfalso; omega)
    | exact fn2 h
    | ((with_reducible show (_ : Int) ≤ _); omega)
    | ((with_reducible show (_ : Nat) ≤ _); omega)
    | ((with_reducible show (_ : Int) < _); omega)
theorem tfind (x : FV) (t : Int) (R : Int × Int) (hx : isT x) (h0 : 0 ≤ t) (h1 : t < sizF x) (h : VC Try.prog 54 [tF x, tI t, tC (.fn 55 []), tC (.fn 56 [])] [] (.tp [.c (cI R.1), .c (cI R.2)]) []) : VC Try.prog 20 ([tT x, tI t]) ([]) (.tp [.c (cI R.1), .c (cI R.2), .c (cB true)]) ([]) :=
  vc_wp mixed nonum ⟨cmOf [(1, [(5, .tb (fun g xs H => some (.one (tI (sizF x)) H)) [] none)]), (3, [(3, .tb (fun g xs H => some (.one (.tp [.c (.f (.v (.int .i64 R.1))), .c (.f (.v (.int .i64 R.2)))]) H)) [] none)])], spOf [(1, [2])], ghOf [], loOf [], []⟩ [] (by kernel_rfl) (tfind_w x t R hx h0 h1 h)
noncomputable def tq_tfline_o (x : FV) (t : Int) (hx : isT x) (ho : t < 0 ∨ t ≥ lnsF x) : FuncId → List TV → List VO → Option Alt := tabOf [(58, t58_0_SJ), (56, t56_0_SJ), (42, t42_0_SI), (75, t75_0_SB), (69, t69_0_SA), (40, t40_0_SA), (63, t63_0_SA), (68, t68_0_SA), (57, t57_0_SA), (55, t55_0_SA), (44, t44_0_SA)]
theorem tfline_o_w (x : FV) (t : Int) (hx : isT x) (ho : t < 0 ∨ t ≥ lnsF x) : Ck [0, 1640, 0] [] (
 brP (decide (t < 0)) (
 Ck [96856337, 0, 182, 0, 1640, 1] [tB (decide (t < 0)) = tB true, TV.tp [T1.c (cI 0), T1.c (cI 0), T1.c (cB false)] = TV.tp [T1.c (cI 0), T1.c (cI 0), T1.c (cB false)]] (
 ([] : List VO) = [])) (
 Ck [98450660] [tB (decide (t < 0)) = tB false, VC Try.prog 23 [tA [CV.f x]] [] (tI (lnsF x)) []] (
 brP (decide (t ≥ lnsF x)) (
 Ck [0, 182, 0, 1640, 1] [TV.tp [T1.c (cI 0), T1.c (cI 0), T1.c (cB false)] = TV.tp [T1.c (cI 0), T1.c (cI 0), T1.c (cB false)]] (
 ([] : List VO) = [])) (
 Ck [0] [] (
   Stuck [3, 3] [(14, tB (decide (t ≥ lnsF x))), (13, tB (decide (t ≥ lnsF x))), (12, tI (lnsF x)), (11, tA [CV.f x]), (10, tI t), (9, tB false), (8, tB (decide (t < 0))), (7, tI t), (6, tB false), (5, tI 0), (4, tI 0), (2, tC (CV.rp 0 0)), (0, tA [CV.f x]), (1, tI t)] [VO.bx [CV.f x] 35]))))) := by
  repeat' first
    | refine brE (fun _ _ => ?_) (fun _ _ => ?_)
    | refine brN (fun _ _ => ?_) (fun _ _ => ?_)
    | refine brD (fun _ _ => ?_) (fun _ _ => ?_)
    | refine brP_intro (fun _ => ?_) (fun _ => ?_)
    | refine ck ?_ ?_
    | exact allp0
    | refine allp2 ?_ ?_
  all_goals try first
    | with_reducible rfl
    | exact Exists.intro _ rfl
    | exact tI_nw (by omega) (by omega)
    | exact tB_of (by assumption)
    | exact tlin _ (by first | assumption | omega | (simp; done))
    | (exfalso; omega)
    | ((with_reducible show (_ : Int) ≤ _); omega)
    | ((with_reducible show (_ : Nat) ≤ _); omega)
    | ((with_reducible show (_ : Int) < _); omega)
theorem tfline_o (x : FV) (t : Int) (hx : isT x) (ho : t < 0 ∨ t ≥ lnsF x) : VC Try.prog 21 ([tT x, tI t]) ([]) (.tp [.c (cI 0), .c (cI 0), .c (cB false)]) ([]) :=
  vc_wp mixed nonum ⟨cmOf [(1, [(5, .tb (fun g xs H => some (.one (tI (lnsF x)) H)) [] none)]), (3, [(3, .tb (tq_tfline_o x t hx ho) [] none)])], spOf [(1, [2])], ghOf [], loOf [], []⟩ [] (by kernel_rfl) (tfline_o_w x t hx ho)
theorem tfline_w (x : FV) (t : Int) (R : Int × Int) (hx : isT x) (h0 : 0 ≤ t) (h1 : t < lnsF x) (h : VC Try.prog 54 [tF x, tI t, tC (.fn 57 []), tC (.fn 58 [])] [] (.tp [.c (cI R.1), .c (cI R.2)]) []) : Ck [0, 1640, 0] [] (
 brP (decide (t < 0)) (
 Ck [96856337, 0, 182, 0, 1640, 1] [tB (decide (t < 0)) = tB true, TV.tp [T1.c (cI 0), T1.c (cI 0), T1.c (cB false)] = TV.tp [T1.c (cI R.fst), T1.c (cI R.snd), T1.c (cB true)]] (
 ([] : List VO) = [])) (
 Ck [98450660] [tB (decide (t < 0)) = tB false, VC Try.prog 23 [tA [CV.f x]] [] (tI (lnsF x)) []] (
 brP (decide (t ≥ lnsF x)) (
 Ck [0, 182, 0, 1640, 1] [TV.tp [T1.c (cI 0), T1.c (cI 0), T1.c (cB false)] = TV.tp [T1.c (cI R.fst), T1.c (cI R.snd), T1.c (cB true)]] (
 ([] : List VO) = [])) (
 Ck [0, 96857309, 0, 14762, 0, 1640, 1] [VC Try.prog 54 [tF x, tI t, tF (FV.v (Value.func (Fn.func 57) #[] #[])), tF (FV.v (Value.func (Fn.func 58) #[] #[]))] [] (TV.tp [T1.c (cI R.fst), T1.c (cI R.snd)]) [], TV.tp [T1.c (cI R.fst), T1.c (cI R.snd), T1.c (cB true)] = TV.tp [T1.c (cI R.fst), T1.c (cI R.snd), T1.c (cB true)]] (
 ([] : List VO) = []))))) := by
  repeat' first
    | refine brE (fun _ _ => ?_) (fun _ _ => ?_)
    | refine brN (fun _ _ => ?_) (fun _ _ => ?_)
    | refine brD (fun _ _ => ?_) (fun _ _ => ?_)
    | refine brP_intro (fun _ => ?_) (fun _ => ?_)
    | refine ck ?_ ?_
    | exact allp0
    | refine allp2 ?_ ?_
  all_goals try first
    | with_reducible rfl
    | exact Exists.intro _ rfl
    | exact tI_nw (by omega) (by omega)
    | exact tB_of (by assumption)
    | exact tlin _ (by first | assumption | omega | (simp; done))
    | exact search_s _ _ _ _ _ _ (by first | assumption | omega | (simp; done))
    | exact search_l _ _ _ _ _ _ (by first | assumption | omega | (simp; done))
    | (exfalso; omega)
    | exact fn2 h
    | ((with_reducible show (_ : Int) ≤ _); omega)
    | ((with_reducible show (_ : Nat) ≤ _); omega)
    | ((with_reducible show (_ : Int) < _); omega)
theorem tfline (x : FV) (t : Int) (R : Int × Int) (hx : isT x) (h0 : 0 ≤ t) (h1 : t < lnsF x) (h : VC Try.prog 54 [tF x, tI t, tC (.fn 57 []), tC (.fn 58 [])] [] (.tp [.c (cI R.1), .c (cI R.2)]) []) : VC Try.prog 21 ([tT x, tI t]) ([]) (.tp [.c (cI R.1), .c (cI R.2), .c (cB true)]) ([]) :=
  vc_wp mixed nonum ⟨cmOf [(1, [(5, .tb (fun g xs H => some (.one (tI (lnsF x)) H)) [] none)]), (3, [(3, .tb (fun g xs H => some (.one (.tp [.c (.f (.v (.int .i64 R.1))), .c (.f (.v (.int .i64 R.2)))]) H)) [] none)])], spOf [(1, [2])], ghOf [], loOf [], []⟩ [] (by kernel_rfl) (tfline_w x t R hx h0 h1 h)
end Go.Proofs.Ytpjlgjhkdligfaa.Vg
