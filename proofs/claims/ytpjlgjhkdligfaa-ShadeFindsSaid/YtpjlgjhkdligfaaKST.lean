/- Get and Before; the law ShadeFinds. No condition. -/
import Derived.Test.YtpjlgjhkdligfaaKSP
namespace Go.Proofs.Ytpjlgjhkdligfaa.Vg
open Go.RowKit
set_option maxRecDepth 100000
set_option maxHeartbeats 8000000
set_option linter.unusedVariables false
set_option linter.unusedSimpArgs false
def getS : Tr → Int → Pc
  | .nil, _ => ⟨0, 0, 0, 0⟩
  | .nd p c a b, i => bif decide (i < cntF (enc a)) then getS a i else bif decide (i > cntF (enc a)) then getS b (i - cntF (enc a) - 1) else p
structure GeP (R : Pc) (p : Pc) (c : Bool) (a b : Tr) (t : Int) : Prop where
  ok : (Tr.nd p c a b).Ok
  n : (Tr.nd p c a b).num ≤ 1073741824
  t0 : 0 ≤ t
  t1 : t < cntF (enc (.nd p c a b))
  eq : getS (.nd p c a b) t = R
theorem ge_l {R : Pc} {p : Pc} {c : Bool} {a b : Tr} {t : Int} (h : GeP R p c a b t) (hl : t < cntF (enc a)) : ∃ q d x y, a = .nd q d x y ∧ GeP R q d x y t := by
  have hn := h.n
  have e0 : (Tr.nd p c a b).num = a.num + 1 + b.num := rfl
  cases a with
  | nil => exact absurd hl (by have := h.t0; show ¬ t < 0; omega)
  | nd q d x y =>
    refine ⟨q, d, x, y, rfl, h.ok.2.1, by omega, h.t0, hl, ?_⟩
    have e := h.eq
    rw [getS, decide_eq_true hl, cond_true] at e
    exact e
theorem ge_r {R : Pc} {p : Pc} {c : Bool} {a b : Tr} {t : Int} (h : GeP R p c a b t) (hl : ¬ t < cntF (enc a)) (hr : t > cntF (enc a)) : ∃ q d x y, b = .nd q d x y ∧ GeP R q d x y (t - cntF (enc a) - 1) := by
  have hn := h.n
  have ht := h.t1
  have e0 : (Tr.nd p c a b).num = a.num + 1 + b.num := rfl
  have e1 : cntF (enc (.nd p c a b)) = cntF (enc a) + 1 + cntF (enc b) := rfl
  rw [e1] at ht
  cases b with
  | nil =>
    have : cntF (enc .nil) = 0 := rfl
    omega
  | nd q d x y =>
    refine ⟨q, d, x, y, rfl, h.ok.2.2, by omega, by omega, by omega, ?_⟩
    have e := h.eq
    rw [getS, decide_eq_false hl, cond_false, decide_eq_true hr, cond_true] at e
    exact e
theorem ge_e {R : Pc} {p : Pc} {c : Bool} {a b : Tr} {t : Int} (h : GeP R p c a b t) (hl : ¬ t < cntF (enc a)) (hr : ¬ t > cntF (enc a)) : p = R := by
  have e := h.eq
  rw [getS, decide_eq_false hl, cond_false, decide_eq_false hr, cond_false] at e
  exact e
noncomputable def tq_tgetp_o (x : FV) (i : Int) (hx : isT x) (ho : i < 0 ∨ i ≥ cntF x) : FuncId → List TV → List VO → Option Alt := tabOf [(58, t58_0_SJ), (56, t56_0_SJ), (42, t42_0_SI), (75, t75_0_SB), (69, t69_0_SA), (40, t40_0_SA), (63, t63_0_SA), (68, t68_0_SA), (57, t57_0_SA), (55, t55_0_SA), (44, t44_0_SA)]
theorem tgetp_o_w (x : FV) (i : Int) (hx : isT x) (ho : i < 0 ∨ i ≥ cntF x) : Ck [0, 182, 0, 16706, 0, 182, 0, 182, 1] [VC Try.prog 48 [tA [CV.f x], tI i] [] (tB false) [], tB false = tB false, TV.tp [T1.ag [cI 0, cI 0, cI 0, cI 0], T1.c (cI 20)] = TV.tp [T1.ag [cI 0, cI 0, cI 0, cI 0], T1.c (cI 20)]] (
 ([] : List VO) = []) := by
  have hq : VC Try.prog 48 [tT x, tI i] [] (tB false) [] := by
    have h := has x i hx
    have e : (decide (0 ≤ i) && decide (i < cntF x)) = false := by
      rw [Bool.and_eq_false_iff]
      rcases ho with h | h
      · exact .inl (decide_eq_false (by omega))
      · exact .inr (decide_eq_false (by omega))
    rwa [e] at h
  repeat' first
    | refine brE (fun _ _ => ?_) (fun _ _ => ?_)
    | refine brN (fun _ _ => ?_) (fun _ _ => ?_)
    | refine brD (fun _ _ => ?_) (fun _ _ => ?_)
    | refine brP_intro (fun _ => ?_) (fun _ => ?_)
    | refine ck ?_ ?_
    | exact allp0
    | refine allp2 ?_ ?_
  all_goals try first
    | with_reducible rfl
    | exact Exists.intro _ rfl
    | exact tI_nw (by omega) (by omega)
    | exact tB_of (by assumption)
    | exact has _ _ (by first | assumption | omega | (simp; done))
    | exact hq
    | (exfalso; omega)
    | ((with_reducible show (_ : Int) ≤ _); omega)
    | ((with_reducible show (_ : Nat) ≤ _); omega)
    | ((with_reducible show (_ : Int) < _); omega)
theorem tgetp_o (x : FV) (i : Int) (hx : isT x) (ho : i < 0 ∨ i ≥ cntF x) : VC Try.prog 17 ([tT x, tI i]) ([]) (.tp [.ag (Pc.cs ⟨0, 0, 0, 0⟩), .c (cI 20)]) ([]) :=
  vc_wp mixed nonum ⟨cmOf [(1, [(2, .tb (fun g xs H => some (.one (tB false) H)) [] none)]), (4, [(4, .tb (tq_tgetp_o x i hx ho) [] none)]), (9, [(6, .nw), (7, .nw)])], spOf [(1, [2])], ghOf [], loOf [(4, .un 0 [1, 4, 6])], []⟩ [] (by kernel_rfl) (tgetp_o_w x i hx ho)
noncomputable def tq_tgetp (c : Bool) (x y : Tr) (p : Pc) (t : Int) (R : Pc) (hs : GeP R p c x y t) : FuncId → List TV → List VO → Option Alt := tabOf [(58, t58_0_SJ), (56, t56_0_SJ), (42, t42_0_SI), (75, t75_0_SB), (69, t69_0_SA), (40, t40_0_SA), (63, t63_0_SA), (68, t68_0_SA), (57, t57_0_SA), (55, t55_0_SA), (44, t44_0_SA)]
def tgetp_b1 (c : Bool) (x y : Tr) (p : Pc) (t : Int) (R : Pc) (hs : GeP R p c x y t) (i : (Pc × Bool × Tr × Tr) × Int) : Prop :=
 Ck [0, 152543, 0, 1640] [VC Try.prog 44 [tF (enc i.fst.snd.snd.fst)] [] (tI (cntF (enc i.fst.snd.snd.fst))) []] (
 brP (decide (i.snd < cntF (enc i.fst.snd.snd.fst))) (
 Ck [0, 14762, 2] [] (
 ∃ j : (Pc × Bool × Tr × Tr) × Int, Ck [1, 1, 1] [GeP R j.fst.fst j.fst.snd.fst j.fst.snd.snd.fst j.fst.snd.snd.snd j.snd, (j.fst.snd.snd.fst.num + 1 + j.fst.snd.snd.snd.num).succ ≤ i.fst.snd.snd.fst.num + 1 + i.fst.snd.snd.snd.num, [(1, tI i.snd), (4, tC (CV.rp 0 0)), (6, tF (enc i.fst.snd.snd.fst))] = [(1, tI j.snd), (4, tC (CV.rp 0 0)), (6, tF (FV.pt [fI j.fst.fst.s, fI j.fst.fst.o, fI j.fst.fst.n, fI j.fst.fst.k, fB j.fst.snd.fst, enc j.fst.snd.snd.fst, enc j.fst.snd.snd.snd, fI (cntF (enc j.fst.snd.snd.fst) + 1 + cntF (enc j.fst.snd.snd.snd)), fI (sizF (enc j.fst.snd.snd.fst) + j.fst.fst.n + sizF (enc j.fst.snd.snd.snd)), fI (lnsF (enc j.fst.snd.snd.fst) + j.fst.fst.k + lnsF (enc j.fst.snd.snd.snd)), fI (bif j.fst.snd.fst then blkF (enc j.fst.snd.snd.fst) else blkF (enc j.fst.snd.snd.fst) + 1), fI (1 + if hghF (enc j.fst.snd.snd.snd) > hghF (enc j.fst.snd.snd.fst) then hghF (enc j.fst.snd.snd.snd) else hghF (enc j.fst.snd.snd.fst))] 0))]] (
 ([VO.bx [cI 0, cI 0, cI 0, cI 0] 32] : List VO) = [VO.bx [cI 0, cI 0, cI 0, cI 0] 32]))) (
 Ck [0, 1640] [] (
 brP (decide (i.snd > cntF (enc i.fst.snd.snd.fst))) (
 Ck [0, 71261056550, 2] [tI (IntKind.i64.wrap (i.snd - cntF (enc i.fst.snd.snd.fst))) = tI (i.snd - cntF (enc i.fst.snd.snd.fst)), tI (IntKind.i64.wrap (i.snd - cntF (enc i.fst.snd.snd.fst) - 1)) = tI (i.snd - cntF (enc i.fst.snd.snd.fst) - 1)] (
 ∃ j : (Pc × Bool × Tr × Tr) × Int, Ck [1, 1, 1] [GeP R j.fst.fst j.fst.snd.fst j.fst.snd.snd.fst j.fst.snd.snd.snd j.snd, (j.fst.snd.snd.fst.num + 1 + j.fst.snd.snd.snd.num).succ ≤ i.fst.snd.snd.fst.num + 1 + i.fst.snd.snd.snd.num, [(1, tI (i.snd - cntF (enc i.fst.snd.snd.fst) - 1)), (4, tC (CV.rp 0 0)), (6, tF (enc i.fst.snd.snd.snd))] = [(1, tI j.snd), (4, tC (CV.rp 0 0)), (6, tF (FV.pt [fI j.fst.fst.s, fI j.fst.fst.o, fI j.fst.fst.n, fI j.fst.fst.k, fB j.fst.snd.fst, enc j.fst.snd.snd.fst, enc j.fst.snd.snd.snd, fI (cntF (enc j.fst.snd.snd.fst) + 1 + cntF (enc j.fst.snd.snd.snd)), fI (sizF (enc j.fst.snd.snd.fst) + j.fst.fst.n + sizF (enc j.fst.snd.snd.snd)), fI (lnsF (enc j.fst.snd.snd.fst) + j.fst.fst.k + lnsF (enc j.fst.snd.snd.snd)), fI (bif j.fst.snd.fst then blkF (enc j.fst.snd.snd.fst) else blkF (enc j.fst.snd.snd.fst) + 1), fI (1 + if hghF (enc j.fst.snd.snd.snd) > hghF (enc j.fst.snd.snd.fst) then hghF (enc j.fst.snd.snd.snd) else hghF (enc j.fst.snd.snd.fst))] 0))]] (
 ([VO.bx [cI 0, cI 0, cI 0, cI 0] 32] : List VO) = [VO.bx [cI 0, cI 0, cI 0, cI 0] 32]))) (
 Ck [0, 132860, 0, 182, 1] [TV.tp [T1.ag [cI i.fst.fst.s, cI i.fst.fst.o, cI i.fst.fst.n, cI i.fst.fst.k], T1.c (cI 0)] = TV.tp [T1.ag [cI R.s, cI R.o, cI R.n, cI R.k], T1.c (cI 0)]] (
 ([] : List VO) = [])))))
theorem tgetp_b1_ok (c : Bool) (x y : Tr) (p : Pc) (t : Int) (R : Pc) (hs : GeP R p c x y t) (i : (Pc × Bool × Tr × Tr) × Int) (hi : GeP R i.fst.fst i.fst.snd.fst i.fst.snd.snd.fst i.fst.snd.snd.snd i.snd) : tgetp_b1 c x y p t R hs i := by
  unfold tgetp_b1
  obtain ⟨⟨q, d, a, b⟩, u⟩ := i
  have hi : GeP R q d a b u := hi
  have en : (Tr.nd q d a b).num = a.num + 1 + b.num := rfl
  have h1 := hi.t0
  have h2 := hi.t1
  have h4 := hi.n
  have haT : isT (enc a) := isT_of hi.ok.2.1 (by omega)
  have hba := haT.bd
  have hbd := (isT_of hi.ok (by omega)).bd
  dsimp only
  repeat' first
    | refine brE (fun _ _ => ?_) (fun _ _ => ?_)
    | refine brN (fun _ _ => ?_) (fun _ _ => ?_)
    | refine brD (fun _ _ => ?_) (fun _ _ => ?_)
    | refine brP_intro (fun _ => ?_) (fun _ => ?_)
    | refine ck ?_ ?_
    | exact allp0
    | refine allp2 ?_ ?_
  all_goals try first
    | with_reducible rfl
    | exact Exists.intro _ rfl
    | exact tI_nw (by omega) (by omega)
    | exact tB_of (by assumption)
    | exact cnt_n 
    | exact cnt_d _ _ _ _
    | exact cnt_x _ (by first | assumption | omega | (simp; done))
    | exact cnt_x _ haT
    | (obtain ⟨q1, d1, x1, y1, rfl, J⟩ := ge_l hi (by assumption); exact ⟨((q1, d1, x1, y1), u), ck (allp2 J (allp2 (by show x1.num + 1 + y1.num + 1 ≤ (x1.num + 1 + y1.num) + 1 + b.num; omega) (allp2 rfl allp0))) rfl⟩)
    | (obtain ⟨q1, d1, x1, y1, rfl, J⟩ := ge_r hi (by assumption) (by assumption); exact ⟨((q1, d1, x1, y1), _), ck (allp2 J (allp2 (by show x1.num + 1 + y1.num + 1 ≤ a.num + 1 + (x1.num + 1 + y1.num); omega) (allp2 rfl allp0))) rfl⟩)
    | (have J := ge_e hi (by assumption) (by assumption); subst J; rfl)
    | ((with_reducible show (_ : Int) ≤ _); omega)
    | ((with_reducible show (_ : Nat) ≤ _); omega)
    | ((with_reducible show (_ : Int) < _); omega)
theorem tgetp_w (c : Bool) (x y : Tr) (p : Pc) (t : Int) (R : Pc) (hs : GeP R p c x y t) : Ck [0, 182, 0, 16706, 0, 182, 803] [VC Try.prog 48 [tA [CV.f (FV.pt [fI p.s, fI p.o, fI p.n, fI p.k, fB c, enc x, enc y, fI (cntF (enc x) + 1 + cntF (enc y)), fI (sizF (enc x) + p.n + sizF (enc y)), fI (lnsF (enc x) + p.k + lnsF (enc y)), fI (bif c then blkF (enc x) else blkF (enc x) + 1), fI (1 + if hghF (enc y) > hghF (enc x) then hghF (enc y) else hghF (enc x))] 0)], tI t] [] (tB true) [], tB true = tB true, ∃ i : (Pc × Bool × Tr × Tr) × Int, Ck [1, 1] [GeP R i.fst.fst i.fst.snd.fst i.fst.snd.snd.fst i.fst.snd.snd.snd i.snd, [(1, tI t), (4, tC (CV.rp 0 0)), (6, tF (FV.pt [fI p.s, fI p.o, fI p.n, fI p.k, fB c, enc x, enc y, fI (cntF (enc x) + 1 + cntF (enc y)), fI (sizF (enc x) + p.n + sizF (enc y)), fI (lnsF (enc x) + p.k + lnsF (enc y)), fI (bif c then blkF (enc x) else blkF (enc x) + 1), fI (1 + if hghF (enc y) > hghF (enc x) then hghF (enc y) else hghF (enc x))] 0))] = [(1, tI i.snd), (4, tC (CV.rp 0 0)), (6, tF (FV.pt [fI i.fst.fst.s, fI i.fst.fst.o, fI i.fst.fst.n, fI i.fst.fst.k, fB i.fst.snd.fst, enc i.fst.snd.snd.fst, enc i.fst.snd.snd.snd, fI (cntF (enc i.fst.snd.snd.fst) + 1 + cntF (enc i.fst.snd.snd.snd)), fI (sizF (enc i.fst.snd.snd.fst) + i.fst.fst.n + sizF (enc i.fst.snd.snd.snd)), fI (lnsF (enc i.fst.snd.snd.fst) + i.fst.fst.k + lnsF (enc i.fst.snd.snd.snd)), fI (bif i.fst.snd.fst then blkF (enc i.fst.snd.snd.fst) else blkF (enc i.fst.snd.snd.fst) + 1), fI (1 + if hghF (enc i.fst.snd.snd.snd) > hghF (enc i.fst.snd.snd.fst) then hghF (enc i.fst.snd.snd.snd) else hghF (enc i.fst.snd.snd.fst))] 0))]] (
 ([VO.bx [cI 0, cI 0, cI 0, cI 0] 32] : List VO) = [VO.bx [cI 0, cI 0, cI 0, cI 0] 32])] (
 ∀ i : (Pc × Bool × Tr × Tr) × Int, ((GeP R i.fst.fst i.fst.snd.fst i.fst.snd.snd.fst i.fst.snd.snd.snd i.snd) → tgetp_b1 c x y p t R hs i)) := by
  have hq : VC Try.prog 48 [tT (mkF c (enc x) p (enc y)), tI t] [] (tB true) [] := by
    have h := has (mkF c (enc x) p (enc y)) t (isT_nd hs.ok hs.n)
    have h1 := hs.t1
    have h1 : t < cntF (mkF c (enc x) p (enc y)) := h1
    rwa [decide_eq_true hs.t0, decide_eq_true h1] at h
  repeat' first
    | refine brE (fun _ _ => ?_) (fun _ _ => ?_)
    | refine brN (fun _ _ => ?_) (fun _ _ => ?_)
    | refine brD (fun _ _ => ?_) (fun _ _ => ?_)
    | refine brP_intro (fun _ => ?_) (fun _ => ?_)
    | refine ck ?_ ?_
    | exact allp0
    | refine allp2 ?_ ?_
  all_goals try first
    | with_reducible rfl
    | exact Exists.intro _ rfl
    | exact tI_nw (by omega) (by omega)
    | exact tB_of (by assumption)
    | exact fun i h_ => tgetp_b1_ok c x y p t R hs i h_
    | exact has _ _ (by first | assumption | omega | (simp; done))
    | exact hq
    | exact ⟨((p, c, x, y), t), ck (allp2 hs (allp2 rfl allp0)) rfl⟩
    | ((with_reducible show (_ : Int) ≤ _); omega)
    | ((with_reducible show (_ : Nat) ≤ _); omega)
    | ((with_reducible show (_ : Int) < _); omega)
theorem tgetp (c : Bool) (x y : Tr) (p : Pc) (t : Int) (R : Pc) (hs : GeP R p c x y t) : VC Try.prog 17 ([tT (mkF c (enc x) p (enc y)), tI t]) ([]) (.tp [.ag R.cs, .c (cI 0)]) ([]) :=
  vc_wp mixed nonum ⟨cmOf [(1, [(2, .tb (fun g xs H => some (.one (tB true) H)) [] none)]), (4, [(4, .tb (tq_tgetp c x y p t R hs) [] none)]), (9, [(6, .nw), (7, .nw)])], spOf [(1, [2])], ghOf [], loOf [(4, .inv [] [1, 4, 6] ⟨(Pc × Bool × Tr × Tr) × Int, fun i => GeP R i.1.1 i.1.2.1 i.1.2.2.1 i.1.2.2.2 i.2, fun i => [(1, tI i.2), (4, tC (.rp 0 0)), (6, tF (mkF i.1.2.1 (enc i.1.2.2.1) i.1.1 (enc i.1.2.2.2)))], fun i => [.bx (Pc.cs ⟨0, 0, 0, 0⟩) 32], fun i => i.1.2.2.1.num + 1 + i.1.2.2.2.num⟩)], []⟩ [] (by kernel_rfl) (tgetp_w c x y p t R hs)
def befS : Tr → Int → Int → Int → Int × Int
  | .nil, _, b, l => (b, l)
  | .nd p c x y, i, b, l => bif decide (i ≤ cntF (enc x)) then befS x i b l else befS y (i - cntF (enc x) - 1) (b + (sizF (enc x) + p.n)) (l + (lnsF (enc x) + p.k))
structure BeP (R : Int × Int) (t : Tr) (i b l : Int) : Prop where
  ok : t.Ok
  n : t.num ≤ 1073741824
  i0 : 0 ≤ i
  i1 : i ≤ cntF (enc t)
  b0 : 0 ≤ b
  b1 : b + sizF (enc t) ≤ 2305843008139952128
  l0 : 0 ≤ l
  l1 : l + lnsF (enc t) ≤ 2305843008139952128
  eq : befS t i b l = R
theorem be_l {R : Int × Int} {p : Pc} {c : Bool} {x y : Tr} {i b l : Int} (h : BeP R (.nd p c x y) i b l) (hl : i ≤ cntF (enc x)) : BeP R x i b l := by
  have hn := h.n
  have e0 : (Tr.nd p c x y).num = x.num + 1 + y.num := rfl
  have e1 : sizF (enc (.nd p c x y)) = sizF (enc x) + p.n + sizF (enc y) := rfl
  have e2 : lnsF (enc (.nd p c x y)) = lnsF (enc x) + p.k + lnsF (enc y) := rfl
  obtain ⟨a1, a2, a3, a4, a5, a6, a7, a8, a9⟩ := sums_t h.ok.2.2
  obtain ⟨p1, p2, p3, p4⟩ := h.ok.1
  have g1 := h.b1
  have g2 := h.l1
  have e := h.eq
  rw [befS, decide_eq_true hl, cond_true] at e
  exact ⟨h.ok.2.1, by omega, h.i0, hl, h.b0, by omega, h.l0, by omega, e⟩
theorem be_r {R : Int × Int} {p : Pc} {c : Bool} {x y : Tr} {i b l : Int} (h : BeP R (.nd p c x y) i b l) (hl : ¬ i ≤ cntF (enc x)) : BeP R y (i - cntF (enc x) - 1) (b + (sizF (enc x) + p.n)) (l + (lnsF (enc x) + p.k)) := by
  have hn := h.n
  have e0 : (Tr.nd p c x y).num = x.num + 1 + y.num := rfl
  have e1 : sizF (enc (.nd p c x y)) = sizF (enc x) + p.n + sizF (enc y) := rfl
  have e2 : lnsF (enc (.nd p c x y)) = lnsF (enc x) + p.k + lnsF (enc y) := rfl
  have e3 : cntF (enc (.nd p c x y)) = cntF (enc x) + 1 + cntF (enc y) := rfl
  obtain ⟨a1, a2, a3, a4, a5, a6, a7, a8, a9⟩ := sums_t h.ok.2.1
  obtain ⟨p1, p2, p3, p4⟩ := h.ok.1
  have g1 := h.b1
  have g2 := h.l1
  have g3 := h.i1
  have g4 := h.b0
  have g5 := h.l0
  have e := h.eq
  rw [befS, decide_eq_false hl, cond_false] at e
  exact ⟨h.ok.2.2, by omega, by omega, by omega, by omega, by omega, by omega, by omega, e⟩
noncomputable def tq_tbef_o (x : FV) (i : Int) (hx : isT x) (ho : i < 0 ∨ i > cntF x) : FuncId → List TV → List VO → Option Alt := tabOf [(58, t58_0_SJ), (56, t56_0_SJ), (42, t42_0_SI), (75, t75_0_SB), (69, t69_0_SA), (40, t40_0_SA), (63, t63_0_SA), (68, t68_0_SA), (57, t57_0_SA), (55, t55_0_SA), (44, t44_0_SA)]
theorem tbef_o_w (x : FV) (i : Int) (hx : isT x) (ho : i < 0 ∨ i > cntF x) : Ck [0, 1640, 0] [] (
 brP (decide (i < 0)) (
 Ck [96856337, 0, 182, 0, 1640, 1] [tB (decide (i < 0)) = tB true, TV.tp [T1.c (cI 0), T1.c (cI 0), T1.c (cI 20)] = TV.tp [T1.c (cI 0), T1.c (cI 0), T1.c (cI 20)]] (
 ([] : List VO) = [])) (
 Ck [98450660] [tB (decide (i < 0)) = tB false, VC Try.prog 13 [tA [CV.f x]] [] (tI (cntF x)) []] (
 brP (decide (i > cntF x)) (
 Ck [0, 182, 0, 1640, 1] [TV.tp [T1.c (cI 0), T1.c (cI 0), T1.c (cI 20)] = TV.tp [T1.c (cI 0), T1.c (cI 0), T1.c (cI 20)]] (
 ([] : List VO) = [])) (
 Ck [0, 182, 2] [] (
   Stuck [4, 956] [(1, tI i), (4, tI 0), (5, tI 0), (7, tF x)] []))))) := by
  repeat' first
    | refine brE (fun _ _ => ?_) (fun _ _ => ?_)
    | refine brN (fun _ _ => ?_) (fun _ _ => ?_)
    | refine brD (fun _ _ => ?_) (fun _ _ => ?_)
    | refine brP_intro (fun _ => ?_) (fun _ => ?_)
    | refine ck ?_ ?_
    | exact allp0
    | refine allp2 ?_ ?_
  all_goals try first
    | with_reducible rfl
    | exact Exists.intro _ rfl
    | exact tI_nw (by omega) (by omega)
    | exact tB_of (by assumption)
    | exact tlen _ (by first | assumption | omega | (simp; done))
    | exact tlen x hx
    | (exfalso; omega)
    | ((with_reducible show (_ : Int) ≤ _); omega)
    | ((with_reducible show (_ : Nat) ≤ _); omega)
    | ((with_reducible show (_ : Int) < _); omega)
theorem tbef_o (x : FV) (i : Int) (hx : isT x) (ho : i < 0 ∨ i > cntF x) : VC Try.prog 24 ([tT x, tI i]) ([]) (.tp [.c (cI 0), .c (cI 0), .c (cI 20)]) ([]) :=
  vc_wp mixed nonum ⟨cmOf [(1, [(5, .tb (fun g xs H => some (.one (tI (cntF x)) H)) [] none)]), (5, [(4, .tb (tq_tbef_o x i hx ho) [] none)]), (8, [(5, .tb (tq_tbef_o x i hx ho) [] none), (12, .nw), (13, .nw)]), (9, [(5, .tb (tq_tbef_o x i hx ho) [] none), (11, .nw), (12, .nw)]), (10, [(6, .nw), (7, .nw)])], spOf [(1, [2])], ghOf [], loOf [(4, .un 0 [1, 4, 5, 7])], []⟩ [] (by kernel_rfl) (tbef_o_w x i hx ho)
noncomputable def tq_tbef (x : Tr) (i : Int) (R : Int × Int) (hs : BeP R x i 0 0) : FuncId → List TV → List VO → Option Alt := tabOf [(58, t58_0_SJ), (56, t56_0_SJ), (42, t42_0_SI), (75, t75_0_SB), (69, t69_0_SA), (40, t40_0_SA), (63, t63_0_SA), (68, t68_0_SA), (57, t57_0_SA), (55, t55_0_SA), (44, t44_0_SA)]
def tbef_b1 (x : Tr) (i : Int) (R : Int × Int) (hs : BeP R x i 0 0) (i1 : Int × Int × Int) : Prop :=
 Ck [0, 20, 0, 14762, 0, 1640, 1] [TV.tp [T1.c (cI i1.snd.fst), T1.c (cI i1.snd.snd), T1.c (cI 0)] = TV.tp [T1.c (cI R.fst), T1.c (cI R.snd), T1.c (cI 0)]] (
 ([] : List VO) = [])
theorem tbef_b1_ok (x : Tr) (i : Int) (R : Int × Int) (hs : BeP R x i 0 0) (i1 : Int × Int × Int) (hi : BeP R Tr.nil i1.fst i1.snd.fst i1.snd.snd) : tbef_b1 x i R hs i1 := by
  unfold tbef_b1
  obtain ⟨u, b, l⟩ := i1
  have hi : BeP R .nil u b l := hi
  repeat' first
    | refine brE (fun _ _ => ?_) (fun _ _ => ?_)
    | refine brN (fun _ _ => ?_) (fun _ _ => ?_)
    | refine brD (fun _ _ => ?_) (fun _ _ => ?_)
    | refine brP_intro (fun _ => ?_) (fun _ => ?_)
    | refine ck ?_ ?_
    | exact allp0
    | refine allp2 ?_ ?_
  all_goals try first
    | with_reducible rfl
    | exact Exists.intro _ rfl
    | exact tI_nw (by omega) (by omega)
    | exact tB_of (by assumption)
    | exact fun i1 h_ => tbef_b2_ok x i R hs i1 h_
    | (have J := hi.eq; rw [← J]; rfl)
    | ((with_reducible show (_ : Int) ≤ _); omega)
    | ((with_reducible show (_ : Nat) ≤ _); omega)
    | ((with_reducible show (_ : Int) < _); omega)
def tbef_b2 (x : Tr) (i : Int) (R : Int × Int) (hs : BeP R x i 0 0) (i1 : (Pc × Bool × Tr × Tr) × Int × Int × Int) : Prop :=
 Ck [0, 20, 0, 152543, 0, 182] [VC Try.prog 44 [tF (enc i1.fst.snd.snd.fst)] [] (tI (cntF (enc i1.fst.snd.snd.fst))) []] (
 brP (decide (i1.snd.fst ≤ cntF (enc i1.fst.snd.snd.fst))) (
 Ck [0, 14762, 2] [] (
 (∃ j : Int × Int × Int, Ck [1, 1, 1] [BeP R Tr.nil j.fst j.snd.fst j.snd.snd, 1 ≤ i1.fst.snd.snd.fst.num + 1 + i1.fst.snd.snd.snd.num, [(1, tI i1.snd.fst), (4, tI i1.snd.snd.fst), (5, tI i1.snd.snd.snd), (7, tF (enc i1.fst.snd.snd.fst))] = [(1, tI j.fst), (4, tI j.snd.fst), (5, tI j.snd.snd), (7, tF (FV.v (Value.pointer none)))]] (
 ([] : List VO) = [])) ∨ ((∃ j : (Pc × Bool × Tr × Tr) × Int × Int × Int, Ck [1, 1, 1] [BeP R (Tr.nd j.fst.fst j.fst.snd.fst j.fst.snd.snd.fst j.fst.snd.snd.snd) j.snd.fst j.snd.snd.fst j.snd.snd.snd, (j.fst.snd.snd.fst.num + 1 + j.fst.snd.snd.snd.num).succ ≤ i1.fst.snd.snd.fst.num + 1 + i1.fst.snd.snd.snd.num, [(1, tI i1.snd.fst), (4, tI i1.snd.snd.fst), (5, tI i1.snd.snd.snd), (7, tF (enc i1.fst.snd.snd.fst))] = [(1, tI j.snd.fst), (4, tI j.snd.snd.fst), (5, tI j.snd.snd.snd), (7, tF (FV.pt [fI j.fst.fst.s, fI j.fst.fst.o, fI j.fst.fst.n, fI j.fst.fst.k, fB j.fst.snd.fst, enc j.fst.snd.snd.fst, enc j.fst.snd.snd.snd, fI (cntF (enc j.fst.snd.snd.fst) + 1 + cntF (enc j.fst.snd.snd.snd)), fI (sizF (enc j.fst.snd.snd.fst) + j.fst.fst.n + sizF (enc j.fst.snd.snd.snd)), fI (lnsF (enc j.fst.snd.snd.fst) + j.fst.fst.k + lnsF (enc j.fst.snd.snd.snd)), fI (bif j.fst.snd.fst then blkF (enc j.fst.snd.snd.fst) else blkF (enc j.fst.snd.snd.fst) + 1), fI (1 + if hghF (enc j.fst.snd.snd.snd) > hghF (enc j.fst.snd.snd.fst) then hghF (enc j.fst.snd.snd.snd) else hghF (enc j.fst.snd.snd.fst))] 0))]] (
 ([] : List VO) = [])) ∨ (False)))) (
 Ck [0, 4516683754965419, 0, 501853750709177, 0, 71261056550, 2] [VC Try.prog 55 [tF (enc i1.fst.snd.snd.fst)] [] (tI (sizF (enc i1.fst.snd.snd.fst))) [], tI (IntKind.i64.wrap (sizF (enc i1.fst.snd.snd.fst) + i1.fst.fst.n)) = tI (sizF (enc i1.fst.snd.snd.fst) + i1.fst.fst.n), tI (IntKind.i64.wrap (i1.snd.snd.fst + (sizF (enc i1.fst.snd.snd.fst) + i1.fst.fst.n))) = tI (i1.snd.snd.fst + (sizF (enc i1.fst.snd.snd.fst) + i1.fst.fst.n)), VC Try.prog 57 [tF (enc i1.fst.snd.snd.fst)] [] (tI (lnsF (enc i1.fst.snd.snd.fst))) [], tI (IntKind.i64.wrap (lnsF (enc i1.fst.snd.snd.fst) + i1.fst.fst.k)) = tI (lnsF (enc i1.fst.snd.snd.fst) + i1.fst.fst.k), tI (IntKind.i64.wrap (i1.snd.snd.snd + (lnsF (enc i1.fst.snd.snd.fst) + i1.fst.fst.k))) = tI (i1.snd.snd.snd + (lnsF (enc i1.fst.snd.snd.fst) + i1.fst.fst.k)), tI (IntKind.i64.wrap (i1.snd.fst - cntF (enc i1.fst.snd.snd.fst))) = tI (i1.snd.fst - cntF (enc i1.fst.snd.snd.fst)), tI (IntKind.i64.wrap (i1.snd.fst - cntF (enc i1.fst.snd.snd.fst) - 1)) = tI (i1.snd.fst - cntF (enc i1.fst.snd.snd.fst) - 1)] (
 (∃ j : Int × Int × Int, Ck [1, 1, 1] [BeP R Tr.nil j.fst j.snd.fst j.snd.snd, 1 ≤ i1.fst.snd.snd.fst.num + 1 + i1.fst.snd.snd.snd.num, [(1, tI (i1.snd.fst - cntF (enc i1.fst.snd.snd.fst) - 1)), (4, tI (i1.snd.snd.fst + (sizF (enc i1.fst.snd.snd.fst) + i1.fst.fst.n))), (5, tI (i1.snd.snd.snd + (lnsF (enc i1.fst.snd.snd.fst) + i1.fst.fst.k))), (7, tF (enc i1.fst.snd.snd.snd))] = [(1, tI j.fst), (4, tI j.snd.fst), (5, tI j.snd.snd), (7, tF (FV.v (Value.pointer none)))]] (
 ([] : List VO) = [])) ∨ ((∃ j : (Pc × Bool × Tr × Tr) × Int × Int × Int, Ck [1, 1, 1] [BeP R (Tr.nd j.fst.fst j.fst.snd.fst j.fst.snd.snd.fst j.fst.snd.snd.snd) j.snd.fst j.snd.snd.fst j.snd.snd.snd, (j.fst.snd.snd.fst.num + 1 + j.fst.snd.snd.snd.num).succ ≤ i1.fst.snd.snd.fst.num + 1 + i1.fst.snd.snd.snd.num, [(1, tI (i1.snd.fst - cntF (enc i1.fst.snd.snd.fst) - 1)), (4, tI (i1.snd.snd.fst + (sizF (enc i1.fst.snd.snd.fst) + i1.fst.fst.n))), (5, tI (i1.snd.snd.snd + (lnsF (enc i1.fst.snd.snd.fst) + i1.fst.fst.k))), (7, tF (enc i1.fst.snd.snd.snd))] = [(1, tI j.snd.fst), (4, tI j.snd.snd.fst), (5, tI j.snd.snd.snd), (7, tF (FV.pt [fI j.fst.fst.s, fI j.fst.fst.o, fI j.fst.fst.n, fI j.fst.fst.k, fB j.fst.snd.fst, enc j.fst.snd.snd.fst, enc j.fst.snd.snd.snd, fI (cntF (enc j.fst.snd.snd.fst) + 1 + cntF (enc j.fst.snd.snd.snd)), fI (sizF (enc j.fst.snd.snd.fst) + j.fst.fst.n + sizF (enc j.fst.snd.snd.snd)), fI (lnsF (enc j.fst.snd.snd.fst) + j.fst.fst.k + lnsF (enc j.fst.snd.snd.snd)), fI (bif j.fst.snd.fst then blkF (enc j.fst.snd.snd.fst) else blkF (enc j.fst.snd.snd.fst) + 1), fI (1 + if hghF (enc j.fst.snd.snd.snd) > hghF (enc j.fst.snd.snd.fst) then hghF (enc j.fst.snd.snd.snd) else hghF (enc j.fst.snd.snd.fst))] 0))]] (
 ([] : List VO) = [])) ∨ (False)))))
theorem tbef_b2_ok (x : Tr) (i : Int) (R : Int × Int) (hs : BeP R x i 0 0) (i1 : (Pc × Bool × Tr × Tr) × Int × Int × Int) (hi : BeP R (Tr.nd i1.fst.fst i1.fst.snd.fst i1.fst.snd.snd.fst i1.fst.snd.snd.snd) i1.snd.fst i1.snd.snd.fst i1.snd.snd.snd) : tbef_b2 x i R hs i1 := by
  unfold tbef_b2
  obtain ⟨⟨q, d, a, e⟩, u, b, l⟩ := i1
  have hi : BeP R (.nd q d a e) u b l := hi
  have en : (Tr.nd q d a e).num = a.num + 1 + e.num := rfl
  have hn := hi.n
  have haT : isT (enc a) := isT_of hi.ok.2.1 (by omega)
  have hba := haT.bd
  obtain ⟨c1, c2, c3, c4, c5, c6, c7, c8, c9⟩ := sums_t hi.ok.2.2
  have e1 : sizF (enc (.nd q d a e)) = sizF (enc a) + q.n + sizF (enc e) := rfl
  have e2 : lnsF (enc (.nd q d a e)) = lnsF (enc a) + q.k + lnsF (enc e) := rfl
  have e3 : cntF (enc (.nd q d a e)) = cntF (enc a) + 1 + cntF (enc e) := rfl
  obtain ⟨p1, p2, p3, p4⟩ := hi.ok.1
  have g1 := hi.b1
  have g2 := hi.l1
  have g3 := hi.i1
  have g4 := hi.b0
  have g5 := hi.l0
  have g6 := hi.i0
  dsimp only
  repeat' first
    | refine brE (fun _ _ => ?_) (fun _ _ => ?_)
    | refine brN (fun _ _ => ?_) (fun _ _ => ?_)
    | refine brD (fun _ _ => ?_) (fun _ _ => ?_)
    | refine brP_intro (fun _ => ?_) (fun _ => ?_)
    | refine ck ?_ ?_
    | exact allp0
    | refine allp2 ?_ ?_
  all_goals try first
    | with_reducible rfl
    | exact Exists.intro _ rfl
    | exact tI_nw (by omega) (by omega)
    | exact tB_of (by assumption)
    | exact fun i1 h_ => tbef_b1_ok x i R hs i1 h_
    | exact cnt_n 
    | exact cnt_d _ _ _ _
    | exact cnt_x _ (by first | assumption | omega | (simp; done))
    | exact siz_n 
    | exact siz_d _ _ _ _
    | exact siz_x _ (by first | assumption | omega | (simp; done))
    | exact lns_n 
    | exact lns_d _ _ _ _
    | exact lns_x _ (by first | assumption | omega | (simp; done))
    | exact cnt_x _ haT
    | exact siz_x _ haT
    | exact lns_x _ haT
    | (have J := be_l hi (by assumption); rcases a with _ | ⟨q1, d1, x1, y1⟩ <;> first | exact .inl ⟨(_, _, _), ck (allp2 J (allp2 (by show 1 ≤ 0 + 1 + e.num; omega) (allp2 rfl allp0))) rfl⟩ | exact .inr (.inl ⟨((q1, d1, x1, y1), _, _, _), ck (allp2 J (allp2 (by show x1.num + 1 + y1.num + 1 ≤ (x1.num + 1 + y1.num) + 1 + e.num; omega) (allp2 rfl allp0))) rfl⟩))
    | (have J := be_r hi (by assumption); rcases e with _ | ⟨q1, d1, x1, y1⟩ <;> first | exact .inl ⟨(_, _, _), ck (allp2 J (allp2 (by show 1 ≤ a.num + 1 + 0; omega) (allp2 rfl allp0))) rfl⟩ | exact .inr (.inl ⟨((q1, d1, x1, y1), _, _, _), ck (allp2 J (allp2 (by show x1.num + 1 + y1.num + 1 ≤ a.num + 1 + (x1.num + 1 + y1.num); omega) (allp2 rfl allp0))) rfl⟩))
    | ((with_reducible show (_ : Int) ≤ _); omega)
    | ((with_reducible show (_ : Nat) ≤ _); omega)
    | ((with_reducible show (_ : Int) < _); omega)
theorem tbef_w (x : Tr) (i : Int) (R : Int × Int) (hs : BeP R x i 0 0) : Ck [0, 1640, 0] [] (
 brP (decide (i < 0)) (
 Ck [96856337, 0, 182, 0, 1640, 1] [tB (decide (i < 0)) = tB true, TV.tp [T1.c (cI 0), T1.c (cI 0), T1.c (cI 20)] = TV.tp [T1.c (cI R.fst), T1.c (cI R.snd), T1.c (cI 0)]] (
 ([] : List VO) = [])) (
 Ck [98450660] [tB (decide (i < 0)) = tB false, VC Try.prog 13 [tA [CV.f (enc x)]] [] (tI (cntF (enc x))) []] (
 brP (decide (i > cntF (enc x))) (
 Ck [0, 182, 0, 1640, 1] [TV.tp [T1.c (cI 0), T1.c (cI 0), T1.c (cI 20)] = TV.tp [T1.c (cI R.fst), T1.c (cI R.snd), T1.c (cI 0)]] (
 ([] : List VO) = [])) (
 Ck [0, 182, 803, 1, 1] [(∃ i1 : Int × Int × Int, Ck [1, 1] [BeP R Tr.nil i1.fst i1.snd.fst i1.snd.snd, [(1, tI i), (4, tI 0), (5, tI 0), (7, tF (enc x))] = [(1, tI i1.fst), (4, tI i1.snd.fst), (5, tI i1.snd.snd), (7, tF (FV.v (Value.pointer none)))]] (
 ([] : List VO) = [])) ∨ ((∃ i1 : (Pc × Bool × Tr × Tr) × Int × Int × Int, Ck [1, 1] [BeP R (Tr.nd i1.fst.fst i1.fst.snd.fst i1.fst.snd.snd.fst i1.fst.snd.snd.snd) i1.snd.fst i1.snd.snd.fst i1.snd.snd.snd, [(1, tI i), (4, tI 0), (5, tI 0), (7, tF (enc x))] = [(1, tI i1.snd.fst), (4, tI i1.snd.snd.fst), (5, tI i1.snd.snd.snd), (7, tF (FV.pt [fI i1.fst.fst.s, fI i1.fst.fst.o, fI i1.fst.fst.n, fI i1.fst.fst.k, fB i1.fst.snd.fst, enc i1.fst.snd.snd.fst, enc i1.fst.snd.snd.snd, fI (cntF (enc i1.fst.snd.snd.fst) + 1 + cntF (enc i1.fst.snd.snd.snd)), fI (sizF (enc i1.fst.snd.snd.fst) + i1.fst.fst.n + sizF (enc i1.fst.snd.snd.snd)), fI (lnsF (enc i1.fst.snd.snd.fst) + i1.fst.fst.k + lnsF (enc i1.fst.snd.snd.snd)), fI (bif i1.fst.snd.fst then blkF (enc i1.fst.snd.snd.fst) else blkF (enc i1.fst.snd.snd.fst) + 1), fI (1 + if hghF (enc i1.fst.snd.snd.snd) > hghF (enc i1.fst.snd.snd.fst) then hghF (enc i1.fst.snd.snd.snd) else hghF (enc i1.fst.snd.snd.fst))] 0))]] (
 ([] : List VO) = [])) ∨ (False)), ∀ i1 : Int × Int × Int, ((BeP R Tr.nil i1.fst i1.snd.fst i1.snd.snd) → tbef_b1 x i R hs i1), ∀ i1 : (Pc × Bool × Tr × Tr) × Int × Int × Int, ((BeP R (Tr.nd i1.fst.fst i1.fst.snd.fst i1.fst.snd.snd.fst i1.fst.snd.snd.snd) i1.snd.fst i1.snd.snd.fst i1.snd.snd.snd) → tbef_b2 x i R hs i1)] (
   True))))) := by
  have hT : isT (enc x) := isT_of hs.ok hs.n
  have g0 := hs.i0
  have g1 := hs.i1
  repeat' first
    | refine brE (fun _ _ => ?_) (fun _ _ => ?_)
    | refine brN (fun _ _ => ?_) (fun _ _ => ?_)
    | refine brD (fun _ _ => ?_) (fun _ _ => ?_)
    | refine brP_intro (fun _ => ?_) (fun _ => ?_)
    | refine ck ?_ ?_
    | exact allp0
    | refine allp2 ?_ ?_
  all_goals try first
    | with_reducible rfl
    | exact Exists.intro _ rfl
    | exact tI_nw (by omega) (by omega)
    | exact tB_of (by assumption)
    | exact fun i1 h_ => tbef_b1_ok x i R hs i1 h_
    | exact fun i1 h_ => tbef_b2_ok x i R hs i1 h_
    | exact tlen _ (by first | assumption | omega | (simp; done))
    | exact tlen _ hT
    | (exfalso; omega)
    | (rcases x with _ | ⟨q1, d1, x1, y1⟩ <;> first | exact .inl ⟨(i, 0, 0), ck (allp2 hs (allp2 rfl allp0)) rfl⟩ | exact .inr (.inl ⟨((q1, d1, x1, y1), i, 0, 0), ck (allp2 hs (allp2 rfl allp0)) rfl⟩))
    | ((with_reducible show (_ : Int) ≤ _); omega)
    | ((with_reducible show (_ : Nat) ≤ _); omega)
    | ((with_reducible show (_ : Int) < _); omega)
theorem tbef (x : Tr) (i : Int) (R : Int × Int) (hs : BeP R x i 0 0) : VC Try.prog 24 ([tT (enc x), tI i]) ([]) (.tp [.c (cI R.1), .c (cI R.2), .c (cI 0)]) ([]) :=
  vc_wp mixed nonum ⟨cmOf [(1, [(5, .tb (fun g xs H => some (.one (tI (cntF (enc x))) H)) [] none)]), (5, [(4, .tb (tq_tbef x i R hs) [] none)]), (8, [(5, .tb (tq_tbef x i R hs) [] none), (12, .nw), (13, .nw)]), (9, [(5, .tb (tq_tbef x i R hs) [] none), (11, .nw), (12, .nw)]), (10, [(6, .nw), (7, .nw)])], spOf [(1, [2])], ghOf [], loOf [(4, .invs [] [1, 4, 5, 7] [⟨Int × Int × Int, fun i => BeP R .nil i.1 i.2.1 i.2.2, fun i => [(1, tI i.1), (4, tI i.2.1), (5, tI i.2.2), (7, tF (.v (.pointer none)))], fun i => [], fun i => 0⟩, ⟨(Pc × Bool × Tr × Tr) × Int × Int × Int, fun j => BeP R (.nd j.1.1 j.1.2.1 j.1.2.2.1 j.1.2.2.2) j.2.1 j.2.2.1 j.2.2.2, fun j => [(1, tI j.2.1), (4, tI j.2.2.1), (5, tI j.2.2.2), (7, tF (mkF j.1.2.1 (enc j.1.2.2.1) j.1.1 (enc j.1.2.2.2)))], fun j => [], fun j => j.1.2.2.1.num + 1 + j.1.2.2.2.num⟩])], []⟩ [] (by kernel_rfl) (tbef_w x i R hs)
end Go.Proofs.Ytpjlgjhkdligfaa.Vg
