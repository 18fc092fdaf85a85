/- Trees parted, put together. No law, no condition. -/
import Derived.Test.YtpjlgjhkdligfaaKSD
namespace Go.Proofs.Ytpjlgjhkdligfaa.Vg
open Go.RowKit
set_option maxRecDepth 100000
set_option linter.unusedVariables false
set_option linter.unusedSimpArgs false
def tp2 (x y : FV) : TV := .tp [.c (.f x), .c (.f y)]
noncomputable def tq_split_n (n : Int) : FuncId → List TV → List VO → Option Alt := tabOf [(75, t75_0_SB), (69, t69_0_SA), (40, t40_0_SA), (63, t63_0_SA), (68, t68_0_SA), (57, t57_0_SA), (55, t55_0_SA), (44, t44_0_SA)]
theorem split_n_w (n : Int) : Ck [0, 20, 0, 20, 0, 20, 0, 182, 1] [TV.tp [T1.c (CV.f (FV.v (Value.pointer none))), T1.c (CV.f (FV.v (Value.pointer none)))] = TV.tp [T1.c (CV.f (FV.v (Value.pointer none))), T1.c (CV.f (FV.v (Value.pointer none)))]] (
 ([] : List VO) = []) := by
  repeat' first
    | refine brE (fun _ _ => ?_) (fun _ _ => ?_)
    | refine brN (fun _ _ => ?_) (fun _ _ => ?_)
    | refine brD (fun _ _ => ?_) (fun _ _ => ?_)
    | refine brP_intro (fun _ => ?_) (fun _ => ?_)
    | refine ck ?_ ?_
    | exact allp0
    | refine allp2 ?_ ?_
  all_goals try first
    | with_reducible rfl
    | exact Exists.intro _ rfl
    | exact tI_nw (by omega) (by omega)
    | exact tB_of (by assumption)
    | ((with_reducible show (_ : Int) ≤ _); omega)
    | ((with_reducible show (_ : Nat) ≤ _); omega)
    | ((with_reducible show (_ : Int) < _); omega)
theorem split_n (n : Int) : VC Try.prog 66 ([tF (.v (.pointer none)), tI n]) ([]) (tp2 (.v (.pointer none)) (.v (.pointer none))) ([]) :=
  vc_wp mixed nonum ⟨cmOf [(3, [(4, .tb (tq_split_n n) [] none), (9, .tb (tq_split_n n) [] none)]), (4, [(1, .tb (tq_split_n n) [] none)]), (6, [(3, .nw), (4, .nw), (5, .tb (tq_split_n n) [] none)]), (7, [(6, .tb (tq_split_n n) [] none)]), (8, [(2, .tb (tq_split_n n) [] none)]), (9, [(7, .tb (tq_split_n n) [] none)])], spOf [], ghOf [], loOf [], []⟩ [] (by kernel_rfl) (split_n_w n)
noncomputable def tq_split_d (c : Bool) (x y u v u1 v1 : Tr) (q : Pc) (n : Int) (hx : isT (enc x)) (hy : isT (enc y)) (hxb : isT (enc x.bk)) (hk : VC Try.prog 75 [tF (enc x)] [] (tF (enc x.bk)) []) (hm : VC Try.prog 75 [tF (enc y)] [] (tF (enc y.bk)) []) (hn : -2305843009213693952 ≤ n) (hn2 : n ≤ 2305843009213693952) (hg : n > cntF (enc x.bk) → VC Try.prog 66 [tF (enc y.bk), tI (n - cntF (enc x.bk) - 1)] [] (tp2 (enc u) (enc v)) [] ∧ VC Try.prog 65 [tF (enc x.bk), tA q.cs, tF (enc u)] [] (tF (enc (x.bk.join q u))) []) (hl : ¬ n > cntF (enc x.bk) → VC Try.prog 66 [tF (enc x.bk), tI n] [] (tp2 (enc u1) (enc v1)) [] ∧ VC Try.prog 65 [tF (enc v1), tA q.cs, tF (enc y.bk)] [] (tF (enc (v1.join q y.bk))) []) : FuncId → List TV → List VO → Option Alt := tabOf [(75, t75_0_SB), (69, t69_0_SA), (40, t40_0_SA), (63, t63_0_SA), (68, t68_0_SA), (57, t57_0_SA), (55, t55_0_SA), (44, t44_0_SA)]
theorem split_d_w (c : Bool) (x y u v u1 v1 : Tr) (q : Pc) (n : Int) (hx : isT (enc x)) (hy : isT (enc y)) (hxb : isT (enc x.bk)) (hk : VC Try.prog 75 [tF (enc x)] [] (tF (enc x.bk)) []) (hm : VC Try.prog 75 [tF (enc y)] [] (tF (enc y.bk)) []) (hn : -2305843009213693952 ≤ n) (hn2 : n ≤ 2305843009213693952) (hg : n > cntF (enc x.bk) → VC Try.prog 66 [tF (enc y.bk), tI (n - cntF (enc x.bk) - 1)] [] (tp2 (enc u) (enc v)) [] ∧ VC Try.prog 65 [tF (enc x.bk), tA q.cs, tF (enc u)] [] (tF (enc (x.bk.join q u))) []) (hl : ¬ n > cntF (enc x.bk) → VC Try.prog 66 [tF (enc x.bk), tI n] [] (tp2 (enc u1) (enc v1)) [] ∧ VC Try.prog 65 [tF (enc v1), tA q.cs, tF (enc y.bk)] [] (tF (enc (v1.join q y.bk))) []) : Ck [0, 20, 0, 20, 0, 71769665270, 0, 209, 0, 182] [VC Try.prog 75 [tF (enc x)] [] (tF (enc x.bk)) [], VC Try.prog 75 [tF (enc y)] [] (tF (enc y.bk)) [], VC Try.prog 44 [tF (enc x.bk)] [] (tI (cntF (enc x.bk))) []] (
 brP (decide (n > cntF (enc x.bk))) (
 Ck [0, 635481702659, 0, 873290423, 0, 182, 1] [tI (IntKind.i64.wrap (n - cntF (enc x.bk))) = tI (n - cntF (enc x.bk)), tI (IntKind.i64.wrap (n - cntF (enc x.bk) - 1)) = tI (n - cntF (enc x.bk) - 1), VC Try.prog 66 [tF (enc y.bk), tI (n - cntF (enc x.bk) - 1)] [] (TV.tp [T1.c (CV.f (enc u)), T1.c (CV.f (enc v))]) [], VC Try.prog 65 [tF (enc x.bk), tA [cI q.s, cI q.o, cI q.n, cI q.k], tF (enc u)] [] (tF (enc (x.bk.join q u))) [], TV.tp [T1.c (CV.f (enc (x.bk.join q u))), T1.c (CV.f (enc v))] = TV.tp [T1.c (CV.f (bif decide (n > cntF (enc x.bk)) then enc (x.bk.join q u) else enc u1)), T1.c (CV.f (bif decide (n > cntF (enc x.bk)) then enc v else enc (v1.join q y.bk)))]] (
 ([] : List VO) = [])) (
 Ck [0, 10761923, 0, 886045007, 0, 182, 1] [VC Try.prog 66 [tF (enc x.bk), tI n] [] (TV.tp [T1.c (CV.f (enc u1)), T1.c (CV.f (enc v1))]) [], VC Try.prog 65 [tF (enc v1), tA [cI q.s, cI q.o, cI q.n, cI q.k], tF (enc y.bk)] [] (tF (enc (v1.join q y.bk))) [], TV.tp [T1.c (CV.f (enc u1)), T1.c (CV.f (enc (v1.join q y.bk)))] = TV.tp [T1.c (CV.f (bif decide (n > cntF (enc x.bk)) then enc (x.bk.join q u) else enc u1)), T1.c (CV.f (bif decide (n > cntF (enc x.bk)) then enc v else enc (v1.join q y.bk)))]] (
 ([] : List VO) = []))) := by
  have hb := hxb.bd
  repeat' first
    | refine brE (fun _ _ => ?_) (fun _ _ => ?_)
    | refine brN (fun _ _ => ?_) (fun _ _ => ?_)
    | refine brD (fun _ _ => ?_) (fun _ _ => ?_)
    | refine brP_intro (fun _ => ?_) (fun _ => ?_)
    | refine ck ?_ ?_
    | exact allp0
    | refine allp2 ?_ ?_
  all_goals try (have hd : decide (n > cntF (enc x.bk)) = true := (by assumption); rw [hd]; rfl)
  all_goals try (have hd : decide (n > cntF (enc x.bk)) = false := (by assumption); rw [hd]; rfl)
  repeat' first
    | refine brE (fun _ _ => ?_) (fun _ _ => ?_)
    | refine brN (fun _ _ => ?_) (fun _ _ => ?_)
    | refine brD (fun _ _ => ?_) (fun _ _ => ?_)
    | refine brP_intro (fun _ => ?_) (fun _ => ?_)
    | refine ck ?_ ?_
    | exact allp0
    | refine allp2 ?_ ?_
  all_goals try first
    | with_reducible rfl
    | exact Exists.intro _ rfl
    | exact tI_nw (by omega) (by omega)
    | exact tB_of (by assumption)
    | exact cnt_n 
    | exact cnt_d _ _ _ _
    | exact cnt_x _ (by first | assumption | omega | (simp; done))
    | exact black_d _ _ _ _ (by first | assumption | omega | (simp; done)) (by first | assumption | omega | (simp; done)) (by first | assumption | omega | (simp; done)) (by first | assumption | omega | (simp; done))
    | exact black_n 
    | exact black_x _ (by first | assumption | omega | (simp; done))
    | exact join _ _ _ (by first | assumption | omega | (simp; done)) (by first | assumption | omega | (simp; done)) (by first | assumption | omega | (simp; done)) (by first | assumption | omega | (simp; done))
    | exact split_n _
    | exact hk
    | exact hm
    | exact (hg (by assumption)).1
    | exact (hg (by assumption)).2
    | exact (hl (by assumption)).1
    | exact (hl (by assumption)).2
    | ((with_reducible show (_ : Int) ≤ _); omega)
    | ((with_reducible show (_ : Nat) ≤ _); omega)
    | ((with_reducible show (_ : Int) < _); omega)
theorem split_d (c : Bool) (x y u v u1 v1 : Tr) (q : Pc) (n : Int) (hx : isT (enc x)) (hy : isT (enc y)) (hxb : isT (enc x.bk)) (hk : VC Try.prog 75 [tF (enc x)] [] (tF (enc x.bk)) []) (hm : VC Try.prog 75 [tF (enc y)] [] (tF (enc y.bk)) []) (hn : -2305843009213693952 ≤ n) (hn2 : n ≤ 2305843009213693952) (hg : n > cntF (enc x.bk) → VC Try.prog 66 [tF (enc y.bk), tI (n - cntF (enc x.bk) - 1)] [] (tp2 (enc u) (enc v)) [] ∧ VC Try.prog 65 [tF (enc x.bk), tA q.cs, tF (enc u)] [] (tF (enc (x.bk.join q u))) []) (hl : ¬ n > cntF (enc x.bk) → VC Try.prog 66 [tF (enc x.bk), tI n] [] (tp2 (enc u1) (enc v1)) [] ∧ VC Try.prog 65 [tF (enc v1), tA q.cs, tF (enc y.bk)] [] (tF (enc (v1.join q y.bk))) []) : VC Try.prog 66 ([tF (mkF c (enc x) q (enc y)), tI n]) ([]) (tp2 (bif decide (n > cntF (enc x.bk)) then enc (x.bk.join q u) else enc u1) (bif decide (n > cntF (enc x.bk)) then enc v else enc (v1.join q y.bk))) ([]) :=
  vc_wp mixed nonum ⟨cmOf [(3, [(4, .tb (fun g xs H => some (.one (tF (enc x.bk)) H)) [] none), (9, .tb (fun g xs H => some (.one (tF (enc y.bk)) H)) [] none)]), (4, [(1, .tb (tq_split_d c x y u v u1 v1 q n hx hy hxb hk hm hn hn2 hg hl) [] none)]), (6, [(3, .nw), (4, .nw), (5, .tb (fun g xs H => some (.one (tp2 (enc u) (enc v)) H)) [] none)]), (7, [(6, .tb (fun g xs H => some (.one (tF (enc (x.bk.join q u))) H)) [] none)]), (8, [(2, .tb (fun g xs H => some (.one (tp2 (enc u1) (enc v1)) H)) [] none)]), (9, [(7, .tb (fun g xs H => some (.one (tF (enc (v1.join q y.bk))) H)) [] none)])], spOf [], ghOf [], loOf [], []⟩ [] (by kernel_rfl) (split_d_w c x y u v u1 v1 q n hx hy hxb hk hm hn hn2 hg hl)
def spl : Nat → Tr → Int → Tr × Tr
  | 0, _, _ => (.nil, .nil)
  | _ + 1, .nil, _ => (.nil, .nil)
  | k + 1, .nd q c a b, n => bif decide (n > cntF (enc a.bk)) then (a.bk.join q (spl k b.bk (n - cntF (enc a.bk) - 1)).1, (spl k b.bk (n - cntF (enc a.bk) - 1)).2) else ((spl k a.bk n).1, (spl k a.bk n).2.join q b.bk)
theorem cnt_num {t : Tr} (h : t.Ok) : cntF (enc t) = t.num := (sums_t h).c
structure Sp (t : Tr) (n : Int) (u v : Tr) : Prop where
  vc : VC Try.prog 66 [tF (enc t), tI n] [] (tp2 (enc u) (enc v)) []
  wu : Whole u
  wv : Whole v
  num : u.num + v.num = t.num
theorem Whole.bk {t : Tr} (h : Whole t) : Whole t.bk := ⟨bk_Ok h.ok, bk_Bal h.bal⟩
theorem spl_ok : ∀ (k : Nat) (t : Tr) (n : Int), t.num ≤ k → Whole t → t.num ≤ 1073741824 → -2305843009213693952 ≤ n → n ≤ 2305843009213693952 → Sp t n (spl k t n).1 (spl k t n).2
  | 0, .nil, n, _, h, _, _, _ => ⟨split_n n, h, h, rfl⟩
  | 0, .nd q c a b, n, h0, _, _, _, _ => by
    have hnl : (Tr.nd q c a b).num = a.num + 1 + b.num := rfl
    omega
  | k + 1, .nil, n, _, h, _, _, _ => ⟨split_n n, h, h, rfl⟩
  | k + 1, .nd q c a b, n, hk, hw, hn, h1, h2 => by
    have hnl : (Tr.nd q c a b).num = a.num + 1 + b.num := rfl
    rw [hnl] at hk hn
    have wa : Whole a := ⟨hw.ok.2.1, hw.bal.1⟩
    have wb : Whole b := ⟨hw.ok.2.2, hw.bal.2.1⟩
    have ea : a.bk.num = a.num := bk_num a
    have eb : b.bk.num = b.num := bk_num b
    have hc : cntF (enc a.bk) = a.num := by rw [cnt_num wa.bk.ok, ea]
    have haT : isT (enc a) := isT_of wa.ok (by omega)
    have hbT : isT (enc b) := isT_of wb.ok (by omega)
    have haB : isT (enc a.bk) := isT_of wa.bk.ok (by omega)
    have va : VC Try.prog 75 [tF (enc a)] [] (tF (enc a.bk)) [] := black_t a wa.ok (by omega)
    have vb : VC Try.prog 75 [tF (enc b)] [] (tF (enc b.bk)) [] := black_t b wb.ok (by omega)
    cases hd : decide (n > cntF (enc a.bk)) with
    | true =>
      have hgt : n > cntF (enc a.bk) := of_decide_eq_true hd
      have I := spl_ok k b.bk (n - cntF (enc a.bk) - 1) (by omega) wb.bk (by omega) (by omega) (by omega)
      generalize hu : spl k b.bk (n - cntF (enc a.bk) - 1) = uv at I
      obtain ⟨u, v⟩ := uv
      have I : Sp b.bk (n - cntF (enc a.bk) - 1) u v := I
      have hjn : a.bk.num + 1 + u.num ≤ 1073741824 := by have := I.num; omega
      have J := join_wh (p := q) wa.bk I.wu hw.ok.1 hjn
      have B := split_d c a b u v .nil .nil q n haT hbT haB va vb h1 h2 (fun _ => ⟨I.vc, join a.bk u q wa.bk I.wu hw.ok.1 hjn⟩) (fun h => absurd hgt h)
      rw [hd] at B
      have e : spl (k + 1) (.nd q c a b) n = (a.bk.join q u, v) := by simp only [spl, hd, cond_true, hu]
      rw [e]
      exact ⟨B, J.1, I.wv, by have e1 := J.2; have e2 := I.num; show (a.bk.join q u).num + v.num = _; rw [e1, hnl]; omega⟩
    | false =>
      have hle : ¬ n > cntF (enc a.bk) := of_decide_eq_false hd
      have I := spl_ok k a.bk n (by omega) wa.bk (by omega) h1 h2
      generalize hu : spl k a.bk n = uv at I
      obtain ⟨u, v⟩ := uv
      have I : Sp a.bk n u v := I
      have hjn : v.num + 1 + b.bk.num ≤ 1073741824 := by have := I.num; omega
      have J := join_wh (p := q) I.wv wb.bk hw.ok.1 hjn
      have B := split_d c a b .nil .nil u v q n haT hbT haB va vb h1 h2 (fun h => absurd h hle) (fun _ => ⟨I.vc, join v b.bk q I.wv wb.bk hw.ok.1 hjn⟩)
      rw [hd] at B
      have e : spl (k + 1) (.nd q c a b) n = (u, v.join q b.bk) := by simp only [spl, hd, cond_false, hu]
      rw [e]
      exact ⟨B, I.wu, J.1, by have e1 := J.2; have e2 := I.num; show u.num + (v.join q b.bk).num = _; rw [e1, hnl]; omega⟩
def lastP : Tr → Pc
  | .nil => default
  | .nd p _ _ .nil => p
  | .nd _ _ _ (.nd p c l r) => lastP (.nd p c l r)
noncomputable def tq_tog_l (r : FV) : FuncId → List TV → List VO → Option Alt := tabOf [(75, t75_0_SB), (69, t69_0_SA), (40, t40_0_SA), (63, t63_0_SA), (68, t68_0_SA), (57, t57_0_SA), (55, t55_0_SA), (44, t44_0_SA)]
theorem tog_l_w (r : FV) : Ck [0, 2, 0, 20, 0, 20, 0, 20, 1] [tF r = tF r] (
 ([] : List VO) = []) := by
  repeat' first
    | refine brE (fun _ _ => ?_) (fun _ _ => ?_)
    | refine brN (fun _ _ => ?_) (fun _ _ => ?_)
    | refine brD (fun _ _ => ?_) (fun _ _ => ?_)
    | refine brP_intro (fun _ => ?_) (fun _ => ?_)
    | refine ck ?_ ?_
    | exact allp0
    | refine allp2 ?_ ?_
  all_goals try first
    | with_reducible rfl
    | exact Exists.intro _ rfl
    | exact tI_nw (by omega) (by omega)
    | exact tB_of (by assumption)
    | ((with_reducible show (_ : Int) ≤ _); omega)
    | ((with_reducible show (_ : Nat) ≤ _); omega)
    | ((with_reducible show (_ : Int) < _); omega)
theorem tog_l (r : FV) : VC Try.prog 64 ([tF (.v (.pointer none)), tF r]) ([]) (tF r) ([]) :=
  vc_wp mixed nonum ⟨cmOf [(8, [(2, .tb (tq_tog_l r) [] none), (3, .nw), (4, .tb (tq_tog_l r) [] none)]), (9, [(6, .tb (tq_tog_l r) [] none)])], spOf [], ghOf [], loOf [(6, .un 0 [0, 1, 5])], []⟩ [] (by kernel_rfl) (tog_l_w r)
noncomputable def tq_tog_r (c : Bool) (x y : FV) (p : Pc) : FuncId → List TV → List VO → Option Alt := tabOf [(75, t75_0_SB), (69, t69_0_SA), (40, t40_0_SA), (63, t63_0_SA), (68, t68_0_SA), (57, t57_0_SA), (55, t55_0_SA), (44, t44_0_SA)]
theorem tog_r_w (c : Bool) (x y : FV) (p : Pc) : Ck [0, 2, 0, 20, 0, 20, 0, 20, 0, 20, 1] [tF (FV.pt [fI p.s, fI p.o, fI p.n, fI p.k, fB c, x, y, fI (cntF x + 1 + cntF y), fI (sizF x + p.n + sizF y), fI (lnsF x + p.k + lnsF y), fI (bif c then blkF x else blkF x + 1), fI (1 + if hghF y > hghF x then hghF y else hghF x)] 0) = tF (FV.pt [fI p.s, fI p.o, fI p.n, fI p.k, fB c, x, y, fI (cntF x + 1 + cntF y), fI (sizF x + p.n + sizF y), fI (lnsF x + p.k + lnsF y), fI (bif c then blkF x else blkF x + 1), fI (1 + if hghF y > hghF x then hghF y else hghF x)] 0)] (
 ([] : List VO) = []) := by
  repeat' first
    | refine brE (fun _ _ => ?_) (fun _ _ => ?_)
    | refine brN (fun _ _ => ?_) (fun _ _ => ?_)
    | refine brD (fun _ _ => ?_) (fun _ _ => ?_)
    | refine brP_intro (fun _ => ?_) (fun _ => ?_)
    | refine ck ?_ ?_
    | exact allp0
    | refine allp2 ?_ ?_
  all_goals try first
    | with_reducible rfl
    | exact Exists.intro _ rfl
    | exact tI_nw (by omega) (by omega)
    | exact tB_of (by assumption)
    | ((with_reducible show (_ : Int) ≤ _); omega)
    | ((with_reducible show (_ : Nat) ≤ _); omega)
    | ((with_reducible show (_ : Int) < _); omega)
theorem tog_r (c : Bool) (x y : FV) (p : Pc) : VC Try.prog 64 ([tF (mkF c x p y), tF (.v (.pointer none))]) ([]) (tF (mkF c x p y)) ([]) :=
  vc_wp mixed nonum ⟨cmOf [(8, [(2, .tb (tq_tog_r c x y p) [] none), (3, .nw), (4, .tb (tq_tog_r c x y p) [] none)]), (9, [(6, .tb (tq_tog_r c x y p) [] none)])], spOf [], ghOf [], loOf [(6, .un 0 [0, 1, 5])], []⟩ [] (by kernel_rfl) (tog_r_w c x y p)
noncomputable def tq_tog_d (lc rc : Bool) (x y rx ry a b : Tr) (p rp : Pc) (hl : isT (mkF lc (enc x) p (enc y))) (hs : VC Try.prog 66 [tF (mkF lc (enc x) p (enc y)), tI (cntF (enc x) + 1 + cntF (enc y) - 1)] [] (tp2 (enc a) (enc b)) []) (hj : VC Try.prog 65 [tF (enc a), tA (lastP (.nd p lc x y)).cs, tF (mkF rc (enc rx) rp (enc ry))] [] (tF (enc (a.join (lastP (.nd p lc x y)) (.nd rp rc rx ry)))) []) : FuncId → List TV → List VO → Option Alt := tabOf [(75, t75_0_SB), (69, t69_0_SA), (40, t40_0_SA), (63, t63_0_SA), (68, t68_0_SA), (57, t57_0_SA), (55, t55_0_SA), (44, t44_0_SA)]
def tog_d_b1 (lc rc : Bool) (x y rx ry a b : Tr) (p rp : Pc) (hl : isT (mkF lc (enc x) p (enc y))) (hs : VC Try.prog 66 [tF (mkF lc (enc x) p (enc y)), tI (cntF (enc x) + 1 + cntF (enc y) - 1)] [] (tp2 (enc a) (enc b)) []) (hj : VC Try.prog 65 [tF (enc a), tA (lastP (.nd p lc x y)).cs, tF (mkF rc (enc rx) rp (enc ry))] [] (tF (enc (a.join (lastP (.nd p lc x y)) (.nd rp rc rx ry)))) []) (i : Pc × Bool × Tr) : Prop :=
 Ck [0, 14762, 0, 7845453227, 0, 12356003, 0, 20, 1] [VC Try.prog 44 [tF (FV.pt [fI p.s, fI p.o, fI p.n, fI p.k, fB lc, enc x, enc y, fI (cntF (enc x) + 1 + cntF (enc y)), fI (sizF (enc x) + p.n + sizF (enc y)), fI (lnsF (enc x) + p.k + lnsF (enc y)), fI (bif lc then blkF (enc x) else blkF (enc x) + 1), fI (1 + if hghF (enc y) > hghF (enc x) then hghF (enc y) else hghF (enc x))] 0)] [] (tI (cntF (FV.pt [fI p.s, fI p.o, fI p.n, fI p.k, fB lc, enc x, enc y, fI (cntF (enc x) + 1 + cntF (enc y)), fI (sizF (enc x) + p.n + sizF (enc y)), fI (lnsF (enc x) + p.k + lnsF (enc y)), fI (bif lc then blkF (enc x) else blkF (enc x) + 1), fI (1 + if hghF (enc y) > hghF (enc x) then hghF (enc y) else hghF (enc x))] 0))) [], tI (IntKind.i64.wrap (cntF (FV.pt [fI p.s, fI p.o, fI p.n, fI p.k, fB lc, enc x, enc y, fI (cntF (enc x) + 1 + cntF (enc y)), fI (sizF (enc x) + p.n + sizF (enc y)), fI (lnsF (enc x) + p.k + lnsF (enc y)), fI (bif lc then blkF (enc x) else blkF (enc x) + 1), fI (1 + if hghF (enc y) > hghF (enc x) then hghF (enc y) else hghF (enc x))] 0) - 1)) = tI (cntF (FV.pt [fI p.s, fI p.o, fI p.n, fI p.k, fB lc, enc x, enc y, fI (cntF (enc x) + 1 + cntF (enc y)), fI (sizF (enc x) + p.n + sizF (enc y)), fI (lnsF (enc x) + p.k + lnsF (enc y)), fI (bif lc then blkF (enc x) else blkF (enc x) + 1), fI (1 + if hghF (enc y) > hghF (enc x) then hghF (enc y) else hghF (enc x))] 0) - 1), VC Try.prog 66 [tF (FV.pt [fI p.s, fI p.o, fI p.n, fI p.k, fB lc, enc x, enc y, fI (cntF (enc x) + 1 + cntF (enc y)), fI (sizF (enc x) + p.n + sizF (enc y)), fI (lnsF (enc x) + p.k + lnsF (enc y)), fI (bif lc then blkF (enc x) else blkF (enc x) + 1), fI (1 + if hghF (enc y) > hghF (enc x) then hghF (enc y) else hghF (enc x))] 0), tI (cntF (FV.pt [fI p.s, fI p.o, fI p.n, fI p.k, fB lc, enc x, enc y, fI (cntF (enc x) + 1 + cntF (enc y)), fI (sizF (enc x) + p.n + sizF (enc y)), fI (lnsF (enc x) + p.k + lnsF (enc y)), fI (bif lc then blkF (enc x) else blkF (enc x) + 1), fI (1 + if hghF (enc y) > hghF (enc x) then hghF (enc y) else hghF (enc x))] 0) - 1)] [] (TV.tp [T1.c (CV.f (enc a)), T1.c (CV.f (enc b))]) [], VC Try.prog 65 [tF (enc a), tA [cI i.fst.s, cI i.fst.o, cI i.fst.n, cI i.fst.k], tF (FV.pt [fI rp.s, fI rp.o, fI rp.n, fI rp.k, fB rc, enc rx, enc ry, fI (cntF (enc rx) + 1 + cntF (enc ry)), fI (sizF (enc rx) + rp.n + sizF (enc ry)), fI (lnsF (enc rx) + rp.k + lnsF (enc ry)), fI (bif rc then blkF (enc rx) else blkF (enc rx) + 1), fI (1 + if hghF (enc ry) > hghF (enc rx) then hghF (enc ry) else hghF (enc rx))] 0)] [] (tF (enc (a.join (lastP (Tr.nd p lc x y)) (Tr.nd rp rc rx ry)))) [], tF (enc (a.join (lastP (Tr.nd p lc x y)) (Tr.nd rp rc rx ry))) = tF (enc (a.join (lastP (Tr.nd p lc x y)) (Tr.nd rp rc rx ry)))] (
 ([] : List VO) = [])
theorem tog_d_b1_ok (lc rc : Bool) (x y rx ry a b : Tr) (p rp : Pc) (hl : isT (mkF lc (enc x) p (enc y))) (hs : VC Try.prog 66 [tF (mkF lc (enc x) p (enc y)), tI (cntF (enc x) + 1 + cntF (enc y) - 1)] [] (tp2 (enc a) (enc b)) []) (hj : VC Try.prog 65 [tF (enc a), tA (lastP (.nd p lc x y)).cs, tF (mkF rc (enc rx) rp (enc ry))] [] (tF (enc (a.join (lastP (.nd p lc x y)) (.nd rp rc rx ry)))) []) (i : Pc × Bool × Tr) (hi : i.fst = lastP (Tr.nd p lc x y)) : tog_d_b1 lc rc x y rx ry a b p rp hl hs hj i := by
  unfold tog_d_b1
  obtain ⟨q, c, t⟩ := i
  have hi : q = _ := hi
  subst hi
  have hb1 : 0 ≤ cntF (enc x) + 1 + cntF (enc y) := hl.bd.1
  have hb2 : cntF (enc x) + 1 + cntF (enc y) ≤ 1073741824 := hl.bd.2.1
  repeat' first
    | refine brE (fun _ _ => ?_) (fun _ _ => ?_)
    | refine brN (fun _ _ => ?_) (fun _ _ => ?_)
    | refine brD (fun _ _ => ?_) (fun _ _ => ?_)
    | refine brP_intro (fun _ => ?_) (fun _ => ?_)
    | refine ck ?_ ?_
    | exact allp0
    | refine allp2 ?_ ?_
  all_goals try first
    | with_reducible rfl
    | exact Exists.intro _ rfl
    | exact tI_nw (by omega) (by omega)
    | exact tB_of (by assumption)
    | exact fun i h_ => tog_d_b2_ok lc rc x y rx ry a b p rp hl hs hj i h_
    | exact cnt_n 
    | exact cnt_d _ _ _ _
    | exact cnt_x _ (by first | assumption | omega | (simp; done))
    | exact join _ _ _ (by first | assumption | omega | (simp; done)) (by first | assumption | omega | (simp; done)) (by first | assumption | omega | (simp; done)) (by first | assumption | omega | (simp; done))
    | exact split_n _
    | exact split_d _ _ _ _ _ _ _ _ _ (by first | assumption | omega | (simp; done)) (by first | assumption | omega | (simp; done)) _ (by first | assumption | omega | (simp; done)) (by first | assumption | omega | (simp; done)) (by first | assumption | omega | (simp; done)) (by first | assumption | omega | (simp; done)) (by first | assumption | omega | (simp; done)) (by first | assumption | omega | (simp; done))
    | rfl
    | exact tI_nw (x := cntF (enc x) + 1 + cntF (enc y) - 1) (by omega) (by omega)
    | exact hs
    | exact hj
    | ((with_reducible show (_ : Int) ≤ _); omega)
    | ((with_reducible show (_ : Nat) ≤ _); omega)
    | ((with_reducible show (_ : Int) < _); omega)
def tog_d_b2 (lc rc : Bool) (x y rx ry a b : Tr) (p rp : Pc) (hl : isT (mkF lc (enc x) p (enc y))) (hs : VC Try.prog 66 [tF (mkF lc (enc x) p (enc y)), tI (cntF (enc x) + 1 + cntF (enc y) - 1)] [] (tp2 (enc a) (enc b)) []) (hj : VC Try.prog 65 [tF (enc a), tA (lastP (.nd p lc x y)).cs, tF (mkF rc (enc rx) rp (enc ry))] [] (tF (enc (a.join (lastP (.nd p lc x y)) (.nd rp rc rx ry)))) []) (i : (Pc × Bool × Tr) × Pc × Bool × Tr × Tr) : Prop :=
 Ck [0, 14762, 0, 14762, 2] [] (
 (∃ j : Pc × Bool × Tr, Ck [1, 1, 1] [j.fst = lastP (Tr.nd p lc x y), 1 ≤ 1 + i.snd.snd.snd.snd.num, [(0, tF (FV.pt [fI p.s, fI p.o, fI p.n, fI p.k, fB lc, enc x, enc y, fI (cntF (enc x) + 1 + cntF (enc y)), fI (sizF (enc x) + p.n + sizF (enc y)), fI (lnsF (enc x) + p.k + lnsF (enc y)), fI (bif lc then blkF (enc x) else blkF (enc x) + 1), fI (1 + if hghF (enc y) > hghF (enc x) then hghF (enc y) else hghF (enc x))] 0)), (1, tF (FV.pt [fI rp.s, fI rp.o, fI rp.n, fI rp.k, fB rc, enc rx, enc ry, fI (cntF (enc rx) + 1 + cntF (enc ry)), fI (sizF (enc rx) + rp.n + sizF (enc ry)), fI (lnsF (enc rx) + rp.k + lnsF (enc ry)), fI (bif rc then blkF (enc rx) else blkF (enc rx) + 1), fI (1 + if hghF (enc ry) > hghF (enc rx) then hghF (enc ry) else hghF (enc rx))] 0)), (5, tF (FV.pt [fI i.snd.fst.s, fI i.snd.fst.o, fI i.snd.fst.n, fI i.snd.fst.k, fB i.snd.snd.fst, enc i.snd.snd.snd.fst, enc i.snd.snd.snd.snd, fI (cntF (enc i.snd.snd.snd.fst) + 1 + cntF (enc i.snd.snd.snd.snd)), fI (sizF (enc i.snd.snd.snd.fst) + i.snd.fst.n + sizF (enc i.snd.snd.snd.snd)), fI (lnsF (enc i.snd.snd.snd.fst) + i.snd.fst.k + lnsF (enc i.snd.snd.snd.snd)), fI (bif i.snd.snd.fst then blkF (enc i.snd.snd.snd.fst) else blkF (enc i.snd.snd.snd.fst) + 1), fI (1 + if hghF (enc i.snd.snd.snd.snd) > hghF (enc i.snd.snd.snd.fst) then hghF (enc i.snd.snd.snd.snd) else hghF (enc i.snd.snd.snd.fst))] 0))] = [(0, tF (FV.pt [fI p.s, fI p.o, fI p.n, fI p.k, fB lc, enc x, enc y, fI (cntF (enc x) + 1 + cntF (enc y)), fI (sizF (enc x) + p.n + sizF (enc y)), fI (lnsF (enc x) + p.k + lnsF (enc y)), fI (bif lc then blkF (enc x) else blkF (enc x) + 1), fI (1 + if hghF (enc y) > hghF (enc x) then hghF (enc y) else hghF (enc x))] 0)), (1, tF (FV.pt [fI rp.s, fI rp.o, fI rp.n, fI rp.k, fB rc, enc rx, enc ry, fI (cntF (enc rx) + 1 + cntF (enc ry)), fI (sizF (enc rx) + rp.n + sizF (enc ry)), fI (lnsF (enc rx) + rp.k + lnsF (enc ry)), fI (bif rc then blkF (enc rx) else blkF (enc rx) + 1), fI (1 + if hghF (enc ry) > hghF (enc rx) then hghF (enc ry) else hghF (enc rx))] 0)), (5, tF (FV.pt [fI j.fst.s, fI j.fst.o, fI j.fst.n, fI j.fst.k, fB j.snd.fst, enc j.snd.snd, FV.v (Value.pointer none), fI (cntF (enc j.snd.snd) + 1 + 0), fI (sizF (enc j.snd.snd) + j.fst.n + 0), fI (lnsF (enc j.snd.snd) + j.fst.k + 0), fI (bif j.snd.fst then blkF (enc j.snd.snd) else blkF (enc j.snd.snd) + 1), fI (1 + if 0 > hghF (enc j.snd.snd) then 0 else hghF (enc j.snd.snd))] 0))]] (
 ([] : List VO) = [])) ∨ ((∃ j : (Pc × Bool × Tr) × Pc × Bool × Tr × Tr, Ck [1, 1, 1] [lastP (Tr.nd j.snd.fst j.snd.snd.fst j.snd.snd.snd.fst j.snd.snd.snd.snd) = lastP (Tr.nd p lc x y), (1 + j.snd.snd.snd.snd.num).succ ≤ 1 + i.snd.snd.snd.snd.num, [(0, tF (FV.pt [fI p.s, fI p.o, fI p.n, fI p.k, fB lc, enc x, enc y, fI (cntF (enc x) + 1 + cntF (enc y)), fI (sizF (enc x) + p.n + sizF (enc y)), fI (lnsF (enc x) + p.k + lnsF (enc y)), fI (bif lc then blkF (enc x) else blkF (enc x) + 1), fI (1 + if hghF (enc y) > hghF (enc x) then hghF (enc y) else hghF (enc x))] 0)), (1, tF (FV.pt [fI rp.s, fI rp.o, fI rp.n, fI rp.k, fB rc, enc rx, enc ry, fI (cntF (enc rx) + 1 + cntF (enc ry)), fI (sizF (enc rx) + rp.n + sizF (enc ry)), fI (lnsF (enc rx) + rp.k + lnsF (enc ry)), fI (bif rc then blkF (enc rx) else blkF (enc rx) + 1), fI (1 + if hghF (enc ry) > hghF (enc rx) then hghF (enc ry) else hghF (enc rx))] 0)), (5, tF (FV.pt [fI i.snd.fst.s, fI i.snd.fst.o, fI i.snd.fst.n, fI i.snd.fst.k, fB i.snd.snd.fst, enc i.snd.snd.snd.fst, enc i.snd.snd.snd.snd, fI (cntF (enc i.snd.snd.snd.fst) + 1 + cntF (enc i.snd.snd.snd.snd)), fI (sizF (enc i.snd.snd.snd.fst) + i.snd.fst.n + sizF (enc i.snd.snd.snd.snd)), fI (lnsF (enc i.snd.snd.snd.fst) + i.snd.fst.k + lnsF (enc i.snd.snd.snd.snd)), fI (bif i.snd.snd.fst then blkF (enc i.snd.snd.snd.fst) else blkF (enc i.snd.snd.snd.fst) + 1), fI (1 + if hghF (enc i.snd.snd.snd.snd) > hghF (enc i.snd.snd.snd.fst) then hghF (enc i.snd.snd.snd.snd) else hghF (enc i.snd.snd.snd.fst))] 0))] = [(0, tF (FV.pt [fI p.s, fI p.o, fI p.n, fI p.k, fB lc, enc x, enc y, fI (cntF (enc x) + 1 + cntF (enc y)), fI (sizF (enc x) + p.n + sizF (enc y)), fI (lnsF (enc x) + p.k + lnsF (enc y)), fI (bif lc then blkF (enc x) else blkF (enc x) + 1), fI (1 + if hghF (enc y) > hghF (enc x) then hghF (enc y) else hghF (enc x))] 0)), (1, tF (FV.pt [fI rp.s, fI rp.o, fI rp.n, fI rp.k, fB rc, enc rx, enc ry, fI (cntF (enc rx) + 1 + cntF (enc ry)), fI (sizF (enc rx) + rp.n + sizF (enc ry)), fI (lnsF (enc rx) + rp.k + lnsF (enc ry)), fI (bif rc then blkF (enc rx) else blkF (enc rx) + 1), fI (1 + if hghF (enc ry) > hghF (enc rx) then hghF (enc ry) else hghF (enc rx))] 0)), (5, tF (FV.pt [fI j.fst.fst.s, fI j.fst.fst.o, fI j.fst.fst.n, fI j.fst.fst.k, fB j.fst.snd.fst, enc j.fst.snd.snd, FV.pt [fI j.snd.fst.s, fI j.snd.fst.o, fI j.snd.fst.n, fI j.snd.fst.k, fB j.snd.snd.fst, enc j.snd.snd.snd.fst, enc j.snd.snd.snd.snd, fI (cntF (enc j.snd.snd.snd.fst) + 1 + cntF (enc j.snd.snd.snd.snd)), fI (sizF (enc j.snd.snd.snd.fst) + j.snd.fst.n + sizF (enc j.snd.snd.snd.snd)), fI (lnsF (enc j.snd.snd.snd.fst) + j.snd.fst.k + lnsF (enc j.snd.snd.snd.snd)), fI (bif j.snd.snd.fst then blkF (enc j.snd.snd.snd.fst) else blkF (enc j.snd.snd.snd.fst) + 1), fI (1 + if hghF (enc j.snd.snd.snd.snd) > hghF (enc j.snd.snd.snd.fst) then hghF (enc j.snd.snd.snd.snd) else hghF (enc j.snd.snd.snd.fst))] 0, fI (cntF (enc j.fst.snd.snd) + 1 + cntF (FV.pt [fI j.snd.fst.s, fI j.snd.fst.o, fI j.snd.fst.n, fI j.snd.fst.k, fB j.snd.snd.fst, enc j.snd.snd.snd.fst, enc j.snd.snd.snd.snd, fI (cntF (enc j.snd.snd.snd.fst) + 1 + cntF (enc j.snd.snd.snd.snd)), fI (sizF (enc j.snd.snd.snd.fst) + j.snd.fst.n + sizF (enc j.snd.snd.snd.snd)), fI (lnsF (enc j.snd.snd.snd.fst) + j.snd.fst.k + lnsF (enc j.snd.snd.snd.snd)), fI (bif j.snd.snd.fst then blkF (enc j.snd.snd.snd.fst) else blkF (enc j.snd.snd.snd.fst) + 1), fI (1 + if hghF (enc j.snd.snd.snd.snd) > hghF (enc j.snd.snd.snd.fst) then hghF (enc j.snd.snd.snd.snd) else hghF (enc j.snd.snd.snd.fst))] 0)), fI (sizF (enc j.fst.snd.snd) + j.fst.fst.n + sizF (FV.pt [fI j.snd.fst.s, fI j.snd.fst.o, fI j.snd.fst.n, fI j.snd.fst.k, fB j.snd.snd.fst, enc j.snd.snd.snd.fst, enc j.snd.snd.snd.snd, fI (cntF (enc j.snd.snd.snd.fst) + 1 + cntF (enc j.snd.snd.snd.snd)), fI (sizF (enc j.snd.snd.snd.fst) + j.snd.fst.n + sizF (enc j.snd.snd.snd.snd)), fI (lnsF (enc j.snd.snd.snd.fst) + j.snd.fst.k + lnsF (enc j.snd.snd.snd.snd)), fI (bif j.snd.snd.fst then blkF (enc j.snd.snd.snd.fst) else blkF (enc j.snd.snd.snd.fst) + 1), fI (1 + if hghF (enc j.snd.snd.snd.snd) > hghF (enc j.snd.snd.snd.fst) then hghF (enc j.snd.snd.snd.snd) else hghF (enc j.snd.snd.snd.fst))] 0)), fI (lnsF (enc j.fst.snd.snd) + j.fst.fst.k + lnsF (FV.pt [fI j.snd.fst.s, fI j.snd.fst.o, fI j.snd.fst.n, fI j.snd.fst.k, fB j.snd.snd.fst, enc j.snd.snd.snd.fst, enc j.snd.snd.snd.snd, fI (cntF (enc j.snd.snd.snd.fst) + 1 + cntF (enc j.snd.snd.snd.snd)), fI (sizF (enc j.snd.snd.snd.fst) + j.snd.fst.n + sizF (enc j.snd.snd.snd.snd)), fI (lnsF (enc j.snd.snd.snd.fst) + j.snd.fst.k + lnsF (enc j.snd.snd.snd.snd)), fI (bif j.snd.snd.fst then blkF (enc j.snd.snd.snd.fst) else blkF (enc j.snd.snd.snd.fst) + 1), fI (1 + if hghF (enc j.snd.snd.snd.snd) > hghF (enc j.snd.snd.snd.fst) then hghF (enc j.snd.snd.snd.snd) else hghF (enc j.snd.snd.snd.fst))] 0)), fI (bif j.fst.snd.fst then blkF (enc j.fst.snd.snd) else blkF (enc j.fst.snd.snd) + 1), fI (1 + if hghF (FV.pt [fI j.snd.fst.s, fI j.snd.fst.o, fI j.snd.fst.n, fI j.snd.fst.k, fB j.snd.snd.fst, enc j.snd.snd.snd.fst, enc j.snd.snd.snd.snd, fI (cntF (enc j.snd.snd.snd.fst) + 1 + cntF (enc j.snd.snd.snd.snd)), fI (sizF (enc j.snd.snd.snd.fst) + j.snd.fst.n + sizF (enc j.snd.snd.snd.snd)), fI (lnsF (enc j.snd.snd.snd.fst) + j.snd.fst.k + lnsF (enc j.snd.snd.snd.snd)), fI (bif j.snd.snd.fst then blkF (enc j.snd.snd.snd.fst) else blkF (enc j.snd.snd.snd.fst) + 1), fI (1 + if hghF (enc j.snd.snd.snd.snd) > hghF (enc j.snd.snd.snd.fst) then hghF (enc j.snd.snd.snd.snd) else hghF (enc j.snd.snd.snd.fst))] 0) > hghF (enc j.fst.snd.snd) then hghF (FV.pt [fI j.snd.fst.s, fI j.snd.fst.o, fI j.snd.fst.n, fI j.snd.fst.k, fB j.snd.snd.fst, enc j.snd.snd.snd.fst, enc j.snd.snd.snd.snd, fI (cntF (enc j.snd.snd.snd.fst) + 1 + cntF (enc j.snd.snd.snd.snd)), fI (sizF (enc j.snd.snd.snd.fst) + j.snd.fst.n + sizF (enc j.snd.snd.snd.snd)), fI (lnsF (enc j.snd.snd.snd.fst) + j.snd.fst.k + lnsF (enc j.snd.snd.snd.snd)), fI (bif j.snd.snd.fst then blkF (enc j.snd.snd.snd.fst) else blkF (enc j.snd.snd.snd.fst) + 1), fI (1 + if hghF (enc j.snd.snd.snd.snd) > hghF (enc j.snd.snd.snd.fst) then hghF (enc j.snd.snd.snd.snd) else hghF (enc j.snd.snd.snd.fst))] 0) else hghF (enc j.fst.snd.snd))] 0))]] (
 ([] : List VO) = [])) ∨ (False)))
theorem tog_d_b2_ok (lc rc : Bool) (x y rx ry a b : Tr) (p rp : Pc) (hl : isT (mkF lc (enc x) p (enc y))) (hs : VC Try.prog 66 [tF (mkF lc (enc x) p (enc y)), tI (cntF (enc x) + 1 + cntF (enc y) - 1)] [] (tp2 (enc a) (enc b)) []) (hj : VC Try.prog 65 [tF (enc a), tA (lastP (.nd p lc x y)).cs, tF (mkF rc (enc rx) rp (enc ry))] [] (tF (enc (a.join (lastP (.nd p lc x y)) (.nd rp rc rx ry)))) []) (i : (Pc × Bool × Tr) × Pc × Bool × Tr × Tr) (hi : lastP (Tr.nd i.snd.fst i.snd.snd.fst i.snd.snd.snd.fst i.snd.snd.snd.snd) = lastP (Tr.nd p lc x y)) : tog_d_b2 lc rc x y rx ry a b p rp hl hs hj i := by
  unfold tog_d_b2
  obtain ⟨⟨q0, c0, l0⟩, q, c, l, r⟩ := i
  cases r with
  | nil =>
    repeat' first
      | refine brE (fun _ _ => ?_) (fun _ _ => ?_)
      | refine brN (fun _ _ => ?_) (fun _ _ => ?_)
      | refine brD (fun _ _ => ?_) (fun _ _ => ?_)
      | refine brP_intro (fun _ => ?_) (fun _ => ?_)
      | refine ck ?_ ?_
      | exact allp0
      | refine allp2 ?_ ?_
    refine .inl ⟨(q, c, l), ?_⟩
    repeat' first
      | refine brE (fun _ _ => ?_) (fun _ _ => ?_)
      | refine brN (fun _ _ => ?_) (fun _ _ => ?_)
      | refine brD (fun _ _ => ?_) (fun _ _ => ?_)
      | refine brP_intro (fun _ => ?_) (fun _ => ?_)
      | refine ck ?_ ?_
      | exact allp0
      | refine allp2 ?_ ?_
    all_goals try first
      | with_reducible rfl
      | exact Exists.intro _ rfl
      | exact tI_nw (by omega) (by omega)
      | exact tB_of (by assumption)
      | exact fun i h_ => tog_d_b1_ok lc rc x y rx ry a b p rp hl hs hj i h_
      | rfl
      | exact hi
      | ((with_reducible show (_ : Int) ≤ _); omega)
      | ((with_reducible show (_ : Nat) ≤ _); omega)
      | ((with_reducible show (_ : Int) < _); omega)
  | nd p' c' l' r' =>
    repeat' first
      | refine brE (fun _ _ => ?_) (fun _ _ => ?_)
      | refine brN (fun _ _ => ?_) (fun _ _ => ?_)
      | refine brD (fun _ _ => ?_) (fun _ _ => ?_)
      | refine brP_intro (fun _ => ?_) (fun _ => ?_)
      | refine ck ?_ ?_
      | exact allp0
      | refine allp2 ?_ ?_
    refine .inr (.inl ⟨((q, c, l), (p', c', l', r')), ?_⟩)
    repeat' first
      | refine brE (fun _ _ => ?_) (fun _ _ => ?_)
      | refine brN (fun _ _ => ?_) (fun _ _ => ?_)
      | refine brD (fun _ _ => ?_) (fun _ _ => ?_)
      | refine brP_intro (fun _ => ?_) (fun _ => ?_)
      | refine ck ?_ ?_
      | exact allp0
      | refine allp2 ?_ ?_
    all_goals try first
      | with_reducible rfl
      | exact Exists.intro _ rfl
      | exact tI_nw (by omega) (by omega)
      | exact tB_of (by assumption)
      | exact fun i h_ => tog_d_b1_ok lc rc x y rx ry a b p rp hl hs hj i h_
      | rfl
      | exact hi
      | exact (by show 1 + Tr.num _ + 1 ≤ 1 + Tr.num _; simp only [Tr.num]; omega)
      | ((with_reducible show (_ : Int) ≤ _); omega)
      | ((with_reducible show (_ : Nat) ≤ _); omega)
      | ((with_reducible show (_ : Int) < _); omega)
theorem tog_d_w (lc rc : Bool) (x y rx ry a b : Tr) (p rp : Pc) (hl : isT (mkF lc (enc x) p (enc y))) (hs : VC Try.prog 66 [tF (mkF lc (enc x) p (enc y)), tI (cntF (enc x) + 1 + cntF (enc y) - 1)] [] (tp2 (enc a) (enc b)) []) (hj : VC Try.prog 65 [tF (enc a), tA (lastP (.nd p lc x y)).cs, tF (mkF rc (enc rx) rp (enc ry))] [] (tF (enc (a.join (lastP (.nd p lc x y)) (.nd rp rc rx ry)))) []) : Ck [0, 2, 0, 20, 0, 20, 0, 20, 803, 1, 1] [(∃ i : Pc × Bool × Tr, Ck [1, 1] [i.fst = lastP (Tr.nd p lc x y), [(0, tF (FV.pt [fI p.s, fI p.o, fI p.n, fI p.k, fB lc, enc x, enc y, fI (cntF (enc x) + 1 + cntF (enc y)), fI (sizF (enc x) + p.n + sizF (enc y)), fI (lnsF (enc x) + p.k + lnsF (enc y)), fI (bif lc then blkF (enc x) else blkF (enc x) + 1), fI (1 + if hghF (enc y) > hghF (enc x) then hghF (enc y) else hghF (enc x))] 0)), (1, tF (FV.pt [fI rp.s, fI rp.o, fI rp.n, fI rp.k, fB rc, enc rx, enc ry, fI (cntF (enc rx) + 1 + cntF (enc ry)), fI (sizF (enc rx) + rp.n + sizF (enc ry)), fI (lnsF (enc rx) + rp.k + lnsF (enc ry)), fI (bif rc then blkF (enc rx) else blkF (enc rx) + 1), fI (1 + if hghF (enc ry) > hghF (enc rx) then hghF (enc ry) else hghF (enc rx))] 0)), (5, tF (FV.pt [fI p.s, fI p.o, fI p.n, fI p.k, fB lc, enc x, enc y, fI (cntF (enc x) + 1 + cntF (enc y)), fI (sizF (enc x) + p.n + sizF (enc y)), fI (lnsF (enc x) + p.k + lnsF (enc y)), fI (bif lc then blkF (enc x) else blkF (enc x) + 1), fI (1 + if hghF (enc y) > hghF (enc x) then hghF (enc y) else hghF (enc x))] 0))] = [(0, tF (FV.pt [fI p.s, fI p.o, fI p.n, fI p.k, fB lc, enc x, enc y, fI (cntF (enc x) + 1 + cntF (enc y)), fI (sizF (enc x) + p.n + sizF (enc y)), fI (lnsF (enc x) + p.k + lnsF (enc y)), fI (bif lc then blkF (enc x) else blkF (enc x) + 1), fI (1 + if hghF (enc y) > hghF (enc x) then hghF (enc y) else hghF (enc x))] 0)), (1, tF (FV.pt [fI rp.s, fI rp.o, fI rp.n, fI rp.k, fB rc, enc rx, enc ry, fI (cntF (enc rx) + 1 + cntF (enc ry)), fI (sizF (enc rx) + rp.n + sizF (enc ry)), fI (lnsF (enc rx) + rp.k + lnsF (enc ry)), fI (bif rc then blkF (enc rx) else blkF (enc rx) + 1), fI (1 + if hghF (enc ry) > hghF (enc rx) then hghF (enc ry) else hghF (enc rx))] 0)), (5, tF (FV.pt [fI i.fst.s, fI i.fst.o, fI i.fst.n, fI i.fst.k, fB i.snd.fst, enc i.snd.snd, FV.v (Value.pointer none), fI (cntF (enc i.snd.snd) + 1 + 0), fI (sizF (enc i.snd.snd) + i.fst.n + 0), fI (lnsF (enc i.snd.snd) + i.fst.k + 0), fI (bif i.snd.fst then blkF (enc i.snd.snd) else blkF (enc i.snd.snd) + 1), fI (1 + if 0 > hghF (enc i.snd.snd) then 0 else hghF (enc i.snd.snd))] 0))]] (
 ([] : List VO) = [])) ∨ ((∃ i : (Pc × Bool × Tr) × Pc × Bool × Tr × Tr, Ck [1, 1] [lastP (Tr.nd i.snd.fst i.snd.snd.fst i.snd.snd.snd.fst i.snd.snd.snd.snd) = lastP (Tr.nd p lc x y), [(0, tF (FV.pt [fI p.s, fI p.o, fI p.n, fI p.k, fB lc, enc x, enc y, fI (cntF (enc x) + 1 + cntF (enc y)), fI (sizF (enc x) + p.n + sizF (enc y)), fI (lnsF (enc x) + p.k + lnsF (enc y)), fI (bif lc then blkF (enc x) else blkF (enc x) + 1), fI (1 + if hghF (enc y) > hghF (enc x) then hghF (enc y) else hghF (enc x))] 0)), (1, tF (FV.pt [fI rp.s, fI rp.o, fI rp.n, fI rp.k, fB rc, enc rx, enc ry, fI (cntF (enc rx) + 1 + cntF (enc ry)), fI (sizF (enc rx) + rp.n + sizF (enc ry)), fI (lnsF (enc rx) + rp.k + lnsF (enc ry)), fI (bif rc then blkF (enc rx) else blkF (enc rx) + 1), fI (1 + if hghF (enc ry) > hghF (enc rx) then hghF (enc ry) else hghF (enc rx))] 0)), (5, tF (FV.pt [fI p.s, fI p.o, fI p.n, fI p.k, fB lc, enc x, enc y, fI (cntF (enc x) + 1 + cntF (enc y)), fI (sizF (enc x) + p.n + sizF (enc y)), fI (lnsF (enc x) + p.k + lnsF (enc y)), fI (bif lc then blkF (enc x) else blkF (enc x) + 1), fI (1 + if hghF (enc y) > hghF (enc x) then hghF (enc y) else hghF (enc x))] 0))] = [(0, tF (FV.pt [fI p.s, fI p.o, fI p.n, fI p.k, fB lc, enc x, enc y, fI (cntF (enc x) + 1 + cntF (enc y)), fI (sizF (enc x) + p.n + sizF (enc y)), fI (lnsF (enc x) + p.k + lnsF (enc y)), fI (bif lc then blkF (enc x) else blkF (enc x) + 1), fI (1 + if hghF (enc y) > hghF (enc x) then hghF (enc y) else hghF (enc x))] 0)), (1, tF (FV.pt [fI rp.s, fI rp.o, fI rp.n, fI rp.k, fB rc, enc rx, enc ry, fI (cntF (enc rx) + 1 + cntF (enc ry)), fI (sizF (enc rx) + rp.n + sizF (enc ry)), fI (lnsF (enc rx) + rp.k + lnsF (enc ry)), fI (bif rc then blkF (enc rx) else blkF (enc rx) + 1), fI (1 + if hghF (enc ry) > hghF (enc rx) then hghF (enc ry) else hghF (enc rx))] 0)), (5, tF (FV.pt [fI i.fst.fst.s, fI i.fst.fst.o, fI i.fst.fst.n, fI i.fst.fst.k, fB i.fst.snd.fst, enc i.fst.snd.snd, FV.pt [fI i.snd.fst.s, fI i.snd.fst.o, fI i.snd.fst.n, fI i.snd.fst.k, fB i.snd.snd.fst, enc i.snd.snd.snd.fst, enc i.snd.snd.snd.snd, fI (cntF (enc i.snd.snd.snd.fst) + 1 + cntF (enc i.snd.snd.snd.snd)), fI (sizF (enc i.snd.snd.snd.fst) + i.snd.fst.n + sizF (enc i.snd.snd.snd.snd)), fI (lnsF (enc i.snd.snd.snd.fst) + i.snd.fst.k + lnsF (enc i.snd.snd.snd.snd)), fI (bif i.snd.snd.fst then blkF (enc i.snd.snd.snd.fst) else blkF (enc i.snd.snd.snd.fst) + 1), fI (1 + if hghF (enc i.snd.snd.snd.snd) > hghF (enc i.snd.snd.snd.fst) then hghF (enc i.snd.snd.snd.snd) else hghF (enc i.snd.snd.snd.fst))] 0, fI (cntF (enc i.fst.snd.snd) + 1 + cntF (FV.pt [fI i.snd.fst.s, fI i.snd.fst.o, fI i.snd.fst.n, fI i.snd.fst.k, fB i.snd.snd.fst, enc i.snd.snd.snd.fst, enc i.snd.snd.snd.snd, fI (cntF (enc i.snd.snd.snd.fst) + 1 + cntF (enc i.snd.snd.snd.snd)), fI (sizF (enc i.snd.snd.snd.fst) + i.snd.fst.n + sizF (enc i.snd.snd.snd.snd)), fI (lnsF (enc i.snd.snd.snd.fst) + i.snd.fst.k + lnsF (enc i.snd.snd.snd.snd)), fI (bif i.snd.snd.fst then blkF (enc i.snd.snd.snd.fst) else blkF (enc i.snd.snd.snd.fst) + 1), fI (1 + if hghF (enc i.snd.snd.snd.snd) > hghF (enc i.snd.snd.snd.fst) then hghF (enc i.snd.snd.snd.snd) else hghF (enc i.snd.snd.snd.fst))] 0)), fI (sizF (enc i.fst.snd.snd) + i.fst.fst.n + sizF (FV.pt [fI i.snd.fst.s, fI i.snd.fst.o, fI i.snd.fst.n, fI i.snd.fst.k, fB i.snd.snd.fst, enc i.snd.snd.snd.fst, enc i.snd.snd.snd.snd, fI (cntF (enc i.snd.snd.snd.fst) + 1 + cntF (enc i.snd.snd.snd.snd)), fI (sizF (enc i.snd.snd.snd.fst) + i.snd.fst.n + sizF (enc i.snd.snd.snd.snd)), fI (lnsF (enc i.snd.snd.snd.fst) + i.snd.fst.k + lnsF (enc i.snd.snd.snd.snd)), fI (bif i.snd.snd.fst then blkF (enc i.snd.snd.snd.fst) else blkF (enc i.snd.snd.snd.fst) + 1), fI (1 + if hghF (enc i.snd.snd.snd.snd) > hghF (enc i.snd.snd.snd.fst) then hghF (enc i.snd.snd.snd.snd) else hghF (enc i.snd.snd.snd.fst))] 0)), fI (lnsF (enc i.fst.snd.snd) + i.fst.fst.k + lnsF (FV.pt [fI i.snd.fst.s, fI i.snd.fst.o, fI i.snd.fst.n, fI i.snd.fst.k, fB i.snd.snd.fst, enc i.snd.snd.snd.fst, enc i.snd.snd.snd.snd, fI (cntF (enc i.snd.snd.snd.fst) + 1 + cntF (enc i.snd.snd.snd.snd)), fI (sizF (enc i.snd.snd.snd.fst) + i.snd.fst.n + sizF (enc i.snd.snd.snd.snd)), fI (lnsF (enc i.snd.snd.snd.fst) + i.snd.fst.k + lnsF (enc i.snd.snd.snd.snd)), fI (bif i.snd.snd.fst then blkF (enc i.snd.snd.snd.fst) else blkF (enc i.snd.snd.snd.fst) + 1), fI (1 + if hghF (enc i.snd.snd.snd.snd) > hghF (enc i.snd.snd.snd.fst) then hghF (enc i.snd.snd.snd.snd) else hghF (enc i.snd.snd.snd.fst))] 0)), fI (bif i.fst.snd.fst then blkF (enc i.fst.snd.snd) else blkF (enc i.fst.snd.snd) + 1), fI (1 + if hghF (FV.pt [fI i.snd.fst.s, fI i.snd.fst.o, fI i.snd.fst.n, fI i.snd.fst.k, fB i.snd.snd.fst, enc i.snd.snd.snd.fst, enc i.snd.snd.snd.snd, fI (cntF (enc i.snd.snd.snd.fst) + 1 + cntF (enc i.snd.snd.snd.snd)), fI (sizF (enc i.snd.snd.snd.fst) + i.snd.fst.n + sizF (enc i.snd.snd.snd.snd)), fI (lnsF (enc i.snd.snd.snd.fst) + i.snd.fst.k + lnsF (enc i.snd.snd.snd.snd)), fI (bif i.snd.snd.fst then blkF (enc i.snd.snd.snd.fst) else blkF (enc i.snd.snd.snd.fst) + 1), fI (1 + if hghF (enc i.snd.snd.snd.snd) > hghF (enc i.snd.snd.snd.fst) then hghF (enc i.snd.snd.snd.snd) else hghF (enc i.snd.snd.snd.fst))] 0) > hghF (enc i.fst.snd.snd) then hghF (FV.pt [fI i.snd.fst.s, fI i.snd.fst.o, fI i.snd.fst.n, fI i.snd.fst.k, fB i.snd.snd.fst, enc i.snd.snd.snd.fst, enc i.snd.snd.snd.snd, fI (cntF (enc i.snd.snd.snd.fst) + 1 + cntF (enc i.snd.snd.snd.snd)), fI (sizF (enc i.snd.snd.snd.fst) + i.snd.fst.n + sizF (enc i.snd.snd.snd.snd)), fI (lnsF (enc i.snd.snd.snd.fst) + i.snd.fst.k + lnsF (enc i.snd.snd.snd.snd)), fI (bif i.snd.snd.fst then blkF (enc i.snd.snd.snd.fst) else blkF (enc i.snd.snd.snd.fst) + 1), fI (1 + if hghF (enc i.snd.snd.snd.snd) > hghF (enc i.snd.snd.snd.fst) then hghF (enc i.snd.snd.snd.snd) else hghF (enc i.snd.snd.snd.fst))] 0) else hghF (enc i.fst.snd.snd))] 0))]] (
 ([] : List VO) = [])) ∨ (False)), ∀ i : Pc × Bool × Tr, ((i.fst = lastP (Tr.nd p lc x y)) → tog_d_b1 lc rc x y rx ry a b p rp hl hs hj i), ∀ i : (Pc × Bool × Tr) × Pc × Bool × Tr × Tr, ((lastP (Tr.nd i.snd.fst i.snd.snd.fst i.snd.snd.snd.fst i.snd.snd.snd.snd) = lastP (Tr.nd p lc x y)) → tog_d_b2 lc rc x y rx ry a b p rp hl hs hj i)] (
 True) := by
  cases y with
  | nil =>
    repeat' first
      | refine brE (fun _ _ => ?_) (fun _ _ => ?_)
      | refine brN (fun _ _ => ?_) (fun _ _ => ?_)
      | refine brD (fun _ _ => ?_) (fun _ _ => ?_)
      | refine brP_intro (fun _ => ?_) (fun _ => ?_)
      | refine ck ?_ ?_
      | exact allp0
      | refine allp2 ?_ ?_
    all_goals try exact fun i h_ => tog_d_b1_ok _ _ _ _ _ _ _ _ _ _ hl hs hj i h_
    all_goals try exact fun i h_ => tog_d_b2_ok _ _ _ _ _ _ _ _ _ _ hl hs hj i h_
    refine .inl ⟨(p, lc, x), ?_⟩
    repeat' first
      | refine brE (fun _ _ => ?_) (fun _ _ => ?_)
      | refine brN (fun _ _ => ?_) (fun _ _ => ?_)
      | refine brD (fun _ _ => ?_) (fun _ _ => ?_)
      | refine brP_intro (fun _ => ?_) (fun _ => ?_)
      | refine ck ?_ ?_
      | exact allp0
      | refine allp2 ?_ ?_
    all_goals try first
      | with_reducible rfl
      | exact Exists.intro _ rfl
      | exact tI_nw (by omega) (by omega)
      | exact tB_of (by assumption)
      | exact fun i h_ => tog_d_b1_ok lc rc x y rx ry a b p rp hl hs hj i h_
      | exact fun i h_ => tog_d_b2_ok lc rc x y rx ry a b p rp hl hs hj i h_
      | rfl
      | ((with_reducible show (_ : Int) ≤ _); omega)
      | ((with_reducible show (_ : Nat) ≤ _); omega)
      | ((with_reducible show (_ : Int) < _); omega)
  | nd p' c' l' r' =>
    repeat' first
      | refine brE (fun _ _ => ?_) (fun _ _ => ?_)
      | refine brN (fun _ _ => ?_) (fun _ _ => ?_)
      | refine brD (fun _ _ => ?_) (fun _ _ => ?_)
      | refine brP_intro (fun _ => ?_) (fun _ => ?_)
      | refine ck ?_ ?_
      | exact allp0
      | refine allp2 ?_ ?_
    all_goals try exact fun i h_ => tog_d_b1_ok _ _ _ _ _ _ _ _ _ _ hl hs hj i h_
    all_goals try exact fun i h_ => tog_d_b2_ok _ _ _ _ _ _ _ _ _ _ hl hs hj i h_
    refine .inr (.inl ⟨((p, lc, x), (p', c', l', r')), ?_⟩)
    repeat' first
      | refine brE (fun _ _ => ?_) (fun _ _ => ?_)
      | refine brN (fun _ _ => ?_) (fun _ _ => ?_)
      | refine brD (fun _ _ => ?_) (fun _ _ => ?_)
      | refine brP_intro (fun _ => ?_) (fun _ => ?_)
      | refine ck ?_ ?_
      | exact allp0
      | refine allp2 ?_ ?_
    all_goals try first
      | with_reducible rfl
      | exact Exists.intro _ rfl
      | exact tI_nw (by omega) (by omega)
      | exact tB_of (by assumption)
      | exact fun i h_ => tog_d_b1_ok lc rc x y rx ry a b p rp hl hs hj i h_
      | exact fun i h_ => tog_d_b2_ok lc rc x y rx ry a b p rp hl hs hj i h_
      | rfl
      | ((with_reducible show (_ : Int) ≤ _); omega)
      | ((with_reducible show (_ : Nat) ≤ _); omega)
      | ((with_reducible show (_ : Int) < _); omega)
theorem tog_d (lc rc : Bool) (x y rx ry a b : Tr) (p rp : Pc) (hl : isT (mkF lc (enc x) p (enc y))) (hs : VC Try.prog 66 [tF (mkF lc (enc x) p (enc y)), tI (cntF (enc x) + 1 + cntF (enc y) - 1)] [] (tp2 (enc a) (enc b)) []) (hj : VC Try.prog 65 [tF (enc a), tA (lastP (.nd p lc x y)).cs, tF (mkF rc (enc rx) rp (enc ry))] [] (tF (enc (a.join (lastP (.nd p lc x y)) (.nd rp rc rx ry)))) []) : VC Try.prog 64 ([tF (mkF lc (enc x) p (enc y)), tF (mkF rc (enc rx) rp (enc ry))]) ([]) (tF (enc (a.join (lastP (.nd p lc x y)) (.nd rp rc rx ry)))) ([]) :=
  vc_wp mixed nonum ⟨cmOf [(8, [(2, .tb (tq_tog_d lc rc x y rx ry a b p rp hl hs hj) [] none), (3, .nw), (4, .tb (fun g xs H => some (.one (tp2 (enc a) (enc b)) H)) [] none)]), (9, [(6, .tb (fun g xs H => some (.one (tF (enc (a.join (lastP (.nd p lc x y)) (.nd rp rc rx ry)))) H)) [] none)])], spOf [], ghOf [], loOf [(6, .invs [] [0, 1, 5] [⟨Pc × Bool × Tr, fun i => i.1 = lastP (.nd p lc x y), fun i => [(0, tF (mkF lc (enc x) p (enc y))), (1, tF (mkF rc (enc rx) rp (enc ry))), (5, tF (mkF i.2.1 (enc i.2.2) i.1 (.v (.pointer none))))], fun i => [], fun i => 0⟩, ⟨(Pc × Bool × Tr) × (Pc × Bool × Tr × Tr), fun i => lastP (.nd i.2.1 i.2.2.1 i.2.2.2.1 i.2.2.2.2) = lastP (.nd p lc x y), fun i => [(0, tF (mkF lc (enc x) p (enc y))), (1, tF (mkF rc (enc rx) rp (enc ry))), (5, tF (mkF i.1.2.1 (enc i.1.2.2) i.1.1 (mkF i.2.2.1 (enc i.2.2.2.1) i.2.1 (enc i.2.2.2.2))))], fun i => [], fun i => 1 + i.2.2.2.2.num⟩])], []⟩ [] (by kernel_rfl) (tog_d_w lc rc x y rx ry a b p rp hl hs hj)
theorem last_fit : ∀ (t : Tr) (p : Pc) (c : Bool) (l : Tr), Fit p → t.Ok → Fit (lastP (.nd p c l t))
  | .nil, p, c, l, hp, _ => hp
  | .nd q d a b, p, c, l, _, h => last_fit b q d a h.1 h.2.2
/-- put together without a piece between -/
def Tr.tog : Tr → Tr → Tr
  | .nil, r => r
  | .nd p c x y, .nil => .nd p c x y
  | .nd p c x y, .nd rp rc rx ry => (spl (Tr.nd p c x y).num (.nd p c x y) (cntF (enc x) + 1 + cntF (enc y) - 1)).1.join (lastP (.nd p c x y)) (.nd rp rc rx ry)
theorem spl_num : ∀ (k : Nat) (t : Tr) (n : Int), t.num ≤ k → Whole t → t.num ≤ 1073741824 → 0 ≤ n → n ≤ t.num → ((spl k t n).1.num : Int) = n
  | 0, .nil, n, _, _, _, h1, h2 => by
    have e : ((Tr.nil.num : Nat) : Int) = 0 := rfl
    rw [e] at h2
    show ((Tr.nil.num : Nat) : Int) = n
    rw [e]; omega
  | 0, .nd q c a b, n, h0, _, _, _, _ => by
    have hnl : (Tr.nd q c a b).num = a.num + 1 + b.num := rfl
    omega
  | k + 1, .nil, n, _, _, _, h1, h2 => by
    have e : ((Tr.nil.num : Nat) : Int) = 0 := rfl
    rw [e] at h2
    show ((Tr.nil.num : Nat) : Int) = n
    rw [e]; omega
  | k + 1, .nd q c a b, n, hk, hw, hn, h1, h2 => by
    have hnl : (Tr.nd q c a b).num = a.num + 1 + b.num := rfl
    rw [hnl] at hk hn h2
    have wa : Whole a := ⟨hw.ok.2.1, hw.bal.1⟩
    have wb : Whole b := ⟨hw.ok.2.2, hw.bal.2.1⟩
    have ea : a.bk.num = a.num := bk_num a
    have eb : b.bk.num = b.num := bk_num b
    have hc : cntF (enc a.bk) = a.num := by rw [cnt_num wa.bk.ok, ea]
    cases hd : decide (n > cntF (enc a.bk)) with
    | true =>
      have hgt : n > cntF (enc a.bk) := of_decide_eq_true hd
      have I := spl_num k b.bk (n - cntF (enc a.bk) - 1) (by omega) wb.bk (by omega) (by omega) (by omega)
      have S := spl_ok k b.bk (n - cntF (enc a.bk) - 1) (by omega) wb.bk (by omega) (by omega) (by omega)
      have e : (spl (k + 1) (.nd q c a b) n).1 = a.bk.join q (spl k b.bk (n - cntF (enc a.bk) - 1)).1 := by simp only [spl, hd, cond_true]
      have J := join_wh (p := q) wa.bk S.wu hw.ok.1 (by have := S.num; omega)
      rw [e, J.2]
      omega
    | false =>
      have hle : ¬ n > cntF (enc a.bk) := of_decide_eq_false hd
      have I := spl_num k a.bk n (by omega) wa.bk (by omega) h1 (by omega)
      have e : (spl (k + 1) (.nd q c a b) n).1 = (spl k a.bk n).1 := by simp only [spl, hd, cond_false]
      rw [e]; exact I
theorem tog_ok : ∀ (l r : Tr), Whole l → Whole r → l.num + r.num ≤ 1073741824 → VC Try.prog 64 [tF (enc l), tF (enc r)] [] (tF (enc (l.tog r))) [] ∧ Whole (l.tog r) ∧ (l.tog r).num = l.num + r.num
  | .nil, r, hl, hr, hn => ⟨tog_l (enc r), hr, by show r.num = 0 + r.num; omega⟩
  | .nd p c x y, .nil, hl, hr, hn => ⟨tog_r c (enc x) (enc y) p, hl, rfl⟩
  | .nd p c x y, .nd rp rc rx ry, hl, hr, hn => by
    have e1 : (Tr.nd p c x y).num = x.num + 1 + y.num := rfl
    have e2 : (Tr.nd rp rc rx ry).num = rx.num + 1 + ry.num := rfl
    have hx : cntF (enc x) = x.num := cnt_num hl.ok.2.1
    have hy : cntF (enc y) = y.num := cnt_num hl.ok.2.2
    have hlT : isT (mkF c (enc x) p (enc y)) := isT_nd hl.ok (by omega)
    have S := spl_ok (Tr.nd p c x y).num (.nd p c x y) (cntF (enc x) + 1 + cntF (enc y) - 1) (Nat.le_refl _) hl (by omega) (by omega) (by omega)
    have N := spl_num (Tr.nd p c x y).num (.nd p c x y) (cntF (enc x) + 1 + cntF (enc y) - 1) (Nat.le_refl _) hl (by omega) (by omega) (by omega)
    have hlf : Fit (lastP (.nd p c x y)) := last_fit y p c x hl.ok.1 hl.ok.2.2
    have hm : (spl (Tr.nd p c x y).num (.nd p c x y) (cntF (enc x) + 1 + cntF (enc y) - 1)).1.num + 1 + (Tr.nd rp rc rx ry).num ≤ 1073741824 := by omega
    have J := join_wh (p := lastP (.nd p c x y)) S.wu hr hlf hm
    refine ⟨tog_d c rc x y rx ry _ _ p rp hlT S.vc (join _ _ _ S.wu hr hlf hm), J.1, ?_⟩
    show ((spl (Tr.nd p c x y).num (.nd p c x y) (cntF (enc x) + 1 + cntF (enc y) - 1)).1.join (lastP (.nd p c x y)) (.nd rp rc rx ry)).num = _
    rw [J.2]
    omega
end Go.Proofs.Ytpjlgjhkdligfaa.Vg
