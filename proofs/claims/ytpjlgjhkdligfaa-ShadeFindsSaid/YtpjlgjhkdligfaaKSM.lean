/- Trees set in general; the reference's Fit. No law, no condition. -/
import Derived.Test.YtpjlgjhkdligfaaKSL
namespace Go.Proofs.Ytpjlgjhkdligfaa.Vg
open Go.RowKit
set_option maxRecDepth 100000
set_option linter.unusedVariables false
set_option linter.unusedSimpArgs false
theorem rfit_w (p : Pc) : Ck [0, 20, 0] [] (
 brP (decide (p.n ≥ 1)) (
 brP (decide (p.n ≤ 2147483647)) (
 brP (decide (p.k ≥ 0)) (
 Ck [14537434500918211133588627, 0, 20, 1] [tB (decide (p.n ≥ 1)) = tB true, tB (decide (p.n ≤ 2147483647)) = tB true, tB (decide (p.k ≥ 0)) = tB true, tB (decide (p.k ≤ p.n)) = tB (decide (Fit p))] (
 ([] : List VO) = [])) (
 Ck [14537434500918211133588627, 0, 20, 1] [tB (decide (p.n ≥ 1)) = tB true, tB (decide (p.n ≤ 2147483647)) = tB true, tB (decide (p.k ≥ 0)) = tB false, tB false = tB (decide (Fit p))] (
 ([] : List VO) = []))) (
 Ck [14537434500918211133588627, 0, 20, 1] [tB (decide (p.n ≥ 1)) = tB true, tB (decide (p.n ≤ 2147483647)) = tB false, tB false = tB false, tB false = tB (decide (Fit p))] (
 ([] : List VO) = []))) (
 Ck [14537434500918211133588627, 0, 20, 1] [tB (decide (p.n ≥ 1)) = tB false, tB false = tB false, tB false = tB false, tB false = tB (decide (Fit p))] (
 ([] : List VO) = []))) := by
  repeat' first
    | refine brE (fun _ _ => ?_) (fun _ _ => ?_)
    | refine brN (fun _ _ => ?_) (fun _ _ => ?_)
    | refine brD (fun _ _ => ?_) (fun _ _ => ?_)
    | refine brP_intro (fun _ => ?_) (fun _ => ?_)
    | refine ck ?_ ?_
    | exact allp0
    | refine allp2 ?_ ?_
  all_goals try first
    | with_reducible rfl
    | exact Exists.intro _ rfl
    | exact tI_nw (by omega) (by omega)
    | exact tB_of (by assumption)
    | exact tB_dd (by unfold Fit; omega)
    | exact tB_df (by unfold Fit; omega)
    | ((with_reducible show (_ : Int) ≤ _); omega)
    | ((with_reducible show (_ : Nat) ≤ _); omega)
    | ((with_reducible show (_ : Int) < _); omega)
    | (simp only [*]; done)
theorem rfit (p : Pc) : VC Try.prog 30 ([tA p.cs]) ([]) (tB (decide (Fit p))) ([]) :=
  vc_wp mixed nonum ⟨cmOf [], spOf [(1, [4, 10, 15])], ghOf [], loOf [], []⟩ [] (by kernel_rfl) (rfit_w p)
def setT : Tr → Int → Pc → Tr
  | .nil, _, _ => .nil
  | .nd q c a b, i, p => bif decide (i < cntF (enc a)) then .nd q c (setT a i p) b else bif decide (i > cntF (enc a)) then .nd q c a (setT b (i - cntF (enc a) - 1) p) else .nd p c a b
structure St (t : Tr) (i : Int) (p : Pc) (u : Tr) : Prop where
  vc : VC Try.prog 67 [tF (enc t), tI i, tA p.cs] [] (tF (enc u)) []
  wh : Whole u
  num : u.num = t.num
  blk : u.blk = t.blk
theorem set_ok : ∀ (t : Tr) (i : Int) (p : Pc), Whole t → Fit p → t.num ≤ 1073741824 → 0 ≤ i → i < t.num → St t i p (setT t i p)
  | .nil, i, p, _, _, _, h0, h1 => by
    have e : ((Tr.nil.num : Nat) : Int) = 0 := rfl
    rw [e] at h1
    omega
  | .nd q c a b, i, p, hw, hp, hn, h0, h1 => by
    have hnl : (Tr.nd q c a b).num = a.num + 1 + b.num := rfl
    rw [hnl] at hn h1
    have wa : Whole a := ⟨hw.ok.2.1, hw.bal.1⟩
    have wb : Whole b := ⟨hw.ok.2.2, hw.bal.2.1⟩
    have hc : cntF (enc a) = a.num := cnt_num wa.ok
    have haT : isT (enc a) := isT_of wa.ok (by omega)
    have hbT : isT (enc b) := isT_of wb.ok (by omega)
    cases hd : decide (i < cntF (enc a)) with
    | true =>
      have hlt : i < cntF (enc a) := of_decide_eq_true hd
      have I := set_ok a i p wa hp (by omega) h0 (by omega)
      have e : setT (.nd q c a b) i p = .nd q c (setT a i p) b := by simp only [setT, hd, cond_true]
      rw [e]
      generalize setT a i p = u at I
      have iv := I.num
      have hb := hw.bal.2.2
      refine ⟨set_l c (enc a) (enc b) (enc u) q p i haT hbT (isT_of I.wh.ok (by omega)) hw.ok.1 hlt I.vc, ⟨⟨hw.ok.1, I.wh.ok, wb.ok⟩, ⟨I.wh.bal, wb.bal, by rw [I.blk]; exact hb⟩⟩, by show u.num + 1 + b.num = a.num + 1 + b.num; omega, ?_⟩
      rw [blk_nd, blk_nd, I.blk]
    | false =>
      have hge : ¬ i < cntF (enc a) := of_decide_eq_false hd
      cases hg : decide (i > cntF (enc a)) with
      | true =>
        have hgt : i > cntF (enc a) := of_decide_eq_true hg
        have I := set_ok b (i - cntF (enc a) - 1) p wb hp (by omega) (by omega) (by omega)
        have e : setT (.nd q c a b) i p = .nd q c a (setT b (i - cntF (enc a) - 1) p) := by simp only [setT, hd, hg, cond_true, cond_false]
        rw [e]
        generalize setT b (i - cntF (enc a) - 1) p = u at I
        have iv := I.num
        have hb := hw.bal.2.2
        exact ⟨set_r c (enc a) (enc b) (enc u) q p i haT hbT (isT_of I.wh.ok (by omega)) hw.ok.1 hgt (by omega) I.vc, ⟨⟨hw.ok.1, wa.ok, I.wh.ok⟩, ⟨wa.bal, I.wh.bal, by rw [I.blk]; exact hb⟩⟩, by show a.num + 1 + u.num = a.num + 1 + b.num; omega, rfl⟩
      | false =>
        have hle : ¬ i > cntF (enc a) := of_decide_eq_false hg
        have e : setT (.nd q c a b) i p = .nd p c a b := by simp only [setT, hd, hg, cond_false]
        rw [e]
        exact ⟨set_m c (enc a) (enc b) q p i haT hbT hp (by omega), ⟨⟨hp, wa.ok, wb.ok⟩, hw.bal⟩, rfl, rfl⟩
end Go.Proofs.Ytpjlgjhkdligfaa.Vg
