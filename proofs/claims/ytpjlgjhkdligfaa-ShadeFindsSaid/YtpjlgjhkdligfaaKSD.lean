/- Trees joined, parted. No law, no condition. -/
import Derived.Test.YtpjlgjhkdligfaaKSC
namespace Go.Proofs.Ytpjlgjhkdligfaa.Vg
open Go.RowKit
set_option maxRecDepth 100000
set_option linter.unusedVariables false
set_option linter.unusedSimpArgs false
def Tr.join (l : Tr) (p : Pc) (r : Tr) : Tr := bif decide (l.blk > r.blk) then (onR l p r).bk else bif decide (l.blk < r.blk) then (onL l p r).bk else .nd p false l r
theorem bk_Bal : ∀ {t : Tr}, t.Bal → t.bk.Bal
  | .nil, h => h
  | .nd _ _ _ _, h => h
theorem bk_blk : ∀ {t : Tr}, t.red = true → t.bk.blk = t.blk + 1
  | .nil, h => by cases h
  | .nd q c l r, h => by
    have : c = true := h
    subst this
    rfl
theorem onR_bal : ∀ (l : Tr) (p : Pc) (r : Tr), l.Bal → r.Bal → l.Ok → r.Ok → Fit p → l.num + 1 + r.num ≤ 1073741824 → r.blk ≤ l.blk → (onR l p r).Bal ∧ (onR l p r).blk = l.blk
  | .nil, p, r, hb, hc, hl, hr, hp, hn, hk => by
    have := blk_pos hr
    rw [blk_nil] at hk
    exact ⟨⟨trivial, hc, by rw [blk_nil]; omega⟩, rfl⟩
  | .nd q c a b, p, r, hb, hc, hl, hr, hp, hn, hk => by
    have hnl : (Tr.nd q c a b).num = a.num + 1 + b.num := rfl
    rw [hnl] at hn
    cases h0 : (!c && (a.blk + 1 == r.blk)) with
    | true =>
      have hcf : c = false := by cases c <;> simp_all
      subst hcf
      have h1 : a.blk + 1 = r.blk := by simpa using h0
      have e : onR (.nd q false a b) p r = .nd p true (.nd q false a b) r := by simp [onR, h1]
      rw [e]
      exact ⟨⟨hb, hc, h1⟩, rfl⟩
    | false =>
      have hk2 : r.blk ≤ b.blk := by
        rw [← hb.2.2]
        rw [blk_nd] at hk
        cases c with
        | true => exact hk
        | false =>
          have h1 : ¬ a.blk + 1 = r.blk := by simpa using h0
          simp only [cond_false] at hk
          omega
      obtain ⟨i1, i2⟩ := onR_bal b p r hb.2.1 hc hl.2.2 hr hp (by omega) hk2
      obtain ⟨_, _, _, mp, mc, ma, mb, hm⟩ := onR_ok b p r hl.2.2 hr hp (by omega) hb.2.1 hk2
      have e : onR (.nd q c a b) p r = bif !c && (mc && mb.red) then .nd mp true (.nd q false a ma) mb.bk else .nd q c a (.nd mp mc ma mb) := by
        simp only [onR, h0, hm, cond_false]
      rw [hm] at i1 i2
      rw [e]
      cases h2 : (!c && (mc && mb.red)) with
      | true =>
        obtain ⟨rfl, rfl, h3⟩ : c = false ∧ mc = true ∧ mb.red = true := by cases c <;> cases mc <;> simp_all
        have j2 : ma.blk = b.blk := i2
        have j3 := i1.2.2
        refine ⟨⟨⟨hb.1, i1.1, ?_⟩, bk_Bal i1.2.1, ?_⟩, rfl⟩
        · rw [hb.2.2]; exact j2.symm
        · rw [bk_blk h3]
          show a.blk + 1 = _
          rw [← j3, j2, hb.2.2]
      | false =>
        refine ⟨⟨hb.1, i1, ?_⟩, rfl⟩
        rw [hb.2.2]; exact i2.symm
theorem onL_bal (l : Tr) (p : Pc) : ∀ (r : Tr), l.Bal → r.Bal → l.Ok → r.Ok → Fit p → l.num + 1 + r.num ≤ 1073741824 → l.blk ≤ r.blk → (onL l p r).Bal ∧ (onL l p r).blk = r.blk
  | .nil, hb, hc, hl, hr, hp, hn, hk => by
    have e : onL l p .nil = .nd p true l .nil := by unfold onL; rfl
    have := blk_pos hl
    rw [blk_nil] at hk
    rw [e]
    exact ⟨⟨hb, trivial, by rw [blk_nil]; omega⟩, by rw [blk_nd]; simp only [cond_true, blk_nil]; omega⟩
  | .nd q c a b, hb, hc, hl, hr, hp, hn, hk => by
    have hnl : (Tr.nd q c a b).num = a.num + 1 + b.num := rfl
    rw [hnl] at hn
    cases h0 : (!c && (l.blk == a.blk + 1)) with
    | true =>
      have hcf : c = false := by cases c <;> simp_all
      subst hcf
      have h1 : l.blk = a.blk + 1 := by simpa using h0
      have e : onL l p (.nd q false a b) = .nd p true l (.nd q false a b) := by simp [onL, h1]
      rw [e]
      exact ⟨⟨hb, hc, h1⟩, h1⟩
    | false =>
      have hk2 : l.blk ≤ a.blk := by
        rw [blk_nd] at hk
        cases c with
        | true => exact hk
        | false =>
          have h1 : ¬ l.blk = a.blk + 1 := by simpa using h0
          simp only [cond_false] at hk
          omega
      obtain ⟨i1, i2⟩ := onL_bal l p a hb hc.1 hl hr.2.1 hp (by omega) hk2
      obtain ⟨_, _, _, mp, mc, ma, mb, hm⟩ := onL_ok l p a hl hr.2.1 hp (by omega) hc.1 hk2
      have e : onL l p (.nd q c a b) = bif !c && (mc && ma.red) then .nd mp true ma.bk (.nd q false mb b) else .nd q c (.nd mp mc ma mb) b := by
        simp only [onL, h0, hm, cond_false]
      rw [hm] at i1 i2
      rw [e]
      cases h2 : (!c && (mc && ma.red)) with
      | true =>
        obtain ⟨rfl, rfl, h3⟩ : c = false ∧ mc = true ∧ ma.red = true := by cases c <;> cases mc <;> simp_all
        have j2 : ma.blk = a.blk := i2
        have j3 := i1.2.2
        refine ⟨⟨bk_Bal i1.1, ⟨i1.2.1, hc.2.1, ?_⟩, ?_⟩, ?_⟩
        · rw [← j3, j2]; exact hc.2.2
        · rw [bk_blk h3]
          show _ = mb.blk + 1
          rw [j3]
        · show ma.bk.blk = a.blk + 1
          rw [bk_blk h3, j2]
      | false =>
        refine ⟨⟨i1, hc.2.1, ?_⟩, ?_⟩
        · exact i2.trans hc.2.2
        · cases c with
          | true => exact i2
          | false => show (Tr.nd mp mc ma mb).blk + 1 = a.blk + 1; rw [i2]
theorem join_gt {l r : Tr} {p : Pc} (h : blkF (enc l) > blkF (enc r)) : l.join p r = (onR l p r).bk := by
  have : decide (l.blk > r.blk) = true := decide_eq_true h
  simp only [Tr.join, this, cond_true]
theorem join_lt {l r : Tr} {p : Pc} (h0 : ¬ blkF (enc l) > blkF (enc r)) (h : blkF (enc l) < blkF (enc r)) : l.join p r = (onL l p r).bk := by
  have h1 : decide (l.blk > r.blk) = false := decide_eq_false h0
  have h2 : decide (l.blk < r.blk) = true := decide_eq_true h
  simp only [Tr.join, h1, h2, cond_true, cond_false]
theorem join_eq {l r : Tr} {p : Pc} (h0 : ¬ blkF (enc l) > blkF (enc r)) (h : ¬ blkF (enc l) < blkF (enc r)) : l.join p r = .nd p false l r := by
  have h1 : decide (l.blk > r.blk) = false := decide_eq_false h0
  have h2 : decide (l.blk < r.blk) = false := decide_eq_false h
  simp only [Tr.join, h1, h2, cond_false]
structure Whole (t : Tr) : Prop where
  ok : t.Ok
  bal : t.Bal
theorem join_wh {l r : Tr} {p : Pc} (hl : Whole l) (hr : Whole r) (hp : Fit p) (hn : l.num + 1 + r.num ≤ 1073741824) : Whole (l.join p r) ∧ (l.join p r).num = l.num + 1 + r.num := by
  by_cases h1 : blkF (enc l) > blkF (enc r)
  · rw [join_gt h1]
    have hk : r.blk ≤ l.blk := Int.le_of_lt h1
    have a := onR_ok l p r hl.ok hr.ok hp hn hl.bal hk
    exact ⟨⟨bk_Ok a.ok, bk_Bal (onR_bal l p r hl.bal hr.bal hl.ok hr.ok hp hn hk).1⟩, by rw [bk_num, a.num]⟩
  · by_cases h2 : blkF (enc l) < blkF (enc r)
    · rw [join_lt h1 h2]
      have hk : l.blk ≤ r.blk := Int.le_of_lt h2
      have a := onL_ok l p r hl.ok hr.ok hp hn hr.bal hk
      exact ⟨⟨bk_Ok a.ok, bk_Bal (onL_bal l p r hl.bal hr.bal hl.ok hr.ok hp hn hk).1⟩, by rw [bk_num, a.num]⟩
    · rw [join_eq h1 h2]
      exact ⟨⟨⟨hp, hl.ok, hr.ok⟩, ⟨hl.bal, hr.bal, by show blkF (enc l) = blkF (enc r); omega⟩⟩, rfl⟩
noncomputable def tq_join (l r : Tr) (p : Pc) (hl : Whole l) (hr : Whole r) (hp : Fit p) (hn : l.num + 1 + r.num ≤ 1073741824) : FuncId → List TV → List VO → Option Alt := tabOf [(75, t75_0_SB), (69, t69_0_SA), (40, t40_0_SA), (63, t63_0_SA), (68, t68_0_SA), (57, t57_0_SA), (55, t55_0_SA), (44, t44_0_SA)]
theorem join_w (l r : Tr) (p : Pc) (hl : Whole l) (hr : Whole r) (hp : Fit p) (hn : l.num + 1 + r.num ≤ 1073741824) : Ck [0, 20, 0, 135074, 0, 1640] [VC Try.prog 68 [tF (enc l)] [] (tI (blkF (enc l))) [], VC Try.prog 68 [tF (enc r)] [] (tI (blkF (enc r))) []] (
 brP (decide (blkF (enc l) > blkF (enc r))) (
 Ck [0, 154730, 0, 20, 1] [VC Try.prog 76 [tF (enc l), tA [cI p.s, cI p.o, cI p.n, cI p.k], tF (enc r)] [] (tF (enc (onR l p r))) [], VC Try.prog 75 [tF (enc (onR l p r))] [] (tF (enc (onR l p r).bk)) [], tF (enc (onR l p r).bk) = tF (enc (l.join p r))] (
 ([] : List VO) = [])) (
 Ck [0, 1640] [] (
 brP (decide (blkF (enc l) < blkF (enc r))) (
 Ck [0, 154730, 0, 20, 1] [VC Try.prog 77 [tF (enc l), tA [cI p.s, cI p.o, cI p.n, cI p.k], tF (enc r)] [] (tF (enc (onL l p r))) [], VC Try.prog 75 [tF (enc (onL l p r))] [] (tF (enc (onL l p r).bk)) [], tF (enc (onL l p r).bk) = tF (enc (l.join p r))] (
 ([] : List VO) = [])) (
 Ck [0, 16949, 0, 20, 1] [VC Try.prog 69 [tB false, tF (enc l), tA [cI p.s, cI p.o, cI p.n, cI p.k], tF (enc r)] [] (tF (FV.pt [fI p.s, fI p.o, fI p.n, fI p.k, fB false, enc l, enc r, fI (cntF (enc l) + 1 + cntF (enc r)), fI (sizF (enc l) + p.n + sizF (enc r)), fI (lnsF (enc l) + p.k + lnsF (enc r)), fI (bif false then blkF (enc l) else blkF (enc l) + 1), fI (1 + if hghF (enc r) > hghF (enc l) then hghF (enc r) else hghF (enc l))] 0)) [], tF (FV.pt [fI p.s, fI p.o, fI p.n, fI p.k, fB false, enc l, enc r, fI (cntF (enc l) + 1 + cntF (enc r)), fI (sizF (enc l) + p.n + sizF (enc r)), fI (lnsF (enc l) + p.k + lnsF (enc r)), fI (bif false then blkF (enc l) else blkF (enc l) + 1), fI (1 + if hghF (enc r) > hghF (enc l) then hghF (enc r) else hghF (enc l))] 0) = tF (enc (l.join p r))] (
 ([] : List VO) = []))))) := by
  have hlT : isT (enc l) := isT_of hl.ok (by omega)
  have hrT : isT (enc r) := isT_of hr.ok (by omega)
  repeat' first
    | refine brE (fun _ _ => ?_) (fun _ _ => ?_)
    | refine brN (fun _ _ => ?_) (fun _ _ => ?_)
    | refine brD (fun _ _ => ?_) (fun _ _ => ?_)
    | refine brP_intro (fun _ => ?_) (fun _ => ?_)
    | refine ck ?_ ?_
    | exact allp0
    | refine allp2 ?_ ?_
  all_goals try (have hk : r.blk ≤ l.blk := Int.le_of_lt (by assumption)
                 have a := onR_ok l p r hl.ok hr.ok hp hn hl.bal hk
                 first | exact a.vc | exact black_t _ a.ok (by rw [a.num]; exact hn) | exact congrArg tF (congrArg enc (join_gt (by assumption)).symm))
  all_goals try (have hk : l.blk ≤ r.blk := Int.le_of_lt (by assumption)
                 have a := onL_ok l p r hl.ok hr.ok hp hn hr.bal hk
                 first | exact a.vc | exact black_t _ a.ok (by rw [a.num]; exact hn) | exact congrArg tF (congrArg enc (join_lt (by assumption) (by assumption)).symm))
  repeat' first
    | refine brE (fun _ _ => ?_) (fun _ _ => ?_)
    | refine brN (fun _ _ => ?_) (fun _ _ => ?_)
    | refine brD (fun _ _ => ?_) (fun _ _ => ?_)
    | refine brP_intro (fun _ => ?_) (fun _ => ?_)
    | refine ck ?_ ?_
    | exact allp0
    | refine allp2 ?_ ?_
  all_goals try first
    | with_reducible rfl
    | exact Exists.intro _ rfl
    | exact tI_nw (by omega) (by omega)
    | exact tB_of (by assumption)
    | exact blk_n 
    | exact blk_d _ _ _ _
    | exact blk_x _ (by first | assumption | omega | (simp; done))
    | exact made _ _ _ _ (by first | assumption | omega | (simp; done)) (by first | assumption | omega | (simp; done)) (by first | assumption | omega | (simp; done))
    | exact black_d _ _ _ _ (by first | assumption | omega | (simp; done)) (by first | assumption | omega | (simp; done)) (by first | assumption | omega | (simp; done)) (by first | assumption | omega | (simp; done))
    | exact black_n 
    | exact black_x _ (by first | assumption | omega | (simp; done))
    | exact onR_n _ _ (by first | assumption | omega | (simp; done)) (by first | assumption | omega | (simp; done)) (by first | assumption | omega | (simp; done))
    | exact onR_d _ _ _ _ _ _ _ _ _ _ (by first | assumption | omega | (simp; done)) (by first | assumption | omega | (simp; done)) (by first | assumption | omega | (simp; done)) (by first | assumption | omega | (simp; done)) (by first | assumption | omega | (simp; done)) (by first | assumption | omega | (simp; done)) (by first | assumption | omega | (simp; done)) (by first | assumption | omega | (simp; done)) (by first | assumption | omega | (simp; done)) (by first | assumption | omega | (simp; done)) (by first | assumption | omega | (simp; done)) (by first | assumption | omega | (simp; done))
    | exact onL_n _ _ (by first | assumption | omega | (simp; done)) (by first | assumption | omega | (simp; done)) (by first | assumption | omega | (simp; done))
    | exact onL_d _ _ _ _ _ _ _ _ _ _ (by first | assumption | omega | (simp; done)) (by first | assumption | omega | (simp; done)) (by first | assumption | omega | (simp; done)) (by first | assumption | omega | (simp; done)) (by first | assumption | omega | (simp; done)) (by first | assumption | omega | (simp; done)) (by first | assumption | omega | (simp; done)) (by first | assumption | omega | (simp; done)) (by first | assumption | omega | (simp; done)) (by first | assumption | omega | (simp; done)) (by first | assumption | omega | (simp; done)) (by first | assumption | omega | (simp; done))
    | exact made false (enc l) (enc r) p hlT hrT hp
    | exact congrArg tF (congrArg enc (join_eq (by assumption) (by assumption)).symm)
    | ((with_reducible show (_ : Int) ≤ _); omega)
    | ((with_reducible show (_ : Nat) ≤ _); omega)
    | ((with_reducible show (_ : Int) < _); omega)
theorem join (l r : Tr) (p : Pc) (hl : Whole l) (hr : Whole r) (hp : Fit p) (hn : l.num + 1 + r.num ≤ 1073741824) : VC Try.prog 65 ([tF (enc l), tA p.cs, tF (enc r)]) ([]) (tF (enc (l.join p r))) ([]) :=
  vc_wp mixed nonum ⟨cmOf [(1, [(1, .tb (tq_join l r p hl hr hp hn) [] none), (3, .tb (tq_join l r p hl hr hp hn) [] none)]), (3, [(3, .tb (fun g xs H => some (.one (tF (enc (onR l p r))) H)) [] none), (4, .tb (fun g xs H => some (.one (tF (enc (onR l p r).bk)) H)) [] none)]), (5, [(3, .tb (fun g xs H => some (.one (tF (enc (onL l p r))) H)) [] none), (4, .tb (fun g xs H => some (.one (tF (enc (onL l p r).bk)) H)) [] none)]), (6, [(3, .tb (tq_join l r p hl hr hp hn) [] none)])], spOf [], ghOf [], loOf [], []⟩ [] (by kernel_rfl) (join_w l r p hl hr hp hn)
end Go.Proofs.Ytpjlgjhkdligfaa.Vg
