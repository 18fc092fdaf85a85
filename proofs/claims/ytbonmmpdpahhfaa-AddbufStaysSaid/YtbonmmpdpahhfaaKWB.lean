/- A buffer's functions, second part. No law, no condition. -/
import Derived.Test.YtbonmmpdpahhfaaKWCnt
namespace Go.Proofs.Ytbonmmpdpahhfaa.Vg
open Go.RowKit
set_option maxRecDepth 100000
set_option linter.unusedVariables false
set_option linter.unusedSimpArgs false
noncomputable def t15_0_WB (o A : List Int) : List TV → List VO → Option Alt
  | [_, (.o (.ag [(.f (.v (.int .i64 a))), (.f (.v (.int .i64 b))), (.f (.v (.int .i64 c)))]))], H => some (.one (rdT o A a b c) H)
  | _, _ => none
theorem nls_le (p : List Int) : nls p ≤ p.length := List.length_filter_le _ _
theorem nls_app (p q : List Int) : nls (p ++ q) = nls p + nls q := by unfold nls; simp
theorem nls_snoc {p : List Int} {i : Nat} (h : i < p.length) : nls (p.take (i + 1)) = nls (p.take i) + (bif p.getD i 0 == 10 then 1 else 0) := by
  rw [← List.take_append_getElem h, nls_app]
  have : p.getD i 0 = p[i] := by simp [List.getD, h]
  rw [this]
  unfold nls
  rw [List.filter_cons, List.filter_nil]
  cases hq : (p[i] == 10) <;> rfl
theorem nls_ne {p : List Int} {i : Nat} (h : i < p.length) (h1 : ¬ p.getD i 0 = 10) : nls (p.take (i + 1)) = nls (p.take i) := by
  rw [nls_snoc h, beq_eq_false_iff_ne.2 h1]
  rfl
theorem nls_eq {p : List Int} {i : Nat} (h : i < p.length) (h1 : p.getD i 0 = 10) : nls (p.take (i + 1)) = nls (p.take i) + 1 := by
  rw [nls_snoc h, h1]
  rfl
/-- the line ends' places -/
def ends (p : List Int) : List Nat := (List.range p.length).filter fun i => p.getD i 0 == 10
theorem ends_take {p : List Int} : ∀ {i : Nat}, i ≤ p.length → ((List.range i).filter fun i => p.getD i 0 == 10).length = nls (p.take i)
  | 0, _ => by simp [nls]
  | i + 1, h => by
    rw [List.range_succ, List.filter_append, List.length_append, ends_take (by omega), nls_snoc (by omega), List.filter_cons, List.filter_nil]
    cases hq : (p.getD i 0 == 10) <;> rfl
theorem ends_len (p : List Int) : (ends p).length = nls p := by
  unfold ends
  rw [ends_take (Nat.le_refl _), List.take_length]
theorem ends_at {p : List Int} {i : Nat} (h : i < p.length) (h10 : p.getD i 0 = 10) : (ends p).getD (nls (p.take i)) 0 = i ∧ nls (p.take i) < nls p := by
  have e : ends p = (List.range i).filter (fun i => p.getD i 0 == 10) ++ (i :: ((List.range (p.length - i - 1)).map (fun j => i + 1 + j)).filter fun i => p.getD i 0 == 10) := by
    unfold ends
    have : p.length = i + (1 + (p.length - i - 1)) := by omega
    conv => lhs; rw [this, List.range_add, List.filter_append]
    rw [List.range_add, List.map_append, List.filter_append]
    congr 1
    have e1 : (p.getD i 0 == 10) = true := by rw [h10]; rfl
    show ((List.map (fun x => i + x) [0]).filter _) ++ _ = _
    rw [List.map_cons, List.map_nil, Nat.add_zero, List.filter_cons, e1, List.map_map]
    simp [Function.comp_def, Nat.add_assoc]
  have hl : ((List.range i).filter fun i => p.getD i 0 == 10).length = nls (p.take i) := ends_take (by omega)
  constructor
  · rw [e, List.getD_eq_getElem?_getD, List.getElem?_append_right (by omega), hl, Nat.sub_self]
    rfl
  · have h2 := congrArg List.length e
    rw [ends_len, List.length_append, hl, List.length_cons] at h2
    omega
def laB (p : List Int) (n : Int) : Bool := decide (0 ≤ n) && decide (n < nls p)
def laI (p : List Int) (n : Int) : Int := bif laB p n then (((ends p).getD n.toNat 0 : Nat) : Int) else 0
def laE (p : List Int) (n : Int) : Int := bif laB p n then 0 else 2
def laT (o A : List Int) (a b c n : Int) : TV := .tp [.c (cI (bif Hd o A a b c then laI (rdB o A a b c) n else 0)), .c (cI (bif Hd o A a b c then laE (rdB o A a b c) n else 10))]
theorem rdE_ne {o A : List Int} {a b c : Int} (h : ¬ rdE o A a b c = 0) : Hd o A a b c = false ∧ rdE o A a b c = 10 := by
  unfold rdE at *
  cases hh : Hd o A a b c with
  | true => rw [hh] at h; exact absurd rfl h
  | false => exact ⟨rfl, rfl⟩
theorem rdE_eq {o A : List Int} {a b c : Int} (h : rdE o A a b c = 0) : Hd o A a b c = true := by
  unfold rdE at *
  cases hh : Hd o A a b c with
  | true => rfl
  | false => rw [hh] at h; exact absurd h (by decide)
theorem la_out {p : List Int} {n : Int} (h : laB p n = false) : laI p n = 0 ∧ laE p n = 2 := by simp [laI, laE, h]
theorem la_at {p : List Int} {n : Int} {i : Nat} (h : i < p.length) (h10 : p.getD i 0 = 10) (hn : n - nls (p.take i) = 0) : laI p n = i ∧ laE p n = 0 := by
  obtain ⟨h1, h2⟩ := ends_at h h10
  have e : n = (nls (p.take i) : Nat) := by omega
  have hb : laB p n = true := by
    unfold laB
    simp only [Bool.and_eq_true, decide_eq_true_eq]
    omega
  have e2 : n.toNat = nls (p.take i) := by omega
  simp only [laI, laE, hb, e2, h1, cond_true, and_self]
theorem la_end {p : List Int} {n : Int} {i : Nat} (h : i ≤ p.length ∧ (nls (p.take i) : Int) ≤ n) (h1 : ¬ i < p.length) : laI p n = 0 ∧ laE p n = 2 := by
  refine la_out ?_
  have h9 : i = p.length := by omega
  rw [h9, List.take_length] at h
  unfold laB
  rw [Bool.and_eq_false_iff, decide_eq_false_iff_not, decide_eq_false_iff_not]
  omega
theorem la_neg {p : List Int} {n : Int} (h : ¬ n ≥ 0) : laI p n = 0 ∧ laE p n = 2 := by
  refine la_out ?_
  unfold laB
  rw [Bool.and_eq_false_iff, decide_eq_false_iff_not, decide_eq_false_iff_not]
  omega
theorem rdB_byt {o A : List Int} {a b c : Int} (ho : Byt o) (hA : Byt A) : Byt (rdB o A a b c) := by
  unfold rdB src
  cases Hd o A a b c with
  | false => exact fun x hx => by cases hx
  | true =>
    cases a == 0 with
    | true => exact (ho.drop _).take _
    | false => exact (hA.drop _).take _
theorem rdB_len (o A : List Int) (a b c : Int) (h : A.length ≤ 140737488355328) : (rdB o A a b c).length ≤ 4611686018427387904 := by
  unfold rdB
  cases hh : Hd o A a b c with
  | false => exact Nat.zero_le _
  | true =>
    have h1 := (hd_out hh).1
    unfold Snd at h1
    simp only [cond_true, List.length_take]
    omega
noncomputable def tq_lineAt (o A : List Int) (a b c n : Int) (hb : Byt o) (hl : A.length ≤ 140737488355328) (hn : n ≤ 9223372036854775807) : FuncId → List TV → List VO → Option Alt := tabOf [(15, t15_0_WB o A), (27, t27_0_WA), (17, t17_0_WA o A), (14, t14_0_WA o A), (25, t25_0_WA)]
theorem lineAt_w (o A : List Int) (a b c n : Int) (hb : Byt o) (hl : A.length ≤ 140737488355328) (hn : n ≤ 9223372036854775807) : Ck [0, 182, 0, 10761923, 0, 20] [VC Try.prog 15 [tC (CV.rp 0 0), tA [cI a, cI b, cI c]] [VO.bx [CV.f (FV.v (Value.string (sO o))), CV.rw 1 A.length] 60, VO.fx (List.map u8v A) 5] (TV.tp [T1.c (CV.f (FV.sl none (List.map u8v (rdB o A a b c)) (rdB o A a b c).length)), T1.c (cI (rdE o A a b c))]) [VO.bx [CV.f (FV.v (Value.string (sO o))), CV.rw 1 A.length] 60, VO.fx (List.map u8v A) 5]] (
 brP (rdE o A a b c != 0) (
  Ck [0, 182, 0, 182, 1] [TV.tp [T1.c (cI 0), T1.c (cI (rdE o A a b c))] = TV.tp [T1.c (cI (bif Hd o A a b c then laI (rdB o A a b c) n else 0)), T1.c (cI (bif Hd o A a b c then laE (rdB o A a b c) n else 10))]] (
  ([VO.bx [CV.f (FV.v (Value.string (sO o))), CV.rw 1 A.length] 60, VO.fx (List.map u8v A) 5] : List VO) = [VO.bx [CV.f (FV.v (Value.string (sO o))), CV.rw 1 A.length] 60, VO.fx (List.map u8v A) 5])) (
  Ck [0, 20] [] (
  brP (decide (n ≥ 0)) (
   Ck [0, 182, 803] [∃ i : Nat, Ck [14, 1] [i ≤ (rdB o A a b c).length, (↑(nls (List.take i (rdB o A a b c))) : Int) ≤ n, [(2, tI n), (23, tF (FV.sl none (List.map u8v (rdB o A a b c)) (rdB o A a b c).length)), (24, tI (↑(rdB o A a b c).length : Int)), (25, tI 0)] = [(2, tI (n - (↑(nls (List.take i (rdB o A a b c))) : Int))), (23, tF (FV.sl none (List.map u8v (rdB o A a b c)) (rdB o A a b c).length)), (24, tI (↑(rdB o A a b c).length : Int)), (25, tI (↑i : Int))]] (
      ([VO.bx [CV.f (FV.v (Value.string (sO o))), CV.rw 1 A.length] 60, VO.fx (List.map u8v A) 5] : List VO) = [VO.bx [CV.f (FV.v (Value.string (sO o))), CV.rw 1 A.length] 60, VO.fx (List.map u8v A) 5])] (
   ∀ i : Nat, ((i ≤ (rdB o A a b c).length ∧ (↑(nls (List.take i (rdB o A a b c))) : Int) ≤ n) → Ck [0, 2] [] (
     brP (decide ((↑i : Int) < (↑(rdB o A a b c).length : Int))) (
      Ck [0, 135263, 0, 20] [0 ≤ (↑i : Int), (↑i : Int) < (↑(rdB o A a b c).length : Int), (List.take 1 (List.drop (i * 1) (List.map u8v (rdB o A a b c))) : List FV) = [u8v ((rdB o A a b c).getD (i * 1) 0)]] (
      brP ((rdB o A a b c).getD (i * 1) 0 != 10) (
       Ck [0, 197, 2] [tI (IntKind.i64.wrap (↑(i + 1) : Int)) = tI (↑(i + 1) : Int)] (
       ∃ j : Nat, Ck [14, 1, 1] [j ≤ (rdB o A a b c).length, (↑(nls (List.take j (rdB o A a b c))) : Int) ≤ n, ((rdB o A a b c).length - j).succ ≤ (rdB o A a b c).length - i, [(2, tI (n - (↑(nls (List.take i (rdB o A a b c))) : Int))), (23, tF (FV.sl none (List.map u8v (rdB o A a b c)) (rdB o A a b c).length)), (24, tI (↑(rdB o A a b c).length : Int)), (25, tI (↑(i + 1) : Int))] = [(2, tI (n - (↑(nls (List.take j (rdB o A a b c))) : Int))), (23, tF (FV.sl none (List.map u8v (rdB o A a b c)) (rdB o A a b c).length)), (24, tI (↑(rdB o A a b c).length : Int)), (25, tI (↑j : Int))]] (
        ([VO.bx [CV.f (FV.v (Value.string (sO o))), CV.rw 1 A.length] 60, VO.fx (List.map u8v A) 5] : List VO) = [VO.bx [CV.f (FV.v (Value.string (sO o))), CV.rw 1 A.length] 60, VO.fx (List.map u8v A) 5]))) (
       Ck [0, 20] [] (
       brP (n - (↑(nls (List.take i (rdB o A a b c))) : Int) == 0) (
        Ck [0, 182, 0, 182, 1] [TV.tp [T1.c (cI (↑i : Int)), T1.c (cI 0)] = TV.tp [T1.c (cI (bif Hd o A a b c then laI (rdB o A a b c) n else 0)), T1.c (cI (bif Hd o A a b c then laE (rdB o A a b c) n else 10))]] (
        ([VO.bx [CV.f (FV.v (Value.string (sO o))), CV.rw 1 A.length] 60, VO.fx (List.map u8v A) 5] : List VO) = [VO.bx [CV.f (FV.v (Value.string (sO o))), CV.rw 1 A.length] 60, VO.fx (List.map u8v A) 5])) (
        Ck [0, 1775, 0, 197, 2] [tI (IntKind.i64.wrap (n - (↑(nls (List.take i (rdB o A a b c))) : Int) - 1)) = tI (n - (↑(nls (List.take i (rdB o A a b c))) : Int) - 1), tI (IntKind.i64.wrap (↑(i + 1) : Int)) = tI (↑(i + 1) : Int)] (
        ∃ j : Nat, Ck [14, 1, 1] [j ≤ (rdB o A a b c).length, (↑(nls (List.take j (rdB o A a b c))) : Int) ≤ n, ((rdB o A a b c).length - j).succ ≤ (rdB o A a b c).length - i, [(2, tI (n - (↑(nls (List.take i (rdB o A a b c))) : Int) - 1)), (23, tF (FV.sl none (List.map u8v (rdB o A a b c)) (rdB o A a b c).length)), (24, tI (↑(rdB o A a b c).length : Int)), (25, tI (↑(i + 1) : Int))] = [(2, tI (n - (↑(nls (List.take j (rdB o A a b c))) : Int))), (23, tF (FV.sl none (List.map u8v (rdB o A a b c)) (rdB o A a b c).length)), (24, tI (↑(rdB o A a b c).length : Int)), (25, tI (↑j : Int))]] (
         ([VO.bx [CV.f (FV.v (Value.string (sO o))), CV.rw 1 A.length] 60, VO.fx (List.map u8v A) 5] : List VO) = [VO.bx [CV.f (FV.v (Value.string (sO o))), CV.rw 1 A.length] 60, VO.fx (List.map u8v A) 5]))))))) (
      Ck [0, 20, 0, 182, 1] [TV.tp [T1.c (cI 0), T1.c (cI 2)] = TV.tp [T1.c (cI (bif Hd o A a b c then laI (rdB o A a b c) n else 0)), T1.c (cI (bif Hd o A a b c then laE (rdB o A a b c) n else 10))]] (
      ([VO.bx [CV.f (FV.v (Value.string (sO o))), CV.rw 1 A.length] 60, VO.fx (List.map u8v A) 5] : List VO) = [VO.bx [CV.f (FV.v (Value.string (sO o))), CV.rw 1 A.length] 60, VO.fx (List.map u8v A) 5])))))) (
   Ck [0, 20, 0, 182, 1] [TV.tp [T1.c (cI 0), T1.c (cI 2)] = TV.tp [T1.c (cI (bif Hd o A a b c then laI (rdB o A a b c) n else 0)), T1.c (cI (bif Hd o A a b c then laE (rdB o A a b c) n else 10))]] (
   ([VO.bx [CV.f (FV.v (Value.string (sO o))), CV.rw 1 A.length] 60, VO.fx (List.map u8v A) 5] : List VO) = [VO.bx [CV.f (FV.v (Value.string (sO o))), CV.rw 1 A.length] 60, VO.fx (List.map u8v A) 5]))))) := by
  have hsz := rdB_len o A a b c hl
  repeat' first
    | refine brE (fun _ _ => ?_) (fun _ _ => ?_)
    | refine brN (fun _ _ => ?_) (fun _ _ => ?_)
    | refine brD (fun _ _ => ?_) (fun _ _ => ?_)
    | refine brP_intro (fun _ => ?_) (fun _ => ?_)
    | refine ck ?_ ?_
    | exact allp0
    | refine allp2 ?_ ?_
    | (intro i hi)
  all_goals try simp only [Nat.mul_one] at *
  all_goals try (have hE := rdE_ne ‹_›; simp only [hE.1, hE.2]; rfl)
  all_goals try (have hE := rdE_eq ‹_›; simp only [hE])
  all_goals try (have hL := la_at (p := rdB o A a b c) (n := n) (i := i) (by omega) (by assumption) (by assumption); simp only [hL.1, hL.2]; try rfl)
  all_goals try (have hL := la_end hi (by omega); simp only [hL.1, hL.2]; try rfl)
  all_goals try (have hL := la_neg (p := rdB o A a b c) ‹¬ n ≥ 0›; simp only [hL.1, hL.2]; try rfl)
  repeat' first
    | refine brE (fun _ _ => ?_) (fun _ _ => ?_)
    | refine brN (fun _ _ => ?_) (fun _ _ => ?_)
    | refine brD (fun _ _ => ?_) (fun _ _ => ?_)
    | refine brP_intro (fun _ => ?_) (fun _ => ?_)
    | refine ck ?_ ?_
    | exact allp0
    | refine allp2 ?_ ?_
    | (intro i hi)
  all_goals try first
    | with_reducible rfl
    | exact ⟨_, rfl⟩
    | exact tI_nw (by omega) (by omega)
    | exact tB_of (by assumption)
    | omega
    | exact read _ _ _ _ _ (by first | assumption | omega | (simp; done)) (by first | assumption | omega | (simp; done))
    | exact ld1 (by omega)
    | exact ⟨0, ck (allp2 (by omega) (allp2 (by simp [nls]; omega) (allp2 (by simp [nls]) allp0))) trivial⟩
    | exact ⟨i + 1, ck (allp2 (by omega) (allp2 (by rw [nls_ne (by omega) (by assumption)]; exact hi.2) (allp2 (by omega) (allp2 (by rw [nls_ne (by omega) (by assumption)]) allp0)))) trivial⟩
    | exact ⟨i + 1, ck (allp2 (by omega) (allp2 (by rw [nls_eq (by omega) (by assumption)]; omega) (allp2 (by omega) (allp2 (by rw [nls_eq (by omega) (by assumption)]; simp only [Int.natCast_add, Int.sub_sub]; rfl) allp0)))) trivial⟩
    | (simp only [*]; done)
theorem lineAt (o A : List Int) (a b c n : Int) (hb : Byt o) (hl : A.length ≤ 140737488355328) (hn : n ≤ 9223372036854775807) : VC Try.prog 33 ([tC (.rp 0 0), tA (spn a b c), tI n]) (Bf o A) (laT o A a b c n) (Bf o A) :=
  vc_wp mixed nonum ⟨cmOf [(1, [(2, .tb (tq_lineAt o A a b c n hb hl hn) [] none)]), (7, [(2, .fn fun tw => .ld [u8v ((rdB o A a b c).getD (ptO (tget tw 28)) 0)])]), (11, [(1, .nw)]), (12, [(0, .nw)])], spOf [(1, [2])], ghOf [], loOf [(6, .inv [] [2, 23, 24, 25] ⟨Nat, fun i => i ≤ (rdB o A a b c).length ∧ (nls ((rdB o A a b c).take i) : Int) ≤ n, fun i => [(2, tI (n - nls ((rdB o A a b c).take i))), (23, tF (byt none (rdB o A a b c))), (24, tI (rdB o A a b c).length), (25, tI i)], fun i => Bf o A, fun i => (rdB o A a b c).length - i⟩)], []⟩ [] (by kernel_rfl) (lineAt_w o A a b c n hb hl hn)
noncomputable def tq_lines (o A : List Int) (a b c : Int) (hb : Byt o) (hA : Byt A) (hl : A.length ≤ 140737488355328) : FuncId → List TV → List VO → Option Alt := tabOf [(15, t15_0_WB o A), (27, t27_0_WA), (17, t17_0_WA o A), (14, t14_0_WA o A), (25, t25_0_WA)]
theorem lines_w (o A : List Int) (a b c : Int) (hb : Byt o) (hA : Byt A) (hl : A.length ≤ 140737488355328) : Ck [0, 182, 0, 10761923, 0, 133103, 0, 182, 1] [VC Try.prog 15 [tC (CV.rp 0 0), tA [cI a, cI b, cI c]] [VO.bx [CV.f (FV.v (Value.string (sO o))), CV.rw 1 A.length] 60, VO.fx (List.map u8v A) 5] (TV.tp [T1.c (CV.f (FV.sl none (List.map u8v (rdB o A a b c)) (rdB o A a b c).length)), T1.c (cI (rdE o A a b c))]) [VO.bx [CV.f (FV.v (Value.string (sO o))), CV.rw 1 A.length] 60, VO.fx (List.map u8v A) 5], VC Try.prog 28 [tF (FV.sl none (List.map u8v (rdB o A a b c)) (rdB o A a b c).length), tC (CV.rw 0 1)] [VO.fx [u8v 10] 5] (tI (↑(nls (rdB o A a b c)) : Int)) [VO.fx [u8v 10] 5], TV.tp [T1.c (cI (↑(nls (rdB o A a b c)) : Int)), T1.c (cI (rdE o A a b c))] = TV.tp [T1.c (cI (↑(nls (rdB o A a b c)) : Int)), T1.c (cI (rdE o A a b c))]] (
 ([VO.bx [CV.f (FV.v (Value.string (sO o))), CV.rw 1 A.length] 60, VO.fx (List.map u8v A) 5] : List VO) = [VO.bx [CV.f (FV.v (Value.string (sO o))), CV.rw 1 A.length] 60, VO.fx (List.map u8v A) 5]) := by
  repeat' first
    | refine brE (fun _ _ => ?_) (fun _ _ => ?_)
    | refine brN (fun _ _ => ?_) (fun _ _ => ?_)
    | refine brD (fun _ _ => ?_) (fun _ _ => ?_)
    | refine brP_intro (fun _ => ?_) (fun _ => ?_)
    | refine ck ?_ ?_
    | exact allp0
    | refine allp2 ?_ ?_
    | (intro i hi)
  all_goals try first
    | with_reducible rfl
    | exact ⟨_, rfl⟩
    | exact tI_nw (by omega) (by omega)
    | exact tB_of (by assumption)
    | omega
    | exact read _ _ _ _ _ (by first | assumption | omega | (simp; done)) (by first | assumption | omega | (simp; done))
    | exact count _ (rdB_byt hb hA)
    | (simp only [*]; done)
theorem lines (o A : List Int) (a b c : Int) (hb : Byt o) (hA : Byt A) (hl : A.length ≤ 140737488355328) : VC Try.prog 16 ([tC (.rp 0 0), tA (spn a b c)]) (Bf o A) (.tp [.c (cI (nls (rdB o A a b c))), .c (cI (rdE o A a b c))]) (Bf o A) :=
  vc_wp mixed nonum ⟨cmOf [(1, [(2, .tb (tq_lines o A a b c hb hA hl) [] none)]), (2, [(2, .tb (fun g xs H => bif Nat.beq g 28 then some (.one (tI (nls (rdB o A a b c))) H) else none) [] none)])], spOf [(1, [2]), (2, [2])], ghOf [], loOf [], []⟩ [] (by kernel_rfl) (lines_w o A a b c hb hA hl)
theorem get_ok {p : List Int} {i : Nat} (h : i < p.length) : True := trivial
def byI (o A : List Int) (a b c i : Int) : Int := bif Hd o A a b c && (decide (0 ≤ i) && decide (i < c)) then (rdB o A a b c).getD i.toNat 0 else 0
def byE (o A : List Int) (a b c i : Int) : Int := bif Hd o A a b c then (bif decide (0 ≤ i) && decide (i < c) then 0 else 2) else 10
theorem by_n {o A : List Int} {a b c i : Int} (h : Hd o A a b c = false) : byI o A a b c i = 0 ∧ byE o A a b c i = 10 := by simp [byI, byE, h]
theorem by_x {o A : List Int} {a b c i : Int} (h : Hd o A a b c = true) (hi : i < 0 ∨ i ≥ c) : byI o A a b c i = 0 ∧ byE o A a b c i = 2 := by
  have : (decide (0 ≤ i) && decide (i < c)) = false := by
    rw [Bool.and_eq_false_iff, decide_eq_false_iff_not, decide_eq_false_iff_not]
    omega
  simp only [byI, byE, h, this, Bool.and_false, cond_true, cond_false, and_self]
theorem by_y {o A : List Int} {a b c i : Int} (h : Hd o A a b c = true) (h0 : ¬ i < 0) (h1 : ¬ i ≥ c) : byI o A a b c i = (src o A a).getD (b + i).toNat 0 ∧ byE o A a b c i = 0 := by
  have : (decide (0 ≤ i) && decide (i < c)) = true := by
    rw [Bool.and_eq_true, decide_eq_true_eq, decide_eq_true_eq]
    omega
  have hs := (hd_out h).1
  unfold Snd at hs
  have e : (b + i).toNat = b.toNat + i.toNat := by omega
  have e2 : i.toNat < c.toNat := by omega
  simp only [byI, byE, h, this, Bool.and_true, cond_true, rdB, and_true, e]
  rw [List.getD_eq_getElem?_getD, List.getD_eq_getElem?_getD, List.getElem?_take, if_pos e2, List.getElem?_drop]
noncomputable def tq_byte (o A : List Int) (a b c i : Int) (hb : Byt o) (hl : A.length ≤ 140737488355328) : FuncId → List TV → List VO → Option Alt := tabOf [(15, t15_0_WB o A), (27, t27_0_WA), (17, t17_0_WA o A), (14, t14_0_WA o A), (25, t25_0_WA)]
theorem byte_w (o A : List Int) (a b c i : Int) (hb : Byt o) (hl : A.length ≤ 140737488355328) : Ck [0, 182, 0] [] (
 brP (Hd o A a b c) (
  Ck [16706, 0] [VC Try.prog 17 [tC (CV.rp 0 0), tA [cI a, cI b, cI c]] [VO.bx [CV.f (FV.v (Value.string (sO o))), CV.rw 1 A.length] 60, VO.fx (List.map u8v A) 5] (tB (Hd o A a b c)) [VO.bx [CV.f (FV.v (Value.string (sO o))), CV.rw 1 A.length] 60, VO.fx (List.map u8v A) 5], tB (Hd o A a b c) = tB true] (
  brP (decide (i < 0)) (
   Ck [96856337, 0, 20, 0, 182, 1] [tB (decide (i < 0)) = tB true, TV.tp [T1.c (cU 0), T1.c (cI 2)] = TV.tp [T1.c (cU (byI o A a b c i)), T1.c (cI (byE o A a b c i))]] (
   ([VO.bx [CV.f (FV.v (Value.string (sO o))), CV.rw 1 A.length] 60, VO.fx (List.map u8v A) 5] : List VO) = [VO.bx [CV.f (FV.v (Value.string (sO o))), CV.rw 1 A.length] 60, VO.fx (List.map u8v A) 5])) (
   Ck [96856337] [tB (decide (i < 0)) = tB false] (
   brP (decide (i ≥ c)) (
    Ck [0, 20, 0, 182, 1] [TV.tp [T1.c (cU 0), T1.c (cI 2)] = TV.tp [T1.c (cU (byI o A a b c i)), T1.c (cI (byE o A a b c i))]] (
    ([VO.bx [CV.f (FV.v (Value.string (sO o))), CV.rw 1 A.length] 60, VO.fx (List.map u8v A) 5] : List VO) = [VO.bx [CV.f (FV.v (Value.string (sO o))), CV.rw 1 A.length] 60, VO.fx (List.map u8v A) 5])) (
    Ck [0, 182] [] (
    brP (a == 0) (
     Ck [0, 644836293353, 0, 182, 1] [tI (IntKind.i64.wrap (b + i)) = tI (b + i), 0 ≤ b + i, b + i < (↑(sO o).size : Int), TV.tp [T1.c (cU (↑((sO o).get! (b + i).toNat).toNat : Int)), T1.c (cI 0)] = TV.tp [T1.c (cU (byI o A a b c i)), T1.c (cI (byE o A a b c i))]] (
     ([VO.bx [CV.f (FV.v (Value.string (sO o))), CV.rw 1 A.length] 60, VO.fx (List.map u8v A) 5] : List VO) = [VO.bx [CV.f (FV.v (Value.string (sO o))), CV.rw 1 A.length] 60, VO.fx (List.map u8v A) 5])) (
     Ck [0, 5822711128838, 0, 182, 1] [tI (IntKind.i64.wrap (b + i)) = tI (b + i), 0 ≤ b + i, b + i < (↑A.length : Int), (List.take 1 (List.drop ((b + i).toNat * 1) (List.map u8v A)) : List FV) = [u8v (A.getD ((b + i).toNat * 1) 0)], TV.tp [T1.c (cU (A.getD ((b + i).toNat * 1) 0)), T1.c (cI 0)] = TV.tp [T1.c (cU (byI o A a b c i)), T1.c (cI (byE o A a b c i))]] (
     ([VO.bx [CV.f (FV.v (Value.string (sO o))), CV.rw 1 A.length] 60, VO.fx (List.map u8v A) 5] : List VO) = [VO.bx [CV.f (FV.v (Value.string (sO o))), CV.rw 1 A.length] 60, VO.fx (List.map u8v A) 5])))))))) (
  Ck [16706, 0, 20, 0, 182, 1] [VC Try.prog 17 [tC (CV.rp 0 0), tA [cI a, cI b, cI c]] [VO.bx [CV.f (FV.v (Value.string (sO o))), CV.rw 1 A.length] 60, VO.fx (List.map u8v A) 5] (tB (Hd o A a b c)) [VO.bx [CV.f (FV.v (Value.string (sO o))), CV.rw 1 A.length] 60, VO.fx (List.map u8v A) 5], tB (Hd o A a b c) = tB false, TV.tp [T1.c (cU 0), T1.c (cI 10)] = TV.tp [T1.c (cU (byI o A a b c i)), T1.c (cI (byE o A a b c i))]] (
  ([VO.bx [CV.f (FV.v (Value.string (sO o))), CV.rw 1 A.length] 60, VO.fx (List.map u8v A) 5] : List VO) = [VO.bx [CV.f (FV.v (Value.string (sO o))), CV.rw 1 A.length] 60, VO.fx (List.map u8v A) 5]))) := by
  repeat' first
    | refine brE (fun _ _ => ?_) (fun _ _ => ?_)
    | refine brN (fun _ _ => ?_) (fun _ _ => ?_)
    | refine brD (fun _ _ => ?_) (fun _ _ => ?_)
    | refine brP_intro (fun _ => ?_) (fun _ => ?_)
    | refine ck ?_ ?_
    | exact allp0
    | refine allp2 ?_ ?_
    | (intro i hi)
  all_goals try simp only [Nat.mul_one] at *
  all_goals try (have hL := by_n (i := i) ‹Hd o A a b c = false›; simp only [hL.1, hL.2]; try rfl)
  all_goals try (have hL := by_x ‹Hd o A a b c = true› (i := i) (by omega); simp only [hL.1, hL.2]; try rfl)
  all_goals try (have hL := by_y ‹Hd o A a b c = true› (i := i) (by omega) (by omega); simp only [hL.1, hL.2])
  all_goals try (have hh := hd_out ‹Hd o A a b c = true›; unfold Snd szI at hh; have hs := sO_size o; have h1 : a = 0 ∨ a = 1 := hh.1.1; rcases h1 with rfl | rfl <;> simp at hh)
  repeat' first
    | refine brE (fun _ _ => ?_) (fun _ _ => ?_)
    | refine brN (fun _ _ => ?_) (fun _ _ => ?_)
    | refine brD (fun _ _ => ?_) (fun _ _ => ?_)
    | refine brP_intro (fun _ => ?_) (fun _ => ?_)
    | refine ck ?_ ?_
    | exact allp0
    | refine allp2 ?_ ?_
    | (intro i hi)
  all_goals try first
    | with_reducible rfl
    | exact ⟨_, rfl⟩
    | exact tI_nw (by omega) (by omega)
    | exact tB_of (by assumption)
    | omega
    | exact holds _ _ _ _ _
    | (rw [hs]; omega)
    | exact ld1 (by omega)
    | (rw [sO_get hb (by omega)]; rfl)
    | (simp [src]; done)
    | (simp only [*]; done)
theorem byte (o A : List Int) (a b c i : Int) (hb : Byt o) (hl : A.length ≤ 140737488355328) : VC Try.prog 30 ([tC (.rp 0 0), tA (spn a b c), tI i]) (Bf o A) (.tp [.c (cU (byI o A a b c i)), .c (cI (byE o A a b c i))]) (Bf o A) :=
  vc_wp mixed nonum ⟨cmOf [(1, [(2, .tb (tq_byte o A a b c i hb hl) [] none)]), (6, [(7, .nw), (8, .sx)]), (7, [(7, .nw), (9, .fn fun tw => .ld [u8v ((A).getD (ptO (tget tw 40)) 0)])])], spOf [(1, [2]), (3, [2])], ghOf [], loOf [], []⟩ [] (by kernel_rfl) (byte_w o A a b c i hb hl)
end Go.Proofs.Ytbonmmpdpahhfaa.Vg
