/- Rows read, checked. No law, no condition. -/
import Derived.Test.YtpjlgjhkdligfaaKSK
namespace Go.Proofs.Ytpjlgjhkdligfaa.Vg
open Go.RowKit
set_option maxRecDepth 100000
set_option linter.unusedVariables false
set_option linter.unusedSimpArgs false
/-- a row -/
structure Rw where
  p : Pc
  c : Bool
  x : Bool
  y : Bool
  a : Int
  b : Int
  d : Int
deriving Inhabited
def Rw.fs (r : Rw) : List FV := rowF r.c r.p r.x r.y r.a r.b r.d
def rowsC (L : List Rw) : List FV := L.flatMap Rw.fs
theorem rowsC_drop : ∀ (l : List Rw) (m : Nat), (rowsC l).drop (m * 10) = rowsC (l.drop m)
  | [], m => by simp [rowsC]
  | p :: l, 0 => by simp [rowsC]
  | p :: l, m + 1 => by
    rw [show (m + 1) * 10 = 10 + m * 10 from by omega, ← List.drop_drop, List.drop_succ_cons, ← rowsC_drop l m]
    rfl
theorem rowsC_at (l : List Rw) (m : Nat) (h : m < l.length) : ((rowsC l).drop (m * 10)).take 10 = (l.getD m default).fs := by
  rw [rowsC_drop, List.drop_eq_getElem_cons h, List.getD_eq_getElem?_getD, List.getElem?_eq_getElem h]
  rfl
def rdT (L : List Rw) : Nat → Nat → Bool → Tr × Nat × Bool
  | 0, k, _ => (.nil, k, true)
  | f + 1, k, bad => bif bad || Nat.ble L.length k then (.nil, k, true) else
    let r := L.getD k default
    let A := bif r.x then rdT L f (k + 1) false else (.nil, k + 1, false)
    let B := bif r.y then rdT L f A.2.1 A.2.2 else (.nil, A.2.1, A.2.2)
    bif rdW B.2.2 r.c r.p (enc A.1) (enc B.1) then (.nil, B.2.1, true) else (.nd r.p r.c A.1 B.1, B.2.1, rdE r.a r.b r.d r.p (enc A.1) (enc B.1))
structure Rd (z : Option Bool) (L : List Rw) (dp : Int) (k : Nat) (bad : Bool) (R : Tr × Nat × Bool) : Prop where
  vc : VC Try.prog 39 [tC (.rp 0 0), tI dp] (rdO z (rowsC L) L.length k bad) (tF (enc R.1)) (rdO z (rowsC L) L.length R.2.1 R.2.2)
  ok : R.1.Ok
  k1 : R.2.1 ≤ L.length
  kn : R.1.num + k ≤ R.2.1
theorem rdW_fit {bb c : Bool} {p : Pc} {u v : FV} (h : rdW bb c p u v = false) : Fit p := by
  cases hf : decide (Fit p) with
  | true => exact of_decide_eq_true hf
  | false => rw [rdW_2 hf] at h; cases h
theorem rd_end {z : Option Bool} {L : List Rw} {dp : Int} {k : Nat} {u v : Tr} {kb : Nat} {bb : Bool} (r : Rw) (hk : k < L.length)
    (h : VC Try.prog 39 [tC (.rp 0 0), tI dp] (rdO z (rowsC L) L.length k false) (tF (bif rdW bb r.c r.p (enc u) (enc v) then fN else mkF r.c (enc u) r.p (enc v))) (rdO z (rowsC L) L.length kb (bif rdW bb r.c r.p (enc u) (enc v) then true else rdE r.a r.b r.d r.p (enc u) (enc v))))
    (hu : u.Ok) (hv : v.Ok) (h1 : kb ≤ L.length) (h2 : u.num + 1 + v.num + k ≤ kb) : Rd z L dp k false (bif rdW bb r.c r.p (enc u) (enc v) then (.nil, kb, true) else (.nd r.p r.c u v, kb, rdE r.a r.b r.d r.p (enc u) (enc v))) := by
  cases hw : rdW bb r.c r.p (enc u) (enc v) with
  | true =>
    rw [hw] at h
    exact ⟨h, trivial, h1, by show 0 + k ≤ kb; omega⟩
  | false =>
    rw [hw] at h
    exact ⟨h, ⟨rdW_fit hw, hu, hv⟩, h1, h2⟩
theorem rd_ok (z : Option Bool) (L : List Rw) (hL : L.length ≤ 1073741824) : ∀ (f : Nat) (k : Nat) (bad : Bool), f ≤ 129 → k ≤ L.length → Rd z L (129 - f : Int) k bad (rdT L f k bad)
  | 0, k, bad, _, hk => ⟨tree_b z (rowsC L) L.length k _ bad (.inr (.inr (by omega))), trivial, hk, by show 0 + k ≤ k; omega⟩
  | f + 1, k, bad, hf, hk => by
    cases hb : bad || Nat.ble L.length k with
    | true =>
      have e : rdT L (f + 1) k bad = (.nil, k, true) := by simp only [rdT, hb, cond_true]
      rw [e]
      refine ⟨tree_b z (rowsC L) L.length k _ bad ?_, trivial, hk, by show 0 + k ≤ k; omega⟩
      rcases (Bool.or_eq_true _ _).mp hb with h | h
      · exact .inl h
      · exact .inr (.inl (Nat.le_of_ble_eq_true h))
    | false =>
      obtain ⟨rfl, h2⟩ := (Bool.or_eq_false_iff).mp hb
      have hlt : k < L.length := by
        have : ¬ L.length ≤ k := fun h => by rw [Nat.ble_eq_true_of_le h] at h2; cases h2
        omega
      have hr := rowsC_at L k hlt
      have hd : ((129 : Int) - ((f + 1 : Nat) : Int)) + 1 = 129 - (f : Int) := by omega
      generalize hrr : L.getD k default = r at hr
      have e : rdT L (f + 1) k false = (
        let A := bif r.x then rdT L f (k + 1) false else (.nil, k + 1, false)
        let B := bif r.y then rdT L f A.2.1 A.2.2 else (.nil, A.2.1, A.2.2)
        bif rdW B.2.2 r.c r.p (enc A.1) (enc B.1) then (.nil, B.2.1, true) else (.nd r.p r.c A.1 B.1, B.2.1, rdE r.a r.b r.d r.p (enc A.1) (enc B.1))) := by
        simp only [rdT, hb, cond_false, hrr]
      rw [e]
      have I1 := rd_ok z L hL f (k + 1) false (by omega) (by omega)
      obtain ⟨p, c, x, y, a, b, d⟩ := r
      cases x with
      | true =>
        generalize rdT L f (k + 1) false = A at I1
        obtain ⟨u, ka, ba⟩ := A
        obtain ⟨iv, io, ik, im⟩ := I1
        have iv : VC Try.prog 39 [tC (.rp 0 0), tI (129 - (f : Int))] (rdO z (rowsC L) L.length ((k + 1 : Nat) : Int) false) (tF (enc u)) (rdO z (rowsC L) L.length ka ba) := iv
        have io : u.Ok := io
        have ik : ka ≤ L.length := ik
        have im : u.num + (k + 1) ≤ ka := im
        have hu : isT (enc u) := isT_of io (by omega)
        rw [← hd] at iv
        cases y with
        | true =>
          have I2 := rd_ok z L hL f ka ba (by omega) ik
          show Rd z L _ k false (bif rdW (rdT L f ka ba).2.2 c p (enc u) (enc (rdT L f ka ba).1) then (.nil, (rdT L f ka ba).2.1, true) else (.nd p c u (rdT L f ka ba).1, (rdT L f ka ba).2.1, rdE a b d p (enc u) (enc (rdT L f ka ba).1)))
          generalize rdT L f ka ba = B at I2
          obtain ⟨v, kb, bb⟩ := B
          obtain ⟨jv, jo, jk, jm⟩ := I2
          have jv : VC Try.prog 39 [tC (.rp 0 0), tI (129 - (f : Int))] (rdO z (rowsC L) L.length ka ba) (tF (enc v)) (rdO z (rowsC L) L.length kb bb) := jv
          have jo : v.Ok := jo
          have jk : kb ≤ L.length := jk
          have jm : v.num + ka ≤ kb := jm
          rw [← hd] at jv
          exact rd_end ⟨p, c, true, true, a, b, d⟩ hlt (tree_11 z (rowsC L) L.length k _ c p a b d hlt hL (by omega) (by omega) hr (enc u) ka ba hu iv (enc v) kb bb (isT_of jo (by omega)) jv) io jo jk (by omega)
        | false => exact rd_end (v := .nil) ⟨p, c, true, false, a, b, d⟩ hlt (tree_10 z (rowsC L) L.length k _ c p a b d hlt hL (by omega) (by omega) hr (enc u) ka ba hu iv) io trivial ik (by show u.num + 1 + 0 + k ≤ ka; omega)
      | false =>
        cases y with
        | true =>
          show Rd z L _ k false (bif rdW (rdT L f (k + 1) false).2.2 c p (enc .nil) (enc (rdT L f (k + 1) false).1) then (.nil, (rdT L f (k + 1) false).2.1, true) else (.nd p c .nil (rdT L f (k + 1) false).1, (rdT L f (k + 1) false).2.1, rdE a b d p (enc .nil) (enc (rdT L f (k + 1) false).1)))
          generalize rdT L f (k + 1) false = B at I1
          obtain ⟨v, kb, bb⟩ := B
          obtain ⟨jv, jo, jk, jm⟩ := I1
          have jv : VC Try.prog 39 [tC (.rp 0 0), tI (129 - (f : Int))] (rdO z (rowsC L) L.length ((k + 1 : Nat) : Int) false) (tF (enc v)) (rdO z (rowsC L) L.length kb bb) := jv
          have jo : v.Ok := jo
          have jk : kb ≤ L.length := jk
          have jm : v.num + (k + 1) ≤ kb := jm
          rw [← hd] at jv
          exact rd_end (u := .nil) ⟨p, c, false, true, a, b, d⟩ hlt (tree_01 z (rowsC L) L.length k _ c p a b d hlt hL (by omega) (by omega) hr (enc v) kb bb (isT_of jo (by omega)) jv) trivial jo jk (by show 0 + 1 + v.num + k ≤ kb; omega)
        | false => exact rd_end (u := .nil) (v := .nil) ⟨p, c, false, false, a, b, d⟩ hlt (tree_00 z (rowsC L) L.length k _ c p a b d hlt hL (by omega) (by omega) hr) trivial trivial (by show k + 1 ≤ L.length; omega) (by show 0 + 1 + 0 + k ≤ k + 1; omega)
theorem red_q {t : FV} (h : isT t) : VC Try.prog 40 [tF t] [] (tB (redF t)) [] := by
  obtain ⟨T, rfl, _, _⟩ := h
  cases T with
  | nil => exact red_n
  | nd p c l r => exact red_d p c (enc l) (enc r)
noncomputable def tq_check_0 (z : Option Bool) : FuncId → List TV → List VO → Option Alt := tabOf [(58, t58_0_SJ), (56, t56_0_SJ), (42, t42_0_SI), (75, t75_0_SB), (69, t69_0_SA), (40, t40_0_SA), (63, t63_0_SA), (68, t68_0_SA), (57, t57_0_SA), (55, t55_0_SA), (44, t44_0_SA)]
theorem check_0_w (z : Option Bool) : Ck [0, 2, 0, 182, 0, 2, 0, 20, 1] [tI 0 = tI 0] (
 ([] : List VO) = []) := by
  repeat' first
    | refine brE (fun _ _ => ?_) (fun _ _ => ?_)
    | refine brN (fun _ _ => ?_) (fun _ _ => ?_)
    | refine brD (fun _ _ => ?_) (fun _ _ => ?_)
    | refine brP_intro (fun _ => ?_) (fun _ => ?_)
    | refine ck ?_ ?_
    | exact allp0
    | refine allp2 ?_ ?_
  all_goals try first
    | with_reducible rfl
    | exact Exists.intro _ rfl
    | exact tI_nw (by omega) (by omega)
    | exact tB_of (by assumption)
    | ((with_reducible show (_ : Int) ≤ _); omega)
    | ((with_reducible show (_ : Nat) ≤ _); omega)
    | ((with_reducible show (_ : Int) < _); omega)
theorem check_0 (z : Option Bool) : VC Try.prog 10 ([tF (.sl z [] 0)]) ([]) (tI 0) ([]) :=
  vc_wp mixed nonum ⟨cmOf [(4, [(1, .tb (tq_check_0 z) [] none)]), (5, [(15, .tb (tq_check_0 z) [] none)])], spOf [(5, [4, 13, 15])], ghOf [], loOf [], []⟩ [] (by kernel_rfl) (check_0_w z)
noncomputable def tq_check (z : Option Bool) (L : List FV) (n : Nat) (t : FV) (k : Nat) (b : Bool) (hn : n ≠ 0) (ht : isT t) (h : VC Try.prog 39 [tC (.rp 0 0), tI 0] (rdO z L n 0 false) (tF t) (rdO z L n k b)) : FuncId → List TV → List VO → Option Alt := tabOf [(58, t58_0_SJ), (56, t56_0_SJ), (42, t42_0_SI), (75, t75_0_SB), (69, t69_0_SA), (40, t40_0_SA), (63, t63_0_SA), (68, t68_0_SA), (57, t57_0_SA), (55, t55_0_SA), (44, t44_0_SA)]
theorem check_w (z : Option Bool) (L : List FV) (n : Nat) (t : FV) (k : Nat) (b : Bool) (hn : n ≠ 0) (ht : isT t) (h : VC Try.prog 39 [tC (.rp 0 0), tI 0] (rdO z L n 0 false) (tF t) (rdO z L n k b)) : Ck [0, 2, 0, 182] [] (
 brP ((↑n : Int) == 0) (
 Ck [0, 2, 0, 20, 1] [tI 0 = tI (bif b || ((↑k : Int) != (↑n : Int) || redF t) then 21 else 0)] (
 ([] : List VO) = [])) (
 Ck [0, 1640, 0, 209, 0] [VC Try.prog 39 [tC (CV.rp 0 0), tI 0] [VO.bx [CV.f (FV.sl z L n), cI 0, cB false] 79] (tF t) [VO.bx [CV.f (FV.sl z L n), cI (↑k : Int), cB b] 79]] (
 brP (b) (
 Ck [338056081305170852, 0, 2, 0, 20, 1] [tB b = tB true, tB true = tB true, tI 21 = tI (bif b || ((↑k : Int) != (↑n : Int) || redF t) then 21 else 0)] (
 ([] : List VO) = [])) (
 brP ((↑k : Int) != (↑n : Int)) (
 Ck [338056081305170852, 0, 2, 0, 20, 1] [tB b = tB false, tB ((↑k : Int) != (↑n : Int)) = tB true, tI 21 = tI (bif b || ((↑k : Int) != (↑n : Int) || redF t) then 21 else 0)] (
 ([] : List VO) = [])) (
 brP (redF t) (
 Ck [3440011877443152686, 0, 2, 0, 20, 1] [tB b = tB false, tB ((↑k : Int) != (↑n : Int)) = tB false, VC Try.prog 40 [tF t] [] (tB (redF t)) [], tB (redF t) = tB true, tI 21 = tI (bif b || ((↑k : Int) != (↑n : Int) || redF t) then 21 else 0)] (
 ([] : List VO) = [])) (
 Ck [3440011877443152686, 0, 2, 0, 20, 1] [tB b = tB false, tB ((↑k : Int) != (↑n : Int)) = tB false, VC Try.prog 40 [tF t] [] (tB (redF t)) [], tB (redF t) = tB false, tI 0 = tI (bif b || ((↑k : Int) != (↑n : Int) || redF t) then 21 else 0)] (
 ([] : List VO) = []))))))) := by
  have hz : (((n : Nat) : Int) == 0) = false := by
    rw [beq_eq_false_iff_ne]; omega
  rw [hz]
  cases b with
  | true =>
    repeat' first
      | refine brE (fun _ _ => ?_) (fun _ _ => ?_)
      | refine brN (fun _ _ => ?_) (fun _ _ => ?_)
      | refine brD (fun _ _ => ?_) (fun _ _ => ?_)
      | refine brP_intro (fun _ => ?_) (fun _ => ?_)
      | refine ck ?_ ?_
      | exact allp0
      | refine allp2 ?_ ?_
    all_goals try first
      | with_reducible rfl
      | exact Exists.intro _ rfl
      | exact tI_nw (by omega) (by omega)
      | exact tB_of (by assumption)
      | exact red_n 
      | exact red_d _ _ _ _
      | exact red_x _ (by first | assumption | omega | (simp; done))
      | exact tree_b _ _ _ _ _ _ (by first | assumption | omega | (simp; done))
      | exact tree_11 _ _ _ _ _ _ _ _ _ _ (by first | assumption | omega | (simp; done)) (by first | assumption | omega | (simp; done)) (by first | assumption | omega | (simp; done)) (by first | assumption | omega | (simp; done)) (by first | assumption | omega | (simp; done)) _ _ _ (by first | assumption | omega | (simp; done)) (by first | assumption | omega | (simp; done)) _ _ _ (by first | assumption | omega | (simp; done)) (by first | assumption | omega | (simp; done))
      | exact tree_10 _ _ _ _ _ _ _ _ _ _ (by first | assumption | omega | (simp; done)) (by first | assumption | omega | (simp; done)) (by first | assumption | omega | (simp; done)) (by first | assumption | omega | (simp; done)) (by first | assumption | omega | (simp; done)) _ _ _ (by first | assumption | omega | (simp; done)) (by first | assumption | omega | (simp; done))
      | exact tree_01 _ _ _ _ _ _ _ _ _ _ (by first | assumption | omega | (simp; done)) (by first | assumption | omega | (simp; done)) (by first | assumption | omega | (simp; done)) (by first | assumption | omega | (simp; done)) (by first | assumption | omega | (simp; done)) _ _ _ (by first | assumption | omega | (simp; done)) (by first | assumption | omega | (simp; done))
      | exact tree_00 _ _ _ _ _ _ _ _ _ _ (by first | assumption | omega | (simp; done)) (by first | assumption | omega | (simp; done)) (by first | assumption | omega | (simp; done)) (by first | assumption | omega | (simp; done)) (by first | assumption | omega | (simp; done))
      | exact red_q (by first | assumption | omega | (simp; done))
      | contradiction
      | rfl
      | exact h
      | ((with_reducible show (_ : Int) ≤ _); omega)
      | ((with_reducible show (_ : Nat) ≤ _); omega)
      | ((with_reducible show (_ : Int) < _); omega)
  | false =>
    cases hk : ((k : Int) != (n : Int)) with
    | true =>
      repeat' first
        | refine brE (fun _ _ => ?_) (fun _ _ => ?_)
        | refine brN (fun _ _ => ?_) (fun _ _ => ?_)
        | refine brD (fun _ _ => ?_) (fun _ _ => ?_)
        | refine brP_intro (fun _ => ?_) (fun _ => ?_)
        | refine ck ?_ ?_
        | exact allp0
        | refine allp2 ?_ ?_
      all_goals try first
        | with_reducible rfl
        | exact Exists.intro _ rfl
        | exact tI_nw (by omega) (by omega)
        | exact tB_of (by assumption)
        | exact red_n 
        | exact red_d _ _ _ _
        | exact red_x _ (by first | assumption | omega | (simp; done))
        | exact tree_b _ _ _ _ _ _ (by first | assumption | omega | (simp; done))
        | exact tree_11 _ _ _ _ _ _ _ _ _ _ (by first | assumption | omega | (simp; done)) (by first | assumption | omega | (simp; done)) (by first | assumption | omega | (simp; done)) (by first | assumption | omega | (simp; done)) (by first | assumption | omega | (simp; done)) _ _ _ (by first | assumption | omega | (simp; done)) (by first | assumption | omega | (simp; done)) _ _ _ (by first | assumption | omega | (simp; done)) (by first | assumption | omega | (simp; done))
        | exact tree_10 _ _ _ _ _ _ _ _ _ _ (by first | assumption | omega | (simp; done)) (by first | assumption | omega | (simp; done)) (by first | assumption | omega | (simp; done)) (by first | assumption | omega | (simp; done)) (by first | assumption | omega | (simp; done)) _ _ _ (by first | assumption | omega | (simp; done)) (by first | assumption | omega | (simp; done))
        | exact tree_01 _ _ _ _ _ _ _ _ _ _ (by first | assumption | omega | (simp; done)) (by first | assumption | omega | (simp; done)) (by first | assumption | omega | (simp; done)) (by first | assumption | omega | (simp; done)) (by first | assumption | omega | (simp; done)) _ _ _ (by first | assumption | omega | (simp; done)) (by first | assumption | omega | (simp; done))
        | exact tree_00 _ _ _ _ _ _ _ _ _ _ (by first | assumption | omega | (simp; done)) (by first | assumption | omega | (simp; done)) (by first | assumption | omega | (simp; done)) (by first | assumption | omega | (simp; done)) (by first | assumption | omega | (simp; done))
        | exact red_q (by first | assumption | omega | (simp; done))
        | contradiction
        | rfl
        | exact h
        | ((with_reducible show (_ : Int) ≤ _); omega)
        | ((with_reducible show (_ : Nat) ≤ _); omega)
        | ((with_reducible show (_ : Int) < _); omega)
    | false =>
      cases hr : redF t with
      | true =>
        have hq : VC Try.prog 40 [tF t] [] (tB true) [] := hr ▸ red_q ht
        repeat' first
          | refine brE (fun _ _ => ?_) (fun _ _ => ?_)
          | refine brN (fun _ _ => ?_) (fun _ _ => ?_)
          | refine brD (fun _ _ => ?_) (fun _ _ => ?_)
          | refine brP_intro (fun _ => ?_) (fun _ => ?_)
          | refine ck ?_ ?_
          | exact allp0
          | refine allp2 ?_ ?_
        all_goals try first
          | with_reducible rfl
          | exact Exists.intro _ rfl
          | exact tI_nw (by omega) (by omega)
          | exact tB_of (by assumption)
          | exact red_n 
          | exact red_d _ _ _ _
          | exact red_x _ (by first | assumption | omega | (simp; done))
          | exact tree_b _ _ _ _ _ _ (by first | assumption | omega | (simp; done))
          | exact tree_11 _ _ _ _ _ _ _ _ _ _ (by first | assumption | omega | (simp; done)) (by first | assumption | omega | (simp; done)) (by first | assumption | omega | (simp; done)) (by first | assumption | omega | (simp; done)) (by first | assumption | omega | (simp; done)) _ _ _ (by first | assumption | omega | (simp; done)) (by first | assumption | omega | (simp; done)) _ _ _ (by first | assumption | omega | (simp; done)) (by first | assumption | omega | (simp; done))
          | exact tree_10 _ _ _ _ _ _ _ _ _ _ (by first | assumption | omega | (simp; done)) (by first | assumption | omega | (simp; done)) (by first | assumption | omega | (simp; done)) (by first | assumption | omega | (simp; done)) (by first | assumption | omega | (simp; done)) _ _ _ (by first | assumption | omega | (simp; done)) (by first | assumption | omega | (simp; done))
          | exact tree_01 _ _ _ _ _ _ _ _ _ _ (by first | assumption | omega | (simp; done)) (by first | assumption | omega | (simp; done)) (by first | assumption | omega | (simp; done)) (by first | assumption | omega | (simp; done)) (by first | assumption | omega | (simp; done)) _ _ _ (by first | assumption | omega | (simp; done)) (by first | assumption | omega | (simp; done))
          | exact tree_00 _ _ _ _ _ _ _ _ _ _ (by first | assumption | omega | (simp; done)) (by first | assumption | omega | (simp; done)) (by first | assumption | omega | (simp; done)) (by first | assumption | omega | (simp; done)) (by first | assumption | omega | (simp; done))
          | exact red_q (by first | assumption | omega | (simp; done))
          | contradiction
          | rfl
          | exact h
          | exact hq
          | ((with_reducible show (_ : Int) ≤ _); omega)
          | ((with_reducible show (_ : Nat) ≤ _); omega)
          | ((with_reducible show (_ : Int) < _); omega)
      | false =>
        have hq : VC Try.prog 40 [tF t] [] (tB false) [] := hr ▸ red_q ht
        repeat' first
          | refine brE (fun _ _ => ?_) (fun _ _ => ?_)
          | refine brN (fun _ _ => ?_) (fun _ _ => ?_)
          | refine brD (fun _ _ => ?_) (fun _ _ => ?_)
          | refine brP_intro (fun _ => ?_) (fun _ => ?_)
          | refine ck ?_ ?_
          | exact allp0
          | refine allp2 ?_ ?_
        all_goals try first
          | with_reducible rfl
          | exact Exists.intro _ rfl
          | exact tI_nw (by omega) (by omega)
          | exact tB_of (by assumption)
          | exact red_n 
          | exact red_d _ _ _ _
          | exact red_x _ (by first | assumption | omega | (simp; done))
          | exact tree_b _ _ _ _ _ _ (by first | assumption | omega | (simp; done))
          | exact tree_11 _ _ _ _ _ _ _ _ _ _ (by first | assumption | omega | (simp; done)) (by first | assumption | omega | (simp; done)) (by first | assumption | omega | (simp; done)) (by first | assumption | omega | (simp; done)) (by first | assumption | omega | (simp; done)) _ _ _ (by first | assumption | omega | (simp; done)) (by first | assumption | omega | (simp; done)) _ _ _ (by first | assumption | omega | (simp; done)) (by first | assumption | omega | (simp; done))
          | exact tree_10 _ _ _ _ _ _ _ _ _ _ (by first | assumption | omega | (simp; done)) (by first | assumption | omega | (simp; done)) (by first | assumption | omega | (simp; done)) (by first | assumption | omega | (simp; done)) (by first | assumption | omega | (simp; done)) _ _ _ (by first | assumption | omega | (simp; done)) (by first | assumption | omega | (simp; done))
          | exact tree_01 _ _ _ _ _ _ _ _ _ _ (by first | assumption | omega | (simp; done)) (by first | assumption | omega | (simp; done)) (by first | assumption | omega | (simp; done)) (by first | assumption | omega | (simp; done)) (by first | assumption | omega | (simp; done)) _ _ _ (by first | assumption | omega | (simp; done)) (by first | assumption | omega | (simp; done))
          | exact tree_00 _ _ _ _ _ _ _ _ _ _ (by first | assumption | omega | (simp; done)) (by first | assumption | omega | (simp; done)) (by first | assumption | omega | (simp; done)) (by first | assumption | omega | (simp; done)) (by first | assumption | omega | (simp; done))
          | exact red_q (by first | assumption | omega | (simp; done))
          | contradiction
          | rfl
          | exact h
          | exact hq
          | ((with_reducible show (_ : Int) ≤ _); omega)
          | ((with_reducible show (_ : Nat) ≤ _); omega)
          | ((with_reducible show (_ : Int) < _); omega)
theorem check (z : Option Bool) (L : List FV) (n : Nat) (t : FV) (k : Nat) (b : Bool) (hn : n ≠ 0) (ht : isT t) (h : VC Try.prog 39 [tC (.rp 0 0), tI 0] (rdO z L n 0 false) (tF t) (rdO z L n k b)) : VC Try.prog 10 ([tF (.sl z L n)]) ([]) (tI (bif b || ((k : Int) != n || redF t) then 21 else 0)) ([]) :=
  vc_wp mixed nonum ⟨cmOf [(4, [(1, .tb (fun g xs H => some (.one (.o (.c (.f t))) (rdO z L n k b))) [] none)]), (5, [(15, .tb (tq_check z L n t k b hn ht h) [] none)])], spOf [(5, [4, 13, 15])], ghOf [], loOf [], []⟩ [] (by kernel_rfl) (check_w z L n t k b hn ht h)
end Go.Proofs.Ytpjlgjhkdligfaa.Vg
