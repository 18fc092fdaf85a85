/- The law ShadeFinds. No condition. -/
import Derived.Test.YtpjlgjhkdligfaaKST
namespace Go.Proofs.Ytpjlgjhkdligfaa.Vg
open Go.RowKit
set_option maxRecDepth 100000
set_option maxHeartbeats 8000000
set_option linter.unusedVariables false
set_option linter.unusedSimpArgs false
theorem bef_all : ∀ (t : Tr), t.Ok → ∀ b l : Int, befS t (cntF (enc t)) b l = (b + sizF (enc t), l + lnsF (enc t))
  | .nil, _, b, l => by
    show (b, l) = (b + 0, l + 0)
    rw [Int.add_zero, Int.add_zero]
  | .nd p c x y, h, b, l => by
    obtain ⟨a1, _, _, _, _, _, _, _, _⟩ := sums_t h.2.1
    obtain ⟨c1, _, _, _, _, _, _, _, _⟩ := sums_t h.2.2
    have e1 : sizF (enc (.nd p c x y)) = sizF (enc x) + p.n + sizF (enc y) := rfl
    have e2 : lnsF (enc (.nd p c x y)) = lnsF (enc x) + p.k + lnsF (enc y) := rfl
    have e3 : cntF (enc (.nd p c x y)) = cntF (enc x) + 1 + cntF (enc y) := rfl
    rw [befS, decide_eq_false (by omega), cond_false, e3, show cntF (enc x) + 1 + cntF (enc y) - cntF (enc x) - 1 = cntF (enc y) from by omega, bef_all y h.2.2, e1, e2]
    exact Prod.ext (by show _ + _ + _ = _; omega) (by show _ + _ + _ = _; omega)
structure Fnd (F : FV → Int) (g : Pc → Int) (pr : Int × Int → Int) (t : Tr) (u k : Int) (j i : Int) : Prop where
  eq : srS F g t u k = (k + j, i)
  j0 : 0 ≤ j
  j1 : j < cntF (enc t)
  i0 : 0 ≤ i
  i1 : i < g (getS t j)
  b : ∀ b l : Int, pr (befS t j b l) = pr (b, l) + (u - i)
theorem sr_bef {F : FV → Int} {g : Pc → Int} {pr : Int × Int → Int} (hF0 : F (enc .nil) = 0) (hF : ∀ p c x y, F (enc (.nd p c x y)) = F (enc x) + g p + F (enc y)) (hpr : ∀ (p : Pc) (x : Tr) (b l : Int), pr (b + (sizF (enc x) + p.n), l + (lnsF (enc x) + p.k)) = pr (b, l) + (F (enc x) + g p)) (hpa : ∀ (x : Tr) (b l : Int), pr (b + sizF (enc x), l + lnsF (enc x)) = pr (b, l) + F (enc x)) : ∀ (t : Tr), t.Ok → ∀ u k : Int, 0 ≤ u → u < F (enc t) → ∃ j i, Fnd F g pr t u k j i
  | .nil, _, u, k, h0, h1 => by rw [hF0] at h1; omega
  | .nd p c x y, h, u, k, h0, h1 => by
    obtain ⟨a1, _, _, _, _, _, _, _, _⟩ := sums_t h.2.1
    obtain ⟨c1, _, _, _, _, _, _, _, _⟩ := sums_t h.2.2
    have e3 : cntF (enc (.nd p c x y)) = cntF (enc x) + 1 + cntF (enc y) := rfl
    rw [hF] at h1
    by_cases hl : u < F (enc x)
    · obtain ⟨j, i, I⟩ := sr_bef hF0 hF hpr hpa x h.2.1 u k h0 hl
      have q1 := I.j1
      refine ⟨j, i, ?_, I.j0, by rw [e3]; omega, I.i0, ?_, fun b l => ?_⟩
      · rw [srS, decide_eq_true hl, cond_true]; exact I.eq
      · rw [getS, decide_eq_true q1, cond_true]; exact I.i1
      · rw [befS, decide_eq_true (by omega), cond_true]; exact I.b b l
    · by_cases hr : u - F (enc x) ≥ g p
      · obtain ⟨j, i, I⟩ := sr_bef hF0 hF hpr hpa y h.2.2 (u - F (enc x) - g p) (k + cntF (enc x) + 1) (by omega) (by omega)
        have q0 := I.j0
        have q1 := I.j1
        have e4 : cntF (enc x) + 1 + j - cntF (enc x) - 1 = j := by omega
        refine ⟨cntF (enc x) + 1 + j, i, ?_, by omega, by rw [e3]; omega, I.i0, ?_, fun b l => ?_⟩
        · rw [srS, decide_eq_false hl, cond_false, decide_eq_true hr, cond_true, I.eq]
          exact Prod.ext (by show _ + _ = _; omega) rfl
        · rw [getS, decide_eq_false (by omega), cond_false, decide_eq_true (by omega), cond_true, e4]; exact I.i1
        · rw [befS, decide_eq_false (by omega), cond_false, e4, I.b, hpr]; omega
      · refine ⟨cntF (enc x), u - F (enc x), ?_, by omega, by rw [e3]; omega, by omega, ?_, fun b l => ?_⟩
        · rw [srS, decide_eq_false hl, cond_false, decide_eq_false hr, cond_false]
        · rw [getS, decide_eq_false (by omega), cond_false, cond_false]; omega
        · rw [befS, decide_eq_true (by omega), cond_true, bef_all x h.2.1, hpa]; omega
theorem finds_law_w (z : Option Bool) (L : List FV) (m : Nat) (n : Int) (x : FV) (k i : Int) (ok : Bool) (k2 i2 : Int) (ok2 : Bool) (p q : Pc) (b l b2 l2 : Int) (hx : isT x) (h12 : m ≤ 5000 → VC Try.prog 12 [tF (.sl z L m)] [] (tT x) []) (h20 : VC Try.prog 20 [tT x, tI n] [] (.tp [.c (cI k), .c (cI i), .c (cB ok)]) []) (h21 : VC Try.prog 21 [tT x, tI n] [] (.tp [.c (cI k2), .c (cI i2), .c (cB ok2)]) []) (hok : ok = (decide (n ≥ 0) && decide (n < sizF x))) (hok2 : ok2 = (decide (n ≥ 0) && decide (n < lnsF x))) (hz : ok = false → k = 0 ∧ i = 0) (hz2 : ok2 = false → k2 = 0 ∧ i2 = 0) (h17 : ok = true → VC Try.prog 17 [tT x, tI k] [] (.tp [.ag p.cs, .c (cI 0)]) []) (h24 : ok = true → VC Try.prog 24 [tT x, tI k] [] (.tp [.c (cI b), .c (cI l), .c (cI 0)]) []) (hb : ok = true → b + i = n ∧ 0 ≤ i ∧ i < p.n) (h172 : ok2 = true → VC Try.prog 17 [tT x, tI k2] [] (.tp [.ag q.cs, .c (cI 0)]) []) (h242 : ok2 = true → VC Try.prog 24 [tT x, tI k2] [] (.tp [.c (cI b2), .c (cI l2), .c (cI 0)]) []) (hb2 : ok2 = true → l2 + i2 = n ∧ 0 ≤ i2 ∧ i2 < q.k) : Ck [0, 2, 0, 206, 0, 182] [VC Try.prog 9 [] [] (tB true) [], tB true = tB true] (
 brP (decide ((↑m : Int) > 5000)) (
 Ck [0, 2, 0, 20, 1] [tB true = tB true] (
 ([] : List VO) = [])) (
 Ck [0, 1667, 0, 871696343, 0, 871696343, 0] [VC Try.prog 12 [tF (FV.sl z L m)] [] (tA [CV.f x]) [], VC Try.prog 20 [tA [CV.f x], tI n] [] (TV.tp [T1.c (cI k), T1.c (cI i), T1.c (cB ok)]) [], VC Try.prog 21 [tA [CV.f x], tI n] [] (TV.tp [T1.c (cI k2), T1.c (cI i2), T1.c (cB ok2)]) []] (
 brP (decide (n ≥ 0)) (
 brP (!ok == decide (n < sizF x)) (
 Ck [19941610769688857719817, 0, 2, 0, 20, 1] [tB (decide (n ≥ 0)) = tB true, VC Try.prog 22 [tA [CV.f x]] [] (tI (sizF x)) [], (tB !ok == decide (n < sizF x)) = tB true, tB false = tB true] (
 ([] : List VO) = [])) (
 brP (decide (n ≥ 0)) (
 Ck [179510997715113881010557] [tB (decide (n ≥ 0)) = tB true, VC Try.prog 22 [tA [CV.f x]] [] (tI (sizF x)) [], (tB !ok == decide (n < sizF x)) = tB false, tB (decide (n ≥ 0)) = tB true, VC Try.prog 23 [tA [CV.f x]] [] (tI (lnsF x)) []] (
 brP (!ok2 == decide (n < lnsF x)) (
 Ck [0, 2, 0, 20, 1] [tB false = tB true] (
 ([] : List VO) = [])) (
 Ck [0, 2] [] (
 brP (ok) (
 Ck [0, 96855365, 0, 871696343, 0] [VC Try.prog 17 [tA [CV.f x], tI k] [] (TV.tp [T1.ag [cI p.s, cI p.o, cI p.n, cI p.k], T1.c (cI 0)]) [], VC Try.prog 24 [tA [CV.f x], tI k] [] (TV.tp [T1.c (cI b), T1.c (cI l), T1.c (cI 0)]) []] (
 brP (b + i != n) (
 Ck [1177533815624193955036206557, 0, 2, 0, 20, 1] [tB false = tB false, tB false = tB false, tI (IntKind.i64.wrap (b + i)) = tI (b + i), tB (b + i != n) = tB true, tB true = tB true, tB false = tB true] (
 ([] : List VO) = [])) (
 brP (decide (i < 0)) (
 Ck [1177533815624193955036206557, 0, 2, 0, 20, 1] [tB false = tB false, tB false = tB false, tI (IntKind.i64.wrap (b + i)) = tI (b + i), tB (b + i != n) = tB false, tB (decide (i < 0)) = tB true, tB false = tB true] (
 ([] : List VO) = [])) (
 Ck [1177533815624193955036206557] [tB false = tB false, tB false = tB false, tI (IntKind.i64.wrap (b + i)) = tI (b + i), tB (b + i != n) = tB false, tB (decide (i < 0)) = tB false] (
 brP (decide (i ≥ p.n)) (
 Ck [0, 2, 0, 20, 1] [tB false = tB true] (
 ([] : List VO) = [])) (
 Ck [0, 2] [] (
 brP (ok2) (
 Ck [0, 96855365, 0, 871696343, 0] [VC Try.prog 17 [tA [CV.f x], tI k2] [] (TV.tp [T1.ag [cI q.s, cI q.o, cI q.n, cI q.k], T1.c (cI 0)]) [], VC Try.prog 24 [tA [CV.f x], tI k2] [] (TV.tp [T1.c (cI b2), T1.c (cI l2), T1.c (cI 0)]) []] (
 brP (l2 + i2 != n) (
 Ck [130838549569472880609183515, 0, 2, 0, 20, 1] [tB false = tB false, tB false = tB false, tI (IntKind.i64.wrap (l2 + i2)) = tI (l2 + i2), tB (l2 + i2 != n) = tB true, tB true = tB true, tB false = tB true] (
 ([] : List VO) = [])) (
 brP (decide (i2 < 0)) (
 Ck [130838549569472880609183515, 0, 2, 0, 20, 1] [tB false = tB false, tB false = tB false, tI (IntKind.i64.wrap (l2 + i2)) = tI (l2 + i2), tB (l2 + i2 != n) = tB false, tB (decide (i2 < 0)) = tB true, tB false = tB true] (
 ([] : List VO) = [])) (
 Ck [130838549569472880609183515] [tB false = tB false, tB false = tB false, tI (IntKind.i64.wrap (l2 + i2)) = tI (l2 + i2), tB (l2 + i2 != n) = tB false, tB (decide (i2 < 0)) = tB false] (
 brP (decide (i2 ≥ q.k)) (
 Ck [0, 2, 0, 20, 1] [tB false = tB true] (
 ([] : List VO) = [])) (
 Ck [0] [] (
 brP (ok) (
 Ck [246192725545902808355, 0, 20, 1] [tB ok = tB true, tB true = tB true] (
 ([] : List VO) = [])) (
 brP (k == 0) (
 brP (i == 0) (
 brP (ok2) (
 Ck [179474496961143437269382, 0, 20, 1] [tB ok = tB false, tB (k == 0) = tB true, tB (i == 0) = tB true, tB ok2 = tB true, tB true = tB true] (
 ([] : List VO) = [])) (
 brP (k2 == 0) (
 Ck [1615270722502574109808415, 0, 20, 1] [tB ok = tB false, tB (k == 0) = tB true, tB (i == 0) = tB true, tB ok2 = tB false, tB (k2 == 0) = tB true, tB (i2 == 0) = tB true] (
 ([] : List VO) = [])) (
 Ck [1615270722502574109808415, 0, 20, 1] [tB ok = tB false, tB (k == 0) = tB true, tB (i == 0) = tB true, tB ok2 = tB false, tB (k2 == 0) = tB false, tB false = tB true] (
 ([] : List VO) = [])))) (
 Ck [19941610769270430117725, 0, 20, 1] [tB ok = tB false, tB (k == 0) = tB true, tB (i == 0) = tB false, tB false = tB true] (
 ([] : List VO) = []))) (
 Ck [19941610769270430117725, 0, 20, 1] [tB ok = tB false, tB (k == 0) = tB false, tB false = tB false, tB false = tB true] (
 ([] : List VO) = [])))))))))) (
 Ck [0] [] (
 brP (ok) (
 Ck [246192725545902808355, 0, 20, 1] [tB ok = tB true, tB true = tB true] (
 ([] : List VO) = [])) (
 brP (k == 0) (
 brP (i == 0) (
 brP (ok2) (
 Ck [179474496961143437269382, 0, 20, 1] [tB ok = tB false, tB (k == 0) = tB true, tB (i == 0) = tB true, tB ok2 = tB true, tB true = tB true] (
 ([] : List VO) = [])) (
 brP (k2 == 0) (
 Ck [1615270722502574109808415, 0, 20, 1] [tB ok = tB false, tB (k == 0) = tB true, tB (i == 0) = tB true, tB ok2 = tB false, tB (k2 == 0) = tB true, tB (i2 == 0) = tB true] (
 ([] : List VO) = [])) (
 Ck [1615270722502574109808415, 0, 20, 1] [tB ok = tB false, tB (k == 0) = tB true, tB (i == 0) = tB true, tB ok2 = tB false, tB (k2 == 0) = tB false, tB false = tB true] (
 ([] : List VO) = [])))) (
 Ck [19941610769270430117725, 0, 20, 1] [tB ok = tB false, tB (k == 0) = tB true, tB (i == 0) = tB false, tB false = tB true] (
 ([] : List VO) = []))) (
 Ck [19941610769270430117725, 0, 20, 1] [tB ok = tB false, tB (k == 0) = tB false, tB false = tB false, tB false = tB true] (
 ([] : List VO) = [])))))))))))) (
 Ck [0, 2] [] (
 brP (ok2) (
 Ck [0, 96855365, 0, 871696343, 0] [VC Try.prog 17 [tA [CV.f x], tI k2] [] (TV.tp [T1.ag [cI q.s, cI q.o, cI q.n, cI q.k], T1.c (cI 0)]) [], VC Try.prog 24 [tA [CV.f x], tI k2] [] (TV.tp [T1.c (cI b2), T1.c (cI l2), T1.c (cI 0)]) []] (
 brP (l2 + i2 != n) (
 Ck [130838549569472880609183515, 0, 2, 0, 20, 1] [tB false = tB false, tB false = tB false, tI (IntKind.i64.wrap (l2 + i2)) = tI (l2 + i2), tB (l2 + i2 != n) = tB true, tB true = tB true, tB false = tB true] (
 ([] : List VO) = [])) (
 brP (decide (i2 < 0)) (
 Ck [130838549569472880609183515, 0, 2, 0, 20, 1] [tB false = tB false, tB false = tB false, tI (IntKind.i64.wrap (l2 + i2)) = tI (l2 + i2), tB (l2 + i2 != n) = tB false, tB (decide (i2 < 0)) = tB true, tB false = tB true] (
 ([] : List VO) = [])) (
 Ck [130838549569472880609183515] [tB false = tB false, tB false = tB false, tI (IntKind.i64.wrap (l2 + i2)) = tI (l2 + i2), tB (l2 + i2 != n) = tB false, tB (decide (i2 < 0)) = tB false] (
 brP (decide (i2 ≥ q.k)) (
 Ck [0, 2, 0, 20, 1] [tB false = tB true] (
 ([] : List VO) = [])) (
 Ck [0] [] (
 brP (ok) (
 Ck [246192725545902808355, 0, 20, 1] [tB ok = tB true, tB true = tB true] (
 ([] : List VO) = [])) (
 brP (k == 0) (
 brP (i == 0) (
 brP (ok2) (
 Ck [179474496961143437269382, 0, 20, 1] [tB ok = tB false, tB (k == 0) = tB true, tB (i == 0) = tB true, tB ok2 = tB true, tB true = tB true] (
 ([] : List VO) = [])) (
 brP (k2 == 0) (
 Ck [1615270722502574109808415, 0, 20, 1] [tB ok = tB false, tB (k == 0) = tB true, tB (i == 0) = tB true, tB ok2 = tB false, tB (k2 == 0) = tB true, tB (i2 == 0) = tB true] (
 ([] : List VO) = [])) (
 Ck [1615270722502574109808415, 0, 20, 1] [tB ok = tB false, tB (k == 0) = tB true, tB (i == 0) = tB true, tB ok2 = tB false, tB (k2 == 0) = tB false, tB false = tB true] (
 ([] : List VO) = [])))) (
 Ck [19941610769270430117725, 0, 20, 1] [tB ok = tB false, tB (k == 0) = tB true, tB (i == 0) = tB false, tB false = tB true] (
 ([] : List VO) = []))) (
 Ck [19941610769270430117725, 0, 20, 1] [tB ok = tB false, tB (k == 0) = tB false, tB false = tB false, tB false = tB true] (
 ([] : List VO) = [])))))))))) (
 Ck [0] [] (
 brP (ok) (
 Ck [246192725545902808355, 0, 20, 1] [tB ok = tB true, tB true = tB true] (
 ([] : List VO) = [])) (
 brP (k == 0) (
 brP (i == 0) (
 brP (ok2) (
 Ck [179474496961143437269382, 0, 20, 1] [tB ok = tB false, tB (k == 0) = tB true, tB (i == 0) = tB true, tB ok2 = tB true, tB true = tB true] (
 ([] : List VO) = [])) (
 brP (k2 == 0) (
 Ck [1615270722502574109808415, 0, 20, 1] [tB ok = tB false, tB (k == 0) = tB true, tB (i == 0) = tB true, tB ok2 = tB false, tB (k2 == 0) = tB true, tB (i2 == 0) = tB true] (
 ([] : List VO) = [])) (
 Ck [1615270722502574109808415, 0, 20, 1] [tB ok = tB false, tB (k == 0) = tB true, tB (i == 0) = tB true, tB ok2 = tB false, tB (k2 == 0) = tB false, tB false = tB true] (
 ([] : List VO) = [])))) (
 Ck [19941610769270430117725, 0, 20, 1] [tB ok = tB false, tB (k == 0) = tB true, tB (i == 0) = tB false, tB false = tB true] (
 ([] : List VO) = []))) (
 Ck [19941610769270430117725, 0, 20, 1] [tB ok = tB false, tB (k == 0) = tB false, tB false = tB false, tB false = tB true] (
 ([] : List VO) = []))))))))))) (
 Ck [179474524718736710224154] [tB (decide (n ≥ 0)) = tB true, VC Try.prog 22 [tA [CV.f x]] [] (tI (sizF x)) [], (tB !ok == decide (n < sizF x)) = tB false, tB (decide (n ≥ 0)) = tB false] (
 brP (!ok2 == false) (
 Ck [0, 2, 0, 20, 1] [tB false = tB true] (
 ([] : List VO) = [])) (
 Ck [0, 2] [] (
 brP (ok) (
 Ck [0, 96855365, 0, 871696343, 0] [VC Try.prog 17 [tA [CV.f x], tI k] [] (TV.tp [T1.ag [cI p.s, cI p.o, cI p.n, cI p.k], T1.c (cI 0)]) [], VC Try.prog 24 [tA [CV.f x], tI k] [] (TV.tp [T1.c (cI b), T1.c (cI l), T1.c (cI 0)]) []] (
 brP (b + i != n) (
 Ck [1177533815624193955036206557, 0, 2, 0, 20, 1] [tB false = tB false, tB false = tB false, tI (IntKind.i64.wrap (b + i)) = tI (b + i), tB (b + i != n) = tB true, tB true = tB true, tB false = tB true] (
 ([] : List VO) = [])) (
 brP (decide (i < 0)) (
 Ck [1177533815624193955036206557, 0, 2, 0, 20, 1] [tB false = tB false, tB false = tB false, tI (IntKind.i64.wrap (b + i)) = tI (b + i), tB (b + i != n) = tB false, tB (decide (i < 0)) = tB true, tB false = tB true] (
 ([] : List VO) = [])) (
 Ck [1177533815624193955036206557] [tB false = tB false, tB false = tB false, tI (IntKind.i64.wrap (b + i)) = tI (b + i), tB (b + i != n) = tB false, tB (decide (i < 0)) = tB false] (
 brP (decide (i ≥ p.n)) (
 Ck [0, 2, 0, 20, 1] [tB false = tB true] (
 ([] : List VO) = [])) (
 Ck [0, 2] [] (
 brP (ok2) (
 Ck [0, 96855365, 0, 871696343, 0] [VC Try.prog 17 [tA [CV.f x], tI k2] [] (TV.tp [T1.ag [cI q.s, cI q.o, cI q.n, cI q.k], T1.c (cI 0)]) [], VC Try.prog 24 [tA [CV.f x], tI k2] [] (TV.tp [T1.c (cI b2), T1.c (cI l2), T1.c (cI 0)]) []] (
 brP (l2 + i2 != n) (
 Ck [130838549569472880609183515, 0, 2, 0, 20, 1] [tB false = tB false, tB false = tB false, tI (IntKind.i64.wrap (l2 + i2)) = tI (l2 + i2), tB (l2 + i2 != n) = tB true, tB true = tB true, tB false = tB true] (
 ([] : List VO) = [])) (
 brP (decide (i2 < 0)) (
 Ck [130838549569472880609183515, 0, 2, 0, 20, 1] [tB false = tB false, tB false = tB false, tI (IntKind.i64.wrap (l2 + i2)) = tI (l2 + i2), tB (l2 + i2 != n) = tB false, tB (decide (i2 < 0)) = tB true, tB false = tB true] (
 ([] : List VO) = [])) (
 Ck [130838549569472880609183515] [tB false = tB false, tB false = tB false, tI (IntKind.i64.wrap (l2 + i2)) = tI (l2 + i2), tB (l2 + i2 != n) = tB false, tB (decide (i2 < 0)) = tB false] (
 brP (decide (i2 ≥ q.k)) (
 Ck [0, 2, 0, 20, 1] [tB false = tB true] (
 ([] : List VO) = [])) (
 Ck [0] [] (
 brP (ok) (
 Ck [246192725545902808355, 0, 20, 1] [tB ok = tB true, tB true = tB true] (
 ([] : List VO) = [])) (
 brP (k == 0) (
 brP (i == 0) (
 brP (ok2) (
 Ck [179474496961143437269382, 0, 20, 1] [tB ok = tB false, tB (k == 0) = tB true, tB (i == 0) = tB true, tB ok2 = tB true, tB true = tB true] (
 ([] : List VO) = [])) (
 brP (k2 == 0) (
 Ck [1615270722502574109808415, 0, 20, 1] [tB ok = tB false, tB (k == 0) = tB true, tB (i == 0) = tB true, tB ok2 = tB false, tB (k2 == 0) = tB true, tB (i2 == 0) = tB true] (
 ([] : List VO) = [])) (
 Ck [1615270722502574109808415, 0, 20, 1] [tB ok = tB false, tB (k == 0) = tB true, tB (i == 0) = tB true, tB ok2 = tB false, tB (k2 == 0) = tB false, tB false = tB true] (
 ([] : List VO) = [])))) (
 Ck [19941610769270430117725, 0, 20, 1] [tB ok = tB false, tB (k == 0) = tB true, tB (i == 0) = tB false, tB false = tB true] (
 ([] : List VO) = []))) (
 Ck [19941610769270430117725, 0, 20, 1] [tB ok = tB false, tB (k == 0) = tB false, tB false = tB false, tB false = tB true] (
 ([] : List VO) = [])))))))))) (
 Ck [0] [] (
 brP (ok) (
 Ck [246192725545902808355, 0, 20, 1] [tB ok = tB true, tB true = tB true] (
 ([] : List VO) = [])) (
 brP (k == 0) (
 brP (i == 0) (
 brP (ok2) (
 Ck [179474496961143437269382, 0, 20, 1] [tB ok = tB false, tB (k == 0) = tB true, tB (i == 0) = tB true, tB ok2 = tB true, tB true = tB true] (
 ([] : List VO) = [])) (
 brP (k2 == 0) (
 Ck [1615270722502574109808415, 0, 20, 1] [tB ok = tB false, tB (k == 0) = tB true, tB (i == 0) = tB true, tB ok2 = tB false, tB (k2 == 0) = tB true, tB (i2 == 0) = tB true] (
 ([] : List VO) = [])) (
 Ck [1615270722502574109808415, 0, 20, 1] [tB ok = tB false, tB (k == 0) = tB true, tB (i == 0) = tB true, tB ok2 = tB false, tB (k2 == 0) = tB false, tB false = tB true] (
 ([] : List VO) = [])))) (
 Ck [19941610769270430117725, 0, 20, 1] [tB ok = tB false, tB (k == 0) = tB true, tB (i == 0) = tB false, tB false = tB true] (
 ([] : List VO) = []))) (
 Ck [19941610769270430117725, 0, 20, 1] [tB ok = tB false, tB (k == 0) = tB false, tB false = tB false, tB false = tB true] (
 ([] : List VO) = [])))))))))))) (
 Ck [0, 2] [] (
 brP (ok2) (
 Ck [0, 96855365, 0, 871696343, 0] [VC Try.prog 17 [tA [CV.f x], tI k2] [] (TV.tp [T1.ag [cI q.s, cI q.o, cI q.n, cI q.k], T1.c (cI 0)]) [], VC Try.prog 24 [tA [CV.f x], tI k2] [] (TV.tp [T1.c (cI b2), T1.c (cI l2), T1.c (cI 0)]) []] (
 brP (l2 + i2 != n) (
 Ck [130838549569472880609183515, 0, 2, 0, 20, 1] [tB false = tB false, tB false = tB false, tI (IntKind.i64.wrap (l2 + i2)) = tI (l2 + i2), tB (l2 + i2 != n) = tB true, tB true = tB true, tB false = tB true] (
 ([] : List VO) = [])) (
 brP (decide (i2 < 0)) (
 Ck [130838549569472880609183515, 0, 2, 0, 20, 1] [tB false = tB false, tB false = tB false, tI (IntKind.i64.wrap (l2 + i2)) = tI (l2 + i2), tB (l2 + i2 != n) = tB false, tB (decide (i2 < 0)) = tB true, tB false = tB true] (
 ([] : List VO) = [])) (
 Ck [130838549569472880609183515] [tB false = tB false, tB false = tB false, tI (IntKind.i64.wrap (l2 + i2)) = tI (l2 + i2), tB (l2 + i2 != n) = tB false, tB (decide (i2 < 0)) = tB false] (
 brP (decide (i2 ≥ q.k)) (
 Ck [0, 2, 0, 20, 1] [tB false = tB true] (
 ([] : List VO) = [])) (
 Ck [0] [] (
 brP (ok) (
 Ck [246192725545902808355, 0, 20, 1] [tB ok = tB true, tB true = tB true] (
 ([] : List VO) = [])) (
 brP (k == 0) (
 brP (i == 0) (
 brP (ok2) (
 Ck [179474496961143437269382, 0, 20, 1] [tB ok = tB false, tB (k == 0) = tB true, tB (i == 0) = tB true, tB ok2 = tB true, tB true = tB true] (
 ([] : List VO) = [])) (
 brP (k2 == 0) (
 Ck [1615270722502574109808415, 0, 20, 1] [tB ok = tB false, tB (k == 0) = tB true, tB (i == 0) = tB true, tB ok2 = tB false, tB (k2 == 0) = tB true, tB (i2 == 0) = tB true] (
 ([] : List VO) = [])) (
 Ck [1615270722502574109808415, 0, 20, 1] [tB ok = tB false, tB (k == 0) = tB true, tB (i == 0) = tB true, tB ok2 = tB false, tB (k2 == 0) = tB false, tB false = tB true] (
 ([] : List VO) = [])))) (
 Ck [19941610769270430117725, 0, 20, 1] [tB ok = tB false, tB (k == 0) = tB true, tB (i == 0) = tB false, tB false = tB true] (
 ([] : List VO) = []))) (
 Ck [19941610769270430117725, 0, 20, 1] [tB ok = tB false, tB (k == 0) = tB false, tB false = tB false, tB false = tB true] (
 ([] : List VO) = [])))))))))) (
 Ck [0] [] (
 brP (ok) (
 Ck [246192725545902808355, 0, 20, 1] [tB ok = tB true, tB true = tB true] (
 ([] : List VO) = [])) (
 brP (k == 0) (
 brP (i == 0) (
 brP (ok2) (
 Ck [179474496961143437269382, 0, 20, 1] [tB ok = tB false, tB (k == 0) = tB true, tB (i == 0) = tB true, tB ok2 = tB true, tB true = tB true] (
 ([] : List VO) = [])) (
 brP (k2 == 0) (
 Ck [1615270722502574109808415, 0, 20, 1] [tB ok = tB false, tB (k == 0) = tB true, tB (i == 0) = tB true, tB ok2 = tB false, tB (k2 == 0) = tB true, tB (i2 == 0) = tB true] (
 ([] : List VO) = [])) (
 Ck [1615270722502574109808415, 0, 20, 1] [tB ok = tB false, tB (k == 0) = tB true, tB (i == 0) = tB true, tB ok2 = tB false, tB (k2 == 0) = tB false, tB false = tB true] (
 ([] : List VO) = [])))) (
 Ck [19941610769270430117725, 0, 20, 1] [tB ok = tB false, tB (k == 0) = tB true, tB (i == 0) = tB false, tB false = tB true] (
 ([] : List VO) = []))) (
 Ck [19941610769270430117725, 0, 20, 1] [tB ok = tB false, tB (k == 0) = tB false, tB false = tB false, tB false = tB true] (
 ([] : List VO) = []))))))))))))) (
 brP (!ok == false) (
 Ck [19941610769688843370910, 0, 2, 0, 20, 1] [tB (decide (n ≥ 0)) = tB false, (tB !ok == false) = tB true, tB false = tB true] (
 ([] : List VO) = [])) (
 brP (decide (n ≥ 0)) (
 Ck [179510997715113866661650] [tB (decide (n ≥ 0)) = tB false, (tB !ok == false) = tB false, tB (decide (n ≥ 0)) = tB true, VC Try.prog 23 [tA [CV.f x]] [] (tI (lnsF x)) []] (
 brP (!ok2 == decide (n < lnsF x)) (
 Ck [0, 2, 0, 20, 1] [tB false = tB true] (
 ([] : List VO) = [])) (
 Ck [0, 2] [] (
 brP (ok) (
 Ck [0, 96855365, 0, 871696343, 0] [VC Try.prog 17 [tA [CV.f x], tI k] [] (TV.tp [T1.ag [cI p.s, cI p.o, cI p.n, cI p.k], T1.c (cI 0)]) [], VC Try.prog 24 [tA [CV.f x], tI k] [] (TV.tp [T1.c (cI b), T1.c (cI l), T1.c (cI 0)]) []] (
 brP (b + i != n) (
 Ck [1177533815624193955036206557, 0, 2, 0, 20, 1] [tB false = tB false, tB false = tB false, tI (IntKind.i64.wrap (b + i)) = tI (b + i), tB (b + i != n) = tB true, tB true = tB true, tB false = tB true] (
 ([] : List VO) = [])) (
 brP (decide (i < 0)) (
 Ck [1177533815624193955036206557, 0, 2, 0, 20, 1] [tB false = tB false, tB false = tB false, tI (IntKind.i64.wrap (b + i)) = tI (b + i), tB (b + i != n) = tB false, tB (decide (i < 0)) = tB true, tB false = tB true] (
 ([] : List VO) = [])) (
 Ck [1177533815624193955036206557] [tB false = tB false, tB false = tB false, tI (IntKind.i64.wrap (b + i)) = tI (b + i), tB (b + i != n) = tB false, tB (decide (i < 0)) = tB false] (
 brP (decide (i ≥ p.n)) (
 Ck [0, 2, 0, 20, 1] [tB false = tB true] (
 ([] : List VO) = [])) (
 Ck [0, 2] [] (
 brP (ok2) (
 Ck [0, 96855365, 0, 871696343, 0] [VC Try.prog 17 [tA [CV.f x], tI k2] [] (TV.tp [T1.ag [cI q.s, cI q.o, cI q.n, cI q.k], T1.c (cI 0)]) [], VC Try.prog 24 [tA [CV.f x], tI k2] [] (TV.tp [T1.c (cI b2), T1.c (cI l2), T1.c (cI 0)]) []] (
 brP (l2 + i2 != n) (
 Ck [130838549569472880609183515, 0, 2, 0, 20, 1] [tB false = tB false, tB false = tB false, tI (IntKind.i64.wrap (l2 + i2)) = tI (l2 + i2), tB (l2 + i2 != n) = tB true, tB true = tB true, tB false = tB true] (
 ([] : List VO) = [])) (
 brP (decide (i2 < 0)) (
 Ck [130838549569472880609183515, 0, 2, 0, 20, 1] [tB false = tB false, tB false = tB false, tI (IntKind.i64.wrap (l2 + i2)) = tI (l2 + i2), tB (l2 + i2 != n) = tB false, tB (decide (i2 < 0)) = tB true, tB false = tB true] (
 ([] : List VO) = [])) (
 Ck [130838549569472880609183515] [tB false = tB false, tB false = tB false, tI (IntKind.i64.wrap (l2 + i2)) = tI (l2 + i2), tB (l2 + i2 != n) = tB false, tB (decide (i2 < 0)) = tB false] (
 brP (decide (i2 ≥ q.k)) (
 Ck [0, 2, 0, 20, 1] [tB false = tB true] (
 ([] : List VO) = [])) (
 Ck [0] [] (
 brP (ok) (
 Ck [246192725545902808355, 0, 20, 1] [tB ok = tB true, tB true = tB true] (
 ([] : List VO) = [])) (
 brP (k == 0) (
 brP (i == 0) (
 brP (ok2) (
 Ck [179474496961143437269382, 0, 20, 1] [tB ok = tB false, tB (k == 0) = tB true, tB (i == 0) = tB true, tB ok2 = tB true, tB true = tB true] (
 ([] : List VO) = [])) (
 brP (k2 == 0) (
 Ck [1615270722502574109808415, 0, 20, 1] [tB ok = tB false, tB (k == 0) = tB true, tB (i == 0) = tB true, tB ok2 = tB false, tB (k2 == 0) = tB true, tB (i2 == 0) = tB true] (
 ([] : List VO) = [])) (
 Ck [1615270722502574109808415, 0, 20, 1] [tB ok = tB false, tB (k == 0) = tB true, tB (i == 0) = tB true, tB ok2 = tB false, tB (k2 == 0) = tB false, tB false = tB true] (
 ([] : List VO) = [])))) (
 Ck [19941610769270430117725, 0, 20, 1] [tB ok = tB false, tB (k == 0) = tB true, tB (i == 0) = tB false, tB false = tB true] (
 ([] : List VO) = []))) (
 Ck [19941610769270430117725, 0, 20, 1] [tB ok = tB false, tB (k == 0) = tB false, tB false = tB false, tB false = tB true] (
 ([] : List VO) = [])))))))))) (
 Ck [0] [] (
 brP (ok) (
 Ck [246192725545902808355, 0, 20, 1] [tB ok = tB true, tB true = tB true] (
 ([] : List VO) = [])) (
 brP (k == 0) (
 brP (i == 0) (
 brP (ok2) (
 Ck [179474496961143437269382, 0, 20, 1] [tB ok = tB false, tB (k == 0) = tB true, tB (i == 0) = tB true, tB ok2 = tB true, tB true = tB true] (
 ([] : List VO) = [])) (
 brP (k2 == 0) (
 Ck [1615270722502574109808415, 0, 20, 1] [tB ok = tB false, tB (k == 0) = tB true, tB (i == 0) = tB true, tB ok2 = tB false, tB (k2 == 0) = tB true, tB (i2 == 0) = tB true] (
 ([] : List VO) = [])) (
 Ck [1615270722502574109808415, 0, 20, 1] [tB ok = tB false, tB (k == 0) = tB true, tB (i == 0) = tB true, tB ok2 = tB false, tB (k2 == 0) = tB false, tB false = tB true] (
 ([] : List VO) = [])))) (
 Ck [19941610769270430117725, 0, 20, 1] [tB ok = tB false, tB (k == 0) = tB true, tB (i == 0) = tB false, tB false = tB true] (
 ([] : List VO) = []))) (
 Ck [19941610769270430117725, 0, 20, 1] [tB ok = tB false, tB (k == 0) = tB false, tB false = tB false, tB false = tB true] (
 ([] : List VO) = [])))))))))))) (
 Ck [0, 2] [] (
 brP (ok2) (
 Ck [0, 96855365, 0, 871696343, 0] [VC Try.prog 17 [tA [CV.f x], tI k2] [] (TV.tp [T1.ag [cI q.s, cI q.o, cI q.n, cI q.k], T1.c (cI 0)]) [], VC Try.prog 24 [tA [CV.f x], tI k2] [] (TV.tp [T1.c (cI b2), T1.c (cI l2), T1.c (cI 0)]) []] (
 brP (l2 + i2 != n) (
 Ck [130838549569472880609183515, 0, 2, 0, 20, 1] [tB false = tB false, tB false = tB false, tI (IntKind.i64.wrap (l2 + i2)) = tI (l2 + i2), tB (l2 + i2 != n) = tB true, tB true = tB true, tB false = tB true] (
 ([] : List VO) = [])) (
 brP (decide (i2 < 0)) (
 Ck [130838549569472880609183515, 0, 2, 0, 20, 1] [tB false = tB false, tB false = tB false, tI (IntKind.i64.wrap (l2 + i2)) = tI (l2 + i2), tB (l2 + i2 != n) = tB false, tB (decide (i2 < 0)) = tB true, tB false = tB true] (
 ([] : List VO) = [])) (
 Ck [130838549569472880609183515] [tB false = tB false, tB false = tB false, tI (IntKind.i64.wrap (l2 + i2)) = tI (l2 + i2), tB (l2 + i2 != n) = tB false, tB (decide (i2 < 0)) = tB false] (
 brP (decide (i2 ≥ q.k)) (
 Ck [0, 2, 0, 20, 1] [tB false = tB true] (
 ([] : List VO) = [])) (
 Ck [0] [] (
 brP (ok) (
 Ck [246192725545902808355, 0, 20, 1] [tB ok = tB true, tB true = tB true] (
 ([] : List VO) = [])) (
 brP (k == 0) (
 brP (i == 0) (
 brP (ok2) (
 Ck [179474496961143437269382, 0, 20, 1] [tB ok = tB false, tB (k == 0) = tB true, tB (i == 0) = tB true, tB ok2 = tB true, tB true = tB true] (
 ([] : List VO) = [])) (
 brP (k2 == 0) (
 Ck [1615270722502574109808415, 0, 20, 1] [tB ok = tB false, tB (k == 0) = tB true, tB (i == 0) = tB true, tB ok2 = tB false, tB (k2 == 0) = tB true, tB (i2 == 0) = tB true] (
 ([] : List VO) = [])) (
 Ck [1615270722502574109808415, 0, 20, 1] [tB ok = tB false, tB (k == 0) = tB true, tB (i == 0) = tB true, tB ok2 = tB false, tB (k2 == 0) = tB false, tB false = tB true] (
 ([] : List VO) = [])))) (
 Ck [19941610769270430117725, 0, 20, 1] [tB ok = tB false, tB (k == 0) = tB true, tB (i == 0) = tB false, tB false = tB true] (
 ([] : List VO) = []))) (
 Ck [19941610769270430117725, 0, 20, 1] [tB ok = tB false, tB (k == 0) = tB false, tB false = tB false, tB false = tB true] (
 ([] : List VO) = [])))))))))) (
 Ck [0] [] (
 brP (ok) (
 Ck [246192725545902808355, 0, 20, 1] [tB ok = tB true, tB true = tB true] (
 ([] : List VO) = [])) (
 brP (k == 0) (
 brP (i == 0) (
 brP (ok2) (
 Ck [179474496961143437269382, 0, 20, 1] [tB ok = tB false, tB (k == 0) = tB true, tB (i == 0) = tB true, tB ok2 = tB true, tB true = tB true] (
 ([] : List VO) = [])) (
 brP (k2 == 0) (
 Ck [1615270722502574109808415, 0, 20, 1] [tB ok = tB false, tB (k == 0) = tB true, tB (i == 0) = tB true, tB ok2 = tB false, tB (k2 == 0) = tB true, tB (i2 == 0) = tB true] (
 ([] : List VO) = [])) (
 Ck [1615270722502574109808415, 0, 20, 1] [tB ok = tB false, tB (k == 0) = tB true, tB (i == 0) = tB true, tB ok2 = tB false, tB (k2 == 0) = tB false, tB false = tB true] (
 ([] : List VO) = [])))) (
 Ck [19941610769270430117725, 0, 20, 1] [tB ok = tB false, tB (k == 0) = tB true, tB (i == 0) = tB false, tB false = tB true] (
 ([] : List VO) = []))) (
 Ck [19941610769270430117725, 0, 20, 1] [tB ok = tB false, tB (k == 0) = tB false, tB false = tB false, tB false = tB true] (
 ([] : List VO) = []))))))))))) (
 Ck [179474524718736695875247] [tB (decide (n ≥ 0)) = tB false, (tB !ok == false) = tB false, tB (decide (n ≥ 0)) = tB false] (
 brP (!ok2 == false) (
 Ck [0, 2, 0, 20, 1] [tB false = tB true] (
 ([] : List VO) = [])) (
 Ck [0, 2] [] (
 brP (ok) (
 Ck [0, 96855365, 0, 871696343, 0] [VC Try.prog 17 [tA [CV.f x], tI k] [] (TV.tp [T1.ag [cI p.s, cI p.o, cI p.n, cI p.k], T1.c (cI 0)]) [], VC Try.prog 24 [tA [CV.f x], tI k] [] (TV.tp [T1.c (cI b), T1.c (cI l), T1.c (cI 0)]) []] (
 brP (b + i != n) (
 Ck [1177533815624193955036206557, 0, 2, 0, 20, 1] [tB false = tB false, tB false = tB false, tI (IntKind.i64.wrap (b + i)) = tI (b + i), tB (b + i != n) = tB true, tB true = tB true, tB false = tB true] (
 ([] : List VO) = [])) (
 brP (decide (i < 0)) (
 Ck [1177533815624193955036206557, 0, 2, 0, 20, 1] [tB false = tB false, tB false = tB false, tI (IntKind.i64.wrap (b + i)) = tI (b + i), tB (b + i != n) = tB false, tB (decide (i < 0)) = tB true, tB false = tB true] (
 ([] : List VO) = [])) (
 Ck [1177533815624193955036206557] [tB false = tB false, tB false = tB false, tI (IntKind.i64.wrap (b + i)) = tI (b + i), tB (b + i != n) = tB false, tB (decide (i < 0)) = tB false] (
 brP (decide (i ≥ p.n)) (
 Ck [0, 2, 0, 20, 1] [tB false = tB true] (
 ([] : List VO) = [])) (
 Ck [0, 2] [] (
 brP (ok2) (
 Ck [0, 96855365, 0, 871696343, 0] [VC Try.prog 17 [tA [CV.f x], tI k2] [] (TV.tp [T1.ag [cI q.s, cI q.o, cI q.n, cI q.k], T1.c (cI 0)]) [], VC Try.prog 24 [tA [CV.f x], tI k2] [] (TV.tp [T1.c (cI b2), T1.c (cI l2), T1.c (cI 0)]) []] (
 brP (l2 + i2 != n) (
 Ck [130838549569472880609183515, 0, 2, 0, 20, 1] [tB false = tB false, tB false = tB false, tI (IntKind.i64.wrap (l2 + i2)) = tI (l2 + i2), tB (l2 + i2 != n) = tB true, tB true = tB true, tB false = tB true] (
 ([] : List VO) = [])) (
 brP (decide (i2 < 0)) (
 Ck [130838549569472880609183515, 0, 2, 0, 20, 1] [tB false = tB false, tB false = tB false, tI (IntKind.i64.wrap (l2 + i2)) = tI (l2 + i2), tB (l2 + i2 != n) = tB false, tB (decide (i2 < 0)) = tB true, tB false = tB true] (
 ([] : List VO) = [])) (
 Ck [130838549569472880609183515] [tB false = tB false, tB false = tB false, tI (IntKind.i64.wrap (l2 + i2)) = tI (l2 + i2), tB (l2 + i2 != n) = tB false, tB (decide (i2 < 0)) = tB false] (
 brP (decide (i2 ≥ q.k)) (
 Ck [0, 2, 0, 20, 1] [tB false = tB true] (
 ([] : List VO) = [])) (
 Ck [0] [] (
 brP (ok) (
 Ck [246192725545902808355, 0, 20, 1] [tB ok = tB true, tB true = tB true] (
 ([] : List VO) = [])) (
 brP (k == 0) (
 brP (i == 0) (
 brP (ok2) (
 Ck [179474496961143437269382, 0, 20, 1] [tB ok = tB false, tB (k == 0) = tB true, tB (i == 0) = tB true, tB ok2 = tB true, tB true = tB true] (
 ([] : List VO) = [])) (
 brP (k2 == 0) (
 Ck [1615270722502574109808415, 0, 20, 1] [tB ok = tB false, tB (k == 0) = tB true, tB (i == 0) = tB true, tB ok2 = tB false, tB (k2 == 0) = tB true, tB (i2 == 0) = tB true] (
 ([] : List VO) = [])) (
 Ck [1615270722502574109808415, 0, 20, 1] [tB ok = tB false, tB (k == 0) = tB true, tB (i == 0) = tB true, tB ok2 = tB false, tB (k2 == 0) = tB false, tB false = tB true] (
 ([] : List VO) = [])))) (
 Ck [19941610769270430117725, 0, 20, 1] [tB ok = tB false, tB (k == 0) = tB true, tB (i == 0) = tB false, tB false = tB true] (
 ([] : List VO) = []))) (
 Ck [19941610769270430117725, 0, 20, 1] [tB ok = tB false, tB (k == 0) = tB false, tB false = tB false, tB false = tB true] (
 ([] : List VO) = [])))))))))) (
 Ck [0] [] (
 brP (ok) (
 Ck [246192725545902808355, 0, 20, 1] [tB ok = tB true, tB true = tB true] (
 ([] : List VO) = [])) (
 brP (k == 0) (
 brP (i == 0) (
 brP (ok2) (
 Ck [179474496961143437269382, 0, 20, 1] [tB ok = tB false, tB (k == 0) = tB true, tB (i == 0) = tB true, tB ok2 = tB true, tB true = tB true] (
 ([] : List VO) = [])) (
 brP (k2 == 0) (
 Ck [1615270722502574109808415, 0, 20, 1] [tB ok = tB false, tB (k == 0) = tB true, tB (i == 0) = tB true, tB ok2 = tB false, tB (k2 == 0) = tB true, tB (i2 == 0) = tB true] (
 ([] : List VO) = [])) (
 Ck [1615270722502574109808415, 0, 20, 1] [tB ok = tB false, tB (k == 0) = tB true, tB (i == 0) = tB true, tB ok2 = tB false, tB (k2 == 0) = tB false, tB false = tB true] (
 ([] : List VO) = [])))) (
 Ck [19941610769270430117725, 0, 20, 1] [tB ok = tB false, tB (k == 0) = tB true, tB (i == 0) = tB false, tB false = tB true] (
 ([] : List VO) = []))) (
 Ck [19941610769270430117725, 0, 20, 1] [tB ok = tB false, tB (k == 0) = tB false, tB false = tB false, tB false = tB true] (
 ([] : List VO) = [])))))))))))) (
 Ck [0, 2] [] (
 brP (ok2) (
 Ck [0, 96855365, 0, 871696343, 0] [VC Try.prog 17 [tA [CV.f x], tI k2] [] (TV.tp [T1.ag [cI q.s, cI q.o, cI q.n, cI q.k], T1.c (cI 0)]) [], VC Try.prog 24 [tA [CV.f x], tI k2] [] (TV.tp [T1.c (cI b2), T1.c (cI l2), T1.c (cI 0)]) []] (
 brP (l2 + i2 != n) (
 Ck [130838549569472880609183515, 0, 2, 0, 20, 1] [tB false = tB false, tB false = tB false, tI (IntKind.i64.wrap (l2 + i2)) = tI (l2 + i2), tB (l2 + i2 != n) = tB true, tB true = tB true, tB false = tB true] (
 ([] : List VO) = [])) (
 brP (decide (i2 < 0)) (
 Ck [130838549569472880609183515, 0, 2, 0, 20, 1] [tB false = tB false, tB false = tB false, tI (IntKind.i64.wrap (l2 + i2)) = tI (l2 + i2), tB (l2 + i2 != n) = tB false, tB (decide (i2 < 0)) = tB true, tB false = tB true] (
 ([] : List VO) = [])) (
 Ck [130838549569472880609183515] [tB false = tB false, tB false = tB false, tI (IntKind.i64.wrap (l2 + i2)) = tI (l2 + i2), tB (l2 + i2 != n) = tB false, tB (decide (i2 < 0)) = tB false] (
 brP (decide (i2 ≥ q.k)) (
 Ck [0, 2, 0, 20, 1] [tB false = tB true] (
 ([] : List VO) = [])) (
 Ck [0] [] (
 brP (ok) (
 Ck [246192725545902808355, 0, 20, 1] [tB ok = tB true, tB true = tB true] (
 ([] : List VO) = [])) (
 brP (k == 0) (
 brP (i == 0) (
 brP (ok2) (
 Ck [179474496961143437269382, 0, 20, 1] [tB ok = tB false, tB (k == 0) = tB true, tB (i == 0) = tB true, tB ok2 = tB true, tB true = tB true] (
 ([] : List VO) = [])) (
 brP (k2 == 0) (
 Ck [1615270722502574109808415, 0, 20, 1] [tB ok = tB false, tB (k == 0) = tB true, tB (i == 0) = tB true, tB ok2 = tB false, tB (k2 == 0) = tB true, tB (i2 == 0) = tB true] (
 ([] : List VO) = [])) (
 Ck [1615270722502574109808415, 0, 20, 1] [tB ok = tB false, tB (k == 0) = tB true, tB (i == 0) = tB true, tB ok2 = tB false, tB (k2 == 0) = tB false, tB false = tB true] (
 ([] : List VO) = [])))) (
 Ck [19941610769270430117725, 0, 20, 1] [tB ok = tB false, tB (k == 0) = tB true, tB (i == 0) = tB false, tB false = tB true] (
 ([] : List VO) = []))) (
 Ck [19941610769270430117725, 0, 20, 1] [tB ok = tB false, tB (k == 0) = tB false, tB false = tB false, tB false = tB true] (
 ([] : List VO) = [])))))))))) (
 Ck [0] [] (
 brP (ok) (
 Ck [246192725545902808355, 0, 20, 1] [tB ok = tB true, tB true = tB true] (
 ([] : List VO) = [])) (
 brP (k == 0) (
 brP (i == 0) (
 brP (ok2) (
 Ck [179474496961143437269382, 0, 20, 1] [tB ok = tB false, tB (k == 0) = tB true, tB (i == 0) = tB true, tB ok2 = tB true, tB true = tB true] (
 ([] : List VO) = [])) (
 brP (k2 == 0) (
 Ck [1615270722502574109808415, 0, 20, 1] [tB ok = tB false, tB (k == 0) = tB true, tB (i == 0) = tB true, tB ok2 = tB false, tB (k2 == 0) = tB true, tB (i2 == 0) = tB true] (
 ([] : List VO) = [])) (
 Ck [1615270722502574109808415, 0, 20, 1] [tB ok = tB false, tB (k == 0) = tB true, tB (i == 0) = tB true, tB ok2 = tB false, tB (k2 == 0) = tB false, tB false = tB true] (
 ([] : List VO) = [])))) (
 Ck [19941610769270430117725, 0, 20, 1] [tB ok = tB false, tB (k == 0) = tB true, tB (i == 0) = tB false, tB false = tB true] (
 ([] : List VO) = []))) (
 Ck [19941610769270430117725, 0, 20, 1] [tB ok = tB false, tB (k == 0) = tB false, tB false = tB false, tB false = tB true] (
 ([] : List VO) = [])))))))))))))))) := by
  have hbd := hx.bd
  by_cases g0 : n ≥ 0
  · by_cases g1 : n < sizF x
    · rw [decide_eq_true g0, decide_eq_true g1] at hok
      obtain rfl : ok = true := hok
      have hb1 := hb rfl
      by_cases g2 : n < lnsF x
      · rw [decide_eq_true g0, decide_eq_true g2] at hok2
        obtain rfl : ok2 = true := hok2
        have hb3 := hb2 rfl
        clear hb hb2 hz hz2
        simp only [decide_eq_true g0, decide_eq_true g1, decide_eq_true g2, show (!(true == true)) = false from rfl, show (!(false == false)) = false from rfl]
        repeat' first
          | refine brE (fun _ _ => ?_) (fun _ _ => ?_)
          | refine brN (fun _ _ => ?_) (fun _ _ => ?_)
          | refine brD (fun _ _ => ?_) (fun _ _ => ?_)
          | refine brP_intro (fun _ => ?_) (fun _ => ?_)
          | refine ck ?_ ?_
          | exact allp0
          | refine allp2 ?_ ?_
        all_goals try first
          | with_reducible rfl
          | exact Exists.intro _ rfl
          | exact tI_nw (by omega) (by omega)
          | exact tB_of (by assumption)
          | exact tbyt _ (by first | assumption | omega | (simp; done))
          | exact tlin _ (by first | assumption | omega | (simp; done))
          | exact tbuild _ _ _ (by first | assumption | omega | (simp; done)) (by first | assumption | omega | (simp; done))
          | exact tfind_o _ _ (by first | assumption | omega | (simp; done)) (by first | assumption | omega | (simp; done))
          | exact tfind _ _ _ (by first | assumption | omega | (simp; done)) (by first | assumption | omega | (simp; done)) (by first | assumption | omega | (simp; done)) (by first | assumption | omega | (simp; done))
          | exact tfline_o _ _ (by first | assumption | omega | (simp; done)) (by first | assumption | omega | (simp; done))
          | exact tfline _ _ _ (by first | assumption | omega | (simp; done)) (by first | assumption | omega | (simp; done)) (by first | assumption | omega | (simp; done)) (by first | assumption | omega | (simp; done))
          | exact tgetp_o _ _ (by first | assumption | omega | (simp; done)) (by first | assumption | omega | (simp; done))
          | exact tgetp _ _ _ _ _ _ (by first | assumption | omega | (simp; done))
          | exact tbef_o _ _ (by first | assumption | omega | (simp; done)) (by first | assumption | omega | (simp; done))
          | exact tbef _ _ _ (by first | assumption | omega | (simp; done))
          | contradiction
          | exact alive
          | exact h12 (by omega)
          | exact h20
          | exact h21
          | exact tbyt x hx
          | exact tlin x hx
          | exact h17 rfl
          | exact h24 rfl
          | exact h172 rfl
          | exact h242 rfl
          | (exfalso; simp at *; omega)
          | (exfalso; omega)
          | ((with_reducible show (_ : Int) ≤ _); omega)
          | ((with_reducible show (_ : Nat) ≤ _); omega)
          | ((with_reducible show (_ : Int) < _); omega)
      · rw [decide_eq_true g0, decide_eq_false g2] at hok2
        obtain rfl : ok2 = false := hok2
        obtain ⟨rfl, rfl⟩ := hz2 rfl
        clear hb hb2 hz hz2
        simp only [decide_eq_true g0, decide_eq_true g1, decide_eq_false g2, show (!(true == true)) = false from rfl, show (!(false == false)) = false from rfl]
        repeat' first
          | refine brE (fun _ _ => ?_) (fun _ _ => ?_)
          | refine brN (fun _ _ => ?_) (fun _ _ => ?_)
          | refine brD (fun _ _ => ?_) (fun _ _ => ?_)
          | refine brP_intro (fun _ => ?_) (fun _ => ?_)
          | refine ck ?_ ?_
          | exact allp0
          | refine allp2 ?_ ?_
        all_goals try first
          | with_reducible rfl
          | exact Exists.intro _ rfl
          | exact tI_nw (by omega) (by omega)
          | exact tB_of (by assumption)
          | exact tbyt _ (by first | assumption | omega | (simp; done))
          | exact tlin _ (by first | assumption | omega | (simp; done))
          | exact tbuild _ _ _ (by first | assumption | omega | (simp; done)) (by first | assumption | omega | (simp; done))
          | exact tfind_o _ _ (by first | assumption | omega | (simp; done)) (by first | assumption | omega | (simp; done))
          | exact tfind _ _ _ (by first | assumption | omega | (simp; done)) (by first | assumption | omega | (simp; done)) (by first | assumption | omega | (simp; done)) (by first | assumption | omega | (simp; done))
          | exact tfline_o _ _ (by first | assumption | omega | (simp; done)) (by first | assumption | omega | (simp; done))
          | exact tfline _ _ _ (by first | assumption | omega | (simp; done)) (by first | assumption | omega | (simp; done)) (by first | assumption | omega | (simp; done)) (by first | assumption | omega | (simp; done))
          | exact tgetp_o _ _ (by first | assumption | omega | (simp; done)) (by first | assumption | omega | (simp; done))
          | exact tgetp _ _ _ _ _ _ (by first | assumption | omega | (simp; done))
          | exact tbef_o _ _ (by first | assumption | omega | (simp; done)) (by first | assumption | omega | (simp; done))
          | exact tbef _ _ _ (by first | assumption | omega | (simp; done))
          | contradiction
          | exact alive
          | exact h12 (by omega)
          | exact h20
          | exact h21
          | exact tbyt x hx
          | exact tlin x hx
          | exact h17 rfl
          | exact h24 rfl
          | (exfalso; simp at *; omega)
          | (exfalso; omega)
          | ((with_reducible show (_ : Int) ≤ _); omega)
          | ((with_reducible show (_ : Nat) ≤ _); omega)
          | ((with_reducible show (_ : Int) < _); omega)
    · rw [decide_eq_true g0, decide_eq_false g1] at hok
      obtain rfl : ok = false := hok
      obtain ⟨rfl, rfl⟩ := hz rfl
      by_cases g2 : n < lnsF x
      · rw [decide_eq_true g0, decide_eq_true g2] at hok2
        obtain rfl : ok2 = true := hok2
        have hb3 := hb2 rfl
        clear hb hb2 hz hz2
        simp only [decide_eq_true g0, decide_eq_false g1, decide_eq_true g2, show (!(true == true)) = false from rfl, show (!(false == false)) = false from rfl]
        repeat' first
          | refine brE (fun _ _ => ?_) (fun _ _ => ?_)
          | refine brN (fun _ _ => ?_) (fun _ _ => ?_)
          | refine brD (fun _ _ => ?_) (fun _ _ => ?_)
          | refine brP_intro (fun _ => ?_) (fun _ => ?_)
          | refine ck ?_ ?_
          | exact allp0
          | refine allp2 ?_ ?_
        all_goals try first
          | with_reducible rfl
          | exact Exists.intro _ rfl
          | exact tI_nw (by omega) (by omega)
          | exact tB_of (by assumption)
          | exact tbyt _ (by first | assumption | omega | (simp; done))
          | exact tlin _ (by first | assumption | omega | (simp; done))
          | exact tbuild _ _ _ (by first | assumption | omega | (simp; done)) (by first | assumption | omega | (simp; done))
          | exact tfind_o _ _ (by first | assumption | omega | (simp; done)) (by first | assumption | omega | (simp; done))
          | exact tfind _ _ _ (by first | assumption | omega | (simp; done)) (by first | assumption | omega | (simp; done)) (by first | assumption | omega | (simp; done)) (by first | assumption | omega | (simp; done))
          | exact tfline_o _ _ (by first | assumption | omega | (simp; done)) (by first | assumption | omega | (simp; done))
          | exact tfline _ _ _ (by first | assumption | omega | (simp; done)) (by first | assumption | omega | (simp; done)) (by first | assumption | omega | (simp; done)) (by first | assumption | omega | (simp; done))
          | exact tgetp_o _ _ (by first | assumption | omega | (simp; done)) (by first | assumption | omega | (simp; done))
          | exact tgetp _ _ _ _ _ _ (by first | assumption | omega | (simp; done))
          | exact tbef_o _ _ (by first | assumption | omega | (simp; done)) (by first | assumption | omega | (simp; done))
          | exact tbef _ _ _ (by first | assumption | omega | (simp; done))
          | contradiction
          | exact alive
          | exact h12 (by omega)
          | exact h20
          | exact h21
          | exact tbyt x hx
          | exact tlin x hx
          | exact h172 rfl
          | exact h242 rfl
          | (exfalso; simp at *; omega)
          | (exfalso; omega)
          | ((with_reducible show (_ : Int) ≤ _); omega)
          | ((with_reducible show (_ : Nat) ≤ _); omega)
          | ((with_reducible show (_ : Int) < _); omega)
      · rw [decide_eq_true g0, decide_eq_false g2] at hok2
        obtain rfl : ok2 = false := hok2
        obtain ⟨rfl, rfl⟩ := hz2 rfl
        clear hb hb2 hz hz2
        simp only [decide_eq_true g0, decide_eq_false g1, decide_eq_false g2, show (!(true == true)) = false from rfl, show (!(false == false)) = false from rfl]
        repeat' first
          | refine brE (fun _ _ => ?_) (fun _ _ => ?_)
          | refine brN (fun _ _ => ?_) (fun _ _ => ?_)
          | refine brD (fun _ _ => ?_) (fun _ _ => ?_)
          | refine brP_intro (fun _ => ?_) (fun _ => ?_)
          | refine ck ?_ ?_
          | exact allp0
          | refine allp2 ?_ ?_
        all_goals try first
          | with_reducible rfl
          | exact Exists.intro _ rfl
          | exact tI_nw (by omega) (by omega)
          | exact tB_of (by assumption)
          | exact tbyt _ (by first | assumption | omega | (simp; done))
          | exact tlin _ (by first | assumption | omega | (simp; done))
          | exact tbuild _ _ _ (by first | assumption | omega | (simp; done)) (by first | assumption | omega | (simp; done))
          | exact tfind_o _ _ (by first | assumption | omega | (simp; done)) (by first | assumption | omega | (simp; done))
          | exact tfind _ _ _ (by first | assumption | omega | (simp; done)) (by first | assumption | omega | (simp; done)) (by first | assumption | omega | (simp; done)) (by first | assumption | omega | (simp; done))
          | exact tfline_o _ _ (by first | assumption | omega | (simp; done)) (by first | assumption | omega | (simp; done))
          | exact tfline _ _ _ (by first | assumption | omega | (simp; done)) (by first | assumption | omega | (simp; done)) (by first | assumption | omega | (simp; done)) (by first | assumption | omega | (simp; done))
          | exact tgetp_o _ _ (by first | assumption | omega | (simp; done)) (by first | assumption | omega | (simp; done))
          | exact tgetp _ _ _ _ _ _ (by first | assumption | omega | (simp; done))
          | exact tbef_o _ _ (by first | assumption | omega | (simp; done)) (by first | assumption | omega | (simp; done))
          | exact tbef _ _ _ (by first | assumption | omega | (simp; done))
          | contradiction
          | exact alive
          | exact h12 (by omega)
          | exact h20
          | exact h21
          | exact tbyt x hx
          | exact tlin x hx
          | (exfalso; simp at *; omega)
          | (exfalso; omega)
          | ((with_reducible show (_ : Int) ≤ _); omega)
          | ((with_reducible show (_ : Nat) ≤ _); omega)
          | ((with_reducible show (_ : Int) < _); omega)
  · rw [decide_eq_false g0, Bool.false_and] at hok hok2
    subst hok
    subst hok2
    obtain ⟨rfl, rfl⟩ := hz rfl
    obtain ⟨rfl, rfl⟩ := hz2 rfl
    clear hb hb2 hz hz2
    simp only [decide_eq_false g0, show (!(true == true)) = false from rfl, show (!(false == false)) = false from rfl]
    repeat' first
      | refine brE (fun _ _ => ?_) (fun _ _ => ?_)
      | refine brN (fun _ _ => ?_) (fun _ _ => ?_)
      | refine brD (fun _ _ => ?_) (fun _ _ => ?_)
      | refine brP_intro (fun _ => ?_) (fun _ => ?_)
      | refine ck ?_ ?_
      | exact allp0
      | refine allp2 ?_ ?_
    all_goals try first
      | with_reducible rfl
      | exact Exists.intro _ rfl
      | exact tI_nw (by omega) (by omega)
      | exact tB_of (by assumption)
      | exact tbyt _ (by first | assumption | omega | (simp; done))
      | exact tlin _ (by first | assumption | omega | (simp; done))
      | exact tbuild _ _ _ (by first | assumption | omega | (simp; done)) (by first | assumption | omega | (simp; done))
      | exact tfind_o _ _ (by first | assumption | omega | (simp; done)) (by first | assumption | omega | (simp; done))
      | exact tfind _ _ _ (by first | assumption | omega | (simp; done)) (by first | assumption | omega | (simp; done)) (by first | assumption | omega | (simp; done)) (by first | assumption | omega | (simp; done))
      | exact tfline_o _ _ (by first | assumption | omega | (simp; done)) (by first | assumption | omega | (simp; done))
      | exact tfline _ _ _ (by first | assumption | omega | (simp; done)) (by first | assumption | omega | (simp; done)) (by first | assumption | omega | (simp; done)) (by first | assumption | omega | (simp; done))
      | exact tgetp_o _ _ (by first | assumption | omega | (simp; done)) (by first | assumption | omega | (simp; done))
      | exact tgetp _ _ _ _ _ _ (by first | assumption | omega | (simp; done))
      | exact tbef_o _ _ (by first | assumption | omega | (simp; done)) (by first | assumption | omega | (simp; done))
      | exact tbef _ _ _ (by first | assumption | omega | (simp; done))
      | contradiction
      | exact alive
      | exact h12 (by omega)
      | exact h20
      | exact h21
      | exact tbyt x hx
      | exact tlin x hx
      | (exfalso; simp at *; omega)
      | (exfalso; omega)
      | ((with_reducible show (_ : Int) ≤ _); omega)
      | ((with_reducible show (_ : Nat) ≤ _); omega)
      | ((with_reducible show (_ : Int) < _); omega)
theorem finds_law (z : Option Bool) (L : List FV) (m : Nat) (n : Int) (x : FV) (k i : Int) (ok : Bool) (k2 i2 : Int) (ok2 : Bool) (p q : Pc) (b l b2 l2 : Int) (hx : isT x) (h12 : m ≤ 5000 → VC Try.prog 12 [tF (.sl z L m)] [] (tT x) []) (h20 : VC Try.prog 20 [tT x, tI n] [] (.tp [.c (cI k), .c (cI i), .c (cB ok)]) []) (h21 : VC Try.prog 21 [tT x, tI n] [] (.tp [.c (cI k2), .c (cI i2), .c (cB ok2)]) []) (hok : ok = (decide (n ≥ 0) && decide (n < sizF x))) (hok2 : ok2 = (decide (n ≥ 0) && decide (n < lnsF x))) (hz : ok = false → k = 0 ∧ i = 0) (hz2 : ok2 = false → k2 = 0 ∧ i2 = 0) (h17 : ok = true → VC Try.prog 17 [tT x, tI k] [] (.tp [.ag p.cs, .c (cI 0)]) []) (h24 : ok = true → VC Try.prog 24 [tT x, tI k] [] (.tp [.c (cI b), .c (cI l), .c (cI 0)]) []) (hb : ok = true → b + i = n ∧ 0 ≤ i ∧ i < p.n) (h172 : ok2 = true → VC Try.prog 17 [tT x, tI k2] [] (.tp [.ag q.cs, .c (cI 0)]) []) (h242 : ok2 = true → VC Try.prog 24 [tT x, tI k2] [] (.tp [.c (cI b2), .c (cI l2), .c (cI 0)]) []) (hb2 : ok2 = true → l2 + i2 = n ∧ 0 ≤ i2 ∧ i2 < q.k) : VC Try.prog 6 ([tF (.sl z L m), tI n]) ([]) (tB true) ([]) :=
  vc_wp mixed nonum ⟨cmOf [(1, [(0, .tb (fun g xs H => some (.one (tB true) H)) [] none)]), (5, [(1, .tb (fun g xs H => some (.one (tT x) H)) [] none)]), (6, [(2, .tb (fun g xs H => some (.one (.tp [.c (cI k), .c (cI i), .c (cB ok)]) H)) [] none)]), (7, [(2, .tb (fun g xs H => some (.one (.tp [.c (cI k2), .c (cI i2), .c (cB ok2)]) H)) [] none)]), (8, [(6, .tb (fun g xs H => some (.one (tI (sizF x)) H)) [] none), (17, .tb (fun g xs H => some (.one (tI (lnsF x)) H)) [] none)]), (11, [(2, .tb (fun g xs H => some (.one (.tp [.ag p.cs, .c (cI 0)]) H)) [] none)]), (12, [(2, .tb (fun g xs H => some (.one (.tp [.c (cI b), .c (cI l), .c (cI 0)]) H)) [] none)]), (13, [(9, .nw)]), (16, [(2, .tb (fun g xs H => some (.one (.tp [.ag q.cs, .c (cI 0)]) H)) [] none)]), (17, [(2, .tb (fun g xs H => some (.one (.tp [.c (cI b2), .c (cI l2), .c (cI 0)]) H)) [] none)]), (18, [(9, .nw)])], spOf [(1, [0]), (8, [3, 10, 14]), (13, [2, 6, 13, 17]), (18, [2, 6, 13, 17]), (20, [1, 4, 8, 10, 13])], ghOf [], loOf [], []⟩ [] (by kernel_rfl) (finds_law_w z L m n x k i ok k2 i2 ok2 p q b l b2 l2 hx h12 h20 h21 hok hok2 hz hz2 h17 h24 hb h172 h242 hb2)
end Go.Proofs.Ytpjlgjhkdligfaa.Vg
