/- A buffer's functions, third part. No law, no condition. -/
import Derived.Test.YtbonmmpdpahhfaaKWB
namespace Go.Proofs.Ytbonmmpdpahhfaa.Vg
open Go.RowKit
set_option maxRecDepth 100000
set_option linter.unusedVariables false
set_option linter.unusedSimpArgs false
def jOk (a b c d e f : Int) : Bool := decide (Snd a b c) && decide (Snd d e f) && (a == d) && (e == b + c) && decide (Snd a b (c + f))
def jT (a b c d e f : Int) : TV := .tp [.ag (bif jOk a b c d e f then spn a b (c + f) else spn 0 0 0), .c (cB (jOk a b c d e f))]
noncomputable def tq_joins (a b c d e f : Int) : FuncId → List TV → List VO → Option Alt := tabOf [(27, t27_0_WA), (25, t25_0_WA), (27, t27_0_WA), (25, t25_0_WA)]
theorem joins_w (a b c d e f : Int) : Ck [0, 1640, 0] [] (
 brP (decide (Snd a b c)) (
  brP (decide (Snd d e f)) (
   brP (a != d) (
    Ck [10597789589066827114499273657, 0, 182, 0, 182, 1] [VC Try.prog 25 [tA [cI a, cI b, cI c]] [] (tB (decide (Snd a b c))) [], tB (decide (Snd a b c)) = tB true, tB false = tB false, VC Try.prog 25 [tA [cI d, cI e, cI f]] [] (tB (decide (Snd d e f))) [], tB (decide (Snd d e f)) = tB true, tB false = tB false, tB (a != d) = tB true, TV.tp [T1.ag [cI 0, cI 0, cI 0], T1.c (cB false)] = TV.tp [T1.ag (bif jOk a b c d e f then [cI a, cI b, cI (c + f)] else [cI 0, cI 0, cI 0]), T1.c (cB (jOk a b c d e f))]] (
    ([] : List VO) = [])) (
    Ck [96252352194544835038443992594] [VC Try.prog 25 [tA [cI a, cI b, cI c]] [] (tB (decide (Snd a b c))) [], tB (decide (Snd a b c)) = tB true, tB false = tB false, VC Try.prog 25 [tA [cI d, cI e, cI f]] [] (tB (decide (Snd d e f))) [], tB (decide (Snd d e f)) = tB true, tB false = tB false, tB (a != d) = tB false, tI (IntKind.i64.wrap (b + c)) = tI (b + c)] (
    brP (e != b + c) (
     Ck [0, 182, 0, 182, 1] [TV.tp [T1.ag [cI 0, cI 0, cI 0], T1.c (cB false)] = TV.tp [T1.ag (bif jOk a b c d e f then [cI a, cI b, cI (c + f)] else [cI 0, cI 0, cI 0]), T1.c (cB (jOk a b c d e f))]] (
     ([] : List VO) = [])) (
     Ck [0, 636112157897, 0] [tI (IntKind.i64.wrap (c + f)) = tI (c + f)] (
     brP (decide (Snd a b (c + f))) (
      Ck [1856, 0, 182, 0, 182, 1] [VC Try.prog 25 [tA [cI a, cI b, cI (c + f)]] [] (tB (decide (Snd a b (c + f)))) [], tB (decide (Snd a b (c + f))) = tB true, TV.tp [T1.ag [cI a, cI b, cI (c + f)], T1.c (cB true)] = TV.tp [T1.ag (bif jOk a b c d e f then [cI a, cI b, cI (c + f)] else [cI 0, cI 0, cI 0]), T1.c (cB (jOk a b c d e f))]] (
      ([] : List VO) = [])) (
      Ck [1856, 0, 182, 0, 182, 1] [VC Try.prog 25 [tA [cI a, cI b, cI (c + f)]] [] (tB (decide (Snd a b (c + f)))) [], tB (decide (Snd a b (c + f))) = tB false, TV.tp [T1.ag [cI 0, cI 0, cI 0], T1.c (cB false)] = TV.tp [T1.ag (bif jOk a b c d e f then [cI a, cI b, cI (c + f)] else [cI 0, cI 0, cI 0]), T1.c (cB (jOk a b c d e f))]] (
      ([] : List VO) = []))))))) (
   Ck [10597789589066827114499273657, 0, 182, 0, 182, 1] [VC Try.prog 25 [tA [cI a, cI b, cI c]] [] (tB (decide (Snd a b c))) [], tB (decide (Snd a b c)) = tB true, tB false = tB false, VC Try.prog 25 [tA [cI d, cI e, cI f]] [] (tB (decide (Snd d e f))) [], tB (decide (Snd d e f)) = tB false, tB true = tB true, tB true = tB true, TV.tp [T1.ag [cI 0, cI 0, cI 0], T1.c (cB false)] = TV.tp [T1.ag (bif jOk a b c d e f then [cI a, cI b, cI (c + f)] else [cI 0, cI 0, cI 0]), T1.c (cB (jOk a b c d e f))]] (
   ([] : List VO) = []))) (
  Ck [1177532176562980790487252383, 0, 182, 0, 182, 1] [VC Try.prog 25 [tA [cI a, cI b, cI c]] [] (tB (decide (Snd a b c))) [], tB (decide (Snd a b c)) = tB false, tB true = tB true, tB true = tB true, tB true = tB true, TV.tp [T1.ag [cI 0, cI 0, cI 0], T1.c (cB false)] = TV.tp [T1.ag (bif jOk a b c d e f then [cI a, cI b, cI (c + f)] else [cI 0, cI 0, cI 0]), T1.c (cB (jOk a b c d e f))]] (
  ([] : List VO) = []))) := by
  repeat' first
    | refine brE (fun _ _ => ?_) (fun _ _ => ?_)
    | refine brN (fun _ _ => ?_) (fun _ _ => ?_)
    | refine brD (fun _ _ => ?_) (fun _ _ => ?_)
    | refine brP_intro (fun _ => ?_) (fun _ => ?_)
    | refine ck ?_ ?_
    | exact allp0
    | refine allp2 ?_ ?_
    | (intro i hi)
  all_goals try (have hq : jOk a b c d e f = false := by (unfold jOk; simp_all; done)
                 simp only [hq]; try rfl)
  all_goals try (have hq : jOk a b c d e f = true := by (unfold jOk; simp_all; done)
                 simp only [hq]; try rfl)
  repeat' first
    | refine brE (fun _ _ => ?_) (fun _ _ => ?_)
    | refine brN (fun _ _ => ?_) (fun _ _ => ?_)
    | refine brD (fun _ _ => ?_) (fun _ _ => ?_)
    | refine brP_intro (fun _ => ?_) (fun _ => ?_)
    | refine ck ?_ ?_
    | exact allp0
    | refine allp2 ?_ ?_
    | (intro i hi)
  all_goals try first
    | with_reducible rfl
    | exact ⟨_, rfl⟩
    | exact tI_nw (by omega) (by omega)
    | exact tB_of (by assumption)
    | omega
    | exact sound _ _ _
    | exact sound _ _ _
    | exact tI_nw (by unfold Snd at *; omega) (by unfold Snd at *; omega)
    | (simp only [*]; done)
theorem joins (a b c d e f : Int) : VC Try.prog 8 ([tA (spn a b c), tA (spn d e f)]) ([]) (jT a b c d e f) ([]) :=
  vc_wp mixed nonum ⟨cmOf [(1, [(1, .tb (tq_joins a b c d e f) [] none), (5, .tb (tq_joins a b c d e f) [] none), (22, .nw)]), (3, [(8, .nw)]), (4, [(1, .tb (tq_joins a b c d e f) [] none)])], spOf [(1, [1, 3, 5, 8, 15]), (4, [1])], ghOf [], loOf [], []⟩ [] (by kernel_rfl) (joins_w a b c d e f)
theorem joins_t (a b c d e f : Int) (h : jOk a b c d e f = true) : VC Try.prog 8 [tA (spn a b c), tA (spn d e f)] [] (.tp [.ag (spn a b (c + f)), .c (cB true)]) [] := by
  have := joins a b c d e f
  rw [jT, h] at this
  exact this
theorem joins_f (a b c d e f : Int) (h : jOk a b c d e f = false) : VC Try.prog 8 [tA (spn a b c), tA (spn d e f)] [] (.tp [.ag (spn 0 0 0), .c (cB false)]) [] := by
  have := joins a b c d e f
  rw [jT, h] at this
  exact this
noncomputable def t8_0_WC  : List TV → List VO → Option Alt
  | [(.o (.ag [(.f (.v (.int .i64 a))), (.f (.v (.int .i64 b))), (.f (.v (.int .i64 c)))])), (.o (.ag [(.f (.v (.int .i64 d))), (.f (.v (.int .i64 e))), (.f (.v (.int .i64 f)))]))], H => some (.br (jOk a b c d e f) (.one (.tp [.ag (spn a b (c + f)), .c (cB true)]) H) (.one (.tp [.ag (spn 0 0 0), .c (cB false)]) H))
  | _, _ => none
theorem str_eq {p q : List Int} (hp : Byt p) (hq : Byt q) : ((strF (p.map u8v)).toList == (strF (q.map u8v)).toList) = decide (p = q) := by
  have e : ∀ l : List Int, (strF (l.map u8v)).toList = l.map fun n => UInt8.ofNat n.toNat := fun l => by
    have := sO_list l
    unfold sO at this
    rw [← this]
    exact Lib.toList_data _
  by_cases h : p = q
  · subst h; simp
  · rw [decide_eq_false h, beq_eq_false_iff_ne]
    intro he
    refine h ?_
    rw [e, e] at he
    have := congrArg (List.map fun x : UInt8 => (x.toNat : Int)) he
    simp only [List.map_map] at this
    have e2 : ∀ {l : List Int}, Byt l → l.map ((fun x : UInt8 => (x.toNat : Int)) ∘ fun n => UInt8.ofNat n.toNat) = l := fun {l} hl => map_back (f := (fun x : UInt8 => (x.toNat : Int)) ∘ fun n => UInt8.ofNat n.toNat) fun x hx => u8_back (hl x hx)
    rwa [e2 hp, e2 hq] at this
theorem same_w (p q : List Int) : Ck [0, 2, 0, 10919360, 0, 20, 1] [∃ ns : List Int, (List.map u8v p : List FV) = List.map u8v ns, (List.map u8v p).length = p.length, ∃ ns : List Int, (List.map u8v q : List FV) = List.map u8v ns, (List.map u8v q).length = q.length, tB ((strF (List.map u8v p)).toList == (strF (List.map u8v q)).toList) = tB ((strF (List.map u8v p)).toList == (strF (List.map u8v q)).toList)] (
 ([] : List VO) = []) := by
  repeat' first
    | refine brE (fun _ _ => ?_) (fun _ _ => ?_)
    | refine brN (fun _ _ => ?_) (fun _ _ => ?_)
    | refine brD (fun _ _ => ?_) (fun _ _ => ?_)
    | refine brP_intro (fun _ => ?_) (fun _ => ?_)
    | refine ck ?_ ?_
    | exact allp0
    | refine allp2 ?_ ?_
    | (intro i hi)
  all_goals try first
    | with_reducible rfl
    | exact ⟨_, rfl⟩
    | exact tI_nw (by omega) (by omega)
    | exact tB_of (by assumption)
    | omega
    | (simp; done)
    | (simp only [*]; done)
theorem same (p q : List Int) : VC Try.prog 23 ([tF (byt none p), tF (byt none q)]) ([]) (tB ((strF (p.map u8v)).toList == (strF (q.map u8v)).toList)) ([]) :=
  vc_wp mixed nonum ⟨cmOf [], spOf [], ghOf [], loOf [], []⟩ [] (by kernel_rfl) (same_w p q)
noncomputable def t23_0_WC  : List TV → List VO → Option Alt
  | [(.o (.c (.f (.sl _ cs _)))), (.o (.c (.f (.sl _ ds _))))], H => some (.one (tB ((strF cs).toList == (strF ds).toList)) H)
  | _, _ => none
noncomputable def t30_0_WC (o A : List Int) : List TV → List VO → Option Alt
  | [_, (.o (.ag [(.f (.v (.int .i64 a))), (.f (.v (.int .i64 b))), (.f (.v (.int .i64 c)))])), (.o (.c (.f (.v (.int .i64 i)))))], H => some (.one (.tp [.c (cU (byI o A a b c i)), .c (cI (byE o A a b c i))]) H)
  | _, _ => none
noncomputable def t33_0_WC (o A : List Int) : List TV → List VO → Option Alt
  | [_, (.o (.ag [(.f (.v (.int .i64 a))), (.f (.v (.int .i64 b))), (.f (.v (.int .i64 c)))])), (.o (.c (.f (.v (.int .i64 n)))))], H => some (.one (laT o A a b c n) H)
  | _, _ => none
noncomputable def t16_0_WC (o A : List Int) : List TV → List VO → Option Alt
  | [_, (.o (.ag [(.f (.v (.int .i64 a))), (.f (.v (.int .i64 b))), (.f (.v (.int .i64 c)))]))], H => some (.one (.tp [.c (cI (nls (rdB o A a b c))), .c (cI (rdE o A a b c))]) H)
  | _, _ => none
theorem nls_tk (p : List Int) (i : Nat) : nls (p.take i) ≤ p.length := Nat.le_trans (nls_le _) (by rw [List.length_take]; omega)
theorem rdB_c {o A : List Int} {a b c : Int} (h : Hd o A a b c = true) : ((rdB o A a b c).length : Int) = c := by
  obtain ⟨h1, h2⟩ := hd_out h
  unfold Snd at h1
  have hs : b + c ≤ ((src o A a).length : Int) := by
    unfold src
    unfold szI at h2
    rcases h1.1 with rfl | rfl
    · exact h2
    · exact h2
  simp only [rdB, h, cond_true, List.length_take, List.length_drop]
  omega
theorem by_in {o A : List Int} {a b c : Int} (h : Hd o A a b c = true) {i : Nat} (hi : i < (rdB o A a b c).length) : byI o A a b c i = (rdB o A a b c).getD i 0 ∧ byE o A a b c i = 0 := by
  have hc := rdB_c h
  have : (decide (0 ≤ (i : Int)) && decide ((i : Int) < c)) = true := by
    rw [Bool.and_eq_true, decide_eq_true_eq, decide_eq_true_eq]
    omega
  simp only [byI, byE, h, this, Bool.and_true, cond_true, Int.toNat_natCast, and_self]
noncomputable def tq_lined (o A : List Int) (a b c : Int) (hb : Byt o) (hA : Byt A) (hl : A.length ≤ 140737488355328) (hh : Hd o A a b c = true) : FuncId → List TV → List VO → Option Alt := tabOf [(16, t16_0_WC o A), (33, t33_0_WC o A), (30, t30_0_WC o A), (23, t23_0_WC), (8, t8_0_WC), (15, t15_0_WB o A), (27, t27_0_WA), (17, t17_0_WA o A), (14, t14_0_WA o A), (25, t25_0_WA), (27, t27_0_WA), (17, t17_0_WA o A), (14, t14_0_WA o A), (25, t25_0_WA)]
theorem lined_w (o A : List Int) (a b c : Int) (hb : Byt o) (hA : Byt A) (hl : A.length ≤ 140737488355328) (hh : Hd o A a b c = true) : Ck [0, 20, 0, 2, 0, 182, 803] [∃ i : Nat, Ck [1, 1] [i ≤ (rdB o A a b c).length, [(0, tC (CV.rp 0 0)), (2, tF (FV.sl none (List.map u8v (rdB o A a b c)) (rdB o A a b c).length)), (4, tC (CV.rp 2 0)), (7, tI 0), (19, tF (FV.sl none (List.map u8v (rdB o A a b c)) (rdB o A a b c).length)), (20, tI (↑(rdB o A a b c).length : Int)), (21, tI 0)] = [(0, tC (CV.rp 0 0)), (2, tF (FV.sl none (List.map u8v (rdB o A a b c)) (rdB o A a b c).length)), (4, tC (CV.rp 2 0)), (7, tI (↑(nls (List.take i (rdB o A a b c))) : Int)), (19, tF (FV.sl none (List.map u8v (rdB o A a b c)) (rdB o A a b c).length)), (20, tI (↑(rdB o A a b c).length : Int)), (21, tI (↑i : Int))]] (
    ([VO.bx [CV.f (FV.v (Value.string (sO o))), CV.rw 1 A.length] 60, VO.fx (List.map u8v A) 5, VO.bx [cI a, cI b, cI c] 23] : List VO) = [VO.bx [CV.f (FV.v (Value.string (sO o))), CV.rw 1 A.length] 60, VO.fx (List.map u8v A) 5, VO.bx [cI a, cI b, cI c] 23])] (
 ∀ i : Nat, ((i ≤ (rdB o A a b c).length) → Ck [0, 2] [] (
   brP (decide ((↑i : Int) < (↑(rdB o A a b c).length : Int))) (
    Ck [0, 135263, 0, 96857309, 0] [0 ≤ (↑i : Int), (↑i : Int) < (↑(rdB o A a b c).length : Int), (List.take 1 (List.drop (i * 1) (List.map u8v (rdB o A a b c))) : List FV) = [u8v ((rdB o A a b c).getD (i * 1) 0)], VC Try.prog 30 [tC (CV.rp 0 0), tA [cI a, cI b, cI c], tI (↑i : Int)] [VO.bx [CV.f (FV.v (Value.string (sO o))), CV.rw 1 A.length] 60, VO.fx (List.map u8v A) 5] (TV.tp [T1.c (cU (byI o A a b c (↑i : Int))), T1.c (cI (byE o A a b c (↑i : Int)))]) [VO.bx [CV.f (FV.v (Value.string (sO o))), CV.rw 1 A.length] 60, VO.fx (List.map u8v A) 5]] (
    brP (byE o A a b c (↑i : Int) != 0) (
     Ck [10762895, 0, 2, 0, 20, 1] [tB (byE o A a b c (↑i : Int) != 0) = tB true, tB false = tB true] (
     ([VO.bx [CV.f (FV.v (Value.string (sO o))), CV.rw 1 A.length] 60, VO.fx (List.map u8v A) 5] : List VO) = [VO.bx [CV.f (FV.v (Value.string (sO o))), CV.rw 1 A.length] 60, VO.fx (List.map u8v A) 5])) (
     Ck [10762895] [tB (byE o A a b c (↑i : Int) != 0) = tB false] (
     brP (byI o A a b c (↑i : Int) != (rdB o A a b c).getD (i * 1) 0) (
      Ck [0, 2, 0, 20, 1] [tB false = tB true] (
      ([VO.bx [CV.f (FV.v (Value.string (sO o))), CV.rw 1 A.length] 60, VO.fx (List.map u8v A) 5] : List VO) = [VO.bx [CV.f (FV.v (Value.string (sO o))), CV.rw 1 A.length] 60, VO.fx (List.map u8v A) 5])) (
      Ck [0, 20] [] (
      brP ((rdB o A a b c).getD (i * 1) 0 != 10) (
       Ck [0, 197, 2] [tI (IntKind.i64.wrap (↑(i + 1) : Int)) = tI (↑(i + 1) : Int)] (
       ∃ j : Nat, Ck [1, 1, 1] [j ≤ (rdB o A a b c).length, ((rdB o A a b c).length - j).succ ≤ (rdB o A a b c).length - i, [(0, tC (CV.rp 0 0)), (2, tF (FV.sl none (List.map u8v (rdB o A a b c)) (rdB o A a b c).length)), (4, tC (CV.rp 2 0)), (7, tI (↑(nls (List.take i (rdB o A a b c))) : Int)), (19, tF (FV.sl none (List.map u8v (rdB o A a b c)) (rdB o A a b c).length)), (20, tI (↑(rdB o A a b c).length : Int)), (21, tI (↑(i + 1) : Int))] = [(0, tC (CV.rp 0 0)), (2, tF (FV.sl none (List.map u8v (rdB o A a b c)) (rdB o A a b c).length)), (4, tC (CV.rp 2 0)), (7, tI (↑(nls (List.take j (rdB o A a b c))) : Int)), (19, tF (FV.sl none (List.map u8v (rdB o A a b c)) (rdB o A a b c).length)), (20, tI (↑(rdB o A a b c).length : Int)), (21, tI (↑j : Int))]] (
        ([VO.bx [CV.f (FV.v (Value.string (sO o))), CV.rw 1 A.length] 60, VO.fx (List.map u8v A) 5, VO.bx [cI a, cI b, cI c] 23] : List VO) = [VO.bx [CV.f (FV.v (Value.string (sO o))), CV.rw 1 A.length] 60, VO.fx (List.map u8v A) 5, VO.bx [cI a, cI b, cI c] 23]))) (
       Ck [0, 96857309, 0] [VC Try.prog 33 [tC (CV.rp 0 0), tA [cI a, cI b, cI c], tI (↑(nls (List.take i (rdB o A a b c))) : Int)] [VO.bx [CV.f (FV.v (Value.string (sO o))), CV.rw 1 A.length] 60, VO.fx (List.map u8v A) 5] (TV.tp [T1.c (cI (bif Hd o A a b c then laI (rdB o A a b c) (↑(nls (List.take i (rdB o A a b c))) : Int) else 0)), T1.c (cI (bif Hd o A a b c then laE (rdB o A a b c) (↑(nls (List.take i (rdB o A a b c))) : Int) else 10))]) [VO.bx [CV.f (FV.v (Value.string (sO o))), CV.rw 1 A.length] 60, VO.fx (List.map u8v A) 5]] (
       brP ((bif Hd o A a b c then laE (rdB o A a b c) (↑(nls (List.take i (rdB o A a b c))) : Int) else 10) != 0) (
        Ck [10762895, 0, 2, 0, 20, 1] [tB ((bif Hd o A a b c then laE (rdB o A a b c) (↑(nls (List.take i (rdB o A a b c))) : Int) else 10) != 0) = tB true, tB false = tB true] (
        ([VO.bx [CV.f (FV.v (Value.string (sO o))), CV.rw 1 A.length] 60, VO.fx (List.map u8v A) 5] : List VO) = [VO.bx [CV.f (FV.v (Value.string (sO o))), CV.rw 1 A.length] 60, VO.fx (List.map u8v A) 5])) (
        Ck [10762895] [tB ((bif Hd o A a b c then laE (rdB o A a b c) (↑(nls (List.take i (rdB o A a b c))) : Int) else 10) != 0) = tB false] (
        brP ((bif Hd o A a b c then laI (rdB o A a b c) (↑(nls (List.take i (rdB o A a b c))) : Int) else 0) != (↑i : Int)) (
         Ck [0, 2, 0, 20, 1] [tB false = tB true] (
         ([VO.bx [CV.f (FV.v (Value.string (sO o))), CV.rw 1 A.length] 60, VO.fx (List.map u8v A) 5] : List VO) = [VO.bx [CV.f (FV.v (Value.string (sO o))), CV.rw 1 A.length] 60, VO.fx (List.map u8v A) 5])) (
         Ck [0, 1775, 0, 197, 2] [tI (IntKind.i64.wrap (↑(nls (List.take i (rdB o A a b c)) + 1) : Int)) = tI (↑(nls (List.take i (rdB o A a b c)) + 1) : Int), tI (IntKind.i64.wrap (↑(i + 1) : Int)) = tI (↑(i + 1) : Int)] (
         ∃ j : Nat, Ck [1, 1, 1] [j ≤ (rdB o A a b c).length, ((rdB o A a b c).length - j).succ ≤ (rdB o A a b c).length - i, [(0, tC (CV.rp 0 0)), (2, tF (FV.sl none (List.map u8v (rdB o A a b c)) (rdB o A a b c).length)), (4, tC (CV.rp 2 0)), (7, tI (↑(nls (List.take i (rdB o A a b c)) + 1) : Int)), (19, tF (FV.sl none (List.map u8v (rdB o A a b c)) (rdB o A a b c).length)), (20, tI (↑(rdB o A a b c).length : Int)), (21, tI (↑(i + 1) : Int))] = [(0, tC (CV.rp 0 0)), (2, tF (FV.sl none (List.map u8v (rdB o A a b c)) (rdB o A a b c).length)), (4, tC (CV.rp 2 0)), (7, tI (↑(nls (List.take j (rdB o A a b c))) : Int)), (19, tF (FV.sl none (List.map u8v (rdB o A a b c)) (rdB o A a b c).length)), (20, tI (↑(rdB o A a b c).length : Int)), (21, tI (↑j : Int))]] (
          ([VO.bx [CV.f (FV.v (Value.string (sO o))), CV.rw 1 A.length] 60, VO.fx (List.map u8v A) 5, VO.bx [cI a, cI b, cI c] 23] : List VO) = [VO.bx [CV.f (FV.v (Value.string (sO o))), CV.rw 1 A.length] 60, VO.fx (List.map u8v A) 5, VO.bx [cI a, cI b, cI c] 23]))))))))))))) (
    Ck [0, 10761923, 0, 96857309, 0, 871715783, 0] [VC Try.prog 16 [tC (CV.rp 0 0), tA [cI a, cI b, cI c]] [VO.bx [CV.f (FV.v (Value.string (sO o))), CV.rw 1 A.length] 60, VO.fx (List.map u8v A) 5] (TV.tp [T1.c (cI (↑(nls (rdB o A a b c)) : Int)), T1.c (cI (rdE o A a b c))]) [VO.bx [CV.f (FV.v (Value.string (sO o))), CV.rw 1 A.length] 60, VO.fx (List.map u8v A) 5], VC Try.prog 33 [tC (CV.rp 0 0), tA [cI a, cI b, cI c], tI (↑(nls (List.take i (rdB o A a b c))) : Int)] [VO.bx [CV.f (FV.v (Value.string (sO o))), CV.rw 1 A.length] 60, VO.fx (List.map u8v A) 5] (TV.tp [T1.c (cI (bif Hd o A a b c then laI (rdB o A a b c) (↑(nls (List.take i (rdB o A a b c))) : Int) else 0)), T1.c (cI (bif Hd o A a b c then laE (rdB o A a b c) (↑(nls (List.take i (rdB o A a b c))) : Int) else 10))]) [VO.bx [CV.f (FV.v (Value.string (sO o))), CV.rw 1 A.length] 60, VO.fx (List.map u8v A) 5], VC Try.prog 30 [tC (CV.rp 0 0), tA [cI a, cI b, cI c], tI (↑(rdB o A a b c).length : Int)] [VO.bx [CV.f (FV.v (Value.string (sO o))), CV.rw 1 A.length] 60, VO.fx (List.map u8v A) 5] (TV.tp [T1.c (cU (byI o A a b c (↑(rdB o A a b c).length : Int))), T1.c (cI (byE o A a b c (↑(rdB o A a b c).length : Int)))]) [VO.bx [CV.f (FV.v (Value.string (sO o))), CV.rw 1 A.length] 60, VO.fx (List.map u8v A) 5]] (
    brP (rdE o A a b c == 0) (
     brP ((↑(nls (rdB o A a b c)) : Int) == (↑(nls (List.take i (rdB o A a b c))) : Int)) (
      brP ((bif Hd o A a b c then laE (rdB o A a b c) (↑(nls (List.take i (rdB o A a b c))) : Int) else 10) == 2) (
       Ck [337751058051374987, 0, 20, 1] [tB (rdE o A a b c == 0) = tB true, tB ((↑(nls (rdB o A a b c)) : Int) == (↑(nls (List.take i (rdB o A a b c))) : Int)) = tB true, tB ((bif Hd o A a b c then laE (rdB o A a b c) (↑(nls (List.take i (rdB o A a b c))) : Int) else 10) == 2) = tB true, tB (byE o A a b c (↑(rdB o A a b c).length : Int) == 2) = tB true] (
       ([VO.bx [CV.f (FV.v (Value.string (sO o))), CV.rw 1 A.length] 60, VO.fx (List.map u8v A) 5] : List VO) = [VO.bx [CV.f (FV.v (Value.string (sO o))), CV.rw 1 A.length] 60, VO.fx (List.map u8v A) 5])) (
       Ck [337751058051374987, 0, 20, 1] [tB (rdE o A a b c == 0) = tB true, tB ((↑(nls (rdB o A a b c)) : Int) == (↑(nls (List.take i (rdB o A a b c))) : Int)) = tB true, tB ((bif Hd o A a b c then laE (rdB o A a b c) (↑(nls (List.take i (rdB o A a b c))) : Int) else 10) == 2) = tB false, tB false = tB true] (
       ([VO.bx [CV.f (FV.v (Value.string (sO o))), CV.rw 1 A.length] 60, VO.fx (List.map u8v A) 5] : List VO) = [VO.bx [CV.f (FV.v (Value.string (sO o))), CV.rw 1 A.length] 60, VO.fx (List.map u8v A) 5]))) (
      Ck [337751058051374987, 0, 20, 1] [tB (rdE o A a b c == 0) = tB true, tB ((↑(nls (rdB o A a b c)) : Int) == (↑(nls (List.take i (rdB o A a b c))) : Int)) = tB false, tB false = tB false, tB false = tB true] (
      ([VO.bx [CV.f (FV.v (Value.string (sO o))), CV.rw 1 A.length] 60, VO.fx (List.map u8v A) 5] : List VO) = [VO.bx [CV.f (FV.v (Value.string (sO o))), CV.rw 1 A.length] 60, VO.fx (List.map u8v A) 5]))) (
     Ck [337751058051374987, 0, 20, 1] [tB (rdE o A a b c == 0) = tB false, tB false = tB false, tB false = tB false, tB false = tB true] (
     ([VO.bx [CV.f (FV.v (Value.string (sO o))), CV.rw 1 A.length] 60, VO.fx (List.map u8v A) 5] : List VO) = [VO.bx [CV.f (FV.v (Value.string (sO o))), CV.rw 1 A.length] 60, VO.fx (List.map u8v A) 5]))))))) := by
  have hsz := rdB_len o A a b c hl
  have hlen := rdB_c hh
  have hB : ∀ i : Nat, i < (rdB o A a b c).length → byI o A a b c i = (rdB o A a b c).getD i 0 ∧ byE o A a b c i = 0 := fun i hi => by_in hh hi
  have hL : ∀ i : Nat, i < (rdB o A a b c).length → (rdB o A a b c).getD i 0 = 10 → laI (rdB o A a b c) (nls ((rdB o A a b c).take i)) = i ∧ laE (rdB o A a b c) (nls ((rdB o A a b c).take i)) = 0 := fun i hi h10 => la_at hi h10 (by omega)
  have hE : rdE o A a b c = 0 := by unfold rdE; rw [hh]; rfl
  have hLE : laE (rdB o A a b c) (nls (rdB o A a b c)) = 2 := (la_out (by unfold laB; rw [Bool.and_eq_false_iff, decide_eq_false_iff_not, decide_eq_false_iff_not]; omega)).2
  have hBE : byE o A a b c (rdB o A a b c).length = 2 := (by_x hh (by omega)).2
  repeat' first
    | refine brE (fun _ _ => ?_) (fun _ _ => ?_)
    | refine brN (fun _ _ => ?_) (fun _ _ => ?_)
    | refine brD (fun _ _ => ?_) (fun _ _ => ?_)
    | refine brP_intro (fun _ => ?_) (fun _ => ?_)
    | refine ck ?_ ?_
    | exact allp0
    | refine allp2 ?_ ?_
    | (intro i hi)
  all_goals try simp only [Nat.mul_one] at *
  all_goals try have hN := nls_tk (rdB o A a b c) i
  all_goals try (have he : i = (rdB o A a b c).length := by omega
                 subst he
                 simp only [List.take_length] at *)
  all_goals try exact lineAt _ _ _ _ _ _ hb hl (by omega)
  all_goals try (simp only [hh, cond_true] at *)
  all_goals try (exfalso; first | exact absurd hE (by assumption) | exact absurd hLE (by assumption) | exact absurd hBE (by assumption) | contradiction)
  all_goals try (exfalso; have h1 := hB i (by omega); first | exact absurd h1.2 (by assumption) | exact absurd h1.1 (by assumption) | (have h2 := hL i (by omega) (by assumption); simp only [hh, h2.1, h2.2, cond_true] at *; contradiction))
  repeat' first
    | refine brE (fun _ _ => ?_) (fun _ _ => ?_)
    | refine brN (fun _ _ => ?_) (fun _ _ => ?_)
    | refine brD (fun _ _ => ?_) (fun _ _ => ?_)
    | refine brP_intro (fun _ => ?_) (fun _ => ?_)
    | refine ck ?_ ?_
    | exact allp0
    | refine allp2 ?_ ?_
    | (intro i hi)
  all_goals try first
    | with_reducible rfl
    | exact ⟨_, rfl⟩
    | exact tI_nw (by omega) (by omega)
    | exact tB_of (by assumption)
    | omega
    | exact lineAt _ _ _ _ _ _ (by first | assumption | omega | (simp; done)) (by first | assumption | omega | (simp; done)) (by first | assumption | omega | (simp; done))
    | exact lines _ _ _ _ _ (by first | assumption | omega | (simp; done)) (by first | assumption | omega | (simp; done)) (by first | assumption | omega | (simp; done))
    | exact byte _ _ _ _ _ _ (by first | assumption | omega | (simp; done)) (by first | assumption | omega | (simp; done))
    | (rw [hBE]; rfl)
    | exact ld1 (by omega)
    | exact ⟨0, ck (allp2 (by omega) (allp2 (by simp [nls]) allp0)) trivial⟩
    | exact ⟨i + 1, ck (allp2 (by omega) (allp2 (by omega) (allp2 (by rw [nls_ne (by omega) (by assumption)]) allp0))) trivial⟩
    | exact ⟨i + 1, ck (allp2 (by omega) (allp2 (by omega) (allp2 (by rw [nls_eq (by omega) (by assumption)]) allp0))) trivial⟩
    | (simp only [*]; done)
theorem lined (o A : List Int) (a b c : Int) (hb : Byt o) (hA : Byt A) (hl : A.length ≤ 140737488355328) (hh : Hd o A a b c = true) : VC Try.prog 24 ([tC (.rp 0 0), tA (spn a b c), tF (byt none (rdB o A a b c))]) (Bf o A) (tB true) (Bf o A) :=
  vc_wp mixed nonum ⟨cmOf [(4, [(2, .fn fun tw => .ld [u8v ((rdB o A a b c).getD (ptO (tget tw 24)) 0)])]), (5, [(3, .tb (tq_lined o A a b c hb hA hl hh) [] none)]), (9, [(3, .tb (tq_lined o A a b c hb hA hl hh) [] none)]), (12, [(1, .nw)]), (13, [(0, .nw)]), (14, [(2, .tb (tq_lined o A a b c hb hA hl hh) [] none)]), (15, [(3, .tb (tq_lined o A a b c hb hA hl hh) [] none)]), (16, [(4, .tb (tq_lined o A a b c hb hA hl hh) [] none)])], spOf [(5, [3]), (6, [2]), (9, [3]), (10, [2]), (14, [2]), (15, [3]), (16, [4]), (17, [2, 7, 11])], ghOf [], loOf [(3, .inv [] [0, 2, 4, 7, 19, 20, 21] ⟨Nat, fun i => i ≤ (rdB o A a b c).length, fun i => [(0, tC (.rp 0 0)), (2, tF (byt none (rdB o A a b c))), (4, tC (.rp 2 0)), (7, tI (nls ((rdB o A a b c).take i))), (19, tF (byt none (rdB o A a b c))), (20, tI (rdB o A a b c).length), (21, tI i)], fun i => Bf o A ++ [.bx (spn a b c) 23], fun i => (rdB o A a b c).length - i⟩)], []⟩ [] (by kernel_rfl) (lined_w o A a b c hb hA hl hh)
theorem new_r_w (o : List Int) : Ck [0, 2, 0, 133076, 2, 20, 1] [∃ ns : List Int, (List.map u8v o : List FV) = List.map u8v ns, (List.map u8v o).length = o.length, tC (CV.rp 1 0) = tC (CV.rp 1 0)] (
 ([VO.fx (List.map u8v o) 5, VO.bx [CV.f (FV.v (Value.string (strF (List.map u8v o)))), CV.rw 2 0] 60, VO.fx [] 5] : List VO) = [VO.fx (List.map u8v o) 5, VO.bx [CV.f (FV.v (Value.string (sO o))), CV.rw 2 0] 60, VO.fx [] 5]) := by
  repeat' first
    | refine brE (fun _ _ => ?_) (fun _ _ => ?_)
    | refine brN (fun _ _ => ?_) (fun _ _ => ?_)
    | refine brD (fun _ _ => ?_) (fun _ _ => ?_)
    | refine brP_intro (fun _ => ?_) (fun _ => ?_)
    | refine ck ?_ ?_
    | exact allp0
    | refine allp2 ?_ ?_
    | (intro i hi)
  all_goals try first
    | with_reducible rfl
    | exact ⟨_, rfl⟩
    | exact tI_nw (by omega) (by omega)
    | exact tB_of (by assumption)
    | omega
    | rfl
    | (simp; done)
    | (simp only [*]; done)
theorem new_r (o : List Int) : VC Try.prog 19 ([tC (.rw 0 o.length)]) ([.fx (o.map u8v) 5]) (tC (.rp 1 0)) ([.fx (o.map u8v) 5, .bx [.f (.v (.string (sO o))), .rw 2 0] 60, .fx [] 5]) :=
  vc_wp mixed nonum ⟨cmOf [], spOf [], ghOf [], loOf [], [.po 1 1 5]⟩ [] (by kernel_rfl) (new_r_w o)
theorem add_r_w (o A p : List Int) (h : A.length + p.length ≤ 140737488355328) : Ck [0, 2, 0, 20, 0, 871696100, 0, 7858019486, 0, 20, 0, 20, 1] [(List.map u8v p).length = p.length * 1, (A.length + p.length) * 1 ≤ 140737488355328, tA [cI 1, cI (↑A.length : Int), cI (↑p.length : Int)] = tA [cI 1, cI (↑A.length : Int), cI (↑p.length : Int)]] (
 ([VO.bx [CV.f (FV.v (Value.string (sO o))), CV.rw 3 (A.length + p.length)] 60, VO.dead, VO.fx (List.map u8v p) 5, VO.fx (List.map u8v A ++ List.map u8v p) 5] : List VO) = [VO.bx [CV.f (FV.v (Value.string (sO o))), CV.rw 3 (A.length + p.length)] 60, VO.dead, VO.fx (List.map u8v p) 5, VO.fx (List.map u8v A ++ List.map u8v p) 5]) := by
  repeat' first
    | refine brE (fun _ _ => ?_) (fun _ _ => ?_)
    | refine brN (fun _ _ => ?_) (fun _ _ => ?_)
    | refine brD (fun _ _ => ?_) (fun _ _ => ?_)
    | refine brP_intro (fun _ => ?_) (fun _ => ?_)
    | refine ck ?_ ?_
    | exact allp0
    | refine allp2 ?_ ?_
    | (intro i hi)
  all_goals try first
    | with_reducible rfl
    | exact ⟨_, rfl⟩
    | exact tI_nw (by omega) (by omega)
    | exact tB_of (by assumption)
    | omega
    | (simp; done)
    | (simp only [*]; done)
theorem add_r (o A p : List Int) (h : A.length + p.length ≤ 140737488355328) : VC Try.prog 13 ([tC (.rp 0 0), tC (.rw 2 p.length)]) (Bf o A ++ [.fx (p.map u8v) 5]) (tA (spn 1 A.length p.length)) ([.bx [.f (.v (.string (sO o))), .rw 3 (A.length + p.length)] 60, .dead, .fx (p.map u8v) 5, .fx (A.map u8v ++ p.map u8v) 5]) :=
  vc_wp mixed nonum ⟨cmOf [], spOf [], ghOf [], loOf [], []⟩ [] (by kernel_rfl) (add_r_w o A p h)
def o3 : List Int := [97, 10, 98]
def p2 : List Int := [99, 100]
def awT (g : FuncId) (xs : List TV) (H : List VO) : Option Alt :=
  bif Nat.beq g 19 then some (.one (tC (.rp 1 0)) [.fx (o3.map u8v) 5, .bx [.f (.v (.string (sO o3))), .rw 2 0] 60, .fx [] 5])
  else bif Nat.beq g 13 then some (.one (tA (spn 1 0 2)) [.bx [.f (.v (.string (sO o3))), .rw 3 2] 60, .dead, .fx (p2.map u8v) 5, .fx (p2.map u8v) 5])
  else none
def awR (r : List Int) (g : FuncId) (xs : List TV) (H : List VO) : Option Alt := some (.one (.tp [.c (.f (byt none r)), .c (cI 0)]) H)
theorem awake_w  : Ck [0, 2, 0, 1910, 0, 20, 0, 135290, 0, 10761923, 0, 10761923, 0, 131049801181204293349193060, 0, 20, 1] [((([u8v 97, u8v 10, u8v 98] : List FV) = []) → False), VC Try.prog 19 [tC (CV.rw 0 3)] [VO.fx [u8v 97, u8v 10, u8v 98] 5] (tC (CV.rp 1 0)) [VO.fx [u8v 97, u8v 10, u8v 98] 5, VO.bx [CV.f (FV.v (Value.string (sO [97, 10, 98]))), CV.rw 2 0] 60, VO.fx [] 5], ((([u8v 99, u8v 100] : List FV) = []) → False), VC Try.prog 13 [tC (CV.rp 0 0), tC (CV.rw 2 2)] [VO.bx [CV.f (FV.v (Value.string (sO [97, 10, 98]))), CV.rw 1 0] 60, VO.fx [] 5, VO.fx [u8v 99, u8v 100] 5] (tA [cI 1, cI 0, cI 2]) [VO.bx [CV.f (FV.v (Value.string (sO [97, 10, 98]))), CV.rw 3 2] 60, VO.dead, VO.fx [u8v 99, u8v 100] 5, VO.fx [u8v 99, u8v 100] 5], VC Try.prog 15 [tC (CV.rp 0 0), tA [cI 1, cI 1, cI 1]] [VO.bx [CV.f (FV.v (Value.string (sO [97, 10, 98]))), CV.rw 1 2] 60, VO.fx [u8v 99, u8v 100] 5] (TV.tp [T1.c (CV.f (FV.sl none [u8v 100] 1)), T1.c (cI 0)]) [VO.bx [CV.f (FV.v (Value.string (sO [97, 10, 98]))), CV.rw 1 2] 60, VO.fx [u8v 99, u8v 100] 5], VC Try.prog 15 [tC (CV.rp 0 0), tA [cI 0, cI 0, cI 3]] [VO.bx [CV.f (FV.v (Value.string (sO [97, 10, 98]))), CV.rw 1 2] 60, VO.fx [u8v 99, u8v 100] 5] (TV.tp [T1.c (CV.f (FV.sl none [u8v 97, u8v 10, u8v 98] 3)), T1.c (cI 0)]) [VO.bx [CV.f (FV.v (Value.string (sO [97, 10, 98]))), CV.rw 1 2] 60, VO.fx [u8v 99, u8v 100] 5], tB true = tB true, tB true = tB true, tB true = tB true, ∃ ns : List Int, ([u8v 100] : List FV) = List.map u8v ns, 1 = 1, tB true = tB true, ∃ ns : List Int, ([u8v 97, u8v 10, u8v 98] : List FV) = List.map u8v ns, 3 = 3, tB true = tB true] (
 ([] : List VO) = []) := by
  have e1 : TV.tp [T1.c (CV.f (FV.sl none [u8v 100] 1)), T1.c (cI 0)] = rdT o3 p2 1 1 1 := by kernel_rfl
  have e2 : TV.tp [T1.c (CV.f (FV.sl none [u8v 97, u8v 10, u8v 98] 3)), T1.c (cI 0)] = rdT o3 p2 0 0 3 := by kernel_rfl
  repeat' first
    | refine brE (fun _ _ => ?_) (fun _ _ => ?_)
    | refine brN (fun _ _ => ?_) (fun _ _ => ?_)
    | refine brD (fun _ _ => ?_) (fun _ _ => ?_)
    | refine brP_intro (fun _ => ?_) (fun _ => ?_)
    | refine ck ?_ ?_
    | exact allp0
    | refine allp2 ?_ ?_
    | (intro i hi)
  repeat' first
    | refine brE (fun _ _ => ?_) (fun _ _ => ?_)
    | refine brN (fun _ _ => ?_) (fun _ _ => ?_)
    | refine brD (fun _ _ => ?_) (fun _ _ => ?_)
    | refine brP_intro (fun _ => ?_) (fun _ => ?_)
    | refine ck ?_ ?_
    | exact allp0
    | refine allp2 ?_ ?_
    | (intro i hi)
  all_goals try first
    | with_reducible rfl
    | exact ⟨_, rfl⟩
    | exact tI_nw (by omega) (by omega)
    | exact tB_of (by assumption)
    | omega
    | exact new _
    | exact add _ _ _ (by first | assumption | omega | (simp; done))
    | exact read _ _ _ _ _ (by first | assumption | omega | (simp; done)) (by first | assumption | omega | (simp; done))
    | exact new _
    | exact add _ _ _ (by first | assumption | omega | (simp; done))
    | exact read _ _ _ _ _ (by first | assumption | omega | (simp; done)) (by first | assumption | omega | (simp; done))
    | exact new_r _
    | exact add_r _ _ _ (by first | assumption | omega | (simp; done))
    | (intro h; cases h)
    | exact new_r o3
    | exact add_r o3 [] p2 (by decide)
    | (rw [e1]; exact read o3 p2 1 1 1 (by unfold Byt; decide) (by decide))
    | (rw [e2]; exact read o3 p2 0 0 3 (by unfold Byt; decide) (by decide))
    | exact ⟨[100], rfl⟩
    | exact ⟨[97, 10, 98], rfl⟩
    | (simp only [*]; done)
theorem awake  : VC Try.prog 12 ([]) ([]) (tB true) ([]) :=
  vc_wp mixed nonum ⟨cmOf [(1, [(2, .tb awT [] none)]), (4, [(3, .tb awT [] none)]), (5, [(2, .tb (awR [100]) [] none)]), (6, [(2, .tb (awR [97, 10, 98]) [] none)])], spOf [(1, [2]), (4, [3]), (5, [2]), (6, [2]), (7, [3, 7, 11, 16])], ghOf [], loOf [], []⟩ [] (by kernel_rfl) (awake_w )
noncomputable def t24_0_WC  : List TV → List VO → Option Alt
  | [_, _, _], H => some (.one (tB true) H)
  | _, _ => none
noncomputable def t12_0_WC  : List TV → List VO → Option Alt
  | [], _ => some (.one (tB true) [])
  | _, _ => none
end Go.Proofs.Ytbonmmpdpahhfaa.Vg
