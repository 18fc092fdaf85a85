/- What the law AddbufStays answers. No law, no condition. -/
import Derived.Test.YtbonmmpdpahhfaaKWC
namespace Go.Proofs.Ytbonmmpdpahhfaa.Vg
open Go.RowKit
set_option maxRecDepth 100000
set_option linter.unusedVariables false
set_option linter.unusedSimpArgs false
set_option maxHeartbeats 800000
def tx (ts : List (List Int)) : FV := .sl none (ts.map (byt none)) ts.length
def sm (ts : List (List Int)) : Nat := (ts.map fun t => t.length + 1).sum
def flat_ (ts : List (List Int)) (i : Nat) : List Int := (ts.take i).flatten
abbrev Sp := Int × Int × Int
def spF (x : Sp) : List FV := [fI x.1, fI x.2.1, fI x.2.2]
def spL (o : List Int) (ts : List (List Int)) (i : Nat) : List Sp := (0, 0, (o.length : Int)) :: (List.range i).map fun j => (1, ((flat_ ts j).length : Int), ((ts.getD j []).length : Int))
noncomputable def t19_0_WD (o : List Int) : List TV → List VO → Option Alt
  | [_], _ => some (.one (tC (.rp 0 0)) (Bf o []))
  | _, _ => none
def addT (g : FuncId) (xs : List TV) (H : List VO) : Option Alt := match xs, H with
  | [_, .o (.c (.f (.sl _ cs m)))], [.bx [.f (.v (.string O)), .rw _ n] t, .fx A t2] => some (.one (tA (spn 1 n m)) [.bx [.f (.v (.string O)), .rw 2 (n + m)] t, .dead, .fx (A ++ cs) t2])
  | _, _ => none
theorem getD_len {ts : List (List Int)} {m : Nat} (h : ∀ t ∈ ts, t.length ≤ m) (i : Nat) : (ts.getD i []).length ≤ m := by
  rw [List.getD_eq_getElem?_getD]
  cases hq : ts[i]? with
  | none => exact Nat.zero_le _
  | some t => exact h t (List.mem_of_getElem? hq)
structure Fac (o A : List Int) (N : Nat → Int) (Q : Nat → Sp) (L : List (List Int)) (n : Nat) : Prop where
  al : A.length ≤ 1048576
  rd : ∀ i, i ≤ n → Hd o A (Q i).1 (Q i).2.1 (Q i).2.2 = true ∧ rdB o A (Q i).1 (Q i).2.1 (Q i).2.2 = L.getD i []
  jn : ∀ i, 2 ≤ i → i ≤ n → jOk (Q (i - 1)).1 (Q (i - 1)).2.1 (Q (i - 1)).2.2 (Q i).1 (Q i).2.1 (Q i).2.2 = true ∧ Hd o A (Q (i - 1)).1 (Q (i - 1)).2.1 ((Q (i - 1)).2.2 + (Q i).2.2) = true ∧ rdB o A (Q (i - 1)).1 (Q (i - 1)).2.1 ((Q (i - 1)).2.2 + (Q i).2.2) = L.getD (i - 1) [] ++ L.getD i []
  ot : Hd o A 1 (N n + 1) 0 = false
  nb : N n ≤ 140737488355328 + 1048576
theorem rdE_t {o A : List Int} {a b c : Int} (h : Hd o A a b c = true) : rdE o A a b c = 0 := by unfold rdE; rw [h]; rfl
theorem str_app (p q : List Int) (hp : Byt p) (hq : Byt q) : (!(strF ((p ++ q).map u8v)).toList == (strF (p.map u8v) ++ strF (q.map u8v)).toList) = false := by
  have e : ∀ l : List Int, (strF (l.map u8v)).data.toList = l.map fun n => UInt8.ofNat n.toNat := fun l => sO_list l
  have : (strF ((p ++ q).map u8v)).toList = (strF (p.map u8v) ++ strF (q.map u8v)).toList := by
    rw [Lib.toList_data, Lib.toList_data, ByteArray.data_append, Array.toList_append, e, e, e, List.map_append]
  rw [this]
  simp
theorem lem5 {p q : List Int} (h : ((strF (p.map u8v)).toList == (strF (q.map u8v)).toList) = false) (e : p = q) : False := by
  rw [e] at h
  simp at h
theorem lem3 {p q r : List Int} (h : (!(strF (p.map u8v)).toList == (strF (q.map u8v) ++ strF (r.map u8v)).toList) = true) (e : p = q ++ r) (hq : Byt q) (hr : Byt r) : False := by
  rw [e, str_app q r hq hr] at h
  cases h
theorem rdE_f {o A : List Int} {a b c : Int} (h : Hd o A a b c = false) : rdE o A a b c = 10 := by unfold rdE; rw [h]; rfl
theorem str_sz {p q : List Int} (h1 : p.length ≤ 140737488355328) (h2 : q.length ≤ 4611686018427387904) : (strF (p.map u8v)).size + (strF (q.map u8v)).size ≤ 9223372036854775807 := by
  show (sO p).size + (sO q).size ≤ _
  rw [sO_size, sO_size]
  omega
noncomputable def tq_stays (o A : List Int) (N : Nat → Int) (F : Nat → List Int) (S : Nat → List FV) (Q : Nat → Sp) (L : List (List Int)) (R : List FV) (ts : List (List Int)) (ho : Byt o) (hts : ∀ t ∈ ts, Byt t) (hl : o.length ≤ 140737488355328) (hlt : ∀ t ∈ ts, t.length ≤ 140737488355328) (hNn : ∀ i, 0 ≤ N i) (hN0 : N 0 = o.length) (hN : ∀ i, i < ts.length → N (i + 1) = N i + ((ts.getD i []).length + 1 : Nat)) (hF0 : F 0 = []) (hF : ∀ i, i < ts.length → F (i + 1) = F i ++ ts.getD i []) (hFA : F ts.length = A) (hFl : ∀ i, i ≤ ts.length → (F i).length ≤ 1048576 ∨ 1048576 < N ts.length) (hS0 : S 0 = [fI 0, fI 0, fI o.length]) (hS : ∀ i, i < ts.length → S (i + 1) = S i ++ [fI 1, fI (F i).length, fI (ts.getD i []).length]) (hQ : ∀ i, i ≤ ts.length → ((S ts.length).drop (i * 3)).take 3 = spF (Q i)) (hL : L = o :: ts) (hR : R = byt none o :: ts.map (byt none)) (hbL : ∀ i, Byt (L.getD i [])) (hLb : ∀ i, (L.getD i []).length ≤ 140737488355328) (hbA : Byt A) (hn : (ts.length + 1) * 24 ≤ 140737488355328) (hX : ts.length = 0 ∨ N ts.length ≤ 1048576 → Fac o A N Q L ts.length) : FuncId → List TV → List VO → Option Alt := tabOf [(19, t19_0_WD o), (12, t12_0_WC), (24, t24_0_WC), (16, t16_0_WC o A), (33, t33_0_WC o A), (30, t30_0_WC o A), (23, t23_0_WC), (8, t8_0_WC), (15, t15_0_WB o A), (27, t27_0_WA), (17, t17_0_WA o A), (14, t14_0_WA o A), (25, t25_0_WA), (27, t27_0_WA), (17, t17_0_WA o A), (14, t14_0_WA o A), (25, t25_0_WA), (15, t15_0_WB o A), (27, t27_0_WA), (17, t17_0_WA o A), (14, t14_0_WA o A), (25, t25_0_WA), (27, t27_0_WA), (17, t17_0_WA o A), (14, t14_0_WA o A), (25, t25_0_WA)]
def stays_b3 (o A : List Int) (N : Nat → Int) (F : Nat → List Int) (S : Nat → List FV) (Q : Nat → Sp) (L : List (List Int)) (R : List FV) (ts : List (List Int)) (ho : Byt o) (hts : ∀ t ∈ ts, Byt t) (hl : o.length ≤ 140737488355328) (hlt : ∀ t ∈ ts, t.length ≤ 140737488355328) (hNn : ∀ i, 0 ≤ N i) (hN0 : N 0 = o.length) (hN : ∀ i, i < ts.length → N (i + 1) = N i + ((ts.getD i []).length + 1 : Nat)) (hF0 : F 0 = []) (hF : ∀ i, i < ts.length → F (i + 1) = F i ++ ts.getD i []) (hFA : F ts.length = A) (hFl : ∀ i, i ≤ ts.length → (F i).length ≤ 1048576 ∨ 1048576 < N ts.length) (hS0 : S 0 = [fI 0, fI 0, fI o.length]) (hS : ∀ i, i < ts.length → S (i + 1) = S i ++ [fI 1, fI (F i).length, fI (ts.getD i []).length]) (hQ : ∀ i, i ≤ ts.length → ((S ts.length).drop (i * 3)).take 3 = spF (Q i)) (hL : L = o :: ts) (hR : R = byt none o :: ts.map (byt none)) (hbL : ∀ i, Byt (L.getD i [])) (hLb : ∀ i, (L.getD i []).length ≤ 140737488355328) (hbA : Byt A) (hn : (ts.length + 1) * 24 ≤ 140737488355328) (hX : ts.length = 0 ∨ N ts.length ≤ 1048576 → Fac o A N Q L ts.length) (i : Nat) (i1 : Nat) (i2 : Nat) : Prop :=
 Ck [0, 2] [] (
 brP (decide ((↑i2 : Int) < (↑(ts.length + 1) : Int))) (
  Ck [0, 1198145, 0, 10761923, 0] [0 ≤ (↑i2 : Int), (↑i2 : Int) < (↑(ts.length + 1) : Int), (List.take 3 (List.drop (i2 * 3) (S ts.length)) : List FV) = [fI (Q (i2 * 3 / 3)).fst, fI (Q (i2 * 3 / 3)).snd.fst, fI (Q (i2 * 3 / 3)).snd.snd], VC Try.prog 15 [tC (CV.rp 0 0), tA [cI (Q (i2 * 3 / 3)).fst, cI (Q (i2 * 3 / 3)).snd.fst, cI (Q (i2 * 3 / 3)).snd.snd]] [VO.bx [CV.f (FV.v (Value.string (sO o))), CV.rw 1 A.length] 60, VO.fx (List.map u8v A) 5] (TV.tp [T1.c (CV.f (FV.sl none (List.map u8v (rdB o A (Q (i2 * 3 / 3)).fst (Q (i2 * 3 / 3)).snd.fst (Q (i2 * 3 / 3)).snd.snd)) (rdB o A (Q (i2 * 3 / 3)).fst (Q (i2 * 3 / 3)).snd.fst (Q (i2 * 3 / 3)).snd.snd).length)), T1.c (cI (rdE o A (Q (i2 * 3 / 3)).fst (Q (i2 * 3 / 3)).snd.fst (Q (i2 * 3 / 3)).snd.snd))]) [VO.bx [CV.f (FV.v (Value.string (sO o))), CV.rw 1 A.length] 60, VO.fx (List.map u8v A) 5]] (
  brP (rdE o A (Q (i2 * 3 / 3)).fst (Q (i2 * 3 / 3)).snd.fst (Q (i2 * 3 / 3)).snd.snd != 0) (
   Ck [14537454513540016460527307, 0, 2, 0, 20, 1] [tB (rdE o A (Q (i2 * 3 / 3)).fst (Q (i2 * 3 / 3)).snd.fst (Q (i2 * 3 / 3)).snd.snd != 0) = tB true, tB true = tB true, tB true = tB true, tB false = tB true] (
   ([] : List VO) = [])) (
   brP ((strF (List.map u8v (rdB o A (Q (i2 * 3 / 3)).fst (Q (i2 * 3 / 3)).snd.fst (Q (i2 * 3 / 3)).snd.snd))).toList == (strF (List.map u8v (L.getD (i2 * 1) []))).toList) (
    brP (Hd o A (Q (i2 * 3 / 3)).fst (Q (i2 * 3 / 3)).snd.fst (Q (i2 * 3 / 3)).snd.snd) (
     Ck [96775714582475566577875014854, 0, 20] [tB (rdE o A (Q (i2 * 3 / 3)).fst (Q (i2 * 3 / 3)).snd.fst (Q (i2 * 3 / 3)).snd.snd != 0) = tB false, 0 ≤ (↑i2 : Int), (↑i2 : Int) < (↑(ts.length + 1) : Int), (List.take 1 (List.drop (i2 * 1) R) : List FV) = [FV.sl none (List.map u8v (L.getD (i2 * 1) [])) (L.getD (i2 * 1) []).length], VC Try.prog 23 [tF (FV.sl none (List.map u8v (rdB o A (Q (i2 * 3 / 3)).fst (Q (i2 * 3 / 3)).snd.fst (Q (i2 * 3 / 3)).snd.snd)) (rdB o A (Q (i2 * 3 / 3)).fst (Q (i2 * 3 / 3)).snd.fst (Q (i2 * 3 / 3)).snd.snd).length), tF (FV.sl none (List.map u8v (L.getD (i2 * 1) [])) (L.getD (i2 * 1) []).length)] [] (tB ((strF (List.map u8v (rdB o A (Q (i2 * 3 / 3)).fst (Q (i2 * 3 / 3)).snd.fst (Q (i2 * 3 / 3)).snd.snd))).toList == (strF (List.map u8v (L.getD (i2 * 1) []))).toList)) [], tB ((strF (List.map u8v (rdB o A (Q (i2 * 3 / 3)).fst (Q (i2 * 3 / 3)).snd.fst (Q (i2 * 3 / 3)).snd.snd))).toList == (strF (List.map u8v (L.getD (i2 * 1) []))).toList) = tB true, tB false = tB false, VC Try.prog 17 [tC (CV.rp 0 0), tA [cI (Q (i2 * 3 / 3)).fst, cI (Q (i2 * 3 / 3)).snd.fst, cI (Q (i2 * 3 / 3)).snd.snd]] [VO.bx [CV.f (FV.v (Value.string (sO o))), CV.rw 1 A.length] 60, VO.fx (List.map u8v A) 5] (tB (Hd o A (Q (i2 * 3 / 3)).fst (Q (i2 * 3 / 3)).snd.fst (Q (i2 * 3 / 3)).snd.snd)) [VO.bx [CV.f (FV.v (Value.string (sO o))), CV.rw 1 A.length] 60, VO.fx (List.map u8v A) 5], tB (Hd o A (Q (i2 * 3 / 3)).fst (Q (i2 * 3 / 3)).snd.fst (Q (i2 * 3 / 3)).snd.snd) = tB true, tB false = tB false, VC Try.prog 24 [tC (CV.rp 0 0), tA [cI (Q (i2 * 3 / 3)).fst, cI (Q (i2 * 3 / 3)).snd.fst, cI (Q (i2 * 3 / 3)).snd.snd], tF (FV.sl none (List.map u8v (rdB o A (Q (i2 * 3 / 3)).fst (Q (i2 * 3 / 3)).snd.fst (Q (i2 * 3 / 3)).snd.snd)) (rdB o A (Q (i2 * 3 / 3)).fst (Q (i2 * 3 / 3)).snd.fst (Q (i2 * 3 / 3)).snd.snd).length)] [VO.bx [CV.f (FV.v (Value.string (sO o))), CV.rw 1 A.length] 60, VO.fx (List.map u8v A) 5] (tB true) [VO.bx [CV.f (FV.v (Value.string (sO o))), CV.rw 1 A.length] 60, VO.fx (List.map u8v A) 5], tB true = tB true] (
     brP (decide ((↑i2 : Int) < 2)) (
      Ck [0, 197, 2] [tI (IntKind.i64.wrap (↑(i2 + 1) : Int)) = tI (↑(i2 + 1) : Int)] (
      ∃ j : Nat, Ck [14, 1, 1] [j ≤ ts.length + 1, ts.length = 0 ∨ N ts.length ≤ 1048576, (ts.length + 1 - j).succ ≤ ts.length + 1 - i2, [(5, tI (N ts.length)), (8, tC (CV.rp 0 0)), (9, tC (CV.rw 2 (ts.length + 1))), (10, tC (CV.rw 3 (ts.length + 1))), (66, tC (CV.rw 2 (ts.length + 1))), (67, tI (↑(ts.length + 1) : Int)), (68, tI (↑(i2 + 1) : Int))] = [(5, tI (N ts.length)), (8, tC (CV.rp 0 0)), (9, tC (CV.rw 2 (ts.length + 1))), (10, tC (CV.rw 3 (ts.length + 1))), (66, tC (CV.rw 2 (ts.length + 1))), (67, tI (↑(ts.length + 1) : Int)), (68, tI (↑j : Int))]] (
       ([VO.bx [CV.f (FV.v (Value.string (sO o))), CV.rw 1 A.length] 60, VO.fx (List.map u8v A) 5, VO.fx (S ts.length) 23, VO.fx R 33] : List VO) = [VO.bx [CV.f (FV.v (Value.string (sO o))), CV.rw 1 A.length] 60, VO.fx (List.map u8v A) 5, VO.fx (S ts.length) 23, VO.fx R 33]))) (
      Ck [0] [] (
      brP (jOk (Q (((↑i2 : Int) - 1).toNat * 3 / 3)).fst (Q (((↑i2 : Int) - 1).toNat * 3 / 3)).snd.fst (Q (((↑i2 : Int) - 1).toNat * 3 / 3)).snd.snd (Q (i2 * 3 / 3)).fst (Q (i2 * 3 / 3)).snd.fst (Q (i2 * 3 / 3)).snd.snd) (
       Ck [51472913916827, 0, 10761923, 0] [tI (IntKind.i64.wrap ((↑i2 : Int) - 1)) = tI ((↑i2 : Int) - 1), 0 ≤ (↑i2 : Int) - 1, (↑i2 : Int) - 1 < (↑(ts.length + 1) : Int), (List.take 3 (List.drop (((↑i2 : Int) - 1).toNat * 3) (S ts.length)) : List FV) = [fI (Q (((↑i2 : Int) - 1).toNat * 3 / 3)).fst, fI (Q (((↑i2 : Int) - 1).toNat * 3 / 3)).snd.fst, fI (Q (((↑i2 : Int) - 1).toNat * 3 / 3)).snd.snd], VC Try.prog 8 [tA [cI (Q (((↑i2 : Int) - 1).toNat * 3 / 3)).fst, cI (Q (((↑i2 : Int) - 1).toNat * 3 / 3)).snd.fst, cI (Q (((↑i2 : Int) - 1).toNat * 3 / 3)).snd.snd], tA [cI (Q (i2 * 3 / 3)).fst, cI (Q (i2 * 3 / 3)).snd.fst, cI (Q (i2 * 3 / 3)).snd.snd]] [] (TV.tp [T1.ag [cI (Q (((↑i2 : Int) - 1).toNat * 3 / 3)).fst, cI (Q (((↑i2 : Int) - 1).toNat * 3 / 3)).snd.fst, cI ((Q (((↑i2 : Int) - 1).toNat * 3 / 3)).snd.snd + (Q (i2 * 3 / 3)).snd.snd)], T1.c (cB true)]) [], VC Try.prog 15 [tC (CV.rp 0 0), tA [cI (Q (((↑i2 : Int) - 1).toNat * 3 / 3)).fst, cI (Q (((↑i2 : Int) - 1).toNat * 3 / 3)).snd.fst, cI ((Q (((↑i2 : Int) - 1).toNat * 3 / 3)).snd.snd + (Q (i2 * 3 / 3)).snd.snd)]] [VO.bx [CV.f (FV.v (Value.string (sO o))), CV.rw 1 A.length] 60, VO.fx (List.map u8v A) 5] (TV.tp [T1.c (CV.f (FV.sl none (List.map u8v (rdB o A (Q (((↑i2 : Int) - 1).toNat * 3 / 3)).fst (Q (((↑i2 : Int) - 1).toNat * 3 / 3)).snd.fst ((Q (((↑i2 : Int) - 1).toNat * 3 / 3)).snd.snd + (Q (i2 * 3 / 3)).snd.snd))) (rdB o A (Q (((↑i2 : Int) - 1).toNat * 3 / 3)).fst (Q (((↑i2 : Int) - 1).toNat * 3 / 3)).snd.fst ((Q (((↑i2 : Int) - 1).toNat * 3 / 3)).snd.snd + (Q (i2 * 3 / 3)).snd.snd)).length)), T1.c (cI (rdE o A (Q (((↑i2 : Int) - 1).toNat * 3 / 3)).fst (Q (((↑i2 : Int) - 1).toNat * 3 / 3)).snd.fst ((Q (((↑i2 : Int) - 1).toNat * 3 / 3)).snd.snd + (Q (i2 * 3 / 3)).snd.snd)))]) [VO.bx [CV.f (FV.v (Value.string (sO o))), CV.rw 1 A.length] 60, VO.fx (List.map u8v A) 5]] (
       brP (rdE o A (Q (((↑i2 : Int) - 1).toNat * 3 / 3)).fst (Q (((↑i2 : Int) - 1).toNat * 3 / 3)).snd.fst ((Q (((↑i2 : Int) - 1).toNat * 3 / 3)).snd.snd + (Q (i2 * 3 / 3)).snd.snd) != 0) (
        Ck [246192725545974553970, 0, 2, 0, 20, 1] [tB false = tB false, tB (rdE o A (Q (((↑i2 : Int) - 1).toNat * 3 / 3)).fst (Q (((↑i2 : Int) - 1).toNat * 3 / 3)).snd.fst ((Q (((↑i2 : Int) - 1).toNat * 3 / 3)).snd.snd + (Q (i2 * 3 / 3)).snd.snd) != 0) = tB true, tB false = tB true] (
        ([] : List VO) = [])) (
        Ck [14800400997183889338424241] [tB false = tB false, tB (rdE o A (Q (((↑i2 : Int) - 1).toNat * 3 / 3)).fst (Q (((↑i2 : Int) - 1).toNat * 3 / 3)).snd.fst ((Q (((↑i2 : Int) - 1).toNat * 3 / 3)).snd.snd + (Q (i2 * 3 / 3)).snd.snd) != 0) = tB false, ∃ ns : List Int, (List.map u8v (rdB o A (Q (((↑i2 : Int) - 1).toNat * 3 / 3)).fst (Q (((↑i2 : Int) - 1).toNat * 3 / 3)).snd.fst ((Q (((↑i2 : Int) - 1).toNat * 3 / 3)).snd.snd + (Q (i2 * 3 / 3)).snd.snd)) : List FV) = List.map u8v ns, (List.map u8v (rdB o A (Q (((↑i2 : Int) - 1).toNat * 3 / 3)).fst (Q (((↑i2 : Int) - 1).toNat * 3 / 3)).snd.fst ((Q (((↑i2 : Int) - 1).toNat * 3 / 3)).snd.snd + (Q (i2 * 3 / 3)).snd.snd))).length = (rdB o A (Q (((↑i2 : Int) - 1).toNat * 3 / 3)).fst (Q (((↑i2 : Int) - 1).toNat * 3 / 3)).snd.fst ((Q (((↑i2 : Int) - 1).toNat * 3 / 3)).snd.snd + (Q (i2 * 3 / 3)).snd.snd)).length, tI (IntKind.i64.wrap ((↑i2 : Int) - 1)) = tI ((↑i2 : Int) - 1), 0 ≤ (↑i2 : Int) - 1, (↑i2 : Int) - 1 < (↑(ts.length + 1) : Int), (List.take 1 (List.drop (((↑i2 : Int) - 1).toNat * 1) R) : List FV) = [FV.sl none (List.map u8v (L.getD (((↑i2 : Int) - 1).toNat * 1) [])) (L.getD (((↑i2 : Int) - 1).toNat * 1) []).length], ∃ ns : List Int, (List.map u8v (L.getD (((↑i2 : Int) - 1).toNat * 1) []) : List FV) = List.map u8v ns, (List.map u8v (L.getD (((↑i2 : Int) - 1).toNat * 1) [])).length = (L.getD (((↑i2 : Int) - 1).toNat * 1) []).length, ∃ ns : List Int, (List.map u8v (rdB o A (Q (i2 * 3 / 3)).fst (Q (i2 * 3 / 3)).snd.fst (Q (i2 * 3 / 3)).snd.snd) : List FV) = List.map u8v ns, (List.map u8v (rdB o A (Q (i2 * 3 / 3)).fst (Q (i2 * 3 / 3)).snd.fst (Q (i2 * 3 / 3)).snd.snd)).length = (rdB o A (Q (i2 * 3 / 3)).fst (Q (i2 * 3 / 3)).snd.fst (Q (i2 * 3 / 3)).snd.snd).length, (strF (List.map u8v (L.getD (((↑i2 : Int) - 1).toNat * 1) []))).size + (strF (List.map u8v (rdB o A (Q (i2 * 3 / 3)).fst (Q (i2 * 3 / 3)).snd.fst (Q (i2 * 3 / 3)).snd.snd))).size ≤ 9223372036854775807] (
        brP (!(strF (List.map u8v (rdB o A (Q (((↑i2 : Int) - 1).toNat * 3 / 3)).fst (Q (((↑i2 : Int) - 1).toNat * 3 / 3)).snd.fst ((Q (((↑i2 : Int) - 1).toNat * 3 / 3)).snd.snd + (Q (i2 * 3 / 3)).snd.snd)))).toList == (strF (List.map u8v (L.getD (((↑i2 : Int) - 1).toNat * 1) [])) ++ strF (List.map u8v (rdB o A (Q (i2 * 3 / 3)).fst (Q (i2 * 3 / 3)).snd.fst (Q (i2 * 3 / 3)).snd.snd))).toList) (
         Ck [0, 2, 0, 20, 1] [tB false = tB true] (
         ([] : List VO) = [])) (
         Ck [0, 197, 2] [tI (IntKind.i64.wrap (↑(i2 + 1) : Int)) = tI (↑(i2 + 1) : Int)] (
         ∃ j : Nat, Ck [14, 1, 1] [j ≤ ts.length + 1, ts.length = 0 ∨ N ts.length ≤ 1048576, (ts.length + 1 - j).succ ≤ ts.length + 1 - i2, [(5, tI (N ts.length)), (8, tC (CV.rp 0 0)), (9, tC (CV.rw 2 (ts.length + 1))), (10, tC (CV.rw 3 (ts.length + 1))), (66, tC (CV.rw 2 (ts.length + 1))), (67, tI (↑(ts.length + 1) : Int)), (68, tI (↑(i2 + 1) : Int))] = [(5, tI (N ts.length)), (8, tC (CV.rp 0 0)), (9, tC (CV.rw 2 (ts.length + 1))), (10, tC (CV.rw 3 (ts.length + 1))), (66, tC (CV.rw 2 (ts.length + 1))), (67, tI (↑(ts.length + 1) : Int)), (68, tI (↑j : Int))]] (
          ([VO.bx [CV.f (FV.v (Value.string (sO o))), CV.rw 1 A.length] 60, VO.fx (List.map u8v A) 5, VO.fx (S ts.length) 23, VO.fx R 33] : List VO) = [VO.bx [CV.f (FV.v (Value.string (sO o))), CV.rw 1 A.length] 60, VO.fx (List.map u8v A) 5, VO.fx (S ts.length) 23, VO.fx R 33]))))))) (
       Ck [51472913916827, 0, 10761923, 0, 246192725545974553970, 0, 2, 0, 20, 1] [tI (IntKind.i64.wrap ((↑i2 : Int) - 1)) = tI ((↑i2 : Int) - 1), 0 ≤ (↑i2 : Int) - 1, (↑i2 : Int) - 1 < (↑(ts.length + 1) : Int), (List.take 3 (List.drop (((↑i2 : Int) - 1).toNat * 3) (S ts.length)) : List FV) = [fI (Q (((↑i2 : Int) - 1).toNat * 3 / 3)).fst, fI (Q (((↑i2 : Int) - 1).toNat * 3 / 3)).snd.fst, fI (Q (((↑i2 : Int) - 1).toNat * 3 / 3)).snd.snd], VC Try.prog 8 [tA [cI (Q (((↑i2 : Int) - 1).toNat * 3 / 3)).fst, cI (Q (((↑i2 : Int) - 1).toNat * 3 / 3)).snd.fst, cI (Q (((↑i2 : Int) - 1).toNat * 3 / 3)).snd.snd], tA [cI (Q (i2 * 3 / 3)).fst, cI (Q (i2 * 3 / 3)).snd.fst, cI (Q (i2 * 3 / 3)).snd.snd]] [] (TV.tp [T1.ag [cI 0, cI 0, cI 0], T1.c (cB false)]) [], VC Try.prog 15 [tC (CV.rp 0 0), tA [cI 0, cI 0, cI 0]] [VO.bx [CV.f (FV.v (Value.string (sO o))), CV.rw 1 A.length] 60, VO.fx (List.map u8v A) 5] (TV.tp [T1.c (CV.f (FV.sl none [] 0)), T1.c (cI 0)]) [VO.bx [CV.f (FV.v (Value.string (sO o))), CV.rw 1 A.length] 60, VO.fx (List.map u8v A) 5], tB true = tB true, tB true = tB true, tB false = tB true] (
       ([] : List VO) = [])))))) (
     Ck [10597804343970198116716784396, 0, 2, 0, 20, 1] [tB (rdE o A (Q (i2 * 3 / 3)).fst (Q (i2 * 3 / 3)).snd.fst (Q (i2 * 3 / 3)).snd.snd != 0) = tB false, 0 ≤ (↑i2 : Int), (↑i2 : Int) < (↑(ts.length + 1) : Int), (List.take 1 (List.drop (i2 * 1) R) : List FV) = [FV.sl none (List.map u8v (L.getD (i2 * 1) [])) (L.getD (i2 * 1) []).length], VC Try.prog 23 [tF (FV.sl none (List.map u8v (rdB o A (Q (i2 * 3 / 3)).fst (Q (i2 * 3 / 3)).snd.fst (Q (i2 * 3 / 3)).snd.snd)) (rdB o A (Q (i2 * 3 / 3)).fst (Q (i2 * 3 / 3)).snd.fst (Q (i2 * 3 / 3)).snd.snd).length), tF (FV.sl none (List.map u8v (L.getD (i2 * 1) [])) (L.getD (i2 * 1) []).length)] [] (tB ((strF (List.map u8v (rdB o A (Q (i2 * 3 / 3)).fst (Q (i2 * 3 / 3)).snd.fst (Q (i2 * 3 / 3)).snd.snd))).toList == (strF (List.map u8v (L.getD (i2 * 1) []))).toList)) [], tB ((strF (List.map u8v (rdB o A (Q (i2 * 3 / 3)).fst (Q (i2 * 3 / 3)).snd.fst (Q (i2 * 3 / 3)).snd.snd))).toList == (strF (List.map u8v (L.getD (i2 * 1) []))).toList) = tB true, tB false = tB false, VC Try.prog 17 [tC (CV.rp 0 0), tA [cI (Q (i2 * 3 / 3)).fst, cI (Q (i2 * 3 / 3)).snd.fst, cI (Q (i2 * 3 / 3)).snd.snd]] [VO.bx [CV.f (FV.v (Value.string (sO o))), CV.rw 1 A.length] 60, VO.fx (List.map u8v A) 5] (tB (Hd o A (Q (i2 * 3 / 3)).fst (Q (i2 * 3 / 3)).snd.fst (Q (i2 * 3 / 3)).snd.snd)) [VO.bx [CV.f (FV.v (Value.string (sO o))), CV.rw 1 A.length] 60, VO.fx (List.map u8v A) 5], tB (Hd o A (Q (i2 * 3 / 3)).fst (Q (i2 * 3 / 3)).snd.fst (Q (i2 * 3 / 3)).snd.snd) = tB false, tB true = tB true, tB false = tB true] (
     ([] : List VO) = []))) (
    Ck [1177533815596741418262493034, 0, 2, 0, 20, 1] [tB (rdE o A (Q (i2 * 3 / 3)).fst (Q (i2 * 3 / 3)).snd.fst (Q (i2 * 3 / 3)).snd.snd != 0) = tB false, 0 ≤ (↑i2 : Int), (↑i2 : Int) < (↑(ts.length + 1) : Int), (List.take 1 (List.drop (i2 * 1) R) : List FV) = [FV.sl none (List.map u8v (L.getD (i2 * 1) [])) (L.getD (i2 * 1) []).length], VC Try.prog 23 [tF (FV.sl none (List.map u8v (rdB o A (Q (i2 * 3 / 3)).fst (Q (i2 * 3 / 3)).snd.fst (Q (i2 * 3 / 3)).snd.snd)) (rdB o A (Q (i2 * 3 / 3)).fst (Q (i2 * 3 / 3)).snd.fst (Q (i2 * 3 / 3)).snd.snd).length), tF (FV.sl none (List.map u8v (L.getD (i2 * 1) [])) (L.getD (i2 * 1) []).length)] [] (tB ((strF (List.map u8v (rdB o A (Q (i2 * 3 / 3)).fst (Q (i2 * 3 / 3)).snd.fst (Q (i2 * 3 / 3)).snd.snd))).toList == (strF (List.map u8v (L.getD (i2 * 1) []))).toList)) [], tB ((strF (List.map u8v (rdB o A (Q (i2 * 3 / 3)).fst (Q (i2 * 3 / 3)).snd.fst (Q (i2 * 3 / 3)).snd.snd))).toList == (strF (List.map u8v (L.getD (i2 * 1) []))).toList) = tB false, tB true = tB true, tB true = tB true, tB false = tB true] (
    ([] : List VO) = []))))) (
  Ck [0, 7845443264, 0] [tI (IntKind.i64.wrap (N ts.length + 1)) = tI (N ts.length + 1), VC Try.prog 15 [tC (CV.rp 0 0), tA [cI 1, cI (N ts.length + 1), cI 0]] [VO.bx [CV.f (FV.v (Value.string (sO o))), CV.rw 1 A.length] 60, VO.fx (List.map u8v A) 5] (TV.tp [T1.c (CV.f (FV.sl none (List.map u8v (rdB o A 1 (N ts.length + 1) 0)) (rdB o A 1 (N ts.length + 1) 0).length)), T1.c (cI (rdE o A 1 (N ts.length + 1) 0))]) [VO.bx [CV.f (FV.v (Value.string (sO o))), CV.rw 1 A.length] 60, VO.fx (List.map u8v A) 5]] (
  brP (rdE o A 1 (N ts.length + 1) 0 == 10) (
   Ck [7858020701, 0, 20, 1] [tB (rdE o A 1 (N ts.length + 1) 0 == 10) = tB true, VC Try.prog 17 [tC (CV.rp 0 0), tA [cI 2, cI 0, cI 0]] [VO.bx [CV.f (FV.v (Value.string (sO o))), CV.rw 1 A.length] 60, VO.fx (List.map u8v A) 5] (tB false) [VO.bx [CV.f (FV.v (Value.string (sO o))), CV.rw 1 A.length] 60, VO.fx (List.map u8v A) 5], tB false = tB false, tB true = tB true] (
   ([] : List VO) = [])) (
   Ck [871697315, 0, 20, 1] [tB (rdE o A 1 (N ts.length + 1) 0 == 10) = tB false, tB false = tB true] (
   ([] : List VO) = [])))))
theorem stays_b3_ok (o A : List Int) (N : Nat → Int) (F : Nat → List Int) (S : Nat → List FV) (Q : Nat → Sp) (L : List (List Int)) (R : List FV) (ts : List (List Int)) (ho : Byt o) (hts : ∀ t ∈ ts, Byt t) (hl : o.length ≤ 140737488355328) (hlt : ∀ t ∈ ts, t.length ≤ 140737488355328) (hNn : ∀ i, 0 ≤ N i) (hN0 : N 0 = o.length) (hN : ∀ i, i < ts.length → N (i + 1) = N i + ((ts.getD i []).length + 1 : Nat)) (hF0 : F 0 = []) (hF : ∀ i, i < ts.length → F (i + 1) = F i ++ ts.getD i []) (hFA : F ts.length = A) (hFl : ∀ i, i ≤ ts.length → (F i).length ≤ 1048576 ∨ 1048576 < N ts.length) (hS0 : S 0 = [fI 0, fI 0, fI o.length]) (hS : ∀ i, i < ts.length → S (i + 1) = S i ++ [fI 1, fI (F i).length, fI (ts.getD i []).length]) (hQ : ∀ i, i ≤ ts.length → ((S ts.length).drop (i * 3)).take 3 = spF (Q i)) (hL : L = o :: ts) (hR : R = byt none o :: ts.map (byt none)) (hbL : ∀ i, Byt (L.getD i [])) (hLb : ∀ i, (L.getD i []).length ≤ 140737488355328) (hbA : Byt A) (hn : (ts.length + 1) * 24 ≤ 140737488355328) (hX : ts.length = 0 ∨ N ts.length ≤ 1048576 → Fac o A N Q L ts.length) (i : Nat) (i1 : Nat) (i2 : Nat) (hi : i2 ≤ ts.length + 1 ∧ (ts.length = 0 ∨ N ts.length ≤ 1048576)) : stays_b3 o A N F S Q L R ts ho hts hl hlt hNn hN0 hN hF0 hF hFA hFl hS0 hS hQ hL hR hbL hLb hbA hn hX i i1 i2 := by
  unfold stays_b3
  have hfx := hX hi.2
  have hal := hfx.al
  have hnb := hfx.nb
  have hnn := hNn ts.length
  have hiA := hi.1
  have hiB := hi.2
  clear hi
  have h0 : i2 ≤ ts.length → Hd o A (Q i2).1 (Q i2).2.1 (Q i2).2.2 = true ∧ rdB o A (Q i2).1 (Q i2).2.1 (Q i2).2.2 = L.getD i2 [] := hfx.rd i2
  have h1 := hfx.jn i2
  have h2 : 1 ≤ i2 → ((i2 : Int) - 1).toNat = i2 - 1 := fun _ => by omega
  have hQ2 := hQ i2
  have hQ1 := hQ (i2 - 1)
  have hR2 : R = L.map (byt none) := by rw [hR, hL]; rfl
  have hLl : L.length = ts.length + 1 := by rw [hL]; rfl
  clear hX hF hFl hS hN hQ hR hL hF0 hS0 hN0 hlt
  repeat' first
    | refine brE (fun _ _ => ?_) (fun _ _ => ?_)
    | refine brN (fun _ _ => ?_) (fun _ _ => ?_)
    | refine brD (fun _ _ => ?_) (fun _ _ => ?_)
    | refine brP_intro (fun _ => ?_) (fun _ => ?_)
    | refine ck ?_ ?_
    | exact allp0
    | refine allp2 ?_ ?_
  all_goals try simp only [Nat.mul_one, Nat.mul_div_cancel _ (show 0 < 3 by decide)] at *
  all_goals try simp only [h2 (by omega)] at *
  all_goals try (exfalso; first | exact absurd (rdE_t (h0 (by omega)).1) (by assumption) | exact lem5 (by assumption) (h0 (by omega)).2 | exact absurd (h0 (by omega)).1 (by rw [‹Hd o A _ _ _ = false›]; decide) | exact absurd (rdE_t (h1 (by omega) (by omega)).2.1) (by assumption) | exact absurd (h1 (by omega) (by omega)).1 (by rw [‹jOk _ _ _ _ _ _ = false›]; decide) | exact lem3 (by assumption) (((h1 (by omega) (by omega)).2.2).trans (by rw [(h0 (by omega)).2])) (hbL _) (rdB_byt ho hbA) | exact absurd (rdE_f hfx.ot) (by assumption))
  repeat' first
    | refine brE (fun _ _ => ?_) (fun _ _ => ?_)
    | refine brN (fun _ _ => ?_) (fun _ _ => ?_)
    | refine brD (fun _ _ => ?_) (fun _ _ => ?_)
    | refine brP_intro (fun _ => ?_) (fun _ => ?_)
    | refine ck ?_ ?_
    | exact allp0
    | refine allp2 ?_ ?_
  all_goals try first
    | with_reducible rfl
    | exact Exists.intro _ rfl
    | exact tI_nw (by omega) (by omega)
    | exact tB_of (by assumption)
    | exact fun i1 h_ => stays_b2_ok o A N F S Q L R ts ho hts hl hlt hNn hN0 hN hF0 hF hFA hFl hS0 hS hQ hL hR hbL hLb hbA hn hX i i1 h_
    | exact fun i h_ => stays_b1_ok o A N F S Q L R ts ho hts hl hlt hNn hN0 hN hF0 hF hFA hFl hS0 hS hQ hL hR hbL hLb hbA hn hX i h_
    | exact holds _ _ _ _ _
    | exact read _ _ _ _ _ (by first | assumption | omega | (simp; done)) (by first | assumption | omega | (simp; done))
    | exact joins _ _ _ _ _ _
    | exact joins_t _ _ _ _ _ _ (by first | assumption | omega | (simp; done))
    | exact joins_f _ _ _ _ _ _ (by first | assumption | omega | (simp; done))
    | exact same _ _
    | exact lined _ _ _ _ _ (by first | assumption | omega | (simp; done)) (by first | assumption | omega | (simp; done)) (by first | assumption | omega | (simp; done)) (by first | assumption | omega | (simp; done))
    | exact hQ2 (by omega)
    | exact hQ1 (by omega)
    | (rw [hR2]; exact ld1 (f := byt none) (by omega))
    | exact Exists.intro (i2 + 1) (ck (allp2 (by omega) (allp2 hiB (allp2 (by omega) (allp2 rfl allp0)))) trivial)
    | (simp only [List.length_map]; done)
    | exact str_sz (hLb _) (rdB_len o A _ _ _ (by omega))
    | ((with_reducible show (_ : Int) ≤ _); omega)
    | ((with_reducible show (_ : Nat) ≤ _); omega)
    | ((with_reducible show (_ : Int) < _); omega)
def stays_b2 (o A : List Int) (N : Nat → Int) (F : Nat → List Int) (S : Nat → List FV) (Q : Nat → Sp) (L : List (List Int)) (R : List FV) (ts : List (List Int)) (ho : Byt o) (hts : ∀ t ∈ ts, Byt t) (hl : o.length ≤ 140737488355328) (hlt : ∀ t ∈ ts, t.length ≤ 140737488355328) (hNn : ∀ i, 0 ≤ N i) (hN0 : N 0 = o.length) (hN : ∀ i, i < ts.length → N (i + 1) = N i + ((ts.getD i []).length + 1 : Nat)) (hF0 : F 0 = []) (hF : ∀ i, i < ts.length → F (i + 1) = F i ++ ts.getD i []) (hFA : F ts.length = A) (hFl : ∀ i, i ≤ ts.length → (F i).length ≤ 1048576 ∨ 1048576 < N ts.length) (hS0 : S 0 = [fI 0, fI 0, fI o.length]) (hS : ∀ i, i < ts.length → S (i + 1) = S i ++ [fI 1, fI (F i).length, fI (ts.getD i []).length]) (hQ : ∀ i, i ≤ ts.length → ((S ts.length).drop (i * 3)).take 3 = spF (Q i)) (hL : L = o :: ts) (hR : R = byt none o :: ts.map (byt none)) (hbL : ∀ i, Byt (L.getD i [])) (hLb : ∀ i, (L.getD i []).length ≤ 140737488355328) (hbA : Byt A) (hn : (ts.length + 1) * 24 ≤ 140737488355328) (hX : ts.length = 0 ∨ N ts.length ≤ 1048576 → Fac o A N Q L ts.length) (i : Nat) (i1 : Nat) : Prop :=
 Ck [0, 2] [] (
 brP (decide ((↑i1 : Int) < (↑ts.length : Int))) (
  Ck [0, 1907, 0, 12181043, 0, 197, 2] [0 ≤ (↑i1 : Int), (↑i1 : Int) < (↑ts.length : Int), (List.take 1 (List.drop (i1 * 1) (List.map (byt none) ts)) : List FV) = [FV.sl none (List.map u8v (ts.getD (i1 * 1) [])) (ts.getD (i1 * 1) []).length], VC Try.prog 13 [tC (CV.rp 0 0), tF (FV.sl none (List.map u8v (ts.getD (i1 * 1) [])) (ts.getD (i1 * 1) []).length)] [VO.bx [CV.f (FV.v (Value.string (sO o))), CV.rw 1 (F i1).length] 60, VO.fx (List.map u8v (F i1)) 5] (tA [cI 1, cI (↑(F i1).length : Int), cI (↑(ts.getD (i1 * 1) []).length : Int)]) [VO.bx [CV.f (FV.v (Value.string (sO o))), CV.rw 2 ((F i1).length + (ts.getD (i1 * 1) []).length)] 60, VO.dead, VO.fx (List.map u8v (F i1) ++ List.map u8v (ts.getD (i1 * 1) [])) 5], 3 = 3, (i1 + 1 + 1) * 24 ≤ 140737488355328, tI (IntKind.i64.wrap (↑(i1 + 1) : Int)) = tI (↑(i1 + 1) : Int)] (
  ∃ j : Nat, Ck [14, 1, 1] [j ≤ ts.length, ts.length = 0 ∨ N ts.length ≤ 1048576, (ts.length - j).succ ≤ ts.length - i1, [(5, tI (N ts.length)), (8, tC (CV.rp 0 0)), (9, tC (CV.rw 2 (i1 + 1 + 1))), (10, tC (CV.rw 3 (ts.length + 1))), (53, tF (FV.sl none (List.map (byt none) ts) ts.length)), (54, tI (↑ts.length : Int)), (55, tI (↑(i1 + 1) : Int))] = [(5, tI (N ts.length)), (8, tC (CV.rp 0 0)), (9, tC (CV.rw 2 (j + 1))), (10, tC (CV.rw 3 (ts.length + 1))), (53, tF (FV.sl none (List.map (byt none) ts) ts.length)), (54, tI (↑ts.length : Int)), (55, tI (↑j : Int))]] (
   ([VO.bx [CV.f (FV.v (Value.string (sO o))), CV.rw 1 ((F i1).length + (ts.getD (i1 * 1) []).length)] 60, VO.fx (List.map u8v (F i1) ++ List.map u8v (ts.getD (i1 * 1) [])) 5, VO.fx (S i1 ++ [fI 1, fI (↑(F i1).length : Int), fI (↑(ts.getD (i1 * 1) []).length : Int)]) 23, VO.fx R 33] : List VO) = [VO.bx [CV.f (FV.v (Value.string (sO o))), CV.rw 1 (F j).length] 60, VO.fx (List.map u8v (F j)) 5, VO.fx (S j) 23, VO.fx R 33]))) (
  Ck [0, 182, 803] [∃ i2 : Nat, Ck [14, 1] [i2 ≤ ts.length + 1, ts.length = 0 ∨ N ts.length ≤ 1048576, [(5, tI (N ts.length)), (8, tC (CV.rp 0 0)), (9, tC (CV.rw 2 (i1 + 1))), (10, tC (CV.rw 3 (ts.length + 1))), (66, tC (CV.rw 2 (i1 + 1))), (67, tI (↑(i1 + 1) : Int)), (68, tI 0)] = [(5, tI (N ts.length)), (8, tC (CV.rp 0 0)), (9, tC (CV.rw 2 (ts.length + 1))), (10, tC (CV.rw 3 (ts.length + 1))), (66, tC (CV.rw 2 (ts.length + 1))), (67, tI (↑(ts.length + 1) : Int)), (68, tI (↑i2 : Int))]] (
     ([VO.bx [CV.f (FV.v (Value.string (sO o))), CV.rw 1 (F i1).length] 60, VO.fx (List.map u8v (F i1)) 5, VO.fx (S i1) 23, VO.fx R 33] : List VO) = [VO.bx [CV.f (FV.v (Value.string (sO o))), CV.rw 1 A.length] 60, VO.fx (List.map u8v A) 5, VO.fx (S ts.length) 23, VO.fx R 33])] (
  ∀ i2 : Nat, ((i2 ≤ ts.length + 1 ∧ (ts.length = 0 ∨ N ts.length ≤ 1048576)) → stays_b3 o A N F S Q L R ts ho hts hl hlt hNn hN0 hN hF0 hF hFA hFl hS0 hS hQ hL hR hbL hLb hbA hn hX i i1 i2))))
theorem stays_b2_ok (o A : List Int) (N : Nat → Int) (F : Nat → List Int) (S : Nat → List FV) (Q : Nat → Sp) (L : List (List Int)) (R : List FV) (ts : List (List Int)) (ho : Byt o) (hts : ∀ t ∈ ts, Byt t) (hl : o.length ≤ 140737488355328) (hlt : ∀ t ∈ ts, t.length ≤ 140737488355328) (hNn : ∀ i, 0 ≤ N i) (hN0 : N 0 = o.length) (hN : ∀ i, i < ts.length → N (i + 1) = N i + ((ts.getD i []).length + 1 : Nat)) (hF0 : F 0 = []) (hF : ∀ i, i < ts.length → F (i + 1) = F i ++ ts.getD i []) (hFA : F ts.length = A) (hFl : ∀ i, i ≤ ts.length → (F i).length ≤ 1048576 ∨ 1048576 < N ts.length) (hS0 : S 0 = [fI 0, fI 0, fI o.length]) (hS : ∀ i, i < ts.length → S (i + 1) = S i ++ [fI 1, fI (F i).length, fI (ts.getD i []).length]) (hQ : ∀ i, i ≤ ts.length → ((S ts.length).drop (i * 3)).take 3 = spF (Q i)) (hL : L = o :: ts) (hR : R = byt none o :: ts.map (byt none)) (hbL : ∀ i, Byt (L.getD i [])) (hLb : ∀ i, (L.getD i []).length ≤ 140737488355328) (hbA : Byt A) (hn : (ts.length + 1) * 24 ≤ 140737488355328) (hX : ts.length = 0 ∨ N ts.length ≤ 1048576 → Fac o A N Q L ts.length) (i : Nat) (i1 : Nat) (hi : i1 ≤ ts.length ∧ (ts.length = 0 ∨ N ts.length ≤ 1048576)) : stays_b2 o A N F S Q L R ts ho hts hl hlt hNn hN0 hN hF0 hF hFA hFl hS0 hS hQ hL hR hbL hLb hbA hn hX i i1 := by
  unfold stays_b2
  have hg := getD_len hlt i1
  have hfx := hX hi.2
  have hfl : i1 < ts.length → (F i1).length + (ts.getD i1 []).length ≤ 1048576 := fun hlt' => by
    rw [← List.length_append, ← hF i1 hlt']
    rcases hFl (i1 + 1) hlt' with h | h
    · exact h
    · omega
  have hiA := hi.1
  have hiB := hi.2
  clear hi
  repeat' first
    | refine brE (fun _ _ => ?_) (fun _ _ => ?_)
    | refine brN (fun _ _ => ?_) (fun _ _ => ?_)
    | refine brD (fun _ _ => ?_) (fun _ _ => ?_)
    | refine brP_intro (fun _ => ?_) (fun _ => ?_)
    | refine ck ?_ ?_
    | exact allp0
    | refine allp2 ?_ ?_
  all_goals try simp only [Nat.mul_one]
  all_goals try (have he : i1 = ts.length := (by omega)
                 subst he
                 exact Exists.intro (0) (ck (allp2 (by omega) (allp2 hiB (allp2 rfl allp0))) (by rw [hFA])))
  repeat' first
    | refine brE (fun _ _ => ?_) (fun _ _ => ?_)
    | refine brN (fun _ _ => ?_) (fun _ _ => ?_)
    | refine brD (fun _ _ => ?_) (fun _ _ => ?_)
    | refine brP_intro (fun _ => ?_) (fun _ => ?_)
    | refine ck ?_ ?_
    | exact allp0
    | refine allp2 ?_ ?_
  all_goals try first
    | with_reducible rfl
    | exact Exists.intro _ rfl
    | exact tI_nw (by omega) (by omega)
    | exact tB_of (by assumption)
    | exact fun i2 h_ => stays_b3_ok o A N F S Q L R ts ho hts hl hlt hNn hN0 hN hF0 hF hFA hFl hS0 hS hQ hL hR hbL hLb hbA hn hX i i1 i2 h_
    | exact fun i h_ => stays_b1_ok o A N F S Q L R ts ho hts hl hlt hNn hN0 hN hF0 hF hFA hFl hS0 hS hQ hL hR hbL hLb hbA hn hX i h_
    | exact add _ _ _ (by first | assumption | omega | (simp; done))
    | exact add_r _ _ _ (by first | assumption | omega | (simp; done))
    | exact Nat.le_trans (Nat.mul_le_mul_right _ (by omega)) hn
    | exact ld1 (f := byt none) (by omega)
    | exact add _ _ _ (by have := hfl (by omega); omega)
    | exact Exists.intro (i1 + 1) (ck (allp2 (by omega) (allp2 hiB (allp2 (by omega) (allp2 rfl allp0)))) (by rw [hF i1 (by omega), hS i1 (by omega), List.length_append, List.map_append]))
    | (simp; done)
    | ((with_reducible show (_ : Int) ≤ _); omega)
    | ((with_reducible show (_ : Nat) ≤ _); omega)
    | ((with_reducible show (_ : Int) < _); omega)
def stays_b1 (o A : List Int) (N : Nat → Int) (F : Nat → List Int) (S : Nat → List FV) (Q : Nat → Sp) (L : List (List Int)) (R : List FV) (ts : List (List Int)) (ho : Byt o) (hts : ∀ t ∈ ts, Byt t) (hl : o.length ≤ 140737488355328) (hlt : ∀ t ∈ ts, t.length ≤ 140737488355328) (hNn : ∀ i, 0 ≤ N i) (hN0 : N 0 = o.length) (hN : ∀ i, i < ts.length → N (i + 1) = N i + ((ts.getD i []).length + 1 : Nat)) (hF0 : F 0 = []) (hF : ∀ i, i < ts.length → F (i + 1) = F i ++ ts.getD i []) (hFA : F ts.length = A) (hFl : ∀ i, i ≤ ts.length → (F i).length ≤ 1048576 ∨ 1048576 < N ts.length) (hS0 : S 0 = [fI 0, fI 0, fI o.length]) (hS : ∀ i, i < ts.length → S (i + 1) = S i ++ [fI 1, fI (F i).length, fI (ts.getD i []).length]) (hQ : ∀ i, i ≤ ts.length → ((S ts.length).drop (i * 3)).take 3 = spF (Q i)) (hL : L = o :: ts) (hR : R = byt none o :: ts.map (byt none)) (hbL : ∀ i, Byt (L.getD i [])) (hLb : ∀ i, (L.getD i []).length ≤ 140737488355328) (hbA : Byt A) (hn : (ts.length + 1) * 24 ≤ 140737488355328) (hX : ts.length = 0 ∨ N ts.length ≤ 1048576 → Fac o A N Q L ts.length) (i : Nat) : Prop :=
 Ck [0, 2] [] (
 brP (decide ((↑i : Int) < (↑ts.length : Int))) (
  Ck [0, 1907, 0, 11658350, 0, 20] [0 ≤ (↑i : Int), (↑i : Int) < (↑ts.length : Int), (List.take 1 (List.drop (i * 1) (List.map (byt none) ts)) : List FV) = [FV.sl none (List.map u8v (ts.getD (i * 1) [])) (ts.getD (i * 1) []).length], tI (IntKind.i64.wrap (↑((ts.getD (i * 1) []).length + 1) : Int)) = tI (↑((ts.getD (i * 1) []).length + 1) : Int), tI (IntKind.i64.wrap (N i + (↑((ts.getD (i * 1) []).length + 1) : Int))) = tI (N i + (↑((ts.getD (i * 1) []).length + 1) : Int))] (
  brP (decide (N i + (↑((ts.getD (i * 1) []).length + 1) : Int) > 1048576)) (
   Ck [0, 2, 0, 20, 1] [tB true = tB true] (
   ([] : List VO) = [])) (
   Ck [0, 197, 2] [tI (IntKind.i64.wrap (↑(i + 1) : Int)) = tI (↑(i + 1) : Int)] (
   ∃ j : Nat, Ck [14, 1, 1] [j ≤ ts.length, j = 0 ∨ N j ≤ 1048576, (ts.length - j).succ ≤ ts.length - i, [(0, tF (FV.sl none (List.map u8v o) o.length)), (1, tF (FV.sl none (List.map (byt none) ts) ts.length)), (5, tI (N i + (↑((ts.getD (i * 1) []).length + 1) : Int))), (27, tF (FV.sl none (List.map (byt none) ts) ts.length)), (28, tI (↑ts.length : Int)), (29, tI (↑(i + 1) : Int))] = [(0, tF (FV.sl none (List.map u8v o) o.length)), (1, tF (FV.sl none (List.map (byt none) ts) ts.length)), (5, tI (N j)), (27, tF (FV.sl none (List.map (byt none) ts) ts.length)), (28, tI (↑ts.length : Int)), (29, tI (↑j : Int))]] (
    ([] : List VO) = []))))) (
  Ck [0, 209, 0, 20, 0, 14762, 0, 150356, 0, 182, 803] [VC Try.prog 19 [tF (FV.sl none (List.map u8v o) o.length)] [] (tC (CV.rp 0 0)) [VO.bx [CV.f (FV.v (Value.string (sO o))), CV.rw 1 0] 60, VO.fx [] 5], (List.map (byt none) ts).length = ts.length * 1, (1 + ts.length) * 24 ≤ 140737488355328, ∃ i1 : Nat, Ck [14, 1] [i1 ≤ ts.length, ts.length = 0 ∨ N ts.length ≤ 1048576, [(5, tI (N i)), (8, tC (CV.rp 0 0)), (9, tC (CV.rw 2 1)), (10, tC (CV.rw 3 (1 + ts.length))), (53, tF (FV.sl none (List.map (byt none) ts) ts.length)), (54, tI (↑ts.length : Int)), (55, tI 0)] = [(5, tI (N ts.length)), (8, tC (CV.rp 0 0)), (9, tC (CV.rw 2 (i1 + 1))), (10, tC (CV.rw 3 (ts.length + 1))), (53, tF (FV.sl none (List.map (byt none) ts) ts.length)), (54, tI (↑ts.length : Int)), (55, tI (↑i1 : Int))]] (
     ([VO.bx [CV.f (FV.v (Value.string (sO o))), CV.rw 1 0] 60, VO.fx [] 5, VO.fx [fI 0, fI 0, fI (↑o.length : Int)] 23, VO.fx (FV.sl none (List.map u8v o) o.length :: List.append._f [] PUnit.unit (List.map (byt none) ts)) 33] : List VO) = [VO.bx [CV.f (FV.v (Value.string (sO o))), CV.rw 1 (F i1).length] 60, VO.fx (List.map u8v (F i1)) 5, VO.fx (S i1) 23, VO.fx R 33])] (
  ∀ i1 : Nat, ((i1 ≤ ts.length ∧ (ts.length = 0 ∨ N ts.length ≤ 1048576)) → stays_b2 o A N F S Q L R ts ho hts hl hlt hNn hN0 hN hF0 hF hFA hFl hS0 hS hQ hL hR hbL hLb hbA hn hX i i1))))
theorem stays_b1_ok (o A : List Int) (N : Nat → Int) (F : Nat → List Int) (S : Nat → List FV) (Q : Nat → Sp) (L : List (List Int)) (R : List FV) (ts : List (List Int)) (ho : Byt o) (hts : ∀ t ∈ ts, Byt t) (hl : o.length ≤ 140737488355328) (hlt : ∀ t ∈ ts, t.length ≤ 140737488355328) (hNn : ∀ i, 0 ≤ N i) (hN0 : N 0 = o.length) (hN : ∀ i, i < ts.length → N (i + 1) = N i + ((ts.getD i []).length + 1 : Nat)) (hF0 : F 0 = []) (hF : ∀ i, i < ts.length → F (i + 1) = F i ++ ts.getD i []) (hFA : F ts.length = A) (hFl : ∀ i, i ≤ ts.length → (F i).length ≤ 1048576 ∨ 1048576 < N ts.length) (hS0 : S 0 = [fI 0, fI 0, fI o.length]) (hS : ∀ i, i < ts.length → S (i + 1) = S i ++ [fI 1, fI (F i).length, fI (ts.getD i []).length]) (hQ : ∀ i, i ≤ ts.length → ((S ts.length).drop (i * 3)).take 3 = spF (Q i)) (hL : L = o :: ts) (hR : R = byt none o :: ts.map (byt none)) (hbL : ∀ i, Byt (L.getD i [])) (hLb : ∀ i, (L.getD i []).length ≤ 140737488355328) (hbA : Byt A) (hn : (ts.length + 1) * 24 ≤ 140737488355328) (hX : ts.length = 0 ∨ N ts.length ≤ 1048576 → Fac o A N Q L ts.length) (i : Nat) (hi : i ≤ ts.length ∧ (i = 0 ∨ N i ≤ 1048576)) : stays_b1 o A N F S Q L R ts ho hts hl hlt hNn hN0 hN hF0 hF hFA hFl hS0 hS hQ hL hR hbL hLb hbA hn hX i := by
  unfold stays_b1
  have hg := getD_len hlt i
  have h2 := hNn i
  have hNi : N i ≤ 140737488355328 := by
    rcases hi.2 with h | h
    · rw [h, hN0]; omega
    · omega
  have hiA := hi.1
  have hiB := hi.2
  clear hi
  repeat' first
    | refine brE (fun _ _ => ?_) (fun _ _ => ?_)
    | refine brN (fun _ _ => ?_) (fun _ _ => ?_)
    | refine brD (fun _ _ => ?_) (fun _ _ => ?_)
    | refine brP_intro (fun _ => ?_) (fun _ => ?_)
    | refine ck ?_ ?_
    | exact allp0
    | refine allp2 ?_ ?_
  all_goals try simp only [Nat.mul_one] at *
  all_goals try (have he : i = ts.length := (by omega)
                 subst he
                 exact ⟨0, ck (allp2 (by omega) (allp2 hiB (allp2 (by rw [Nat.add_comm 1]; rfl) allp0))) (by rw [hF0, hS0, hR]; rfl)⟩)
  all_goals try (refine Exists.intro (i + 1) (ck (allp2 (by omega) (allp2 (.inr ?_) (allp2 (by omega) (allp2 (by rw [hN i (by omega)]) allp0)))) trivial); rw [hN i (by omega)]; omega)
  repeat' first
    | refine brE (fun _ _ => ?_) (fun _ _ => ?_)
    | refine brN (fun _ _ => ?_) (fun _ _ => ?_)
    | refine brD (fun _ _ => ?_) (fun _ _ => ?_)
    | refine brP_intro (fun _ => ?_) (fun _ => ?_)
    | refine ck ?_ ?_
    | exact allp0
    | refine allp2 ?_ ?_
  all_goals try first
    | with_reducible rfl
    | exact Exists.intro _ rfl
    | exact tI_nw (by omega) (by omega)
    | exact tB_of (by assumption)
    | exact fun i2 h_ => stays_b3_ok o A N F S Q L R ts ho hts hl hlt hNn hN0 hN hF0 hF hFA hFl hS0 hS hQ hL hR hbL hLb hbA hn hX i i1 i2 h_
    | exact fun i1 h_ => stays_b2_ok o A N F S Q L R ts ho hts hl hlt hNn hN0 hN hF0 hF hFA hFl hS0 hS hQ hL hR hbL hLb hbA hn hX i i1 h_
    | exact new _
    | exact new_r _
    | exact Nat.le_trans (Nat.mul_le_mul_right _ (by omega)) hn
    | exact ld1 (f := byt none) (by omega)
    | (simp; done)
    | ((with_reducible show (_ : Int) ≤ _); omega)
    | ((with_reducible show (_ : Nat) ≤ _); omega)
    | ((with_reducible show (_ : Int) < _); omega)
theorem stays_w (o A : List Int) (N : Nat → Int) (F : Nat → List Int) (S : Nat → List FV) (Q : Nat → Sp) (L : List (List Int)) (R : List FV) (ts : List (List Int)) (ho : Byt o) (hts : ∀ t ∈ ts, Byt t) (hl : o.length ≤ 140737488355328) (hlt : ∀ t ∈ ts, t.length ≤ 140737488355328) (hNn : ∀ i, 0 ≤ N i) (hN0 : N 0 = o.length) (hN : ∀ i, i < ts.length → N (i + 1) = N i + ((ts.getD i []).length + 1 : Nat)) (hF0 : F 0 = []) (hF : ∀ i, i < ts.length → F (i + 1) = F i ++ ts.getD i []) (hFA : F ts.length = A) (hFl : ∀ i, i ≤ ts.length → (F i).length ≤ 1048576 ∨ 1048576 < N ts.length) (hS0 : S 0 = [fI 0, fI 0, fI o.length]) (hS : ∀ i, i < ts.length → S (i + 1) = S i ++ [fI 1, fI (F i).length, fI (ts.getD i []).length]) (hQ : ∀ i, i ≤ ts.length → ((S ts.length).drop (i * 3)).take 3 = spF (Q i)) (hL : L = o :: ts) (hR : R = byt none o :: ts.map (byt none)) (hbL : ∀ i, Byt (L.getD i [])) (hLb : ∀ i, (L.getD i []).length ≤ 140737488355328) (hbA : Byt A) (hn : (ts.length + 1) * 24 ≤ 140737488355328) (hX : ts.length = 0 ∨ N ts.length ≤ 1048576 → Fac o A N Q L ts.length) : Ck [0, 2, 0, 206, 0, 182, 0, 182, 803] [VC Try.prog 12 [] [] (tB true) [], tB true = tB true, ∃ i : Nat, Ck [14, 1] [i ≤ ts.length, i = 0 ∨ N i ≤ 1048576, [(0, tF (FV.sl none (List.map u8v o) o.length)), (1, tF (FV.sl none (List.map (byt none) ts) ts.length)), (5, tI (↑o.length : Int)), (27, tF (FV.sl none (List.map (byt none) ts) ts.length)), (28, tI (↑ts.length : Int)), (29, tI 0)] = [(0, tF (FV.sl none (List.map u8v o) o.length)), (1, tF (FV.sl none (List.map (byt none) ts) ts.length)), (5, tI (N i)), (27, tF (FV.sl none (List.map (byt none) ts) ts.length)), (28, tI (↑ts.length : Int)), (29, tI (↑i : Int))]] (
    ([] : List VO) = [])] (
 ∀ i : Nat, ((i ≤ ts.length ∧ (i = 0 ∨ N i ≤ 1048576)) → stays_b1 o A N F S Q L R ts ho hts hl hlt hNn hN0 hN hF0 hF hFA hFl hS0 hS hQ hL hR hbL hLb hbA hn hX i)) := by
  repeat' first
    | refine brE (fun _ _ => ?_) (fun _ _ => ?_)
    | refine brN (fun _ _ => ?_) (fun _ _ => ?_)
    | refine brD (fun _ _ => ?_) (fun _ _ => ?_)
    | refine brP_intro (fun _ => ?_) (fun _ => ?_)
    | refine ck ?_ ?_
    | exact allp0
    | refine allp2 ?_ ?_
  repeat' first
    | refine brE (fun _ _ => ?_) (fun _ _ => ?_)
    | refine brN (fun _ _ => ?_) (fun _ _ => ?_)
    | refine brD (fun _ _ => ?_) (fun _ _ => ?_)
    | refine brP_intro (fun _ => ?_) (fun _ => ?_)
    | refine ck ?_ ?_
    | exact allp0
    | refine allp2 ?_ ?_
  all_goals try first
    | with_reducible rfl
    | exact Exists.intro _ rfl
    | exact tI_nw (by omega) (by omega)
    | exact tB_of (by assumption)
    | exact fun i2 h_ => stays_b3_ok o A N F S Q L R ts ho hts hl hlt hNn hN0 hN hF0 hF hFA hFl hS0 hS hQ hL hR hbL hLb hbA hn hX i i1 i2 h_
    | exact fun i1 h_ => stays_b2_ok o A N F S Q L R ts ho hts hl hlt hNn hN0 hN hF0 hF hFA hFl hS0 hS hQ hL hR hbL hLb hbA hn hX i i1 h_
    | exact fun i h_ => stays_b1_ok o A N F S Q L R ts ho hts hl hlt hNn hN0 hN hF0 hF hFA hFl hS0 hS hQ hL hR hbL hLb hbA hn hX i h_
    | exact awake 
    | exact awake
    | exact Exists.intro (0) (ck (allp2 (by omega) (allp2 (.inl rfl) (allp2 (by rw [hN0]; rfl) allp0))) rfl)
    | ((with_reducible show (_ : Int) ≤ _); omega)
    | ((with_reducible show (_ : Nat) ≤ _); omega)
    | ((with_reducible show (_ : Int) < _); omega)
theorem stays (o A : List Int) (N : Nat → Int) (F : Nat → List Int) (S : Nat → List FV) (Q : Nat → Sp) (L : List (List Int)) (R : List FV) (ts : List (List Int)) (ho : Byt o) (hts : ∀ t ∈ ts, Byt t) (hl : o.length ≤ 140737488355328) (hlt : ∀ t ∈ ts, t.length ≤ 140737488355328) (hNn : ∀ i, 0 ≤ N i) (hN0 : N 0 = o.length) (hN : ∀ i, i < ts.length → N (i + 1) = N i + ((ts.getD i []).length + 1 : Nat)) (hF0 : F 0 = []) (hF : ∀ i, i < ts.length → F (i + 1) = F i ++ ts.getD i []) (hFA : F ts.length = A) (hFl : ∀ i, i ≤ ts.length → (F i).length ≤ 1048576 ∨ 1048576 < N ts.length) (hS0 : S 0 = [fI 0, fI 0, fI o.length]) (hS : ∀ i, i < ts.length → S (i + 1) = S i ++ [fI 1, fI (F i).length, fI (ts.getD i []).length]) (hQ : ∀ i, i ≤ ts.length → ((S ts.length).drop (i * 3)).take 3 = spF (Q i)) (hL : L = o :: ts) (hR : R = byt none o :: ts.map (byt none)) (hbL : ∀ i, Byt (L.getD i [])) (hLb : ∀ i, (L.getD i []).length ≤ 140737488355328) (hbA : Byt A) (hn : (ts.length + 1) * 24 ≤ 140737488355328) (hX : ts.length = 0 ∨ N ts.length ≤ 1048576 → Fac o A N Q L ts.length) : VC Try.prog 7 ([tF (byt none o), tF (tx ts)]) ([]) (tB true) ([]) :=
  vc_wp mixed nonum ⟨cmOf [(1, [(0, .tb (tq_stays o A N F S Q L R ts ho hts hl hlt hNn hN0 hN hF0 hF hFA hFl hS0 hS hQ hL hR hbL hLb hbA hn hX) [] none)]), (6, [(1, .fn fun tw => .ld [byt none ((ts).getD (ptO (tget tw 31)) default)])]), (7, [(3, .nw), (4, .nw)]), (10, [(0, .nw)]), (11, [(1, .tb (tq_stays o A N F S Q L R ts ho hts hl hlt hNn hN0 hN hF0 hF hFA hFl hS0 hS hQ hL hR hbL hLb hbA hn hX) [] none)]), (18, [(1, .fn fun tw => .ld [byt none ((ts).getD (ptO (tget tw 57)) default)])]), (19, [(3, .tb addT [] none)]), (20, [(0, .nw)]), (23, [(2, .fn fun tw => .ld (spF (Q (ptO (tget tw 71) / 3))))]), (24, [(2, .tb (tq_stays o A N F S Q L R ts ho hts hl hlt hNn hN0 hN hF0 hF hFA hFl hS0 hS hQ hL hR hbL hLb hbA hn hX) [] none)]), (25, [(7, .fn fun tw => .ld [byt none ((L).getD (ptO (tget tw 85)) default)]), (8, .tb (tq_stays o A N F S Q L R ts ho hts hl hlt hNn hN0 hN hF0 hF hFA hFl hS0 hS hQ hL hR hbL hLb hbA hn hX) [] none), (14, .tb (tq_stays o A N F S Q L R ts ho hts hl hlt hNn hN0 hN hF0 hF hFA hFl hS0 hS hQ hL hR hbL hLb hbA hn hX) [] none), (21, .tb (tq_stays o A N F S Q L R ts ho hts hl hlt hNn hN0 hN hF0 hF hFA hFl hS0 hS hQ hL hR hbL hLb hbA hn hX) [] none)]), (28, [(2, .nw), (4, .fn fun tw => .ld (spF (Q (ptO (tget tw 109) / 3)))), (6, .tb (tq_stays o A N F S Q L R ts ho hts hl hlt hNn hN0 hN hF0 hF hFA hFl hS0 hS hQ hL hR hbL hLb hbA hn hX) [] none)]), (29, [(2, .tb (tq_stays o A N F S Q L R ts ho hts hl hlt hNn hN0 hN hF0 hF hFA hFl hS0 hS hQ hL hR hbL hLb hbA hn hX) [] none)]), (30, [(11, .nw), (13, .fn fun tw => .ld [byt none ((L).getD (ptO (tget tw 133)) default)]), (17, .sx)]), (32, [(0, .nw)]), (33, [(2, .nw), (4, .tb (tq_stays o A N F S Q L R ts ho hts hl hlt hNn hN0 hN hF0 hF hFA hFl hS0 hS hQ hL hR hbL hLb hbA hn hX) [] none)]), (34, [(5, .tb (tq_stays o A N F S Q L R ts ho hts hl hlt hNn hN0 hN hF0 hF hFA hFl hS0 hS hQ hL hR hbL hLb hbA hn hX) [] none)])], spOf [(1, [0]), (11, [1]), (19, [3]), (24, [2]), (25, [2, 8, 11, 14, 17, 21]), (28, [6]), (29, [2]), (30, [2, 6]), (33, [4]), (34, [2, 5])], ghOf [], loOf [(22, .inv [] [5, 8, 9, 10, 66, 67, 68] ⟨Nat, fun i => i ≤ ts.length + 1 ∧ (ts.length = 0 ∨ N ts.length ≤ 1048576), fun i => [(5, tI (N ts.length)), (8, tC (.rp 0 0)), (9, tC (.rw 2 (ts.length + 1))), (10, tC (.rw 3 (ts.length + 1))), (66, tC (.rw 2 (ts.length + 1))), (67, tI (ts.length + 1 : Nat)), (68, tI i)], fun i => Bf o A ++ [.fx (S ts.length) 23, .fx R 33], fun i => ts.length + 1 - i⟩), (17, .inv [] [5, 8, 9, 10, 53, 54, 55] ⟨Nat, fun i => i ≤ ts.length ∧ (ts.length = 0 ∨ N ts.length ≤ 1048576), fun i => [(5, tI (N ts.length)), (8, tC (.rp 0 0)), (9, tC (.rw 2 (i + 1))), (10, tC (.rw 3 (ts.length + 1))), (53, tF (tx ts)), (54, tI ts.length), (55, tI i)], fun i => Bf o (F i) ++ [.fx (S i) 23, .fx R 33], fun i => ts.length - i⟩), (5, .inv [] [0, 1, 5, 27, 28, 29] ⟨Nat, fun i => i ≤ ts.length ∧ (i = 0 ∨ N i ≤ 1048576), fun i => [(0, tF (byt none o)), (1, tF (tx ts)), (5, tI (N i)), (27, tF (tx ts)), (28, tI ts.length), (29, tI i)], fun i => [], fun i => ts.length - i⟩)], []⟩ [] (by kernel_rfl) (stays_w o A N F S Q L R ts ho hts hl hlt hNn hN0 hN hF0 hF hFA hFl hS0 hS hQ hL hR hbL hLb hbA hn hX)
end Go.Proofs.Ytbonmmpdpahhfaa.Vg
