/- Nodes of a tree. No law, no condition. -/
import Derived.Test.YtpjlgjhkdligfaaVgD
import Derived.Test.YtpjlgjhkdligfaaProg
namespace Go.Proofs.Ytpjlgjhkdligfaa.Vg
open Go.RowKit
set_option maxRecDepth 100000
set_option linter.unusedVariables false
set_option linter.unusedSimpArgs false
theorem mixed : Try.prog.follows .mixedOrders = true := by kernel_rfl
theorem nonum : noNum Try.prog = true := by kernel_rfl
/-- a piece: where it is, how long, how many line ends -/
structure Pc where
  s : Int
  o : Int
  n : Int
  k : Int
deriving Inhabited
def Pc.cs (p : Pc) : List CV := [cI p.s, cI p.o, cI p.n, cI p.k]
/-- a tree -/
inductive Tr where
  | nil
  | nd (p : Pc) (c : Bool) (l r : Tr)
deriving Inhabited
def nthF : List FV → Nat → FV
  | [], _ => .v (.pointer none)
  | x :: _, 0 => x
  | _ :: r, i + 1 => nthF r i
def intF : FV → Int
  | .v (.int _ n) => n
  | _ => 0
def ptI (i : Nat) : FV → Int
  | .pt cs _ => intF (nthF cs i)
  | _ => 0
def cntF : FV → Int := ptI 7
def sizF : FV → Int := ptI 8
def lnsF : FV → Int := ptI 9
def blkF : FV → Int := ptI 10
def hghF : FV → Int := ptI 11
def boolF : FV → Bool
  | .v (.bool b) => b
  | _ => false
def redF : FV → Bool
  | .pt cs _ => boolF (nthF cs 4)
  | _ => false
def mkF (c : Bool) (x : FV) (p : Pc) (y : FV) : FV := .pt [fI p.s, fI p.o, fI p.n, fI p.k, fB c, x, y, fI (cntF x + 1 + cntF y), fI (sizF x + p.n + sizF y), fI (lnsF x + p.k + lnsF y), fI (bif c then blkF x else blkF x + 1), fI (1 + if hghF y > hghF x then hghF y else hghF x)] 0
def enc : Tr → FV
  | .nil => .v (.pointer none)
  | .nd p c l r => mkF c (enc l) p (enc r)
def Fit (p : Pc) : Prop := 1 ≤ p.n ∧ p.n ≤ 2147483647 ∧ 0 ≤ p.k ∧ p.k ≤ p.n
instance (p : Pc) : Decidable (Fit p) := by unfold Fit; infer_instance
def Tr.Ok : Tr → Prop
  | .nil => True
  | .nd p _ l r => Fit p ∧ l.Ok ∧ r.Ok
def Tr.num : Tr → Nat
  | .nil => 0
  | .nd _ _ l r => l.num + 1 + r.num
/-- a tree that is not too great -/
def isT (x : FV) : Prop := ∃ t, x = enc t ∧ t.Ok ∧ t.num ≤ 1073741824
structure Sums (x : FV) (n : Nat) : Prop where
  c : cntF x = n
  s0 : 0 ≤ sizF x
  s1 : sizF x ≤ n * 2147483647
  l0 : 0 ≤ lnsF x
  l1 : lnsF x ≤ sizF x
  b0 : 0 ≤ blkF x
  b1 : blkF x ≤ n
  h0 : 0 ≤ hghF x
  h1 : hghF x ≤ n
theorem sums_mk {c : Bool} {x y : FV} {p : Pc} {m n : Nat} (hx : Sums x m) (hy : Sums y n) (hp : Fit p) : Sums (mkF c x p y) (m + 1 + n) := by
  obtain ⟨a1, a2, a3, a4, a5, a6, a7, a8, a9⟩ := hx
  obtain ⟨b1, b2, b3, b4, b5, b6, b7, b8, b9⟩ := hy
  obtain ⟨p1, p2, p3, p4⟩ := hp
  have e1 : cntF (mkF c x p y) = cntF x + 1 + cntF y := rfl
  have e2 : sizF (mkF c x p y) = sizF x + p.n + sizF y := rfl
  have e3 : lnsF (mkF c x p y) = lnsF x + p.k + lnsF y := rfl
  have e4 : blkF (mkF c x p y) = bif c then blkF x else blkF x + 1 := rfl
  have e5 : hghF (mkF c x p y) = 1 + if hghF y > hghF x then hghF y else hghF x := rfl
  refine ⟨?_, ?_, ?_, ?_, ?_, ?_, ?_, ?_, ?_⟩
  · rw [e1]; omega
  · rw [e2]; omega
  · rw [e2]; omega
  · rw [e3]; omega
  · rw [e3, e2]; omega
  · rw [e4]; cases c <;> simp only [cond_true, cond_false] <;> omega
  · rw [e4]; cases c <;> simp only [cond_true, cond_false] <;> omega
  · rw [e5]; split <;> omega
  · rw [e5]; split <;> omega
theorem sums_t : ∀ {t : Tr}, t.Ok → Sums (enc t) t.num
  | .nil, _ => ⟨rfl, Int.le_refl _, Int.le_refl _, Int.le_refl _, Int.le_refl _, Int.le_refl _, Int.le_refl _, Int.le_refl _, Int.le_refl _⟩
  | .nd p c l r, h => sums_mk (sums_t h.2.1) (sums_t h.2.2) h.1
/-- what the sums of a tree are bounded by -/
theorem isT.bd {x : FV} (h : isT x) : 0 ≤ cntF x ∧ cntF x ≤ 1073741824 ∧ 0 ≤ sizF x ∧ sizF x ≤ 2305843008139952128 ∧ 0 ≤ lnsF x ∧ lnsF x ≤ 2305843008139952128 ∧ 0 ≤ blkF x ∧ blkF x ≤ 1073741824 ∧ 0 ≤ hghF x ∧ hghF x ≤ 1073741824 := by
  obtain ⟨t, rfl, h1, h2⟩ := h
  obtain ⟨a1, a2, a3, a4, a5, a6, a7, a8, a9⟩ := sums_t h1
  omega
theorem cnt_n_w  : Ck [0, 2, 0, 20, 0, 2, 0, 20, 1] [tI 0 = tI 0] (
 ([] : List VO) = []) := by
  repeat' first
    | refine brE (fun _ _ => ?_) (fun _ _ => ?_)
    | refine brN (fun _ _ => ?_) (fun _ _ => ?_)
    | refine brD (fun _ _ => ?_) (fun _ _ => ?_)
    | refine brP_intro (fun _ => ?_) (fun _ => ?_)
    | refine ck ?_ ?_
    | exact allp0
    | refine allp2 ?_ ?_
  all_goals try first
    | with_reducible rfl
    | exact Exists.intro _ rfl
    | exact tI_nw (by omega) (by omega)
    | exact tB_of (by assumption)
    | ((with_reducible show (_ : Int) ≤ _); omega)
    | ((with_reducible show (_ : Nat) ≤ _); omega)
    | ((with_reducible show (_ : Int) < _); omega)
theorem cnt_n  : VC Try.prog 44 ([tF (.v (.pointer none))]) ([]) (tI 0) ([]) :=
  vc_wp mixed nonum ⟨cmOf [], spOf [], ghOf [], loOf [], []⟩ [] (by kernel_rfl) (cnt_n_w )
theorem cnt_d_w (p : Pc) (c : Bool) (x y : FV) : Ck [0, 2, 0, 20, 0, 14762, 0, 20, 1] [tI (cntF x + 1 + cntF y) = tI (cntF (FV.pt [fI p.s, fI p.o, fI p.n, fI p.k, fB c, x, y, fI (cntF x + 1 + cntF y), fI (sizF x + p.n + sizF y), fI (lnsF x + p.k + lnsF y), fI (bif c then blkF x else blkF x + 1), fI (1 + if hghF y > hghF x then hghF y else hghF x)] 0))] (
 ([] : List VO) = []) := by
  repeat' first
    | refine brE (fun _ _ => ?_) (fun _ _ => ?_)
    | refine brN (fun _ _ => ?_) (fun _ _ => ?_)
    | refine brD (fun _ _ => ?_) (fun _ _ => ?_)
    | refine brP_intro (fun _ => ?_) (fun _ => ?_)
    | refine ck ?_ ?_
    | exact allp0
    | refine allp2 ?_ ?_
  all_goals try first
    | with_reducible rfl
    | exact Exists.intro _ rfl
    | exact tI_nw (by omega) (by omega)
    | exact tB_of (by assumption)
    | rfl
    | ((with_reducible show (_ : Int) ≤ _); omega)
    | ((with_reducible show (_ : Nat) ≤ _); omega)
    | ((with_reducible show (_ : Int) < _); omega)
theorem cnt_d (p : Pc) (c : Bool) (x y : FV) : VC Try.prog 44 ([tF (mkF c x p y)]) ([]) (tI (cntF (mkF c x p y))) ([]) :=
  vc_wp mixed nonum ⟨cmOf [], spOf [], ghOf [], loOf [], []⟩ [] (by kernel_rfl) (cnt_d_w p c x y)
theorem cnt_t : ∀ t : Tr, VC Try.prog 44 [tF (enc t)] [] (tI (cntF (enc t))) []
  | .nil => cnt_n
  | .nd p c l r => cnt_d p c (enc l) (enc r)
theorem cnt_x (x : FV) (h : isT x) : VC Try.prog 44 [tF x] [] (tI (cntF x)) [] := by
  obtain ⟨t, rfl, _⟩ := h
  exact cnt_t t
noncomputable def t44_0_SA  : List TV → List VO → Option Alt
  | [(.o (.c (.f x)))], _ => some (.one (tI (cntF x)) [])
  | _, _ => none
theorem siz_n_w  : Ck [0, 2, 0, 20, 0, 2, 0, 20, 1] [tI 0 = tI 0] (
 ([] : List VO) = []) := by
  repeat' first
    | refine brE (fun _ _ => ?_) (fun _ _ => ?_)
    | refine brN (fun _ _ => ?_) (fun _ _ => ?_)
    | refine brD (fun _ _ => ?_) (fun _ _ => ?_)
    | refine brP_intro (fun _ => ?_) (fun _ => ?_)
    | refine ck ?_ ?_
    | exact allp0
    | refine allp2 ?_ ?_
  all_goals try first
    | with_reducible rfl
    | exact Exists.intro _ rfl
    | exact tI_nw (by omega) (by omega)
    | exact tB_of (by assumption)
    | ((with_reducible show (_ : Int) ≤ _); omega)
    | ((with_reducible show (_ : Nat) ≤ _); omega)
    | ((with_reducible show (_ : Int) < _); omega)
theorem siz_n  : VC Try.prog 55 ([tF (.v (.pointer none))]) ([]) (tI 0) ([]) :=
  vc_wp mixed nonum ⟨cmOf [], spOf [], ghOf [], loOf [], []⟩ [] (by kernel_rfl) (siz_n_w )
theorem siz_d_w (p : Pc) (c : Bool) (x y : FV) : Ck [0, 2, 0, 20, 0, 14762, 0, 20, 1] [tI (sizF x + p.n + sizF y) = tI (sizF (FV.pt [fI p.s, fI p.o, fI p.n, fI p.k, fB c, x, y, fI (cntF x + 1 + cntF y), fI (sizF x + p.n + sizF y), fI (lnsF x + p.k + lnsF y), fI (bif c then blkF x else blkF x + 1), fI (1 + if hghF y > hghF x then hghF y else hghF x)] 0))] (
 ([] : List VO) = []) := by
  repeat' first
    | refine brE (fun _ _ => ?_) (fun _ _ => ?_)
    | refine brN (fun _ _ => ?_) (fun _ _ => ?_)
    | refine brD (fun _ _ => ?_) (fun _ _ => ?_)
    | refine brP_intro (fun _ => ?_) (fun _ => ?_)
    | refine ck ?_ ?_
    | exact allp0
    | refine allp2 ?_ ?_
  all_goals try first
    | with_reducible rfl
    | exact Exists.intro _ rfl
    | exact tI_nw (by omega) (by omega)
    | exact tB_of (by assumption)
    | rfl
    | ((with_reducible show (_ : Int) ≤ _); omega)
    | ((with_reducible show (_ : Nat) ≤ _); omega)
    | ((with_reducible show (_ : Int) < _); omega)
theorem siz_d (p : Pc) (c : Bool) (x y : FV) : VC Try.prog 55 ([tF (mkF c x p y)]) ([]) (tI (sizF (mkF c x p y))) ([]) :=
  vc_wp mixed nonum ⟨cmOf [], spOf [], ghOf [], loOf [], []⟩ [] (by kernel_rfl) (siz_d_w p c x y)
theorem siz_t : ∀ t : Tr, VC Try.prog 55 [tF (enc t)] [] (tI (sizF (enc t))) []
  | .nil => siz_n
  | .nd p c l r => siz_d p c (enc l) (enc r)
theorem siz_x (x : FV) (h : isT x) : VC Try.prog 55 [tF x] [] (tI (sizF x)) [] := by
  obtain ⟨t, rfl, _⟩ := h
  exact siz_t t
noncomputable def t55_0_SA  : List TV → List VO → Option Alt
  | [(.o (.c (.f x)))], _ => some (.one (tI (sizF x)) [])
  | _, _ => none
theorem lns_n_w  : Ck [0, 2, 0, 20, 0, 2, 0, 20, 1] [tI 0 = tI 0] (
 ([] : List VO) = []) := by
  repeat' first
    | refine brE (fun _ _ => ?_) (fun _ _ => ?_)
    | refine brN (fun _ _ => ?_) (fun _ _ => ?_)
    | refine brD (fun _ _ => ?_) (fun _ _ => ?_)
    | refine brP_intro (fun _ => ?_) (fun _ => ?_)
    | refine ck ?_ ?_
    | exact allp0
    | refine allp2 ?_ ?_
  all_goals try first
    | with_reducible rfl
    | exact Exists.intro _ rfl
    | exact tI_nw (by omega) (by omega)
    | exact tB_of (by assumption)
    | ((with_reducible show (_ : Int) ≤ _); omega)
    | ((with_reducible show (_ : Nat) ≤ _); omega)
    | ((with_reducible show (_ : Int) < _); omega)
theorem lns_n  : VC Try.prog 57 ([tF (.v (.pointer none))]) ([]) (tI 0) ([]) :=
  vc_wp mixed nonum ⟨cmOf [], spOf [], ghOf [], loOf [], []⟩ [] (by kernel_rfl) (lns_n_w )
theorem lns_d_w (p : Pc) (c : Bool) (x y : FV) : Ck [0, 2, 0, 20, 0, 14762, 0, 20, 1] [tI (lnsF x + p.k + lnsF y) = tI (lnsF (FV.pt [fI p.s, fI p.o, fI p.n, fI p.k, fB c, x, y, fI (cntF x + 1 + cntF y), fI (sizF x + p.n + sizF y), fI (lnsF x + p.k + lnsF y), fI (bif c then blkF x else blkF x + 1), fI (1 + if hghF y > hghF x then hghF y else hghF x)] 0))] (
 ([] : List VO) = []) := by
  repeat' first
    | refine brE (fun _ _ => ?_) (fun _ _ => ?_)
    | refine brN (fun _ _ => ?_) (fun _ _ => ?_)
    | refine brD (fun _ _ => ?_) (fun _ _ => ?_)
    | refine brP_intro (fun _ => ?_) (fun _ => ?_)
    | refine ck ?_ ?_
    | exact allp0
    | refine allp2 ?_ ?_
  all_goals try first
    | with_reducible rfl
    | exact Exists.intro _ rfl
    | exact tI_nw (by omega) (by omega)
    | exact tB_of (by assumption)
    | rfl
    | ((with_reducible show (_ : Int) ≤ _); omega)
    | ((with_reducible show (_ : Nat) ≤ _); omega)
    | ((with_reducible show (_ : Int) < _); omega)
theorem lns_d (p : Pc) (c : Bool) (x y : FV) : VC Try.prog 57 ([tF (mkF c x p y)]) ([]) (tI (lnsF (mkF c x p y))) ([]) :=
  vc_wp mixed nonum ⟨cmOf [], spOf [], ghOf [], loOf [], []⟩ [] (by kernel_rfl) (lns_d_w p c x y)
theorem lns_t : ∀ t : Tr, VC Try.prog 57 [tF (enc t)] [] (tI (lnsF (enc t))) []
  | .nil => lns_n
  | .nd p c l r => lns_d p c (enc l) (enc r)
theorem lns_x (x : FV) (h : isT x) : VC Try.prog 57 [tF x] [] (tI (lnsF x)) [] := by
  obtain ⟨t, rfl, _⟩ := h
  exact lns_t t
noncomputable def t57_0_SA  : List TV → List VO → Option Alt
  | [(.o (.c (.f x)))], _ => some (.one (tI (lnsF x)) [])
  | _, _ => none
theorem blk_n_w  : Ck [0, 2, 0, 20, 0, 2, 0, 20, 1] [tI 0 = tI 0] (
 ([] : List VO) = []) := by
  repeat' first
    | refine brE (fun _ _ => ?_) (fun _ _ => ?_)
    | refine brN (fun _ _ => ?_) (fun _ _ => ?_)
    | refine brD (fun _ _ => ?_) (fun _ _ => ?_)
    | refine brP_intro (fun _ => ?_) (fun _ => ?_)
    | refine ck ?_ ?_
    | exact allp0
    | refine allp2 ?_ ?_
  all_goals try first
    | with_reducible rfl
    | exact Exists.intro _ rfl
    | exact tI_nw (by omega) (by omega)
    | exact tB_of (by assumption)
    | ((with_reducible show (_ : Int) ≤ _); omega)
    | ((with_reducible show (_ : Nat) ≤ _); omega)
    | ((with_reducible show (_ : Int) < _); omega)
theorem blk_n  : VC Try.prog 68 ([tF (.v (.pointer none))]) ([]) (tI 0) ([]) :=
  vc_wp mixed nonum ⟨cmOf [], spOf [], ghOf [], loOf [], []⟩ [] (by kernel_rfl) (blk_n_w )
theorem blk_d_w (p : Pc) (c : Bool) (x y : FV) : Ck [0, 2, 0, 20, 0, 14762, 0, 20, 1] [tI (bif c then blkF x else blkF x + 1) = tI (blkF (FV.pt [fI p.s, fI p.o, fI p.n, fI p.k, fB c, x, y, fI (cntF x + 1 + cntF y), fI (sizF x + p.n + sizF y), fI (lnsF x + p.k + lnsF y), fI (bif c then blkF x else blkF x + 1), fI (1 + if hghF y > hghF x then hghF y else hghF x)] 0))] (
 ([] : List VO) = []) := by
  repeat' first
    | refine brE (fun _ _ => ?_) (fun _ _ => ?_)
    | refine brN (fun _ _ => ?_) (fun _ _ => ?_)
    | refine brD (fun _ _ => ?_) (fun _ _ => ?_)
    | refine brP_intro (fun _ => ?_) (fun _ => ?_)
    | refine ck ?_ ?_
    | exact allp0
    | refine allp2 ?_ ?_
  all_goals try first
    | with_reducible rfl
    | exact Exists.intro _ rfl
    | exact tI_nw (by omega) (by omega)
    | exact tB_of (by assumption)
    | rfl
    | ((with_reducible show (_ : Int) ≤ _); omega)
    | ((with_reducible show (_ : Nat) ≤ _); omega)
    | ((with_reducible show (_ : Int) < _); omega)
theorem blk_d (p : Pc) (c : Bool) (x y : FV) : VC Try.prog 68 ([tF (mkF c x p y)]) ([]) (tI (blkF (mkF c x p y))) ([]) :=
  vc_wp mixed nonum ⟨cmOf [], spOf [], ghOf [], loOf [], []⟩ [] (by kernel_rfl) (blk_d_w p c x y)
theorem blk_t : ∀ t : Tr, VC Try.prog 68 [tF (enc t)] [] (tI (blkF (enc t))) []
  | .nil => blk_n
  | .nd p c l r => blk_d p c (enc l) (enc r)
theorem blk_x (x : FV) (h : isT x) : VC Try.prog 68 [tF x] [] (tI (blkF x)) [] := by
  obtain ⟨t, rfl, _⟩ := h
  exact blk_t t
noncomputable def t68_0_SA  : List TV → List VO → Option Alt
  | [(.o (.c (.f x)))], _ => some (.one (tI (blkF x)) [])
  | _, _ => none
theorem hgh_n_w  : Ck [0, 2, 0, 20, 0, 2, 0, 20, 1] [tI 0 = tI 0] (
 ([] : List VO) = []) := by
  repeat' first
    | refine brE (fun _ _ => ?_) (fun _ _ => ?_)
    | refine brN (fun _ _ => ?_) (fun _ _ => ?_)
    | refine brD (fun _ _ => ?_) (fun _ _ => ?_)
    | refine brP_intro (fun _ => ?_) (fun _ => ?_)
    | refine ck ?_ ?_
    | exact allp0
    | refine allp2 ?_ ?_
  all_goals try first
    | with_reducible rfl
    | exact Exists.intro _ rfl
    | exact tI_nw (by omega) (by omega)
    | exact tB_of (by assumption)
    | ((with_reducible show (_ : Int) ≤ _); omega)
    | ((with_reducible show (_ : Nat) ≤ _); omega)
    | ((with_reducible show (_ : Int) < _); omega)
theorem hgh_n  : VC Try.prog 63 ([tF (.v (.pointer none))]) ([]) (tI 0) ([]) :=
  vc_wp mixed nonum ⟨cmOf [], spOf [], ghOf [], loOf [], []⟩ [] (by kernel_rfl) (hgh_n_w )
theorem hgh_d_w (p : Pc) (c : Bool) (x y : FV) : Ck [0, 2, 0, 20, 0, 14762, 0, 20, 1] [tI (1 + if hghF y > hghF x then hghF y else hghF x) = tI (hghF (FV.pt [fI p.s, fI p.o, fI p.n, fI p.k, fB c, x, y, fI (cntF x + 1 + cntF y), fI (sizF x + p.n + sizF y), fI (lnsF x + p.k + lnsF y), fI (bif c then blkF x else blkF x + 1), fI (1 + if hghF y > hghF x then hghF y else hghF x)] 0))] (
 ([] : List VO) = []) := by
  repeat' first
    | refine brE (fun _ _ => ?_) (fun _ _ => ?_)
    | refine brN (fun _ _ => ?_) (fun _ _ => ?_)
    | refine brD (fun _ _ => ?_) (fun _ _ => ?_)
    | refine brP_intro (fun _ => ?_) (fun _ => ?_)
    | refine ck ?_ ?_
    | exact allp0
    | refine allp2 ?_ ?_
  all_goals try first
    | with_reducible rfl
    | exact Exists.intro _ rfl
    | exact tI_nw (by omega) (by omega)
    | exact tB_of (by assumption)
    | rfl
    | ((with_reducible show (_ : Int) ≤ _); omega)
    | ((with_reducible show (_ : Nat) ≤ _); omega)
    | ((with_reducible show (_ : Int) < _); omega)
theorem hgh_d (p : Pc) (c : Bool) (x y : FV) : VC Try.prog 63 ([tF (mkF c x p y)]) ([]) (tI (hghF (mkF c x p y))) ([]) :=
  vc_wp mixed nonum ⟨cmOf [], spOf [], ghOf [], loOf [], []⟩ [] (by kernel_rfl) (hgh_d_w p c x y)
theorem hgh_t : ∀ t : Tr, VC Try.prog 63 [tF (enc t)] [] (tI (hghF (enc t))) []
  | .nil => hgh_n
  | .nd p c l r => hgh_d p c (enc l) (enc r)
theorem hgh_x (x : FV) (h : isT x) : VC Try.prog 63 [tF x] [] (tI (hghF x)) [] := by
  obtain ⟨t, rfl, _⟩ := h
  exact hgh_t t
noncomputable def t63_0_SA  : List TV → List VO → Option Alt
  | [(.o (.c (.f x)))], _ => some (.one (tI (hghF x)) [])
  | _, _ => none
theorem red_n_w  : Ck [0, 2, 0, 871697315, 0, 20, 1] [tB false = tB false, tB false = tB false] (
 ([] : List VO) = []) := by
  repeat' first
    | refine brE (fun _ _ => ?_) (fun _ _ => ?_)
    | refine brN (fun _ _ => ?_) (fun _ _ => ?_)
    | refine brD (fun _ _ => ?_) (fun _ _ => ?_)
    | refine brP_intro (fun _ => ?_) (fun _ => ?_)
    | refine ck ?_ ?_
    | exact allp0
    | refine allp2 ?_ ?_
  all_goals try first
    | with_reducible rfl
    | exact Exists.intro _ rfl
    | exact tI_nw (by omega) (by omega)
    | exact tB_of (by assumption)
    | ((with_reducible show (_ : Int) ≤ _); omega)
    | ((with_reducible show (_ : Nat) ≤ _); omega)
    | ((with_reducible show (_ : Int) < _); omega)
theorem red_n  : VC Try.prog 40 ([tF (.v (.pointer none))]) ([]) (tB false) ([]) :=
  vc_wp mixed nonum ⟨cmOf [], spOf [(1, [2])], ghOf [], loOf [], []⟩ [] (by kernel_rfl) (red_n_w )
theorem red_d_w (p : Pc) (c : Bool) (x y : FV) : Ck [0, 2, 0, 871697315, 0, 20, 1] [tB true = tB true, tB c = tB c] (
 ([] : List VO) = []) := by
  repeat' first
    | refine brE (fun _ _ => ?_) (fun _ _ => ?_)
    | refine brN (fun _ _ => ?_) (fun _ _ => ?_)
    | refine brD (fun _ _ => ?_) (fun _ _ => ?_)
    | refine brP_intro (fun _ => ?_) (fun _ => ?_)
    | refine ck ?_ ?_
    | exact allp0
    | refine allp2 ?_ ?_
  all_goals try first
    | with_reducible rfl
    | exact Exists.intro _ rfl
    | exact tI_nw (by omega) (by omega)
    | exact tB_of (by assumption)
    | ((with_reducible show (_ : Int) ≤ _); omega)
    | ((with_reducible show (_ : Nat) ≤ _); omega)
    | ((with_reducible show (_ : Int) < _); omega)
theorem red_d (p : Pc) (c : Bool) (x y : FV) : VC Try.prog 40 ([tF (mkF c x p y)]) ([]) (tB c) ([]) :=
  vc_wp mixed nonum ⟨cmOf [], spOf [(1, [2])], ghOf [], loOf [], []⟩ [] (by kernel_rfl) (red_d_w p c x y)
theorem red_t : ∀ t : Tr, VC Try.prog 40 [tF (enc t)] [] (tB (redF (enc t))) []
  | .nil => red_n
  | .nd p c l r => red_d p c (enc l) (enc r)
theorem red_x (x : FV) (h : isT x) : VC Try.prog 40 [tF x] [] (tB (redF x)) [] := by
  obtain ⟨t, rfl, _⟩ := h
  exact red_t t
noncomputable def t40_0_SA  : List TV → List VO → Option Alt
  | [(.o (.c (.f x)))], _ => some (.one (tB (redF x)) [])
  | _, _ => none
noncomputable def tq_made (c : Bool) (x y : FV) (p : Pc) (hx : isT x) (hy : isT y) (hp : Fit p) : FuncId → List TV → List VO → Option Alt := tabOf [(40, t40_0_SA), (63, t63_0_SA), (68, t68_0_SA), (57, t57_0_SA), (55, t55_0_SA), (44, t44_0_SA)]
theorem made_w (c : Bool) (x y : FV) (p : Pc) (hx : isT x) (hy : isT y) (hp : Fit p) : Ck [0, 20, 0, 1195742, 0, 70680734156, 0, 51526255023002, 0, 5725139447216, 0, 133103, 0, 20] [VC Try.prog 44 [tF x] [] (tI (cntF x)) [], tI (IntKind.i64.wrap (cntF x + 1)) = tI (cntF x + 1), VC Try.prog 44 [tF y] [] (tI (cntF y)) [], tI (IntKind.i64.wrap (cntF x + 1 + cntF y)) = tI (cntF x + 1 + cntF y), VC Try.prog 55 [tF x] [] (tI (sizF x)) [], tI (IntKind.i64.wrap (sizF x + p.n)) = tI (sizF x + p.n), VC Try.prog 55 [tF y] [] (tI (sizF y)) [], tI (IntKind.i64.wrap (sizF x + p.n + sizF y)) = tI (sizF x + p.n + sizF y), VC Try.prog 57 [tF x] [] (tI (lnsF x)) [], tI (IntKind.i64.wrap (lnsF x + p.k)) = tI (lnsF x + p.k), VC Try.prog 57 [tF y] [] (tI (lnsF y)) [], tI (IntKind.i64.wrap (lnsF x + p.k + lnsF y)) = tI (lnsF x + p.k + lnsF y), VC Try.prog 68 [tF x] [] (tI (blkF x)) []] (
 brP (!c) (
 Ck [0, 96953537, 0, 7853256443, 0, 20, 0, 170, 1] [tI (IntKind.i64.wrap (blkF x + 1)) = tI (blkF x + 1), VC Try.prog 63 [tF x] [] (tI (hghF x)) [], VC Try.prog 63 [tF y] [] (tI (hghF y)) [], tI (IntKind.i64.wrap (1 + if hghF y > hghF x then hghF y else hghF x)) = tI (1 + if hghF y > hghF x then hghF y else hghF x), tF (FV.pt [fI p.s, fI p.o, fI p.n, fI p.k, fB c, x, y, fI (cntF x + 1 + cntF y), fI (sizF x + p.n + sizF y), fI (lnsF x + p.k + lnsF y), fI (blkF x + 1), fI (1 + if hghF y > hghF x then hghF y else hghF x)] 0) = tF (FV.pt [fI p.s, fI p.o, fI p.n, fI p.k, fB c, x, y, fI (cntF x + 1 + cntF y), fI (sizF x + p.n + sizF y), fI (lnsF x + p.k + lnsF y), fI (bif c then blkF x else blkF x + 1), fI (1 + if hghF y > hghF x then hghF y else hghF x)] 0)] (
 ([] : List VO) = [])) (
 Ck [0, 7853256443, 0, 20, 0, 170, 1] [VC Try.prog 63 [tF x] [] (tI (hghF x)) [], VC Try.prog 63 [tF y] [] (tI (hghF y)) [], tI (IntKind.i64.wrap (1 + if hghF y > hghF x then hghF y else hghF x)) = tI (1 + if hghF y > hghF x then hghF y else hghF x), tF (FV.pt [fI p.s, fI p.o, fI p.n, fI p.k, fB c, x, y, fI (cntF x + 1 + cntF y), fI (sizF x + p.n + sizF y), fI (lnsF x + p.k + lnsF y), fI (blkF x), fI (1 + if hghF y > hghF x then hghF y else hghF x)] 0) = tF (FV.pt [fI p.s, fI p.o, fI p.n, fI p.k, fB c, x, y, fI (cntF x + 1 + cntF y), fI (sizF x + p.n + sizF y), fI (lnsF x + p.k + lnsF y), fI (bif c then blkF x else blkF x + 1), fI (1 + if hghF y > hghF x then hghF y else hghF x)] 0)] (
 ([] : List VO) = []))) := by
  have hbx := hx.bd
  have hby := hy.bd
  have hbp := hp
  unfold Fit at hbp
  repeat' first
    | refine brE (fun _ _ => ?_) (fun _ _ => ?_)
    | refine brN (fun _ _ => ?_) (fun _ _ => ?_)
    | refine brD (fun _ _ => ?_) (fun _ _ => ?_)
    | refine brP_intro (fun _ => ?_) (fun _ => ?_)
    | refine ck ?_ ?_
    | exact allp0
    | refine allp2 ?_ ?_
  repeat' first
    | refine brE (fun _ _ => ?_) (fun _ _ => ?_)
    | refine brN (fun _ _ => ?_) (fun _ _ => ?_)
    | refine brD (fun _ _ => ?_) (fun _ _ => ?_)
    | refine brP_intro (fun _ => ?_) (fun _ => ?_)
    | refine ck ?_ ?_
    | exact allp0
    | refine allp2 ?_ ?_
  all_goals try first
    | with_reducible rfl
    | exact Exists.intro _ rfl
    | exact tI_nw (by omega) (by omega)
    | exact tB_of (by assumption)
    | exact cnt_n 
    | exact cnt_d _ _ _ _
    | exact cnt_x _ (by first | assumption | omega | (simp; done))
    | exact siz_n 
    | exact siz_d _ _ _ _
    | exact siz_x _ (by first | assumption | omega | (simp; done))
    | exact lns_n 
    | exact lns_d _ _ _ _
    | exact lns_x _ (by first | assumption | omega | (simp; done))
    | exact blk_n 
    | exact blk_d _ _ _ _
    | exact blk_x _ (by first | assumption | omega | (simp; done))
    | exact hgh_n 
    | exact hgh_d _ _ _ _
    | exact hgh_x _ (by first | assumption | omega | (simp; done))
    | exact tI_nw (by split <;> omega) (by split <;> omega)
    | (cases c <;> first | rfl | contradiction)
    | ((with_reducible show (_ : Int) ≤ _); omega)
    | ((with_reducible show (_ : Nat) ≤ _); omega)
    | ((with_reducible show (_ : Int) < _); omega)
theorem made (c : Bool) (x y : FV) (p : Pc) (hx : isT x) (hy : isT y) (hp : Fit p) : VC Try.prog 69 ([tB c, tF x, tA p.cs, tF y]) ([]) (tF (mkF c x p y)) ([]) :=
  vc_wp mixed nonum ⟨cmOf [(2, [(2, .tb (tq_made c x y p hx hy hp) [] none), (3, .nw), (5, .tb (tq_made c x y p hx hy hp) [] none), (6, .nw)]), (3, [(2, .tb (tq_made c x y p hx hy hp) [] none), (6, .nw), (8, .tb (tq_made c x y p hx hy hp) [] none), (9, .nw)]), (4, [(2, .tb (tq_made c x y p hx hy hp) [] none), (5, .nw), (7, .tb (tq_made c x y p hx hy hp) [] none), (8, .nw)]), (5, [(2, .tb (tq_made c x y p hx hy hp) [] none)]), (7, [(4, .nw)]), (8, [(2, .tb (tq_made c x y p hx hy hp) [] none), (4, .tb (tq_made c x y p hx hy hp) [] none), (6, .nw)])], spOf [], ghOf [], loOf [], []⟩ [0] (by kernel_rfl) (made_w c x y p hx hy hp)
noncomputable def t69_0_SA  : List TV → List VO → Option Alt
  | [(.o (.c (.f (.v (.bool c))))), (.o (.c (.f x))), (.o (.ag [(.f (.v (.int .i64 a))), (.f (.v (.int .i64 b))), (.f (.v (.int .i64 d))), (.f (.v (.int .i64 e)))])), (.o (.c (.f y)))], _ => some (.one (tF (mkF c x ⟨a, b, d, e⟩ y)) [])
  | _, _ => none
noncomputable def tq_black_d (c : Bool) (x y : FV) (p : Pc) (hx : isT x) (hy : isT y) (hp : Fit p) (hm : isT (mkF c x p y)) : FuncId → List TV → List VO → Option Alt := tabOf [(69, t69_0_SA), (40, t40_0_SA), (63, t63_0_SA), (68, t68_0_SA), (57, t57_0_SA), (55, t55_0_SA), (44, t44_0_SA)]
theorem black_d_w (c : Bool) (x y : FV) (p : Pc) (hx : isT x) (hy : isT y) (hp : Fit p) (hm : isT (mkF c x p y)) : Ck [0, 2, 0] [] (
 brP (c) (
 Ck [1856, 0, 6566486723183, 0, 20, 1] [VC Try.prog 40 [tF (FV.pt [fI p.s, fI p.o, fI p.n, fI p.k, fB c, x, y, fI (cntF x + 1 + cntF y), fI (sizF x + p.n + sizF y), fI (lnsF x + p.k + lnsF y), fI (bif c then blkF x else blkF x + 1), fI (1 + if hghF y > hghF x then hghF y else hghF x)] 0)] [] (tB c) [], tB c = tB true, VC Try.prog 69 [tB false, tF x, tA [cI p.s, cI p.o, cI p.n, cI p.k], tF y] [] (tF (FV.pt [fI p.s, fI p.o, fI p.n, fI p.k, fB false, x, y, fI (cntF x + 1 + cntF y), fI (sizF x + p.n + sizF y), fI (lnsF x + p.k + lnsF y), fI (bif false then blkF x else blkF x + 1), fI (1 + if hghF y > hghF x then hghF y else hghF x)] 0)) [], tF (FV.pt [fI p.s, fI p.o, fI p.n, fI p.k, fB false, x, y, fI (cntF x + 1 + cntF y), fI (sizF x + p.n + sizF y), fI (lnsF x + p.k + lnsF y), fI (bif false then blkF x else blkF x + 1), fI (1 + if hghF y > hghF x then hghF y else hghF x)] 0) = tF (FV.pt [fI p.s, fI p.o, fI p.n, fI p.k, fB false, x, y, fI (cntF x + 1 + cntF y), fI (sizF x + p.n + sizF y), fI (lnsF x + p.k + lnsF y), fI (bif false then blkF x else blkF x + 1), fI (1 + if hghF y > hghF x then hghF y else hghF x)] 0)] (
 ([] : List VO) = [])) (
 Ck [1856, 0, 20, 0, 20, 1] [VC Try.prog 40 [tF (FV.pt [fI p.s, fI p.o, fI p.n, fI p.k, fB c, x, y, fI (cntF x + 1 + cntF y), fI (sizF x + p.n + sizF y), fI (lnsF x + p.k + lnsF y), fI (bif c then blkF x else blkF x + 1), fI (1 + if hghF y > hghF x then hghF y else hghF x)] 0)] [] (tB c) [], tB c = tB false, tF (FV.pt [fI p.s, fI p.o, fI p.n, fI p.k, fB c, x, y, fI (cntF x + 1 + cntF y), fI (sizF x + p.n + sizF y), fI (lnsF x + p.k + lnsF y), fI (bif c then blkF x else blkF x + 1), fI (1 + if hghF y > hghF x then hghF y else hghF x)] 0) = tF (FV.pt [fI p.s, fI p.o, fI p.n, fI p.k, fB false, x, y, fI (cntF x + 1 + cntF y), fI (sizF x + p.n + sizF y), fI (lnsF x + p.k + lnsF y), fI (bif false then blkF x else blkF x + 1), fI (1 + if hghF y > hghF x then hghF y else hghF x)] 0)] (
 ([] : List VO) = []))) := by
  repeat' first
    | refine brE (fun _ _ => ?_) (fun _ _ => ?_)
    | refine brN (fun _ _ => ?_) (fun _ _ => ?_)
    | refine brD (fun _ _ => ?_) (fun _ _ => ?_)
    | refine brP_intro (fun _ => ?_) (fun _ => ?_)
    | refine ck ?_ ?_
    | exact allp0
    | refine allp2 ?_ ?_
  repeat' first
    | refine brE (fun _ _ => ?_) (fun _ _ => ?_)
    | refine brN (fun _ _ => ?_) (fun _ _ => ?_)
    | refine brD (fun _ _ => ?_) (fun _ _ => ?_)
    | refine brP_intro (fun _ => ?_) (fun _ => ?_)
    | refine ck ?_ ?_
    | exact allp0
    | refine allp2 ?_ ?_
  all_goals try first
    | with_reducible rfl
    | exact Exists.intro _ rfl
    | exact tI_nw (by omega) (by omega)
    | exact tB_of (by assumption)
    | exact red_n 
    | exact red_d _ _ _ _
    | exact red_x _ (by first | assumption | omega | (simp; done))
    | exact made _ _ _ _ (by first | assumption | omega | (simp; done)) (by first | assumption | omega | (simp; done)) (by first | assumption | omega | (simp; done))
    | exact red_d p c x y
    | exact made false x y p hx hy hp
    | (rw [‹c = false›])
    | ((with_reducible show (_ : Int) ≤ _); omega)
    | ((with_reducible show (_ : Nat) ≤ _); omega)
    | ((with_reducible show (_ : Int) < _); omega)
theorem black_d (c : Bool) (x y : FV) (p : Pc) (hx : isT x) (hy : isT y) (hp : Fit p) (hm : isT (mkF c x p y)) : VC Try.prog 75 ([tF (mkF c x p y)]) ([]) (tF (mkF false x p y)) ([]) :=
  vc_wp mixed nonum ⟨cmOf [(1, [(1, .tb (tq_black_d c x y p hx hy hp hm) [] none)]), (3, [(12, .tb (tq_black_d c x y p hx hy hp hm) [] none)])], spOf [(1, [1])], ghOf [], loOf [], []⟩ [] (by kernel_rfl) (black_d_w c x y p hx hy hp hm)
theorem fit_w (p : Pc) : Ck [0, 20, 0] [] (
 brP (decide (p.n ≥ 1)) (
 brP (decide (p.n ≤ 2147483647)) (
 brP (decide (p.k ≥ 0)) (
 Ck [14537434500918211133588627, 0, 20, 1] [tB (decide (p.n ≥ 1)) = tB true, tB (decide (p.n ≤ 2147483647)) = tB true, tB (decide (p.k ≥ 0)) = tB true, tB (decide (p.k ≤ p.n)) = tB (decide (Fit p))] (
 ([] : List VO) = [])) (
 Ck [14537434500918211133588627, 0, 20, 1] [tB (decide (p.n ≥ 1)) = tB true, tB (decide (p.n ≤ 2147483647)) = tB true, tB (decide (p.k ≥ 0)) = tB false, tB false = tB (decide (Fit p))] (
 ([] : List VO) = []))) (
 Ck [14537434500918211133588627, 0, 20, 1] [tB (decide (p.n ≥ 1)) = tB true, tB (decide (p.n ≤ 2147483647)) = tB false, tB false = tB false, tB false = tB (decide (Fit p))] (
 ([] : List VO) = []))) (
 Ck [14537434500918211133588627, 0, 20, 1] [tB (decide (p.n ≥ 1)) = tB false, tB false = tB false, tB false = tB false, tB false = tB (decide (Fit p))] (
 ([] : List VO) = []))) := by
  repeat' first
    | refine brE (fun _ _ => ?_) (fun _ _ => ?_)
    | refine brN (fun _ _ => ?_) (fun _ _ => ?_)
    | refine brD (fun _ _ => ?_) (fun _ _ => ?_)
    | refine brP_intro (fun _ => ?_) (fun _ => ?_)
    | refine ck ?_ ?_
    | exact allp0
    | refine allp2 ?_ ?_
  all_goals try first
    | with_reducible rfl
    | exact Exists.intro _ rfl
    | exact tI_nw (by omega) (by omega)
    | exact tB_of (by assumption)
    | exact tB_dd (by unfold Fit; omega)
    | exact tB_df (by unfold Fit; omega)
    | ((with_reducible show (_ : Int) ≤ _); omega)
    | ((with_reducible show (_ : Nat) ≤ _); omega)
    | ((with_reducible show (_ : Int) < _); omega)
    | (simp only [*]; done)
theorem fit (p : Pc) : VC Try.prog 42 ([tA p.cs]) ([]) (tB (decide (Fit p))) ([]) :=
  vc_wp mixed nonum ⟨cmOf [], spOf [(1, [4, 10, 15])], ghOf [], loOf [], []⟩ [] (by kernel_rfl) (fit_w p)
end Go.Proofs.Ytpjlgjhkdligfaa.Vg
