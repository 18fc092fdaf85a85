/- Building, plain pieces, searching. No law, no condition. -/
import Derived.Test.YtpjlgjhkdligfaaKSH
namespace Go.Proofs.Ytpjlgjhkdligfaa.Vg
open Go.RowKit
set_option maxRecDepth 100000
set_option linter.unusedVariables false
set_option linter.unusedSimpArgs false
noncomputable def t42_0_SI  : List TV → List VO → Option Alt
  | [(.o (.ag [(.f (.v (.int .i64 a))), (.f (.v (.int .i64 b))), (.f (.v (.int .i64 d))), (.f (.v (.int .i64 e)))]))], _ => some (.one (tB (decide (Fit ⟨a, b, d, e⟩))) [])
  | _, _ => none
theorem trows_n_w  : Ck [0, 20, 0, 1883, 0, 20, 1] [VC Try.prog 45 [tF (FV.v (Value.pointer none)), tF (FV.v (Value.slice none 0 0))] [] (tF (FV.v (Value.slice none 0 0))) [], tF (FV.v (Value.slice none 0 0)) = tF (FV.v (Value.slice none 0 0))] (
 ([] : List VO) = []) := by
  repeat' first
    | refine brE (fun _ _ => ?_) (fun _ _ => ?_)
    | refine brN (fun _ _ => ?_) (fun _ _ => ?_)
    | refine brD (fun _ _ => ?_) (fun _ _ => ?_)
    | refine brP_intro (fun _ => ?_) (fun _ => ?_)
    | refine ck ?_ ?_
    | exact allp0
    | refine allp2 ?_ ?_
  all_goals try first
    | with_reducible rfl
    | exact Exists.intro _ rfl
    | exact tI_nw (by omega) (by omega)
    | exact tB_of (by assumption)
    | exact rows_n 
    | exact rows_no _ _
    | exact rows_odd _ _ _ _ _ _ _ _ _ _ _ _ _ _ _ _ (by first | assumption | omega | (simp; done)) (by first | assumption | omega | (simp; done)) (by first | assumption | omega | (simp; done))
    | exact rows_odn _ _ _ _ _ _ _ _ _ _ (by first | assumption | omega | (simp; done)) (by first | assumption | omega | (simp; done))
    | exact rows_ond _ _ _ _ _ _ _ _ _ _ (by first | assumption | omega | (simp; done)) (by first | assumption | omega | (simp; done))
    | exact rows_onn _ _ _ _ (by first | assumption | omega | (simp; done))
    | exact rows_zdd _ _ _ _ _ _ _ _ _ _ _ _ _ _ _ (by first | assumption | omega | (simp; done)) (by first | assumption | omega | (simp; done)) (by first | assumption | omega | (simp; done))
    | exact rows_zdn _ _ _ _ _ _ _ _ _ (by first | assumption | omega | (simp; done)) (by first | assumption | omega | (simp; done))
    | exact rows_znd _ _ _ _ _ _ _ _ _ (by first | assumption | omega | (simp; done)) (by first | assumption | omega | (simp; done))
    | exact rows_znn _ _ _ (by first | assumption | omega | (simp; done))
    | exact rows_n
    | ((with_reducible show (_ : Int) ≤ _); omega)
    | ((with_reducible show (_ : Nat) ≤ _); omega)
    | ((with_reducible show (_ : Int) < _); omega)
theorem trows_n  : VC Try.prog 14 ([tT fN]) ([]) (tF (.v (.slice none 0 0))) ([]) :=
  vc_wp mixed nonum ⟨cmOf [(1, [(2, .tb (fun g xs H => some (.one (.o (.c (.f (.v (.slice none 0 0))))) H)) [] none)])], spOf [], ghOf [], loOf [], []⟩ [] (by kernel_rfl) (trows_n_w )
theorem trows_w (x : FV) (n : Nat) (l : List FV) (h : VC Try.prog 45 [tF x, tF (.v (.slice none 0 0))] [] (tC (.rw 0 n)) [.fx l 40]) : Ck [0, 20, 0, 1883, 0, 20, 1] [VC Try.prog 45 [tF x, tF (FV.v (Value.slice none 0 0))] [] (tC (CV.rw 0 n)) [VO.fx l 40], tC (CV.rw 0 n) = tC (CV.rw 0 n)] (
 ([VO.fx l 40] : List VO) = [VO.fx l 40]) := by
  repeat' first
    | refine brE (fun _ _ => ?_) (fun _ _ => ?_)
    | refine brN (fun _ _ => ?_) (fun _ _ => ?_)
    | refine brD (fun _ _ => ?_) (fun _ _ => ?_)
    | refine brP_intro (fun _ => ?_) (fun _ => ?_)
    | refine ck ?_ ?_
    | exact allp0
    | refine allp2 ?_ ?_
  all_goals try first
    | with_reducible rfl
    | exact Exists.intro _ rfl
    | exact tI_nw (by omega) (by omega)
    | exact tB_of (by assumption)
    | exact rows_n 
    | exact rows_no _ _
    | exact rows_odd _ _ _ _ _ _ _ _ _ _ _ _ _ _ _ _ (by first | assumption | omega | (simp; done)) (by first | assumption | omega | (simp; done)) (by first | assumption | omega | (simp; done))
    | exact rows_odn _ _ _ _ _ _ _ _ _ _ (by first | assumption | omega | (simp; done)) (by first | assumption | omega | (simp; done))
    | exact rows_ond _ _ _ _ _ _ _ _ _ _ (by first | assumption | omega | (simp; done)) (by first | assumption | omega | (simp; done))
    | exact rows_onn _ _ _ _ (by first | assumption | omega | (simp; done))
    | exact rows_zdd _ _ _ _ _ _ _ _ _ _ _ _ _ _ _ (by first | assumption | omega | (simp; done)) (by first | assumption | omega | (simp; done)) (by first | assumption | omega | (simp; done))
    | exact rows_zdn _ _ _ _ _ _ _ _ _ (by first | assumption | omega | (simp; done)) (by first | assumption | omega | (simp; done))
    | exact rows_znd _ _ _ _ _ _ _ _ _ (by first | assumption | omega | (simp; done)) (by first | assumption | omega | (simp; done))
    | exact rows_znn _ _ _ (by first | assumption | omega | (simp; done))
    | exact h
    | ((with_reducible show (_ : Int) ≤ _); omega)
    | ((with_reducible show (_ : Nat) ≤ _); omega)
    | ((with_reducible show (_ : Int) < _); omega)
theorem trows (x : FV) (n : Nat) (l : List FV) (h : VC Try.prog 45 [tF x, tF (.v (.slice none 0 0))] [] (tC (.rw 0 n)) [.fx l 40]) : VC Try.prog 14 ([tT x]) ([]) (tC (.rw 0 n)) ([.fx l 40]) :=
  vc_wp mixed nonum ⟨cmOf [(1, [(2, .tb (fun g xs H => some (.one (.o (.c (.rw 0 n))) [.fx l 40])) [] none)])], spOf [], ghOf [], loOf [], []⟩ [] (by kernel_rfl) (trows_w x n l h)
def pls (l : List Int) (i : Nat) : List Pc := (l.take i).map fun n => ⟨0, 0, n, 0⟩
def fits (l : List Pc) (i : Nat) : List Pc := (l.take i).filter fun p => decide (Fit p)
theorem take_getD {α : Type} [Inhabited α] {l : List α} {i : Nat} (h : i < l.length) : l.take (i + 1) = l.take i ++ [l.getD i default] := by
  rw [List.take_add_one, List.getD_eq_getElem?_getD, List.getElem?_eq_getElem h]; rfl
theorem fits_y {l : List Pc} {i : Nat} (h : i < l.length) (hf : Fit (l.getD i default)) : fits l (i + 1) = fits l i ++ [l.getD i default] := by
  rw [fits, take_getD h, List.filter_append, List.filter_cons, if_pos (decide_eq_true hf)]; rfl
theorem fits_n {l : List Pc} {i : Nat} (h : i < l.length) (hf : ¬ Fit (l.getD i default)) : fits l (i + 1) = fits l i := by
  rw [fits, take_getD h, List.filter_append, List.filter_cons, if_neg (by rw [decide_eq_false hf]; exact Bool.noConfusion), List.filter_nil, List.append_nil]; rfl
theorem fits_len (l : List Pc) (i : Nat) : (fits l i).length ≤ i := Nat.le_trans (List.length_filter_le _ _) (by rw [List.length_take]; omega)
theorem pls_s {l : List Int} {i : Nat} (h : i < l.length) : pls l (i + 1) = pls l i ++ [⟨0, 0, l.getD i 0, 0⟩] := by
  rw [pls, take_getD h, List.map_append]; rfl
theorem map_at {l : List Int} {i : Nat} (h : i < l.length) : ((l.map fI).drop i).take 1 = [fI (l.getD i 0)] := by
  rw [List.drop_eq_getElem_cons (by rw [List.length_map]; exact h), List.take_succ_cons, List.take_zero, List.getElem_map, List.getD_eq_getElem?_getD, List.getElem?_eq_getElem h]; rfl
noncomputable def tq_tbuild (z : Option Bool) (l : List Pc) (w : FV) (hl : l.length ≤ 1073741824) (hw : ∀ z, VC Try.prog 43 [tF (.sl z (rowP (fits l l.length)) (fits l l.length).length)] [] (tF w) []) : FuncId → List TV → List VO → Option Alt := tabOf [(42, t42_0_SI), (75, t75_0_SB), (69, t69_0_SA), (40, t40_0_SA), (63, t63_0_SA), (68, t68_0_SA), (57, t57_0_SA), (55, t55_0_SA), (44, t44_0_SA)]
def tbuild_b1 (z : Option Bool) (l : List Pc) (w : FV) (hl : l.length ≤ 1073741824) (hw : ∀ z, VC Try.prog 43 [tF (.sl z (rowP (fits l l.length)) (fits l l.length).length)] [] (tF w) []) (i : Nat) : Prop :=
 Ck [0, 2] [] (
 brP (decide ((↑i : Int) < (↑l.length : Int))) (
 Ck [0, 15029, 0] [(0 : Int) ≤ (↑i : Int), (↑i : Int) < (↑l.length : Int), (List.take 4 (List.drop (i * 4) (rowP l)) : List FV) = [fI (l.getD (i * 4 / 4) { s := 0, o := 0, n := 0, k := 0 }).s, fI (l.getD (i * 4 / 4) { s := 0, o := 0, n := 0, k := 0 }).o, fI (l.getD (i * 4 / 4) { s := 0, o := 0, n := 0, k := 0 }).n, fI (l.getD (i * 4 / 4) { s := 0, o := 0, n := 0, k := 0 }).k]] (
 brP (decide (Fit { s := (l.getD (i * 4 / 4) { s := 0, o := 0, n := 0, k := 0 }).s, o := (l.getD (i * 4 / 4) { s := 0, o := 0, n := 0, k := 0 }).o, n := (l.getD (i * 4 / 4) { s := 0, o := 0, n := 0, k := 0 }).n, k := (l.getD (i * 4 / 4) { s := 0, o := 0, n := 0, k := 0 }).k })) (
 Ck [398, 0, 150356, 0, 197, 2] [VC Try.prog 42 [tA [cI (l.getD (i * 4 / 4) { s := 0, o := 0, n := 0, k := 0 }).s, cI (l.getD (i * 4 / 4) { s := 0, o := 0, n := 0, k := 0 }).o, cI (l.getD (i * 4 / 4) { s := 0, o := 0, n := 0, k := 0 }).n, cI (l.getD (i * 4 / 4) { s := 0, o := 0, n := 0, k := 0 }).k]] [] (tB (decide (Fit { s := (l.getD (i * 4 / 4) { s := 0, o := 0, n := 0, k := 0 }).s, o := (l.getD (i * 4 / 4) { s := 0, o := 0, n := 0, k := 0 }).o, n := (l.getD (i * 4 / 4) { s := 0, o := 0, n := 0, k := 0 }).n, k := (l.getD (i * 4 / 4) { s := 0, o := 0, n := 0, k := 0 }).k }))) [], tB (decide (Fit { s := (l.getD (i * 4 / 4) { s := 0, o := 0, n := 0, k := 0 }).s, o := (l.getD (i * 4 / 4) { s := 0, o := 0, n := 0, k := 0 }).o, n := (l.getD (i * 4 / 4) { s := 0, o := 0, n := 0, k := 0 }).n, k := (l.getD (i * 4 / 4) { s := 0, o := 0, n := 0, k := 0 }).k })) = tB true, 4 = 4, ((fits l i).length + 1) * 32 ≤ 140737488355328, tI (IntKind.i64.wrap (↑(i + 1) : Int)) = tI (↑(i + 1) : Int)] (
 ∃ j : Nat, Ck [1, 1, 1] [j ≤ l.length, (l.length - j).succ ≤ l.length - i, [(2, tC (CV.rp 0 0)), (3, tC (CV.rw 1 ((fits l i).length + 1))), (6, tF (FV.sl z (rowP l) l.length)), (7, tI (↑l.length : Int)), (8, tI (↑(i + 1) : Int))] = [(2, tC (CV.rp 0 0)), (3, tC (CV.rw 1 (fits l j).length)), (6, tF (FV.sl z (rowP l) l.length)), (7, tI (↑l.length : Int)), (8, tI (↑j : Int))]] (
 ([VO.bx [CV.f (FV.v (Value.pointer none))] 35, VO.fx (rowP (fits l i) ++ [fI (l.getD (i * 4 / 4) { s := 0, o := 0, n := 0, k := 0 }).s, fI (l.getD (i * 4 / 4) { s := 0, o := 0, n := 0, k := 0 }).o, fI (l.getD (i * 4 / 4) { s := 0, o := 0, n := 0, k := 0 }).n, fI (l.getD (i * 4 / 4) { s := 0, o := 0, n := 0, k := 0 }).k]) 32] : List VO) = [VO.bx [CV.f (FV.v (Value.pointer none))] 35, VO.fx (rowP (fits l j)) 32]))) (
 Ck [398, 0, 197, 2] [VC Try.prog 42 [tA [cI (l.getD (i * 4 / 4) { s := 0, o := 0, n := 0, k := 0 }).s, cI (l.getD (i * 4 / 4) { s := 0, o := 0, n := 0, k := 0 }).o, cI (l.getD (i * 4 / 4) { s := 0, o := 0, n := 0, k := 0 }).n, cI (l.getD (i * 4 / 4) { s := 0, o := 0, n := 0, k := 0 }).k]] [] (tB (decide (Fit { s := (l.getD (i * 4 / 4) { s := 0, o := 0, n := 0, k := 0 }).s, o := (l.getD (i * 4 / 4) { s := 0, o := 0, n := 0, k := 0 }).o, n := (l.getD (i * 4 / 4) { s := 0, o := 0, n := 0, k := 0 }).n, k := (l.getD (i * 4 / 4) { s := 0, o := 0, n := 0, k := 0 }).k }))) [], tB (decide (Fit { s := (l.getD (i * 4 / 4) { s := 0, o := 0, n := 0, k := 0 }).s, o := (l.getD (i * 4 / 4) { s := 0, o := 0, n := 0, k := 0 }).o, n := (l.getD (i * 4 / 4) { s := 0, o := 0, n := 0, k := 0 }).n, k := (l.getD (i * 4 / 4) { s := 0, o := 0, n := 0, k := 0 }).k })) = tB false, tI (IntKind.i64.wrap (↑(i + 1) : Int)) = tI (↑(i + 1) : Int)] (
 ∃ j : Nat, Ck [1, 1, 1] [j ≤ l.length, (l.length - j).succ ≤ l.length - i, [(2, tC (CV.rp 0 0)), (3, tC (CV.rw 1 (fits l i).length)), (6, tF (FV.sl z (rowP l) l.length)), (7, tI (↑l.length : Int)), (8, tI (↑(i + 1) : Int))] = [(2, tC (CV.rp 0 0)), (3, tC (CV.rw 1 (fits l j).length)), (6, tF (FV.sl z (rowP l) l.length)), (7, tI (↑l.length : Int)), (8, tI (↑j : Int))]] (
 ([VO.bx [CV.f (FV.v (Value.pointer none))] 35, VO.fx (rowP (fits l i)) 32] : List VO) = [VO.bx [CV.f (FV.v (Value.pointer none))] 35, VO.fx (rowP (fits l j)) 32]))))) (
 Ck [2, 1667, 0, 20, 1] [VC Try.prog 43 [tF (FV.sl none (rowP (fits l i)) (fits l i).length)] [] (tF w) [], tA [CV.f w] = tA [CV.f w]] (
 ([] : List VO) = [])))
theorem tbuild_b1_ok (z : Option Bool) (l : List Pc) (w : FV) (hl : l.length ≤ 1073741824) (hw : ∀ z, VC Try.prog 43 [tF (.sl z (rowP (fits l l.length)) (fits l l.length).length)] [] (tF w) []) (i : Nat) (hi : i ≤ l.length) : tbuild_b1 z l w hl hw i := by
  unfold tbuild_b1
  have hp4 : i * 4 / 4 = i := Nat.mul_div_cancel i (by decide)
  rw [hp4]
  have hl4 := fits_len l i
  repeat' first
    | refine brE (fun _ _ => ?_) (fun _ _ => ?_)
    | refine brN (fun _ _ => ?_) (fun _ _ => ?_)
    | refine brD (fun _ _ => ?_) (fun _ _ => ?_)
    | refine brP_intro (fun _ => ?_) (fun _ => ?_)
    | refine ck ?_ ?_
    | exact allp0
    | refine allp2 ?_ ?_
  all_goals try first
    | with_reducible rfl
    | exact Exists.intro _ rfl
    | exact tI_nw (by omega) (by omega)
    | exact tB_of (by assumption)
    | exact fit _
    | exact build_n _
    | exact build_d _ _ _ _ _ _ (by first | assumption | omega | (simp; done)) (by first | assumption | omega | (simp; done)) (by first | assumption | omega | (simp; done)) (by first | assumption | omega | (simp; done)) (by first | assumption | omega | (simp; done)) (by first | assumption | omega | (simp; done))
    | (exfalso; omega)
    | exact rowP_at _ _ (by omega)
    | exact fit _
    | exact tB_of (decide_eq_true (by assumption))
    | exact tB_of (decide_eq_false (by assumption))
    | (have e := fits_y (l := l) (i := i) (by omega) (by assumption); refine ⟨i + 1, ck (allp2 (by omega) (allp2 (by omega) (allp2 ?_ allp0))) ?_⟩ <;> rw [e] <;> simp only [List.length_append, rowP_app] <;> rfl)
    | (have e := fits_n (l := l) (i := i) (by omega) (by assumption); refine ⟨i + 1, ck (allp2 (by omega) (allp2 (by omega) (allp2 ?_ allp0))) ?_⟩ <;> rw [e] <;> rfl)
    | (have e : i = l.length := (by omega); subst e; exact hw _)
    | ((with_reducible show (_ : Int) ≤ _); omega)
    | ((with_reducible show (_ : Nat) ≤ _); omega)
    | ((with_reducible show (_ : Int) < _); omega)
theorem tbuild_w (z : Option Bool) (l : List Pc) (w : FV) (hl : l.length ≤ 1073741824) (hw : ∀ z, VC Try.prog 43 [tF (.sl z (rowP (fits l l.length)) (fits l l.length).length)] [] (tF w) []) : Ck [0, 2, 0, 2, 0, 182, 7217] [∃ i : Nat, Ck [1, 1] [i ≤ l.length, [(2, tC (CV.rp 0 0)), (3, tC (CV.rw 1 0)), (6, tF (FV.sl z (rowP l) l.length)), (7, tI (↑l.length : Int)), (8, tI 0)] = [(2, tC (CV.rp 0 0)), (3, tC (CV.rw 1 (fits l i).length)), (6, tF (FV.sl z (rowP l) l.length)), (7, tI (↑l.length : Int)), (8, tI (↑i : Int))]] (
 ([VO.bx [CV.f (FV.v (Value.pointer none))] 35, VO.fx [] 32] : List VO) = [VO.bx [CV.f (FV.v (Value.pointer none))] 35, VO.fx (rowP (fits l i)) 32])] (
 ∀ i : Nat, ((i ≤ l.length) → tbuild_b1 z l w hl hw i)) := by
  repeat' first
    | refine brE (fun _ _ => ?_) (fun _ _ => ?_)
    | refine brN (fun _ _ => ?_) (fun _ _ => ?_)
    | refine brD (fun _ _ => ?_) (fun _ _ => ?_)
    | refine brP_intro (fun _ => ?_) (fun _ => ?_)
    | refine ck ?_ ?_
    | exact allp0
    | refine allp2 ?_ ?_
  all_goals try first
    | with_reducible rfl
    | exact Exists.intro _ rfl
    | exact tI_nw (by omega) (by omega)
    | exact tB_of (by assumption)
    | exact fun i h_ => tbuild_b1_ok z l w hl hw i h_
    | (refine ⟨0, ck (allp2 (by omega) (allp2 ?_ allp0)) ?_⟩ <;> rfl)
    | ((with_reducible show (_ : Int) ≤ _); omega)
    | ((with_reducible show (_ : Nat) ≤ _); omega)
    | ((with_reducible show (_ : Int) < _); omega)
theorem tbuild (z : Option Bool) (l : List Pc) (w : FV) (hl : l.length ≤ 1073741824) (hw : ∀ z, VC Try.prog 43 [tF (.sl z (rowP (fits l l.length)) (fits l l.length).length)] [] (tF w) []) : VC Try.prog 12 ([tF (.sl z (rowP l) l.length)]) ([]) (tT w) ([]) :=
  vc_wp mixed nonum ⟨cmOf [(4, [(1, .fn fun tw => .ld [fI (l.getD (ptO (tget tw 10) / 4) default).s, fI (l.getD (ptO (tget tw 10) / 4) default).o, fI (l.getD (ptO (tget tw 10) / 4) default).n, fI (l.getD (ptO (tget tw 10) / 4) default).k])]), (5, [(1, .tb (tq_tbuild z l w hl hw) [] none)]), (7, [(0, .nw)]), (8, [(1, .tb (fun g xs H => some (.one (.o (.c (.f w))) H)) [] none)])], spOf [(5, [1])], ghOf [(8, [.frz 1])], loOf [(3, .inv [.pt 3 32] [2, 3, 6, 7, 8] ⟨Nat, fun i => i ≤ l.length, fun i => [(2, tC (.rp 0 0)), (3, tC (.rw 1 (fits l i).length)), (6, tF (.sl z (rowP l) l.length)), (7, tI l.length), (8, tI i)], fun i => [.bx [.f (.v (.pointer none))] 35, .fx (rowP (fits l i)) 32], fun i => l.length - i⟩)], []⟩ [] (by kernel_rfl) (tbuild_w z l w hl hw)
def plain_b1 (z : Option Bool) (l : List Int) (hl : l.length ≤ 1073741824) (i : Nat) : Prop :=
 Ck [0, 1640] [] (
 brP (decide ((↑i : Int) < (↑l.length : Int))) (
 Ck [0, 79905670499, 0, 1775, 2] [(0 : Int) ≤ (↑i : Int), (↑i : Int) < (↑l.length : Int), (List.take 1 (List.drop (i * 1) (List.map fI l)) : List FV) = [fI (l.getD (i * 1) 0)], 4 = 4, (i + 1) * 32 ≤ 140737488355328, tI (IntKind.i64.wrap (↑(i + 1) : Int)) = tI (↑(i + 1) : Int)] (
 ∃ j : Nat, Ck [1, 1, 1] [j ≤ l.length, (l.length - j).succ ≤ l.length - i, [(0, tF (FV.sl z (List.map fI l) l.length)), (3, tC (CV.rw 0 (i + 1))), (4, tI (↑(i + 1) : Int))] = [(0, tF (FV.sl z (List.map fI l) l.length)), (3, tC (CV.rw 0 j)), (4, tI (↑j : Int))]] (
 ([VO.fx (rowP (pls l i) ++ [fI 0, fI 0, fI (l.getD (i * 1) 0), fI 0]) 32] : List VO) = [VO.fx (rowP (pls l j)) 32]))) (
 Ck [0, 20, 0, 20, 1] [tC (CV.rw 0 i) = tC (CV.rw 0 l.length)] (
 ([VO.fx (rowP (pls l i)) 32] : List VO) = [VO.fx (rowP (pls l l.length)) 32])))
theorem plain_b1_ok (z : Option Bool) (l : List Int) (hl : l.length ≤ 1073741824) (i : Nat) (hi : i ≤ l.length) : plain_b1 z l hl i := by
  unfold plain_b1
  rw [Nat.mul_one]
  repeat' first
    | refine brE (fun _ _ => ?_) (fun _ _ => ?_)
    | refine brN (fun _ _ => ?_) (fun _ _ => ?_)
    | refine brD (fun _ _ => ?_) (fun _ _ => ?_)
    | refine brP_intro (fun _ => ?_) (fun _ => ?_)
    | refine ck ?_ ?_
    | exact allp0
    | refine allp2 ?_ ?_
  all_goals try first
    | with_reducible rfl
    | exact Exists.intro _ rfl
    | exact tI_nw (by omega) (by omega)
    | exact tB_of (by assumption)
    | (exfalso; omega)
    | exact map_at (by omega)
    | (have e := pls_s (l := l) (i := i) (by omega); refine ⟨i + 1, ck (allp2 (by omega) (allp2 (by omega) (allp2 ?_ allp0))) ?_⟩ <;> (try rw [e, rowP_app]) <;> rfl)
    | (have e : i = l.length := (by omega); subst e; rfl)
    | ((with_reducible show (_ : Int) ≤ _); omega)
    | ((with_reducible show (_ : Nat) ≤ _); omega)
    | ((with_reducible show (_ : Int) < _); omega)
theorem plain_w (z : Option Bool) (l : List Int) (hl : l.length ≤ 1073741824) : Ck [0, 2, 0, 2, 0, 2, 7217] [∃ i : Nat, Ck [1, 1] [i ≤ l.length, [(0, tF (FV.sl z (List.map fI l) l.length)), (3, tC (CV.rw 0 0)), (4, tI 0)] = [(0, tF (FV.sl z (List.map fI l) l.length)), (3, tC (CV.rw 0 i)), (4, tI (↑i : Int))]] (
 ([VO.fx [] 32] : List VO) = [VO.fx (rowP (pls l i)) 32])] (
 ∀ i : Nat, ((i ≤ l.length) → plain_b1 z l hl i)) := by
  repeat' first
    | refine brE (fun _ _ => ?_) (fun _ _ => ?_)
    | refine brN (fun _ _ => ?_) (fun _ _ => ?_)
    | refine brD (fun _ _ => ?_) (fun _ _ => ?_)
    | refine brP_intro (fun _ => ?_) (fun _ => ?_)
    | refine ck ?_ ?_
    | exact allp0
    | refine allp2 ?_ ?_
  all_goals try first
    | with_reducible rfl
    | exact Exists.intro _ rfl
    | exact tI_nw (by omega) (by omega)
    | exact tB_of (by assumption)
    | exact fun i h_ => plain_b1_ok z l hl i h_
    | (refine ⟨0, ck (allp2 (by omega) (allp2 ?_ allp0)) ?_⟩ <;> rfl)
    | ((with_reducible show (_ : Int) ≤ _); omega)
    | ((with_reducible show (_ : Nat) ≤ _); omega)
    | ((with_reducible show (_ : Int) < _); omega)
theorem plain (z : Option Bool) (l : List Int) (hl : l.length ≤ 1073741824) : VC Try.prog 38 ([tF (.sl z (l.map fI) l.length)]) ([]) (tC (.rw 0 l.length)) ([.fx (rowP (pls l l.length)) 32]) :=
  vc_wp mixed nonum ⟨cmOf [(5, [(4, .fn fun tw => .ld [(fun n => fI n) ((l).getD (ptO (tget tw 14)) default)])]), (4, [(1, .nw)])], spOf [], ghOf [], loOf [(3, .inv [.pt 3 32] [0, 3, 4] ⟨Nat, fun i => i ≤ l.length, fun i => [(0, tF (.sl z (l.map fI) l.length)), (3, tC (.rw 0 i)), (4, tI i)], fun i => [.fx (rowP (pls l i)) 32], fun i => l.length - i⟩)], []⟩ [] (by kernel_rfl) (plain_w z l hl)
end Go.Proofs.Ytpjlgjhkdligfaa.Vg
