/- What the law AddbufStays answers, of any texts. No law, no condition. -/
import Derived.Test.YtbonmmpdpahhfaaKWD
namespace Go.Proofs.Ytbonmmpdpahhfaa.Vg
open Go.RowKit
set_option maxRecDepth 100000
set_option linter.unusedVariables false
set_option linter.unusedSimpArgs false
section
variable {o : List Int} {ts : List (List Int)}
theorem sm_app (a b : List (List Int)) : sm (a ++ b) = sm a + sm b := by unfold sm; rw [List.map_append, List.sum_append]
theorem take_snoc {i : Nat} (h : i < ts.length) : ts.take (i + 1) = ts.take i ++ [ts.getD i []] := by
  rw [← List.take_append_getElem h]
  simp [List.getD, h]
theorem sm_snoc {i : Nat} (h : i < ts.length) : sm (ts.take (i + 1)) = sm (ts.take i) + ((ts.getD i []).length + 1) := by
  rw [take_snoc h, sm_app]
  simp [sm]
theorem fl_snoc {i : Nat} (h : i < ts.length) : flat_ ts (i + 1) = flat_ ts i ++ ts.getD i [] := by
  unfold flat_
  rw [take_snoc h, List.flatten_append]
  simp
theorem sm_take (i : Nat) : sm (ts.take i) ≤ sm ts := by
  have := sm_app (ts.take i) (ts.drop i)
  rw [List.take_append_drop] at this
  omega
theorem fl_sm : ∀ (l : List (List Int)), l.flatten.length ≤ sm l
  | [] => Nat.zero_le _
  | a :: l => by
    have := fl_sm l
    have e : sm (a :: l) = a.length + 1 + sm l := by simp [sm]
    rw [List.flatten_cons, List.length_append, e]
    omega
theorem fl_le (i : Nat) : (flat_ ts i).length ≤ sm ts := Nat.le_trans (fl_sm _) (sm_take i)
theorem spL_len (n : Nat) : (spL o ts n).length = n + 1 := by simp [spL]
theorem spL_0 (n : Nat) : (spL o ts n).getD 0 (0, 0, 0) = (0, 0, (o.length : Int)) := rfl
theorem spL_s {n j : Nat} (h : j < n) : (spL o ts n).getD (j + 1) (0, 0, 0) = (1, ((flat_ ts j).length : Int), ((ts.getD j []).length : Int)) := by
  unfold spL
  rw [List.getD_eq_getElem?_getD, List.getElem?_cons_succ, List.getElem?_map, List.getElem?_range h]
  rfl
theorem fl_split {j : Nat} (h : j < ts.length) : ∃ r, flat_ ts ts.length = flat_ ts j ++ (ts.getD j [] ++ r) := by
  refine ⟨(ts.drop (j + 1)).flatten, ?_⟩
  have e : ts = ts.take (j + 1) ++ ts.drop (j + 1) := (List.take_append_drop _ _).symm
  unfold flat_
  rw [List.take_length]
  conv => lhs; rw [e, take_snoc h]
  simp [List.flatten_append]
theorem hd_a {A : List Int} {b c : Nat} (h : b + c ≤ A.length) (hA : A.length ≤ 1048576) : Hd o A 1 b c = true := by
  unfold Hd Snd
  simp only [Bool.and_eq_true, decide_eq_true_eq]
  have : szI o.length A.length 1 = A.length := rfl
  rw [this]
  exact ⟨⟨.inr trivial, by omega, by omega, by omega, by omega⟩, by omega⟩
theorem rd_mid {A p q r : List Int} (h : A = p ++ (q ++ r)) (hA : A.length ≤ 1048576) : Hd o A 1 p.length q.length = true ∧ rdB o A 1 p.length q.length = q := by
  have hh : Hd o A 1 p.length q.length = true := hd_a (by rw [h]; simp) hA
  refine ⟨hh, ?_⟩
  simp only [rdB, hh, cond_true, src]
  show ((A.drop _).take _) = q
  rw [h, Int.toNat_natCast, Int.toNat_natCast, List.drop_left, List.take_left]
theorem fac (hl : o.length ≤ 140737488355328) (h : ts.length = 0 ∨ ((o.length + sm (ts.take ts.length) : Nat) : Int) ≤ 1048576) : Fac o (flat_ ts ts.length) (fun i => ((o.length + sm (ts.take i) : Nat) : Int)) (fun i => (spL o ts ts.length).getD i (0, 0, 0)) (o :: ts) ts.length := by
  rw [List.take_length] at h
  have hsm : sm ts ≤ 1048576 := by
    rcases h with h | h
    · rw [List.eq_nil_of_length_eq_zero h]; exact Nat.zero_le _
    · omega
  have hA : (flat_ ts ts.length).length ≤ 1048576 := Nat.le_trans (fl_le _) hsm
  refine ⟨hA, fun i hi => ?_, fun i h2 hi => ?_, ?_, ?_⟩
  · cases i with
    | zero =>
      rw [spL_0]
      have hh : Hd o (flat_ ts ts.length) 0 0 o.length = true := by
        unfold Hd Snd
        simp only [Bool.and_eq_true, decide_eq_true_eq]
        have : szI o.length (flat_ ts ts.length).length 0 = o.length := rfl
        rw [this]
        exact ⟨⟨.inl trivial, by omega, by omega, by omega, by omega⟩, by omega⟩
      refine ⟨hh, ?_⟩
      simp only [rdB, hh, cond_true, src]
      show ((o.drop 0).take (Int.toNat (o.length : Int))) = o
      rw [Int.toNat_natCast, List.drop_zero, List.take_length]
    | succ j =>
      rw [spL_s hi]
      obtain ⟨r, hr⟩ := fl_split hi
      exact rd_mid hr hA
  · obtain ⟨j, rfl⟩ : ∃ j, i = j + 2 := ⟨i - 2, by omega⟩
    have e1 : j + 2 - 1 = j + 1 := by omega
    simp only [e1]
    have hj : j < ts.length := by omega
    have hj1 : j + 1 < ts.length := by omega
    rw [spL_s hj, spL_s hj1]
    obtain ⟨r, hr⟩ := fl_split hj1
    have hr2 := hr
    rw [fl_snoc hj, List.append_assoc] at hr2
    have e2 : ((flat_ ts (j + 1)).length : Int) = (flat_ ts j).length + (ts.getD j []).length := by
      rw [fl_snoc hj, List.length_append]
      omega
    have hlen := congrArg List.length hr2
    simp only [List.length_append] at hlen
    have hm := rd_mid (o := o) (p := flat_ ts j) (q := ts.getD j [] ++ ts.getD (j + 1) []) (r := r) (by rw [hr2, List.append_assoc]) hA
    rw [List.length_append, Int.natCast_add] at hm
    refine ⟨?_, hm.1, hm.2⟩
    unfold jOk
    simp only [Bool.and_eq_true, decide_eq_true_eq, beq_iff_eq]
    refine ⟨⟨⟨⟨?_, ?_⟩, trivial⟩, e2⟩, ?_⟩
    · unfold Snd; omega
    · unfold Snd; omega
    · unfold Snd; omega
  · have hl2 : (flat_ ts ts.length).length ≤ sm ts := fl_le _
    unfold Hd
    rw [Bool.and_eq_false_iff]
    right
    rw [decide_eq_false_iff_not]
    unfold szI
    have : (bif (1 : Int) == 0 then (o.length : Int) else bif (1 : Int) == 1 then ((flat_ ts ts.length).length : Int) else 0) = (flat_ ts ts.length).length := rfl
    rw [this, List.take_length]
    omega
  · simp only [List.take_length]
    omega
end
theorem stays_all (o : List Int) (ts : List (List Int)) (ho : Byt o) (hts : ∀ t ∈ ts, Byt t) (hl : o.length ≤ 140737488355328) (hlt : ∀ t ∈ ts, t.length ≤ 140737488355328) (hn : (ts.length + 1) * 24 ≤ 140737488355328) : VC Try.prog 7 [tF (byt none o), tF (tx ts)] [] (tB true) [] := by
  refine stays o (flat_ ts ts.length) (fun i => ((o.length + sm (ts.take i) : Nat) : Int)) (fun i => flat_ ts i) (fun i => (spL o ts i).flatMap spF) (fun i => (spL o ts ts.length).getD i (0, 0, 0)) (o :: ts) (byt none o :: ts.map (byt none)) ts ho hts hl hlt (fun i => Int.natCast_nonneg _) ?_ (fun i hi => ?_) rfl (fun i hi => fl_snoc hi) rfl (fun i hi => ?_) rfl (fun i hi => ?_) (fun i hi => ?_) rfl rfl (fun i => ?_) (fun i => ?_) ?_ hn (fac hl)
  · simp [sm]
  · simp only [sm_snoc hi]; omega
  · rcases Nat.lt_or_ge 1048576 (sm ts) with h | h
    · right
      simp only [List.take_length]
      omega
    · exact .inl (Nat.le_trans (fl_le i) h)
  · unfold spL
    rw [List.range_succ, List.map_append, ← List.cons_append, List.flatMap_append]
    rfl
  · exact ldr (f := spF) (k := 3) (fun _ => rfl) (d := (0, 0, 0)) (by rw [spL_len]; omega)
  · cases i with
    | zero => exact ho
    | succ i =>
      show Byt (ts.getD i [])
      rw [List.getD_eq_getElem?_getD]
      cases hq : ts[i]? with
      | none => exact fun x hx => by cases hx
      | some t => exact hts t (List.mem_of_getElem? hq)
  · cases i with
    | zero => exact hl
    | succ i => exact getD_len hlt i
  · intro x hx
    unfold flat_ at hx
    rw [List.take_length, List.mem_flatten] at hx
    obtain ⟨t, h1, h2⟩ := hx
    exact hts t h1 x h2
end Go.Proofs.Ytbonmmpdpahhfaa.Vg
