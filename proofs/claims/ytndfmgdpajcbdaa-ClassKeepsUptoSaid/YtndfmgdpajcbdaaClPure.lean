/- The laws of layer 6 (class) over numbers and lists: what Of, Runs and same come to. No condition but the sizes. -/
import Derived.Test.YtndfmgdpajcbdaaPClx4
namespace Go.Proofs.Ytndfmgdpajcbdaa.Pure
set_option linter.unusedVariables false
open Go.RowKit Go.Proofs.Ytndfmgdpajcbdaa.PCl Go.Proofs.YtndfmgdpajcbdaaW.PrintWords Go.Proofs.YtndfmgdpajcbdaaW.PrintLast

theorem u8_bounds {x : Int} (h : (Lit.int .u8 x).wf = true) : 0 ≤ x ∧ x ≤ 255 := by
  simpa [Lit.wf, IntKind.min, IntKind.max, IntKind.signed, IntKind.bits] using h

theorem bytes_all : ∀ n : Fin 256, quoinlaw06_ClassBytes.f 20 (n.val : Int) = some true := by decide +kernel
theorem ClassBytes (a0 : Int) (h : (Lit.int .u8 a0).wf = true) : ∃ k, quoinlaw06_ClassBytes.f k a0 = some true := by
  have hb := u8_bounds h
  obtain ⟨n, rfl⟩ := Int.eq_ofNat_of_zero_le hb.1
  exact ⟨20, bytes_all ⟨n, by omega⟩⟩
theorem pairs_all : ∀ n : Fin 256, quoinlaw06_ClassPairs.f 20 (n.val : Int) = some true := by decide +kernel
theorem ClassPairs (a0 : Int) (h : (Lit.int .u8 a0).wf = true) : ∃ k, quoinlaw06_ClassPairs.f k a0 = some true := by
  have hb := u8_bounds h
  obtain ⟨n, rfl⟩ := Int.eq_ofNat_of_zero_le hb.1
  exact ⟨20, pairs_all ⟨n, by omega⟩⟩

/-- a byte's kind -/
def cls (a : Int) (big : Bool) : Int :=
  if a = 10 then 3 else if a = 32 ∨ a = 9 then 0
  else if big = true ∨ (97 ≤ a ∧ a ≤ 122) ∨ (65 ≤ a ∧ a ≤ 90) ∨ (48 ≤ a ∧ a ≤ 57) ∨ a = 95 ∨ 128 ≤ a then 2 else 1

theorem of_eq (k : Nat) (a : Int) (big : Bool) : class_Of.f (k + 1) a big = some (cls a big) := by
  have e1 : class_small.f a = some (decide (97 ≤ a ∧ a ≤ 122)) := by unfold class_small.f; by_cases h : 97 ≤ a <;> simp [h]
  have e2 : class_great.f a = some (decide (65 ≤ a ∧ a ≤ 90)) := by unfold class_great.f; by_cases h : 65 ≤ a <;> simp [h]
  unfold class_Of.f cls
  by_cases h1 : a = 10
  · simp [h1]
  · by_cases h2 : a = 32
    · simp [h2, class_Of.j0]
    · by_cases h3 : a = 9
      · simp [h3, class_Of.j0]
      · have h4 : (a == 9) = false := by simpa using h3
        simp only [class_Of.j0, e1, e2, Option.bind_some, h1, h2, h3, h4, if_false, or_self, decide_eq_true_eq, ge_iff_le, Bool.false_eq_true]
        by_cases s1 : 97 ≤ a ∧ a ≤ 122
        · cases big <;> simp [s1]
        · by_cases s2 : 65 ≤ a ∧ a ≤ 90
          · cases big <;> simp [s1, s2]
          · by_cases s3 : a = 95
            · cases big <;> simp [s3]
            · by_cases s4 : 128 ≤ a
              · cases big <;> simp [s1, s2, s3, s4] <;> omega
              · by_cases s5 : 48 ≤ a
                · by_cases s6 : a ≤ 57 <;> cases big <;> simp [s1, s2, s3, s4, s5, s6]
                · cases big <;> simp [s1, s2, s3, s4, s5]
theorem ref_of_eq (k : Nat) (a : Int) (big : Bool) : quoinref06_Of.f (k + 1) a big = some (cls a big) := by
  have e1 : quoinref06_small.f a = some (decide (97 ≤ a ∧ a ≤ 122)) := by unfold quoinref06_small.f; by_cases h : 97 ≤ a <;> simp [h]
  have e2 : quoinref06_great.f a = some (decide (65 ≤ a ∧ a ≤ 90)) := by unfold quoinref06_great.f; by_cases h : 65 ≤ a <;> simp [h]
  unfold quoinref06_Of.f cls
  by_cases h1 : a = 10
  · simp [h1]
  · by_cases h2 : a = 32
    · simp [h2, quoinref06_Of.j0]
    · by_cases h3 : a = 9
      · simp [h3, quoinref06_Of.j0]
      · have h4 : (a == 9) = false := by simpa using h3
        simp only [quoinref06_Of.j0, e1, e2, Option.bind_some, h1, h2, h3, h4, if_false, or_self, decide_eq_true_eq, ge_iff_le, Bool.false_eq_true]
        by_cases s1 : 97 ≤ a ∧ a ≤ 122
        · cases big <;> simp [s1]
        · by_cases s2 : 65 ≤ a ∧ a ≤ 90
          · cases big <;> simp [s1, s2]
          · by_cases s3 : a = 95
            · cases big <;> simp [s3]
            · by_cases s4 : 128 ≤ a
              · cases big <;> simp [s1, s2, s3, s4] <;> omega
              · by_cases s5 : 48 ≤ a
                · by_cases s6 : a ≤ 57 <;> cases big <;> simp [s1, s2, s3, s4, s5, s6]
                · cases big <;> simp [s1, s2, s3, s4, s5]
theorem awake_eq : quoinlaw06_awake.f 1 = some true := by decide +kernel


/-! Runs -/
def cutAt (t : List Int) (big : Bool) (i : Nat) : Bool := i + 1 == t.length || cls (rd t i) big != cls (rd t (i + 1 : Nat)) big
def runsF (t : List Int) (big : Bool) : Nat → Nat → List Int
  | 0, _ => []
  | d + 1, i => if cutAt t big i then ((i + 1 : Nat) : Int) :: runsF t big d (i + 1) else runsF t big d (i + 1)
theorem runsF_len (t : List Int) (big : Bool) : ∀ d i, (runsF t big d i).length ≤ d
  | 0, _ => by simp [runsF]
  | d + 1, i => by
    have := runsF_len t big d (i + 1)
    simp only [runsF]
    split <;> simp <;> omega
theorem wrap_succ {i : Nat} (h : i < 4611686018427387904) : wrap64 ((i : Int) + 1) = ((i + 1 : Nat) : Int) := by
  unfold wrap64
  omega

theorem runs_tells (t : List Int) (big : Bool) (hn : t.length ≤ 1048576) (d : Nat) : ∀ (k i : Nat) (acc : List Int), i + d = t.length → d < k → acc.length + d ≤ 2097152 →
    class_Runs.l0 (k + 1) t big acc (t.length : Int) (i : Int) = some (acc ++ runsF t big d i) := by
  induction d with
  | zero =>
    intro k i acc hi hk ha
    simp only [class_Runs.l0]
    rw [if_neg (by omega)]
    simp [runsF]
  | succ d ih =>
    intro k i acc hi hk ha
    obtain ⟨k, rfl⟩ : ∃ m, k = m + 1 := ⟨k - 1, by omega⟩
    rw [class_Runs.l0]
    rw [if_pos (by omega), wrap_succ (by omega)]
    have hr := ih k (i + 1)
    by_cases hlast : i + 1 = t.length
    · rw [if_pos (by omega), if_pos (by omega), hr _ (by omega) (by omega) (by simp; omega)]
      simp [runsF, cutAt, hlast]
    · rw [if_neg (by omega), if_pos (by omega), if_pos (by omega), of_eq]
      simp only [Option.bind_some]
      rw [if_pos (by omega), if_pos (by omega), of_eq]
      simp only [Option.bind_some]
      by_cases hc : cls (rd t i) big = cls (rd t ((i + 1 : Nat) : Int)) big
      · rw [if_pos hc, hr _ (by omega) (by omega) (by omega)]
        simp [runsF, cutAt, hlast, hc]
      · rw [if_neg hc, if_pos (by omega), hr _ (by omega) (by omega) (by simp; omega)]
        have hcut : cutAt t big i = true := by simp only [cutAt, Bool.or_eq_true, bne_iff_ne]; exact .inr hc
        simp [runsF, hcut]
theorem runs_eq (t : List Int) (big : Bool) (hn : t.length ≤ 1048576) (k : Nat) (hk : 1048578 ≤ k) : class_Runs.f k t big = some (runsF t big t.length 0) := by
  obtain ⟨k, rfl⟩ : ∃ m, k = m + 1 := ⟨k - 1, by omega⟩
  have := runs_tells t big hn t.length k 0 [] (by omega) (by omega) (by simp; omega)
  simpa [class_Runs.f] using this
theorem ref_runs_tells (t : List Int) (big : Bool) (hn : t.length ≤ 1048576) (d : Nat) : ∀ (k i : Nat) (acc : List Int), i + d = t.length → d < k → acc.length + d ≤ 2097152 →
    quoinref06_Runs.l0 (k + 1) t big acc (i : Int) = some (acc ++ runsF t big d i) := by
  induction d with
  | zero =>
    intro k i acc hi hk ha
    simp only [quoinref06_Runs.l0]
    rw [if_neg (by omega)]
    simp [runsF]
  | succ d ih =>
    intro k i acc hi hk ha
    obtain ⟨k, rfl⟩ : ∃ m, k = m + 1 := ⟨k - 1, by omega⟩
    rw [quoinref06_Runs.l0]
    rw [if_pos (by omega), wrap_succ (by omega)]
    have hr := ih k (i + 1)
    by_cases hlast : i + 1 = t.length
    · rw [if_pos (by omega), if_pos (by omega), hr _ (by omega) (by omega) (by simp; omega)]
      simp [runsF, cutAt, hlast]
    · rw [if_neg (by omega), if_pos (by omega), ref_of_eq]
      simp only [Option.bind_some]
      rw [if_pos (by omega), if_pos (by omega), ref_of_eq]
      simp only [Option.bind_some]
      by_cases hc : cls (rd t i) big = cls (rd t ((i + 1 : Nat) : Int)) big
      · rw [if_pos hc, hr _ (by omega) (by omega) (by omega)]
        simp [runsF, cutAt, hlast, hc]
      · rw [if_neg hc, if_pos (by omega), hr _ (by omega) (by omega) (by simp; omega)]
        have hcut : cutAt t big i = true := by simp only [cutAt, Bool.or_eq_true, bne_iff_ne]; exact .inr hc
        simp [runsF, hcut]
theorem ref_runs_eq (t : List Int) (big : Bool) (hn : t.length ≤ 1048576) (k : Nat) (hk : 1048578 ≤ k) : quoinref06_Runs.f k t big = some (runsF t big t.length 0) := by
  obtain ⟨k, rfl⟩ : ∃ m, k = m + 1 := ⟨k - 1, by omega⟩
  have := ref_runs_tells t big hn t.length k 0 [] (by omega) (by omega) (by simp; omega)
  simpa [quoinref06_Runs.f] using this

theorem same_tells (l : List Int) (hn : l.length ≤ 2097152) (d : Nat) : ∀ (k i : Nat), i + d = l.length → d < k → quoinlaw06_same.l0 k l l (i : Int) = some true := by
  induction d with
  | zero =>
    intro k i hi hk
    obtain ⟨k, rfl⟩ : ∃ m, k = m + 1 := ⟨k - 1, by omega⟩
    simp only [quoinlaw06_same.l0]
    rw [if_neg (by omega)]
  | succ d ih =>
    intro k i hi hk
    obtain ⟨k, rfl⟩ : ∃ m, k = m + 1 := ⟨k - 1, by omega⟩
    simp only [quoinlaw06_same.l0]
    rw [if_pos (by omega), if_pos (by omega), if_pos (by omega), if_true, wrap_succ (by omega)]
    exact ih k (i + 1) (by omega) (by omega)
theorem same_eq (l : List Int) (hn : l.length ≤ 2097152) (k : Nat) (hk : l.length < k) : quoinlaw06_same.f k l l = some true := by
  simp only [quoinlaw06_same.f, if_true]
  exact same_tells l hn l.length k 0 (by omega) hk

theorem awake_any (k : Nat) (hk : 1 ≤ k) : quoinlaw06_awake.f k = some true := by
  obtain ⟨k, rfl⟩ : ∃ m, k = m + 1 := ⟨k - 1, by omega⟩
  have h1 := of_eq k 120 false
  have h2 := of_eq k 10 true
  unfold quoinlaw06_awake.f
  rw [h1, h2]
  decide +kernel

theorem ClassRuns (l0 : List Int) (a1 : Bool) (hn : l0.length ≤ 1048576) (hw : ∀ x ∈ l0, (Lit.int .u8 x).wf = true) : ∃ k, quoinlaw06_ClassRuns.f k l0 a1 = some true := by
  refine ⟨1048600, ?_⟩
  have hl := runsF_len l0 a1 l0.length 0
  unfold quoinlaw06_ClassRuns.f
  rw [awake_any _ (by omega)]
  simp only [Option.bind_some, if_true]
  rw [ref_runs_eq l0 a1 hn _ (by omega)]
  simp only [Option.bind_some]
  rw [runs_eq l0 a1 hn _ (by omega)]
  simp only [Option.bind_some]
  rw [same_eq _ (by omega) _ (by omega)]
  rfl


/-! Cuts -/
/-- the first run from i on -/
theorem runsF_first (t : List Int) (big : Bool) (d : Nat) : ∀ i, i + (d + 1) = t.length → ∃ e, i ≤ e ∧ e < t.length ∧ cutAt t big e = true ∧ (∀ j, i ≤ j → j < e → cutAt t big j = false) ∧
    runsF t big (d + 1) i = ((e + 1 : Nat) : Int) :: runsF t big (t.length - (e + 1)) (e + 1) := by
  induction d with
  | zero =>
    intro i hi
    have hc : cutAt t big i = true := by simp [cutAt]; omega
    refine ⟨i, by omega, by omega, hc, fun j _ _ => by omega, ?_⟩
    have : t.length - (i + 1) = 0 := by omega
    simp [runsF, hc, this]
  | succ d ih =>
    intro i hi
    by_cases hc : cutAt t big i = true
    · refine ⟨i, by omega, by omega, hc, fun j _ _ => by omega, ?_⟩
      have : t.length - (i + 1) = d + 1 := by omega
      rw [this, runsF, if_pos hc]
    · obtain ⟨e, h1, h2, h3, h4, h5⟩ := ih (i + 1) (by omega)
      refine ⟨e, by omega, h2, h3, fun j hj hj2 => ?_, ?_⟩
      · by_cases hji : j = i
        · subst hji; simpa using hc
        · exact h4 j (by omega) hj2
      · rw [runsF, if_neg hc, h5]
theorem cls_const (t : List Int) (big : Bool) (i e : Nat) (he : e < t.length) (h : ∀ j, i ≤ j → j < e → cutAt t big j = false) : ∀ d, i + d ≤ e → cls (rd t ((i + d : Nat) : Int)) big = cls (rd t (i : Int)) big
  | 0, _ => rfl
  | d + 1, hd => by
    have h1 := cls_const t big i e he h d (by omega)
    have h2 := h (i + d) (by omega) (by omega)
    simp only [cutAt, Bool.or_eq_false_iff, bne_eq_false_iff_eq] at h2
    rw [← h1, h2.2]
    rfl
theorem runsF_big (t : List Int) : ∀ d i, (runsF t true d i).length ≤ (runsF t false d i).length
  | 0, _ => by simp [runsF]
  | d + 1, i => by
    have := runsF_big t d (i + 1)
    simp only [runsF]
    by_cases h : cutAt t true i = true
    · have h2 : cutAt t false i = true := by
        simp only [cutAt, Bool.or_eq_true, bne_iff_ne] at h ⊢
        rcases h with h | h
        · exact .inl h
        · refine .inr fun e => h ?_
          generalize rd t (i : Int) = a at e ⊢
          generalize rd t ((i + 1 : Nat) : Int) = b at e ⊢
          have big_of : ∀ x : Int, cls x true = if cls x false = 1 then 2 else cls x false := by
            intro x
            unfold cls
            by_cases h1 : x = 10
            · simp [h1]
            · by_cases h2 : x = 32 ∨ x = 9
              · simp [h1, h2]
              · simp only [h1, h2, if_false, true_or, if_true, Bool.false_eq_true, false_or]
                split <;> simp
          rw [big_of, big_of, e]
      rw [if_pos h, if_pos h2]
      simp
      omega
    · rw [if_neg h]
      split
      · simp; omega
      · exact this

theorem rd_drop (l : List Int) (i : Nat) (x : Int) (r : List Int) (h : l.drop i = x :: r) : i < l.length ∧ rd l (i : Int) = x ∧ l.drop (i + 1) = r := by
  have hlt : i < l.length := by
    by_cases hlt : i < l.length
    · exact hlt
    · rw [List.drop_eq_nil_of_le (by omega)] at h
      cases h
  refine ⟨hlt, ?_, ?_⟩
  · rw [List.drop_eq_getElem_cons hlt] at h
    injection h with h1 _
    simp [rd, hlt, h1]
  · rw [List.drop_eq_getElem_cons hlt] at h
    injection h

/-- the inner loop over one run: from j on to e -/
theorem cuts_inner (t L : List Int) (x3 : Int) (big : Bool) (hb : (x3 == 1) = big) (hn : t.length ≤ 1048576) (hL : L.length ≤ 1048576) (i e : Nat) (f : Nat) (hi : i < L.length) (he : rd L (i : Int) = ((e + 1 : Nat) : Int)) (het : e < t.length) (hc : cutAt t big e = true)
    (hcon : ∀ j, f ≤ j → j ≤ e → cls (rd t (j : Int)) big = cls (rd t (f : Int)) big) (hfe : f ≤ e) (r : Option Bool) (k0 : Nat) (hk0 : 0 < k0)
    (hnext : ∀ k, k0 ≤ k → quoinlaw06_ClassCuts.l1 k t x3 L ((e + 1 : Nat) : Int) ((i + 1 : Nat) : Int) = r) :
    ∀ d k j, j + d = e + 1 → f ≤ j → k0 + d + 1 ≤ k → quoinlaw06_ClassCuts.l2 k t x3 L (i : Int) (cls (rd t (f : Int)) big) (j : Int) = r := by
  intro d
  induction d with
  | zero =>
    intro k j hj hfj hk
    obtain ⟨k, rfl⟩ : ∃ m, k = m + 1 := ⟨k - 1, by omega⟩
    rw [quoinlaw06_ClassCuts.l2]
    rw [if_pos (by omega), if_pos (by omega), he, if_neg (by omega)]
    by_cases hlast : e + 1 = t.length
    · rw [if_neg (by omega), wrap_succ (by omega)]
      exact hnext k (by omega)
    · rw [if_pos (by omega), if_pos (by omega), hb]
      obtain ⟨k, rfl⟩ : ∃ m, k = m + 1 := ⟨k - 1, by omega⟩
      rw [of_eq]
      simp only [Option.bind_some]
      have hne : ¬ cls (rd t ((e + 1 : Nat) : Int)) big = cls (rd t (f : Int)) big := by
        simp only [cutAt, Bool.or_eq_true, bne_iff_ne, beq_iff_eq] at hc
        rcases hc with h | h
        · omega
        · rw [hcon e hfe (Nat.le_refl _)] at h
          exact fun e => h e.symm
      rw [if_neg hne, wrap_succ (by omega)]
      exact hnext _ (by omega)
  | succ d ih =>
    intro k j hj hfj hk
    obtain ⟨k, rfl⟩ : ∃ m, k = m + 1 := ⟨k - 1, by omega⟩
    rw [quoinlaw06_ClassCuts.l2]
    rw [if_pos (by omega), if_pos (by omega), he, if_pos (by omega), if_pos (by omega), if_pos (by omega), hb]
    obtain ⟨k, rfl⟩ : ∃ m, k = m + 1 := ⟨k - 1, by omega⟩
    rw [of_eq]
    simp only [Option.bind_some]
    rw [if_pos (hcon j hfj (by omega)), wrap_succ (by omega)]
    exact ih _ (j + 1) (by omega) (by omega) (by omega)

theorem cuts_runs (t : List Int) (x3 : Int) (big : Bool) (hb : (x3 == 1) = big) (hn : t.length ≤ 1048576) (r : Option Bool) (k0 : Nat) (hk0 : 0 < k0)
    (hnext : ∀ k, k0 ≤ k → quoinlaw06_ClassCuts.l0 k t (wrap64 (x3 + 1)) = r) (d : Nat) :
    ∀ f i k, t.length - f ≤ d → f ≤ t.length → (runsF t big t.length 0).drop i = runsF t big (t.length - f) f → k0 + 8 * (t.length - f) + 8 ≤ k → quoinlaw06_ClassCuts.l1 k t x3 (runsF t big t.length 0) (f : Int) (i : Int) = r := by
  have hL := runsF_len t big t.length 0
  induction d with
  | zero =>
    intro f i k hd hf hdrop hk
    obtain ⟨k, rfl⟩ : ∃ m, k = m + 1 := ⟨k - 1, by omega⟩
    obtain rfl : f = t.length := by omega
    have h0 : t.length - t.length = 0 := by omega
    rw [h0, runsF] at hdrop
    have := List.drop_eq_nil_iff.1 hdrop
    rw [quoinlaw06_ClassCuts.l1]
    rw [if_neg (by omega), if_pos (by omega)]
    exact hnext k (by omega)
  | succ d ih =>
    intro f i k hd hf hdrop hk
    by_cases hfe : f = t.length
    · exact ih f i k (by omega) hf hdrop (by omega)
    obtain ⟨m, hm⟩ : ∃ m, t.length - f = m + 1 := ⟨t.length - f - 1, by omega⟩
    obtain ⟨e, h1, h2, h3, h4, h5⟩ := runsF_first t big m f (by omega)
    rw [hm, h5] at hdrop
    obtain ⟨hi, hrd, hdrop2⟩ := rd_drop _ _ _ _ hdrop
    obtain ⟨k, rfl⟩ : ∃ m, k = m + 1 := ⟨k - 1, by omega⟩
    rw [quoinlaw06_ClassCuts.l1]
    rw [if_pos (by omega), if_pos (by omega), hrd, if_neg (by omega)]
    have hdec : decide (((e + 1 : Nat) : Int) > (t.length : Int)) = false := by simp; omega
    rw [hdec]
    obtain ⟨k, rfl⟩ : ∃ m, k = m + 1 := ⟨k - 1, by omega⟩
    simp only [quoinlaw06_ClassCuts.j2]
    rw [if_neg (by decide), if_pos (by omega), if_pos (by omega), hb]
    obtain ⟨k, rfl⟩ : ∃ m, k = m + 1 := ⟨k - 1, by omega⟩
    rw [of_eq]
    simp only [Option.bind_some]
    refine cuts_inner t _ x3 big hb hn (by omega) i e f hi hrd h2 h3 (fun j hj hj2 => ?_) h1 r (k0 + 8 * (t.length - (e + 1)) + 8) (by omega) (fun k hk => ih (e + 1) (i + 1) k (by omega) (by omega) hdrop2 hk) (e + 1 - f) _ f (by omega) (by omega) ?_
    · have := cls_const t big f e h2 h4 (j - f) (by omega)
      rwa [show f + (j - f) = j by omega] at this
    · omega

theorem ClassCuts (l0 : List Int) (hn : l0.length ≤ 1048576) (hw : ∀ x ∈ l0, (Lit.int .u8 x).wf = true) : ∃ k, quoinlaw06_ClassCuts.f k l0 = some true := by
  refine ⟨40000000, ?_⟩
  have h2 : ∀ k, 1048600 ≤ k → quoinlaw06_ClassCuts.l0 k l0 2 = some true := by
    intro k hk
    obtain ⟨k, rfl⟩ : ∃ m, k = m + 1 := ⟨k - 1, by omega⟩
    rw [quoinlaw06_ClassCuts.l0]
    rw [if_neg (by omega), runs_eq l0 true hn _ (by omega)]
    simp only [Option.bind_some]
    rw [runs_eq l0 false hn _ (by omega)]
    simp only [Option.bind_some]
    have := runsF_big l0 l0.length 0
    simp
    omega
  have step : ∀ (x : Int) (big : Bool) (k0 : Nat), (x == 1) = big → x < 2 → 1048600 ≤ k0 → (∀ k, k0 ≤ k → quoinlaw06_ClassCuts.l0 k l0 (wrap64 (x + 1)) = some true) →
      ∀ k, k0 + 8 * l0.length + 10 ≤ k → quoinlaw06_ClassCuts.l0 k l0 x = some true := by
    intro x big k0 hb hx hk0 hnext k hk
    obtain ⟨k, rfl⟩ : ∃ m, k = m + 1 := ⟨k - 1, by omega⟩
    rw [quoinlaw06_ClassCuts.l0]
    rw [if_pos hx, hb, runs_eq l0 big hn _ (by omega)]
    simp only [Option.bind_some]
    exact cuts_runs l0 x big hb hn (some true) k0 (by omega) hnext l0.length 0 0 _ (by omega) (by omega) (by simp) (by omega)
  have h1 := step 1 true 1048600 rfl (by omega) (by omega) (fun k hk => by rw [show wrap64 (1 + 1) = 2 by decide +kernel]; exact h2 k hk)
  have h0 := step 0 false (1048600 + 8 * l0.length + 10) rfl (by omega) (by omega) (fun k hk => by rw [show wrap64 (0 + 1) = 1 by decide +kernel]; exact h1 k (by omega))
  unfold quoinlaw06_ClassCuts.f
  rw [awake_any _ (by omega)]
  simp only [Option.bind_some, if_true]
  exact h0 _ (by omega)


end Go.Proofs.Ytndfmgdpajcbdaa.Pure
