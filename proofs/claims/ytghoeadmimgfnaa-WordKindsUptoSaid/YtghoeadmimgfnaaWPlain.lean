/- Motions by words, plain: steps add up, ways, there and back. No program in sight, but the lists of places. -/
import Derived.Test.YtghoeadmimgfnaaMw
namespace Go.Proofs.Ytghoeadmimgfnaa.Hand
open Go.RowKit Go.Proofs.Ytghoeadmimgfnaa.PWa Go.Proofs.YtghoeadmimgfnaaW.PrintWords
set_option linter.unusedVariables false
set_option linter.unusedSimpArgs false

/-- the places downwards -/
def dn (p : Int → Bool) (a : Nat) : List Int := (lst p a).reverse
theorem dn_succ (p : Int → Bool) (a : Nat) : dn p (a + 1) = if p a = true then (a : Int) :: dn p a else dn p a := by
  unfold dn
  rw [lst]
  split <;> simp
theorem mvF1 (l : List Int) (big : Bool) (a n : Nat) : mvF l big a n 1 = if a = 0 then no70 else ((a : Int), (dn (begK l big) a)[n - 1]?.getD 0, 1, 0) := rfl
theorem mvF3 (l : List Int) (big : Bool) (a n : Nat) : mvF l big a n 3 = if a = 0 then no70 else ((a : Int), (dn (haltK l big) a)[n - 1]?.getD 0, 2, 0) := rfl
theorem up_at (p : Int → Bool) : ∀ (c i m : Nat) (b : Int), (up p i c)[m]? = some b → ∃ bn : Nat, b = bn ∧ i ≤ bn ∧ bn < i + c ∧ p b = true ∧
    (∀ q, (up p i c)[m + 1 + q]? = (up p (bn + 1) (i + c - (bn + 1)))[q]?) ∧ (up p i c).getLast? = some ((up p (bn + 1) (i + c - (bn + 1))).getLast?.getD b)
  | 0, i, m, b, h => by simp [up] at h
  | c + 1, i, m, b, h => by
    rw [up] at h ⊢
    cases hp : p (i : Int)
    · rw [hp, if_neg (by simp)] at h
      rw [if_neg (by simp)]
      obtain ⟨bn, h1, h2, h3, h4, h5, h6⟩ := up_at p c (i + 1) m b h
      exact ⟨bn, h1, by omega, by omega, h4, fun q => by rw [h5 q]; congr 2; omega, by rw [h6, show i + (c + 1) - (bn + 1) = i + 1 + c - (bn + 1) by omega]⟩
    · rw [hp, if_pos rfl] at h
      rw [if_pos rfl]
      cases m with
      | zero =>
        simp only [List.getElem?_cons_zero, Option.some.injEq] at h
        subst h
        refine ⟨i, rfl, Nat.le_refl _, by omega, hp, fun q => ?_, ?_⟩
        · rw [show 0 + 1 + q = q + 1 by omega, List.getElem?_cons_succ, show i + (c + 1) - (i + 1) = c by omega]
        · rw [List.getLast?_cons, show i + (c + 1) - (i + 1) = c by omega]
      | succ m =>
        rw [List.getElem?_cons_succ] at h
        obtain ⟨bn, h1, h2, h3, h4, h5, h6⟩ := up_at p c (i + 1) m b h
        refine ⟨bn, h1, by omega, by omega, h4, fun q => ?_, ?_⟩
        · rw [show m + 1 + 1 + q = (m + 1 + q) + 1 by omega, List.getElem?_cons_succ, h5 q]; congr 2; omega
        · rw [List.getLast?_cons, h6, show i + (c + 1) - (bn + 1) = i + 1 + c - (bn + 1) by omega]; rfl
theorem dn_at (p : Int → Bool) : ∀ (a m : Nat) (b : Int), (dn p a)[m]? = some b → ∃ bn : Nat, b = bn ∧ bn < a ∧ p b = true ∧ ∀ q, (dn p a)[m + 1 + q]? = (dn p bn)[q]?
  | 0, m, b, h => by simp [dn, lst] at h
  | a + 1, m, b, h => by
    rw [dn_succ] at h
    cases hp : p (a : Int)
    · rw [hp, if_neg (by simp)] at h
      obtain ⟨bn, h1, h2, h3, h4⟩ := dn_at p a m b h
      exact ⟨bn, h1, by omega, h3, fun q => by rw [dn_succ, hp, if_neg (by simp)]; exact h4 q⟩
    · rw [hp, if_pos rfl] at h
      cases m with
      | zero =>
        simp only [List.getElem?_cons_zero, Option.some.injEq] at h
        subst h
        exact ⟨a, rfl, by omega, hp, fun q => by rw [dn_succ, hp, if_pos rfl, show 0 + 1 + q = q + 1 by omega, List.getElem?_cons_succ]⟩
      | succ m =>
        rw [List.getElem?_cons_succ] at h
        obtain ⟨bn, h1, h2, h3, h4⟩ := dn_at p a m b h
        exact ⟨bn, h1, by omega, h3, fun q => by rw [dn_succ, hp, if_pos rfl, show m + 1 + 1 + q = (m + 1 + q) + 1 by omega, List.getElem?_cons_succ]; exact h4 q⟩
theorem none_mono {α : Type} {l : List α} {i j : Nat} (h : l[i]? = none) (hij : i ≤ j) : l[j]? = none := by
  rw [List.getElem?_eq_none_iff] at h ⊢
  omega
theorem last_none {l : List Int} (h : l.getLast? = none) : l = [] := by simpa using h
/-- m steps and then n -/
theorem step_add (l : List Int) (big : Bool) (a m n : Nat) (way : Nat) (hw : way < 4) (ha : a ≤ l.length) (hm : 1 ≤ m) (hn : 1 ≤ n) (h : (mvF l big a m way).2.2.2 = 0) :
    ∃ b : Nat, (mvF l big a m way).2.1 = b ∧ b ≤ l.length ∧ (mvF l big a (m + n) way).2.2.2 = 0 ∧
      (((mvF l big b n way).2.2.2 = 70 ∧ (mvF l big a (m + n) way).2.1 = b) ∨ ((mvF l big b n way).2.2.2 = 0 ∧ (mvF l big a (m + n) way).2.1 = (mvF l big b n way).2.1)) := by
  have hmn : m + n - 1 = m - 1 + 1 + (n - 1) := by omega
  match way, hw with
  | 0, _ =>
    by_cases hz : a = l.length
    · simp [mvF, hz, no70] at h
    · simp only [mvF, hz, if_false]
      cases hu : (up (begK l big) (a + 1) (l.length - a))[m - 1]? with
      | some b =>
        obtain ⟨bn, rfl, h2, h3, h4, h5, _⟩ := up_at _ _ _ _ _ hu
        refine ⟨bn, by simp, by omega, trivial, ?_⟩
        rw [hmn, h5 (n - 1), show a + 1 + (l.length - a) - (bn + 1) = l.length - bn by omega]
        by_cases hb : bn = l.length
        · left
          rw [if_pos hb]
          refine ⟨rfl, ?_⟩
          subst hb
          simp [up]
        · right
          rw [if_neg hb]
          exact ⟨rfl, rfl⟩
      | none =>
        refine ⟨l.length, by simp, by omega, trivial, Or.inl ?_⟩
        rw [if_pos rfl, none_mono hu (by omega)]
        exact ⟨rfl, rfl⟩
  | 1, _ =>
    by_cases hz : a = 0
    · simp [mvF1, hz, no70] at h
    · simp only [mvF1, hz, if_false]
      cases hu : (dn (begK l big) a)[m - 1]? with
      | some b =>
        obtain ⟨bn, rfl, h2, h3, h5⟩ := dn_at _ _ _ _ hu
        refine ⟨bn, by simp, by omega, trivial, ?_⟩
        rw [hmn, h5 (n - 1)]
        by_cases hb : bn = 0
        · left
          rw [if_pos hb]
          subst hb
          exact ⟨rfl, by simp [dn, lst]⟩
        · right
          rw [if_neg hb]
          exact ⟨rfl, rfl⟩
      | none =>
        refine ⟨0, by simp, by omega, trivial, Or.inl ?_⟩
        rw [if_pos rfl]
        refine ⟨rfl, ?_⟩
        rw [none_mono hu (by omega)]
        rfl
  | 3, _ =>
    by_cases hz : a = 0
    · simp [mvF3, hz, no70] at h
    · simp only [mvF3, hz, if_false]
      cases hu : (dn (haltK l big) a)[m - 1]? with
      | some b =>
        obtain ⟨bn, rfl, h2, h3, h5⟩ := dn_at _ _ _ _ hu
        refine ⟨bn, by simp, by omega, trivial, ?_⟩
        rw [hmn, h5 (n - 1)]
        by_cases hb : bn = 0
        · left
          rw [if_pos hb]
          subst hb
          exact ⟨rfl, by simp [dn, lst]⟩
        · right
          rw [if_neg hb]
          exact ⟨rfl, rfl⟩
      | none =>
        refine ⟨0, by simp, by omega, trivial, Or.inl ?_⟩
        rw [if_pos rfl]
        refine ⟨rfl, ?_⟩
        rw [none_mono hu (by omega)]
        rfl
  | 2, _ =>
    simp only [mvF] at h ⊢
    cases hz : (up (endK l big) (a + 1) (l.length - a)).getLast? with
    | none => rw [hz] at h; simp [no70] at h
    | some z =>
      simp only
      cases hu : (up (endK l big) (a + 1) (l.length - a))[m - 1]? with
      | some b =>
        obtain ⟨bn, rfl, h2, h3, h4, h5, h6⟩ := up_at _ _ _ _ _ hu
        have hbl : bn ≤ l.length := by omega
        refine ⟨bn, by simp, hbl, trivial, ?_⟩
        rw [hmn, h5 (n - 1)]
        rw [show a + 1 + (l.length - a) - (bn + 1) = l.length - bn by omega] at h6 ⊢
        rw [hz] at h6
        cases hq : (up (endK l big) (bn + 1) (l.length - bn)).getLast? with
        | none =>
          left
          rw [hq] at h6
          simp only [Option.getD_none, Option.some.injEq] at h6
          rw [last_none hq, h6]
          exact ⟨rfl, by simp⟩
        | some z' =>
          right
          rw [hq] at h6
          simp only [Option.getD_some, Option.some.injEq] at h6
          subst h6
          exact ⟨rfl, rfl⟩
      | none =>
        obtain ⟨i, hi⟩ : ∃ i, (up (endK l big) (a + 1) (l.length - a))[i]? = some z := List.getElem?_of_mem (List.mem_of_getLast? hz)
        obtain ⟨zn, rfl, h2, h3, h4, h5, h6⟩ := up_at _ _ _ _ _ hi
        have hzl : zn ≤ l.length := by omega
        refine ⟨zn, by simp, hzl, trivial, Or.inl ?_⟩
        rw [none_mono hu (by omega)]
        refine ⟨?_, rfl⟩
        have hne : (up (endK l big) (zn + 1) (l.length - zn)).getLast? = none := by
          rw [show a + 1 + (l.length - a) - (zn + 1) = l.length - zn by omega] at h6
          cases hq : (up (endK l big) (zn + 1) (l.length - zn)).getLast? with
          | none => rfl
          | some y =>
            rw [hq, hz] at h6
            simp only [Option.getD_some, Option.some.injEq] at h6
            have := up_ge _ _ _ _ (List.mem_of_getLast? hq)
            omega
        rw [hne]
        rfl
/-- an error hangs on the way and the place alone -/
theorem err_same (l : List Int) (big : Bool) (a m n way : Nat) (h : (mvF l big a m way).2.2.2 ≠ 0) : mvF l big a m way = no70 ∧ mvF l big a n way = no70 := by
  unfold mvF at h ⊢
  split
  · by_cases hz : a = l.length
    · simp [hz]
    · simp [hz] at h
  · by_cases hz : a = 0
    · simp [hz]
    · simp [hz] at h
  · cases hz : (up (endK l big) (a + 1) (l.length - a)).getLast? with
    | none => simp
    | some z => simp [hz] at h
  · by_cases hz : a = 0
    · simp [hz]
    · simp [hz] at h
/-- which way, which kind -/
theorem ways (l : List Int) (big : Bool) (a n way : Nat) (hw : way < 4) (ha : a ≤ l.length) (h : (mvF l big a n way).2.2.2 = 0) :
    (mvF l big a n way).1 = a ∧ 0 ≤ (mvF l big a n way).2.1 ∧ (mvF l big a n way).2.1 ≤ l.length ∧ (way % 2 = 0 → (a : Int) < (mvF l big a n way).2.1) ∧ (way % 2 = 1 → (mvF l big a n way).2.1 < a) ∧ (mvF l big a n way).2.2.1 = if way < 2 then 1 else 2 := by
  match way, hw with
  | 0, _ =>
    by_cases hz : a = l.length
    · simp [mvF, hz, no70] at h
    · simp only [mvF, hz, if_false]
      cases hu : (up (begK l big) (a + 1) (l.length - a))[n - 1]? with
      | some b =>
        obtain ⟨bn, rfl, h2, h3, _⟩ := up_at _ _ _ _ _ hu
        simp; omega
      | none => simp; omega
  | 1, _ =>
    by_cases hz : a = 0
    · simp [mvF, hz, no70] at h
    · simp only [mvF, hz, if_false]
      rw [show ((lst (begK l big) a).reverse[n - 1]?.getD 0) = ((dn (begK l big) a)[n - 1]?.getD 0) from rfl]
      cases hu : (dn (begK l big) a)[n - 1]? with
      | some b =>
        obtain ⟨bn, rfl, h2, _⟩ := dn_at _ _ _ _ hu
        simp; omega
      | none => simp; omega
  | 3, _ =>
    by_cases hz : a = 0
    · simp [mvF, hz, no70] at h
    · simp only [mvF, hz, if_false]
      rw [show ((lst (haltK l big) a).reverse[n - 1]?.getD 0) = ((dn (haltK l big) a)[n - 1]?.getD 0) from rfl]
      cases hu : (dn (haltK l big) a)[n - 1]? with
      | some b =>
        obtain ⟨bn, rfl, h2, _⟩ := dn_at _ _ _ _ hu
        simp; omega
      | none => simp; omega
  | 2, _ =>
    simp only [mvF] at h ⊢
    cases hz : (up (endK l big) (a + 1) (l.length - a)).getLast? with
    | none => rw [hz] at h; simp [no70] at h
    | some z =>
      have hzz := up_ge _ _ _ _ (List.mem_of_getLast? hz)
      simp only
      cases hu : (up (endK l big) (a + 1) (l.length - a))[n - 1]? with
      | some b =>
        obtain ⟨bn, rfl, h2, h3, _⟩ := up_at _ _ _ _ _ hu
        simp; omega
      | none => simp; omega
/-- between a place of p and the next one there is none -/
theorem dn_first (p : Int → Bool) : ∀ (c i : Nat) (a : Int), (dn p i)[0]? = some a → ∀ b : Int, (up p i c)[0]? = some b → ∃ bn : Nat, b = bn ∧ (dn p bn)[0]? = some a
  | 0, i, a, h, b, hb => by simp [up] at hb
  | c + 1, i, a, h, b, hb => by
    rw [up] at hb
    cases hp : p (i : Int)
    · rw [hp, if_neg (by simp)] at hb
      exact dn_first p c (i + 1) a (by rw [dn_succ, hp, if_neg (by simp)]; exact h) b hb
    · rw [hp, if_pos rfl] at hb
      simp only [List.getElem?_cons_zero, Option.some.injEq] at hb
      exact ⟨i, hb.symm, h⟩
theorem dn_hd (p : Int → Bool) (a : Nat) (h : p a = true) : (dn p (a + 1))[0]? = some (a : Int) := by
  rw [dn_succ, h, if_pos rfl]; rfl
theorem dn_none (p : Int → Bool) (a : Nat) : ∀ (c : Nat), (∀ q : Nat, a < q → q < a + 1 + c → p (q : Int) = false) → p a = true → (dn p (a + 1 + c))[0]? = some (a : Int)
  | 0, _, h => dn_hd p a h
  | c + 1, hq, h => by
    rw [show a + 1 + (c + 1) = (a + 1 + c) + 1 by omega, dn_succ, hq (a + 1 + c) (by omega) (by omega), if_neg (by simp)]
    exact dn_none p a c (fun q h1 h2 => hq q h1 (by omega)) h
theorem up_first_none (p : Int → Bool) : ∀ (c i : Nat) (b : Int), (up p i c)[0]? = some b → ∀ q : Nat, i ≤ q → (q : Int) < b → p (q : Int) = false
  | 0, i, b, h, q, h1, h2 => by simp [up] at h
  | c + 1, i, b, h, q, h1, h2 => by
    rw [up] at h
    cases hp : p (i : Int)
    · rw [hp, if_neg (by simp)] at h
      by_cases hq : q = i
      · subst hq; exact hp
      · exact up_first_none p c (i + 1) b h q (by omega) h2
    · rw [hp, if_pos rfl] at h
      simp only [List.getElem?_cons_zero, Option.some.injEq] at h
      omega
end Go.Proofs.Ytghoeadmimgfnaa.Hand
