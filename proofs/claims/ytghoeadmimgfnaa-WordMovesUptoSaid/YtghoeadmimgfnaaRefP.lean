/- The reference of layer 8, plain: its scans find the places that the lists hold. No condition but the sizes. -/
import Derived.Test.YtghoeadmimgfnaaMv
import Derived.Test.YtghoeadmimgfnaaPWax3
namespace Go.Proofs.Ytghoeadmimgfnaa.Hand
open Go.RowKit Go.Proofs.Ytghoeadmimgfnaa.PWa Go.Proofs.YtghoeadmimgfnaaW.PrintWords
set_option linter.unusedVariables false
set_option linter.unusedSimpArgs false

theorem rof_eq (k : Nat) (a : Int) (big : Bool) : quoinref06_Of.f (k + 1) a big = some (cls a big) := by
  have e1 : quoinref06_small.f a = some (decide (97 ≤ a ∧ a ≤ 122)) := by unfold quoinref06_small.f; by_cases h : 97 ≤ a <;> simp [h]
  have e2 : quoinref06_great.f a = some (decide (65 ≤ a ∧ a ≤ 90)) := by unfold quoinref06_great.f; by_cases h : 65 ≤ a <;> simp [h]
  unfold quoinref06_Of.f cls
  by_cases h1 : a = 10
  · simp [h1]
  · by_cases h2 : a = 32
    · simp [h2, quoinref06_Of.j0]
    · by_cases h3 : a = 9
      · simp [h3, quoinref06_Of.j0]
      · have h4 : (a == 9) = false := by simpa using h3
        simp only [quoinref06_Of.j0, e1, e2, Option.bind_some, h1, h2, h3, h4, if_false, or_self, decide_eq_true_eq, ge_iff_le, Bool.false_eq_true]
        by_cases s1 : 97 ≤ a ∧ a ≤ 122
        · cases big <;> simp [s1]
        · by_cases s2 : 65 ≤ a ∧ a ≤ 90
          · cases big <;> simp [s1, s2]
          · by_cases s3 : a = 95
            · cases big <;> simp [s3]
            · by_cases s4 : 128 ≤ a
              · cases big <;> simp [s1, s2, s3, s4] <;> omega
              · by_cases s5 : 48 ≤ a
                · by_cases s6 : a ≤ 57 <;> cases big <;> simp [s1, s2, s3, s4, s5, s6]
                · cases big <;> simp [s1, s2, s3, s4, s5]
/-- the reference's kind -/
def kR (l : List Int) (big : Bool) (i : Int) : Int := if i < 0 then -1 else if (l.length : Int) ≤ i then -1 else cls (rd l i) big
theorem kind_eq (k : Nat) (l : List Int) (i : Int) (big : Bool) : quoinref08_kind.f (k + 1) l i big = some (kR l big i) := by
  unfold quoinref08_kind.f kR
  by_cases h1 : i < 0
  · simp [h1]
  · by_cases h2 : (l.length : Int) ≤ i
    · simp [h1, h2]
    · rw [if_neg h1, if_neg (by omega), if_pos (by omega), if_pos (by omega), rof_eq, if_neg h1, if_neg h2]; rfl
theorem cls_range (a : Int) (big : Bool) : 0 ≤ cls a big ∧ cls a big ≤ 3 := by unfold cls; split <;> (try split) <;> (try split) <;> omega
theorem cls_brk (a : Int) (big : Bool) : cls a big = 3 ↔ a = 10 := by
  unfold cls
  split
  · simp [*]
  · simp only [*, iff_false]; split <;> (try split) <;> omega
theorem runs_eq (k : Nat) (l : List Int) (i : Int) (big : Bool) : quoinref08_runs.f (k + 1) l i big = some (inWK (kindAt l big i)) := by
  unfold quoinref08_runs.f
  rw [kind_eq, Option.bind_some]
  unfold inWK kR kindAt
  by_cases h1 : i < 0
  · simp [h1]
  · by_cases h2 : (l.length : Int) ≤ i
    · simp [h1, h2]
    · simp only [h1, h2, if_false]
      generalize cls (rd l i) big = q
      by_cases hq : q = 1
      · simp [hq]
      · by_cases hq2 : q = 2 <;> simp [hq, hq2]
theorem bare_eq (l : List Int) (big : Bool) (p : Nat) (hp : p ≤ l.length) (hl : l.length ≤ 1048576) : quoinref08_bare.f l (p : Int) = some (bareK l big (p : Int)) := by
  unfold quoinref08_bare.f bareK kindAt
  have hb : ∀ i : Int, (cls (rd l i) big == 3) = (rd l i == 10) := fun i => by
    rw [Bool.eq_iff_iff]; simp [cls_brk]
  by_cases h0 : p = 0
  · subst h0
    simp only [Int.ofNat_zero, Int.cast_ofNat_Int, if_true]
    by_cases h1 : l.length = 0
    · simp [h1]
    · have e1 : ¬ (0 : Int) = (l.length : Int) := by omega
      have e2 : ¬ (l.length : Int) ≤ 0 := by omega
      have e3 : (0 : Int) < (l.length : Int) := by omega
      simp [e1, e2, e3, hb, h1]
  · have g0 : ¬ (p : Int) = 0 := by omega
    rw [if_neg g0, w64 _ (by omega), if_pos (by omega), if_pos (by omega)]
    have g1 : ¬ (p : Int) < 0 := by omega
    have g2 : ¬ (p : Int) - 1 < 0 := by omega
    have g3 : ¬ (l.length : Int) ≤ (p : Int) - 1 := by omega
    simp only [g1, g2, g3, if_false, hb]
    by_cases h10 : rd l ((p : Int) - 1) = 10
    · simp only [h10, if_true]
      by_cases h1 : p = l.length
      · have e1 : (p : Int) = (l.length : Int) := by omega
        have e2 : (l.length : Int) ≤ (p : Int) := by omega
        simp [e1]
      · have e1 : ¬ (p : Int) = (l.length : Int) := by omega
        have e2 : ¬ (l.length : Int) ≤ (p : Int) := by omega
        have e3 : (p : Int) < (l.length : Int) := by omega
        simp [e1, e2, e3, hb]
    · simp [h10]
theorem kdiff (l : List Int) (big : Bool) (i j : Int) (h : inWK (kindAt l big i) = true) : (kR l big j != kR l big i) = (kindAt l big j != kindAt l big i) := by
  have hi : kR l big i = kindAt l big i ∧ (kindAt l big i = 1 ∨ kindAt l big i = 2) := by
    unfold inWK at h
    have h2 : kindAt l big i = 1 ∨ kindAt l big i = 2 := by
      simp only [Bool.or_eq_true, beq_iff_eq] at h
      omega
    refine ⟨?_, h2⟩
    unfold kR kindAt at *
    split
    · rename_i hh; rw [if_pos hh] at h2; omega
    · rename_i hh
      rw [if_neg hh] at h2
      split
      · rename_i hh2; rw [if_pos hh2] at h2; omega
      · rfl
  rw [hi.1]
  have h2 := hi.2
  generalize kindAt l big i = q at h2 ⊢
  unfold kR kindAt
  split
  · rcases h2 with rfl | rfl <;> rfl
  · split
    · rcases h2 with rfl | rfl <;> rfl
    · rfl
theorem beginning_eq (k : Nat) (l : List Int) (big : Bool) (p : Nat) (hp : p ≤ l.length) (hl : l.length ≤ 1048576) : quoinref08_beginning.f (k + 1) l (p : Int) big = some (begK l big (p : Int)) := by
  unfold quoinref08_beginning.f begK
  rw [bare_eq l big p hp hl, Option.bind_some]
  cases bareK l big (p : Int)
  · rw [if_neg (by simp), runs_eq, Option.bind_some]
    cases h : inWK (kindAt l big (p : Int))
    · simp
    · rw [if_pos rfl, kind_eq, Option.bind_some, kind_eq, Option.bind_some, w64 _ (by omega), kdiff l big p _ h]
      simp
  · simp
theorem ending_eq (k : Nat) (l : List Int) (big : Bool) (p : Nat) (hp : p ≤ l.length) (hl : l.length ≤ 1048576) : quoinref08_ending.f (k + 1) l (p : Int) big = some (endK l big (p : Int)) := by
  unfold quoinref08_ending.f endK
  rw [runs_eq, Option.bind_some]
  cases h : inWK (kindAt l big (p : Int))
  · simp
  · rw [if_pos rfl, kind_eq, Option.bind_some, kind_eq, Option.bind_some, w64 _ (by omega), kdiff l big p _ h]
    simp
theorem ronward_loop (l : List Int) (big : Bool) (hl : l.length ≤ 1048576) : ∀ (c k p n : Nat), c + p = l.length + 1 → c + 2 ≤ k → 1 ≤ n → n ≤ 9999 →
    quoinref08_onward.l0 k l (n : Int) big (p : Int) = some ((up (begK l big) p c)[n - 1]?.getD (l.length : Int))
  | 0, k + 1, p, n, h, hk, hn, hn2 => by
    unfold quoinref08_onward.l0
    rw [if_neg (by omega)]
    simp [up]
  | c + 1, k + 1, p, n, h, hk, hn, hn2 => by
    obtain ⟨k', rfl⟩ : ∃ k', k = k' + 1 := ⟨k - 1, by omega⟩
    unfold quoinref08_onward.l0
    rw [if_pos (by omega), beginning_eq k' l big p (by omega) hl, Option.bind_some, up, w64 ((n : Int) - 1) (by omega), w64 ((p : Int) + 1) (by omega)]
    cases begK l big (p : Int)
    · rw [if_neg (by simp), if_neg (by simp)]
      exact ronward_loop l big hl c (k' + 1) (p + 1) n (by omega) (by omega) hn hn2
    · rw [if_pos rfl, if_pos rfl]
      by_cases h1 : n = 1
      · subst h1; simp
      · rw [if_neg (by omega), show ((n : Int) - 1) = ((n - 1 : Nat) : Int) by omega]
        have := ronward_loop l big hl c (k' + 1) (p + 1) (n - 1) (by omega) (by omega) (by omega) (by omega)
        rw [show ((p : Int) + 1) = ((p + 1 : Nat) : Int) by omega, this, show n - 1 = (n - 1 - 1) + 1 by omega, List.getElem?_cons_succ]
        simp
theorem ronward_eq (l : List Int) (big : Bool) (a n k : Nat) (hl : l.length ≤ 1048576) (ha : a ≤ l.length) (hk : l.length + 3 ≤ k) (hn : 1 ≤ n) (hn2 : n ≤ 9999) :
    quoinref08_onward.f k l (a : Int) (n : Int) big = some ((up (begK l big) (a + 1) (l.length - a))[n - 1]?.getD (l.length : Int)) := by
  unfold quoinref08_onward.f
  rw [w64 _ (by omega)]
  exact ronward_loop l big hl _ k (a + 1) n (by omega) (by omega) hn hn2
theorem rback_loop (l : List Int) (big halts : Bool) (hl : l.length ≤ 1048576) : ∀ (i k n : Nat), i ≤ l.length → 2 * i + 4 ≤ k → 1 ≤ n → n ≤ 9999 →
    quoinref08_back.l0 k l (n : Int) big halts (i : Int) = some ((lst (if halts = true then haltK l big else begK l big) (i + 1)).reverse[n - 1]?.getD 0)
  | 0, k + 1, n, h, hk, hn, hn2 => by
    unfold quoinref08_back.l0
    rw [if_neg (by omega)]
    rw [lst, lst, List.nil_append]
    generalize (if halts = true then haltK l big else begK l big) ((0 : Nat) : Int) = b
    cases b
    · simp
    · rw [if_pos rfl]
      rcases Nat.lt_or_ge 1 n with h1 | h1
      · rw [List.getElem?_eq_none (by simp; omega)]; rfl
      · obtain rfl : n = 1 := by omega
        simp
  | i + 1, k + 1, n, h, hk, hn, hn2 => by
    obtain ⟨k', rfl⟩ : ∃ k', k = k' + 1 := ⟨k - 1, by omega⟩
    have key : ∀ b : Bool, (if halts = true then haltK l big else begK l big) ((i + 1 : Nat) : Int) = b → quoinref08_back.j1 (k' + 1) l (n : Int) big halts ((i + 1 : Nat) : Int) b = some ((lst (if halts = true then haltK l big else begK l big) (i + 1 + 1)).reverse[n - 1]?.getD 0) := by
      intro b hb
      unfold quoinref08_back.j1
      rw [w64 ((n : Int) - 1) (by omega), w64 (((i + 1 : Nat) : Int) - 1) (by omega), lst, hb]
      cases b
      · rw [if_neg (by simp), if_neg (by simp), show (((i + 1 : Nat) : Int) - 1) = (i : Int) by omega]
        exact rback_loop l big halts hl i k' n (by omega) (by omega) hn hn2
      · rw [if_pos rfl, if_pos rfl, List.reverse_append, List.reverse_cons, List.reverse_nil, List.nil_append]
        by_cases h1 : n = 1
        · subst h1; simp
        · rw [if_neg (by omega), show ((n : Int) - 1) = ((n - 1 : Nat) : Int) by omega, show (((i + 1 : Nat) : Int) - 1) = (i : Int) by omega]
          rw [rback_loop l big halts hl i k' (n - 1) (by omega) (by omega) (by omega) (by omega), show n - 1 = (n - 1 - 1) + 1 by omega]
          simp
    unfold quoinref08_back.l0
    rw [if_pos (by omega), beginning_eq k' l big (i + 1) (by omega) hl, Option.bind_some]
    cases halts
    · rw [if_neg (by simp)]
      exact key _ rfl
    · rw [if_pos rfl, ending_eq k' l big (i + 1) (by omega) hl, Option.bind_some, bare_eq l big (i + 1) (by omega) hl]
      simp only [Option.bind_some]
      cases he : endK l big ((i + 1 : Nat) : Int)
      · rw [if_neg (by simp)]
        exact key _ (by rw [if_pos rfl, haltK, he, Bool.or_false])
      · rw [if_pos rfl]
        exact key _ (by rw [if_pos rfl, haltK, he, Bool.or_true])
theorem rback_eq (l : List Int) (big halts : Bool) (a n k : Nat) (hl : l.length ≤ 1048576) (ha : a ≤ l.length) (ha1 : a ≠ 0) (hk : 2 * l.length + 4 ≤ k) (hn : 1 ≤ n) (hn2 : n ≤ 9999) :
    quoinref08_back.f k l (a : Int) (n : Int) big halts = some ((lst (if halts = true then haltK l big else begK l big) a).reverse[n - 1]?.getD 0) := by
  unfold quoinref08_back.f
  obtain ⟨b, rfl⟩ : ∃ b, a = b + 1 := ⟨a - 1, by omega⟩
  rw [w64 _ (by omega), show (((b + 1 : Nat) : Int) - 1) = (b : Int) by omega]
  exact rback_loop l big halts hl b k n (by omega) (by omega) hn hn2
theorem rlast_loop (l : List Int) (big : Bool) (hl : l.length ≤ 1048576) : ∀ (c k p n : Nat) (z : Int), c + p = l.length + 1 → 2 * c + 4 ≤ k → n ≤ 9999 →
    quoinref08_last.l0 k l (n : Int) big z (p : Int) = some (if n = 0 then z else (up (endK l big) p c)[n - 1]?.getD ((up (endK l big) p c).getLast?.getD z))
  | c, k + 1, p, n, z, h, hk, hn2 => by
    obtain ⟨k', rfl⟩ : ∃ k', k = k' + 1 := ⟨k - 1, by omega⟩
    unfold quoinref08_last.l0 quoinref08_last.j1
    by_cases hp : (p : Int) < (l.length : Int)
    · obtain ⟨c, rfl⟩ : ∃ c', c = c' + 1 := ⟨c - 1, by omega⟩
      obtain ⟨k2, rfl⟩ : ∃ k2, k' = k2 + 1 := ⟨k' - 1, by omega⟩
      rw [if_pos hp]
      by_cases h0 : n = 0
      · rw [if_pos h0, if_neg (by simp; omega)]
      · rw [if_neg h0, if_pos (by simp; omega), ending_eq k2 l big p (by omega) hl, Option.bind_some, up, w64 ((n : Int) - 1) (by omega), w64 ((p : Int) + 1) (by omega), show ((p : Int) + 1) = ((p + 1 : Nat) : Int) by omega]
        cases endK l big (p : Int)
        · rw [if_neg (by simp), if_neg (by simp), rlast_loop l big hl c (k2 + 1) (p + 1) n z (by omega) (by omega) hn2, if_neg h0]
        · rw [if_pos rfl, if_pos rfl, show ((n : Int) - 1) = ((n - 1 : Nat) : Int) by omega, rlast_loop l big hl c (k2 + 1) (p + 1) (n - 1) (p : Int) (by omega) (by omega) (by omega)]
          by_cases h1 : n = 1
          · subst h1; simp
          · rw [if_neg (by omega), show n - 1 = (n - 1 - 1) + 1 by omega, List.getElem?_cons_succ, List.getLast?_cons]
            simp
    · rw [if_neg hp, if_neg (by simp)]
      have hz : up (endK l big) p c = [] := by
        have hc : c ≤ 1 := by omega
        rcases Nat.lt_or_ge 0 c with h1 | h1
        · obtain rfl : c = 1 := by omega
          obtain rfl : p = l.length := by omega
          simp [up, endK, kindAt, inWK]
        · obtain rfl : c = 0 := by omega
          rfl
      rw [hz]
      simp
theorem rlast_eq (l : List Int) (big : Bool) (a n k : Nat) (hl : l.length ≤ 1048576) (ha : a ≤ l.length) (hk : 2 * l.length + 4 ≤ k) (hn : 1 ≤ n) (hn2 : n ≤ 9999) :
    quoinref08_last.f k l (a : Int) (n : Int) big = some ((up (endK l big) (a + 1) (l.length - a))[n - 1]?.getD ((up (endK l big) (a + 1) (l.length - a)).getLast?.getD (-1))) := by
  unfold quoinref08_last.f
  rw [w64 _ (by omega), show ((a : Int) + 1) = ((a + 1 : Nat) : Int) by omega, rlast_loop l big hl (l.length - a) k (a + 1) n (-1) (by omega) (by omega) hn2, if_neg (by omega)]
end Go.Proofs.Ytghoeadmimgfnaa.Hand
