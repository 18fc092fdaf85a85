/- word.onward, word.back over a rising list: the n-th above, the n-th below. No condition but sizes. -/
import Derived.Test.YtghoeadmimgfnaaLookW
import Derived.Test.YtghoeadmimgfnaaPWax1
namespace Go.Proofs.Ytghoeadmimgfnaa.Hand
open Go.RowKit Go.Proofs.Ytghoeadmimgfnaa.PWa Go.Proofs.YtghoeadmimgfnaaW.PrintWords
set_option linter.unusedVariables false
set_option linter.unusedSimpArgs false

theorem w64 (x : Int) (h : -9223372036854775808 ≤ x ∧ x ≤ 9223372036854775807) : wrap64 x = x := by unfold wrap64; omega
theorem mid_eq (i j : Nat) (h : i + j ≤ 4194304) : wrap64 ((IntKind.u64.wrap (wrap64 ((i : Int) + (j : Int)))) / 2) = ((i + j) / 2 : Nat) := by
  rw [w64 ((i : Int) + j) (by omega)]
  have : IntKind.u64.wrap ((i : Int) + (j : Int)) = (i : Int) + j := by
    rw [IntKind.wrap_u64]
    omega
  rw [this, w64 _ (by omega)]
  omega
theorem rd_nat (l : List Int) (i : Nat) : rd l (i : Int) = l[i]?.getD 0 := by
  simp [rd, List.getD_eq_getElem?_getD]
theorem less_eq (a b : Int) : cmp_Less_int.f a b = some (decide (a < b)) := by
  simp [cmp_Less_int.f, cmp_isNaN_int.f]
/-- the search: all ahead of the place are below, all from it on are not -/
theorem bs_loop (l : List Int) (a : Int) (hn : l.length ≤ 2097152) (hs : l.Pairwise (· < ·)) : ∀ (k i j : Nat), j - i + 1 ≤ k → i ≤ j → j ≤ l.length → (∀ x, x < i → l[x]?.getD 0 < a) → (∀ x, j ≤ x → x < l.length → a ≤ l[x]?.getD 0) →
    ∃ p : Nat, p ≤ l.length ∧ slices_BinarySearch_int_int.l0 k l a (l.length : Int) (i : Int) (j : Int) = some ((p : Int), decide (p < l.length ∧ l[p]?.getD 0 = a)) ∧ (∀ x, x < p → l[x]?.getD 0 < a) ∧ (∀ x, p ≤ x → x < l.length → a ≤ l[x]?.getD 0)
  | 0, i, j, hk, _, _, _, _ => by omega
  | k + 1, i, j, hk, hij, hj, hlo, hhi => by
    have hsort : ∀ x y, x < y → y < l.length → l[x]?.getD 0 < l[y]?.getD 0 := by
      intro x y hxy hy
      have h := List.pairwise_iff_getElem.1 hs x y (by omega) hy hxy
      rw [List.getElem?_eq_getElem (by omega), List.getElem?_eq_getElem hy]
      exact h
    unfold slices_BinarySearch_int_int.l0
    by_cases hlt : i < j
    · have hm := mid_eq i j (by omega)
      rw [if_pos (show (i : Int) < (j : Int) by omega), hm, if_pos (by omega), if_pos (by omega), rd_nat, less_eq, Option.bind_some]
      by_cases hc : l[(i + j) / 2]?.getD 0 < a
      · rw [if_pos (by simpa using hc), w64 _ (by omega)]
        have e1 : (((i + j) / 2 : Nat) : Int) + 1 = (((i + j) / 2 + 1 : Nat) : Int) := by omega
        rw [e1]
        refine bs_loop l a hn hs k _ j (by omega) (by omega) hj (fun x hx => ?_) hhi
        by_cases hxe : x = (i + j) / 2
        · rw [hxe]; exact hc
        · have := hsort x ((i + j) / 2) (by omega) (by omega)
          omega
      · rw [if_neg (by simpa using hc)]
        refine bs_loop l a hn hs k i _ (by omega) (by omega) (by omega) hlo (fun x hx hxl => ?_)
        by_cases hxe : x = (i + j) / 2
        · rw [hxe]; omega
        · have := hsort ((i + j) / 2) x (by omega) hxl
          omega
    · obtain rfl : i = j := by omega
      rw [if_neg (by omega)]
      refine ⟨i, hj, ?_, hlo, hhi⟩
      by_cases hl : i < l.length
      · rw [if_pos (by omega), if_pos (by omega), if_pos (by omega), rd_nat]
        by_cases he : l[i]?.getD 0 = a
        · rw [if_pos he]; rw [decide_eq_true ⟨hl, he⟩]
        · rw [if_neg he]; simp [slices_isNaN_int.f, he]
      · rw [if_neg (by omega)]; simp [hl]
/-- the rising list's places that are below a -/
theorem search_eq (lo hi : List Int) (a : Int) (k : Nat) (hk : (lo ++ hi).length + 1 ≤ k) (hn : (lo ++ hi).length ≤ 2097152) (hs : (lo ++ hi).Pairwise (· < ·)) (h1 : ∀ x ∈ lo, x < a) (h2 : ∀ x ∈ hi, a ≤ x) :
    slices_BinarySearch_int_int.f k (lo ++ hi) a = some ((lo.length : Int), decide (hi[0]? = some a)) := by
  obtain ⟨p, hp, he, hlo, hhi⟩ := bs_loop (lo ++ hi) a hn hs k 0 (lo ++ hi).length (by omega) (by omega) (by omega) (fun x hx => by omega) (fun x hx hx' => by omega)
  have hpe : p = lo.length := by
    rcases Nat.lt_trichotomy p lo.length with h | h | h
    · have := hhi p (by omega) (by simp; omega)
      rw [List.getElem?_append_left h, List.getElem?_eq_getElem h] at this
      have := h1 lo[p] (List.getElem_mem h)
      simp at *
      omega
    · exact h
    · have h3 := hlo lo.length h
      have hh : 0 < hi.length := by simp at hp; omega
      rw [List.getElem?_append_right (by omega)] at h3
      simp [List.getElem?_eq_getElem hh] at h3
      have := h2 hi[0] (List.getElem_mem hh)
      omega
  subst hpe
  unfold slices_BinarySearch_int_int.f
  have he' : slices_BinarySearch_int_int.l0 k (lo ++ hi) a ((lo ++ hi).length : Int) 0 ((lo ++ hi).length : Int) = _ := he
  rw [he']
  congr 2
  rw [List.getElem?_append_right (by omega)]
  simp only [Nat.sub_self]
  cases hi with
  | nil => simp
  | cons y ys => simp
theorem onward_eq (lo hi : List Int) (a b : Int) (n : Nat) (k : Nat) (hk : (lo ++ hi).length + 1 ≤ k) (hn : (lo ++ hi).length ≤ 2097152) (hs : (lo ++ hi).Pairwise (· < ·)) (h1 : ∀ x ∈ lo, x ≤ a) (h2 : ∀ x ∈ hi, a < x) (hn1 : 1 ≤ n) (hn2 : n ≤ 9999) :
    word_onward.f k (lo ++ hi) a (n : Int) b = some (hi[n - 1]?.getD b) := by
  have key : ∀ i : Nat, i = lo.length → (if ((i + n - 1 : Nat) : Int) < ((lo ++ hi).length : Int) then (if 0 ≤ ((i + n - 1 : Nat) : Int) then (some (rd (lo ++ hi) ((i + n - 1 : Nat) : Int))) else (none : Option Int)) else (some b)) = some (hi[n - 1]?.getD b) := by
    intro i hi'
    subst hi'
    by_cases hl : n - 1 < hi.length
    · rw [if_pos (by rw [List.length_append]; omega), if_pos (by omega), rd_nat, List.getElem?_append_right (by omega), show lo.length + n - 1 - lo.length = n - 1 by omega, List.getElem?_eq_getElem hl]
      simp
    · rw [if_neg (by rw [List.length_append]; omega), List.getElem?_eq_none (by omega)]
      simp
  have hll : lo.length ≤ (lo ++ hi).length := by simp
  by_cases hm : a ∈ lo
  · obtain ⟨l0, l1, rfl⟩ := List.append_of_mem hm
    have hl1 : l1 = [] := by
      cases l1 with
      | nil => rfl
      | cons y ys =>
        have h := (List.pairwise_append.1 (List.pairwise_append.1 hs).1).2.1
        have h3 := (List.pairwise_cons.1 h).1 y (by simp)
        have h4 := h1 y (by simp)
        omega
    subst hl1
    have hsp : (l0 ++ [a]) ++ hi = l0 ++ (a :: hi) := by simp
    have hq := search_eq l0 (a :: hi) a k (by rw [← hsp]; exact hk) (by rw [← hsp]; exact hn) (by rw [← hsp]; exact hs)
      (fun x hx => by
        have h := (List.pairwise_append.1 hs).1
        exact (List.pairwise_append.1 h).2.2 x hx a (by simp))
      (fun x hx => by
        rcases List.mem_cons.1 hx with rfl | hx
        · exact Int.le_refl _
        · exact Int.le_of_lt (h2 x hx))
    have hll2 : l0.length + 1 ≤ 2097152 := by simp at hn; omega
    unfold word_onward.f
    have hd : decide ((a :: hi)[0]? = some a) = true := by simp
    rw [hsp, hq, Option.bind_some]
    simp only [hd, if_true]
    rw [w64 ((l0.length : Int) + 1) (by omega), w64 ((l0.length : Int) + 1 + n) (by omega), w64 ((l0.length : Int) + 1 + n - 1) (by omega), show (l0.length : Int) + 1 + n - 1 = ((l0.length + 1 + n - 1 : Nat) : Int) by omega, ← hsp]
    exact key _ (by simp)
  · have hq := search_eq lo hi a k hk hn hs (fun x hx => by have := h1 x hx; rcases Int.lt_or_eq_of_le this with h | h; exact h; exact absurd (h ▸ hx) hm) (fun x hx => Int.le_of_lt (h2 x hx))
    have hd : decide (hi[0]? = some a) = false := by
      rw [decide_eq_false_iff_not]
      intro he
      have := h2 a (List.mem_of_getElem? he)
      omega
    unfold word_onward.f
    rw [hq, Option.bind_some]
    simp only [hd, Bool.false_eq_true, if_false]
    rw [w64 ((lo.length : Int) + n) (by omega), w64 ((lo.length : Int) + n - 1) (by omega), show (lo.length : Int) + n - 1 = ((lo.length + n - 1 : Nat) : Int) by omega]
    exact key _ rfl
theorem back_eq (lo hi : List Int) (a : Int) (n : Nat) (k : Nat) (hk : (lo ++ hi).length + 1 ≤ k) (hn : (lo ++ hi).length ≤ 2097152) (hs : (lo ++ hi).Pairwise (· < ·)) (h1 : ∀ x ∈ lo, x < a) (h2 : ∀ x ∈ hi, a ≤ x) (hn1 : 1 ≤ n) (hn2 : n ≤ 9999) :
    word_back.f k (lo ++ hi) a (n : Int) = some (lo.reverse[n - 1]?.getD 0) := by
  have hll : lo.length ≤ (lo ++ hi).length := by simp
  unfold word_back.f
  rw [search_eq lo hi a k hk hn hs h1 h2, Option.bind_some]
  simp only
  rw [w64 ((lo.length : Int) - n) (by omega)]
  by_cases hl : n ≤ lo.length
  · rw [if_pos (by omega), if_pos (by omega), show (lo.length : Int) - n = ((lo.length - n : Nat) : Int) by omega, if_pos (by omega), rd_nat, List.getElem?_append_left (by omega), List.getElem?_reverse (by omega), show lo.length - 1 - (n - 1) = lo.length - n by omega]
  · rw [if_neg (by omega), List.getElem?_eq_none (by simp; omega)]
    rfl
/-! ### the places, upwards -/
def up (p : Int → Bool) : Nat → Nat → List Int
  | i, 0 => []
  | i, c + 1 => if p i = true then (i : Int) :: up p (i + 1) c else up p (i + 1) c
theorem lst_up (p : Int → Bool) : ∀ (c i : Nat), lst p (i + c) = lst p i ++ up p i c
  | 0, i => by simp [up]
  | c + 1, i => by
    rw [show i + (c + 1) = (i + 1) + c by omega, lst_up p c (i + 1), up, lst]
    split <;> simp
theorem lst_lt (p : Int → Bool) : ∀ (m : Nat) (x : Int), x ∈ lst p m → 0 ≤ x ∧ x < m ∧ p x = true
  | m + 1, x, h => by
    rw [lst] at h
    split at h
    · rcases List.mem_append.1 h with h | h
      · have := lst_lt p m x h; exact ⟨this.1, by omega, this.2.2⟩
      · simp only [List.mem_singleton] at h; subst h; exact ⟨by omega, by omega, by assumption⟩
    · have := lst_lt p m x h; exact ⟨this.1, by omega, this.2.2⟩
  | 0, x, h => by simp [lst] at h
theorem up_ge (p : Int → Bool) : ∀ (c i : Nat) (x : Int), x ∈ up p i c → (i : Int) ≤ x ∧ x < (i : Int) + c ∧ p x = true
  | 0, i, x, h => by simp [up] at h
  | c + 1, i, x, h => by
    rw [up] at h
    split at h
    · rcases List.mem_cons.1 h with h | h
      · subst h; exact ⟨by omega, by omega, by assumption⟩
      · have := up_ge p c (i + 1) x h; exact ⟨by omega, by omega, this.2.2⟩
    · have := up_ge p c (i + 1) x h; exact ⟨by omega, by omega, this.2.2⟩
theorem lst_sorted (p : Int → Bool) : ∀ m : Nat, (lst p m).Pairwise (· < ·)
  | 0 => by simp [lst]
  | m + 1 => by
    rw [lst]
    split
    · refine List.pairwise_append.2 ⟨lst_sorted p m, by simp, fun x hx y hy => ?_⟩
      simp only [List.mem_singleton] at hy
      have := lst_lt p m x hx
      omega
    · exact lst_sorted p m
/-- onward and back over the places of a text of N bytes -/
theorem onward_lst (p : Int → Bool) (N at_ n k : Nat) (b : Int) (hk : N + 2 ≤ k) (hN : N ≤ 1048576) (ha : at_ ≤ N) (hn1 : 1 ≤ n) (hn2 : n ≤ 9999) :
    word_onward.f k (lst p (N + 1)) (at_ : Int) (n : Int) b = some ((up p (at_ + 1) (N - at_))[n - 1]?.getD b) := by
  have hl := lst_len p (N + 1)
  have e : lst p (N + 1) = lst p (at_ + 1) ++ up p (at_ + 1) (N - at_) := by rw [← lst_up]; congr 1; omega
  have hs := lst_sorted p (N + 1)
  rw [e] at hl hs ⊢
  exact onward_eq _ _ _ _ _ k (by omega) (by omega) hs (fun x hx => by have := lst_lt _ _ _ hx; omega) (fun x hx => by have := up_ge _ _ _ _ hx; omega) hn1 hn2
theorem back_lst (p : Int → Bool) (N at_ n k : Nat) (hk : N + 2 ≤ k) (hN : N ≤ 1048576) (ha : at_ ≤ N) (hn1 : 1 ≤ n) (hn2 : n ≤ 9999) :
    word_back.f k (lst p (N + 1)) (at_ : Int) (n : Int) = some ((lst p at_).reverse[n - 1]?.getD 0) := by
  have hl := lst_len p (N + 1)
  have e : lst p (N + 1) = lst p at_ ++ up p at_ (N + 1 - at_) := by rw [← lst_up]; congr 1; omega
  have hs := lst_sorted p (N + 1)
  rw [e] at hl hs ⊢
  exact back_eq _ _ _ _ k (by omega) (by omega) hs (fun x hx => by have := lst_lt _ _ _ hx; omega) (fun x hx => by have := up_ge _ _ _ _ hx; omega) hn1 hn2
end Go.Proofs.Ytghoeadmimgfnaa.Hand
