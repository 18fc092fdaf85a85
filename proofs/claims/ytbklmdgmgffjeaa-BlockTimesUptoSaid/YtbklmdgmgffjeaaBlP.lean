/- Layer 10, plain: stops of paragraphs, steps above and below a rising list. Condition: the text's length is at most 1048576. -/
import Derived.Test.YtbklmdgmgffjeaaPBlx4
namespace Go.Proofs.Ytbklmdgmgffjeaa.Hand
open Go.RowKit Go.Proofs.Ytbklmdgmgffjeaa.PBl Go.Proofs.YtbklmdgmgffjeaaW.PrintWords
set_option linter.unusedVariables false
set_option linter.unusedSimpArgs false

theorem w64 (x : Int) (h : -9223372036854775808 ≤ x ∧ x ≤ 9223372036854775807) : wrap64 x = x := by unfold wrap64; omega
theorem rd_nat (l : List Int) (i : Nat) : rd l (i : Int) = l[i]?.getD 0 := by
  simp [rd, List.getD_eq_getElem?_getD]
/-! ### the places of a predicate -/
def lst (p : Int → Bool) : Nat → List Int
  | 0 => []
  | m + 1 => if p m = true then lst p m ++ [(m : Int)] else lst p m
theorem lst_len (p : Int → Bool) : ∀ m, (lst p m).length ≤ m
  | 0 => Nat.le_refl _
  | m + 1 => by
    have := lst_len p m
    unfold lst
    split <;> simp <;> omega
theorem lst_lt (p : Int → Bool) : ∀ (m : Nat) (x : Int), x ∈ lst p m → 0 ≤ x ∧ x < m ∧ p x = true
  | m + 1, x, h => by
    rw [lst] at h
    split at h
    · rcases List.mem_append.1 h with h | h
      · have := lst_lt p m x h; exact ⟨this.1, by omega, this.2.2⟩
      · simp only [List.mem_singleton] at h; subst h; exact ⟨by omega, by omega, by assumption⟩
    · have := lst_lt p m x h; exact ⟨this.1, by omega, this.2.2⟩
  | 0, x, h => by simp [lst] at h
theorem lst_mem (p : Int → Bool) : ∀ (m n : Nat), n < m → p (n : Int) = true → (n : Int) ∈ lst p m
  | m + 1, n, h, hp => by
    rw [lst]
    by_cases hn : n = m
    · subst hn
      rw [if_pos hp]
      simp
    · have := lst_mem p m n (by omega) hp
      split
      · exact List.mem_append_left _ this
      · exact this
theorem lst_sorted (p : Int → Bool) : ∀ m : Nat, (lst p m).Pairwise (· < ·)
  | 0 => by simp [lst]
  | m + 1 => by
    rw [lst]
    split
    · refine List.pairwise_append.2 ⟨lst_sorted p m, by simp, fun x hx y hy => ?_⟩
      simp only [List.mem_singleton] at hy
      have := lst_lt p m x hx
      omega
    · exact lst_sorted p m
/-! ### empty lines -/
def emp (l : List Int) (p : Int) : Bool := ((p == 0) || (rd l (p - 1) == 10)) && ((p == (l.length : Int)) || (rd l p == 10))
theorem empty_f (l : List Int) (p : Nat) (hp : p ≤ l.length) (hl : l.length ≤ 1048576) : block_empty.f l (p : Int) = some (emp l (p : Int)) := by
  unfold block_empty.f emp
  by_cases h0 : (p : Int) = 0
  · rw [if_pos h0]
    by_cases h1 : (p : Int) = (l.length : Int)
    · rw [if_pos h1]
      have e1 : ((p : Int) == (l.length : Int)) = true := beq_iff_eq.mpr h1
      have e0 : ((p : Int) == 0) = true := beq_iff_eq.mpr h0
      rw [e1, e0]; simp
    · rw [if_neg h1, if_pos (by omega), if_pos (by omega)]
      have e1 : ((p : Int) == (l.length : Int)) = false := beq_eq_false_iff_ne.mpr h1
      have e0 : ((p : Int) == 0) = true := beq_iff_eq.mpr h0
      rw [e1, e0]; simp
  · have e0 : ((p : Int) == 0) = false := beq_eq_false_iff_ne.mpr h0
    rw [if_neg h0, w64 _ (by omega), if_pos (by omega), if_pos (by omega), e0]
    by_cases h10 : rd l ((p : Int) - 1) = 10
    · rw [if_pos h10]
      have e10 : (rd l ((p : Int) - 1) == 10) = true := beq_iff_eq.mpr h10
      rw [e10]
      by_cases h1 : (p : Int) = (l.length : Int)
      · rw [if_pos h1]
        have e1 : ((p : Int) == (l.length : Int)) = true := beq_iff_eq.mpr h1
        rw [e1]; simp
      · have e1 : ((p : Int) == (l.length : Int)) = false := beq_eq_false_iff_ne.mpr h1
        rw [if_neg h1, if_pos (by omega), if_pos (by omega), e1]; simp
    · rw [if_neg h10]
      have e10 : (rd l ((p : Int) - 1) == 10) = false := beq_eq_false_iff_ne.mpr h10
      rw [e10]; simp
/-- stops downwards (key }) and upwards (key {) -/
def DN (l : List Int) (p : Int) : Bool := emp l p && (decide (p > 0) && !(emp l (p - 1)))
def UP (l : List Int) (p : Int) : Bool := emp l p && (decide (p < (l.length : Int)) && !(emp l (p + 1)))
theorem stops_loop (l : List Int) (key : ByteArray) (P : Int → Bool) (hP : (key.toList = ([123] : List UInt8) ∧ P = UP l) ∨ (key.toList ≠ ([123] : List UInt8) ∧ P = DN l)) (hl : l.length ≤ 1048576) : ∀ (c k p : Nat), c + p = l.length + 1 → 2 * c + 1 ≤ k →
    block_stops.l0 k l key (lst P p) (p : Int) = some (lst P (l.length + 1))
  | 0, k + 1, p, h, hk => by
    rw [block_stops.l0, if_neg (by omega)]
    congr 2
    omega
  | c + 1, k, p, h, hk => by
    obtain ⟨k, rfl⟩ : ∃ k', k = k' + 2 := ⟨k - 2, by omega⟩
    have ih := stops_loop l key P hP hl c
    have hlen := lst_len P p
    rw [block_stops.l0, if_pos (by omega), empty_f l p (by omega) hl, Option.bind_some]
    have step : ∀ b : Bool, P (p : Int) = b → (if b = true then lst P p ++ [(p : Int)] else lst P p) = lst P (p + 1) := by
      intro b hb
      rw [lst, hb]
    have e1 : ((p : Int) + 1) = ((p + 1 : Nat) : Int) := by omega
    cases he : emp l (p : Int)
    · rw [if_neg (by simp), w64 _ (by omega), e1]
      have hPf : P (p : Int) = false := by rcases hP with ⟨_, rfl⟩ | ⟨_, rfl⟩ <;> simp [UP, DN, he]
      have := step false hPf
      rw [if_neg (by simp)] at this
      rw [this]
      exact ih (k + 1) (p + 1) (by omega) (by omega)
    · rw [if_pos rfl]
      have key : ∀ x7 : Bool, x7 = (decide ((p : Int) > 0) && !(emp l ((p : Int) - 1))) → block_stops.j2 (k + 1) l key (lst P p) (p : Int) x7 = some (lst P (l.length + 1)) := by
        intro x7 hx7
        rw [block_stops.j2]
        rcases hP with ⟨hk1, rfl⟩ | ⟨hk1, rfl⟩
        · rw [if_pos hk1]
          by_cases hlt : (p : Int) < (l.length : Int)
          · rw [if_pos hlt, w64 _ (by omega), e1, empty_f l (p + 1) (by omega) hl, Option.bind_some]
            cases h2 : emp l ((p + 1 : Nat) : Int)
            · rw [if_neg (by simp), if_pos (by omega)]
              have := step true (by rw [UP, he, e1, h2, decide_eq_true hlt]; rfl)
              rw [if_pos rfl] at this
              rw [this]
              exact ih k (p + 1) (by omega) (by omega)
            · rw [if_pos rfl]
              have := step false (by rw [UP, he, e1, h2, decide_eq_true hlt]; rfl)
              rw [if_neg (by simp)] at this
              rw [this]
              exact ih k (p + 1) (by omega) (by omega)
          · rw [if_neg hlt, w64 _ (by omega), e1]
            have := step false (by rw [UP, he, decide_eq_false hlt]; rfl)
            rw [if_neg (by simp)] at this
            rw [this]
            exact ih k (p + 1) (by omega) (by omega)
        · rw [if_neg hk1, w64 _ (by omega), e1]
          have hd : DN l (p : Int) = x7 := by rw [DN, he, hx7]; rfl
          have := step x7 hd
          cases x7
          · rw [if_neg (by simp)] at this ⊢
            rw [this]
            exact ih k (p + 1) (by omega) (by omega)
          · rw [if_pos rfl] at this
            rw [if_pos rfl, if_pos (by omega), this]
            exact ih k (p + 1) (by omega) (by omega)
      by_cases h0 : (p : Int) > 0
      · rw [if_pos h0, w64 _ (by omega), show ((p : Int) - 1) = ((p - 1 : Nat) : Int) by omega, empty_f l (p - 1) (by omega) hl, Option.bind_some]
        exact key _ (by rw [decide_eq_true h0, show ((p : Int) - 1) = ((p - 1 : Nat) : Int) by omega]; rfl)
      · rw [if_neg h0]
        exact key _ (by rw [decide_eq_false h0]; rfl)
theorem stops_dn (l : List Int) (k : Nat) (hk : 2 * l.length + 5 ≤ k) (hl : l.length ≤ 1048576) : block_stops.f k l ⟨#[125]⟩ = some (lst (DN l) (l.length + 1)) := by
  obtain ⟨k, rfl⟩ : ∃ k', k = k' + 1 := ⟨k - 1, by omega⟩
  have h1 : (⟨#[125]⟩ : ByteArray).toList = [125] := by simp [ByteArray.toList_eq]
  unfold block_stops.f
  rw [h1, if_neg (by decide), block_stops.j0, if_neg (by decide)]
  exact stops_loop l _ (DN l) (Or.inr ⟨by rw [h1]; decide, rfl⟩) hl (l.length + 1) k 0 (by omega) (by omega)
theorem stops_up (l : List Int) (k : Nat) (hk : 2 * l.length + 5 ≤ k) (hl : l.length ≤ 1048576) : block_stops.f k l ⟨#[123]⟩ = some (lst (UP l) (l.length + 1)) := by
  obtain ⟨k, rfl⟩ : ∃ k', k = k' + 1 := ⟨k - 1, by omega⟩
  have h1 : (⟨#[123]⟩ : ByteArray).toList = [123] := by simp [ByteArray.toList_eq]
  unfold block_stops.f
  rw [h1, if_neg (by decide), block_stops.j0, if_neg (by decide)]
  exact stops_loop l _ (UP l) (Or.inl ⟨h1, rfl⟩) hl (l.length + 1) k 0 (by omega) (by omega)
/-! ### steps above and below a rising list -/
def nextD (L : List Int) (N : Int) (a : Int) : Int := (L.find? fun x => decide (a < x)).getD N
def runD (L : List Int) (N : Int) : Nat → Int → Int × Int
  | 0, a => (a, 0)
  | n + 1, a => if a = N then (0, 70) else runD L N n (nextD L N a)
theorem find_skip (L : List Int) (a : Int) (i : Nat) (h : ∀ x, x < i → L[x]?.getD 0 ≤ a) (hi : i ≤ L.length) : L.find? (fun x => decide (a < x)) = (L.drop i).find? fun x => decide (a < x) := by
  conv => lhs; rw [← List.take_append_drop i L]
  rw [List.find?_append]
  have : (L.take i).find? (fun x => decide (a < x)) = none := by
    rw [List.find?_eq_none]
    intro x hx
    obtain ⟨j, hj, rfl⟩ := List.mem_iff_getElem.1 hx
    have hj2 : j < i := by simp at hj; omega
    have := h j hj2
    rw [List.getElem?_eq_getElem (by omega)] at this
    simp at this ⊢
    exact this
  rw [this]; rfl
theorem down_loop (l : List Int) (L : List Int) (hL : L.length ≤ 1048577) (hs : L.Pairwise (· < ·)) (hN : ∀ x ∈ L, x ≤ (l.length : Int)) (hl : l.length ≤ 1048576) : ∀ (m n i k : Nat) (a : Int), m = (n + 1) * (L.length + 2) - i → n ≤ 9999 → i ≤ L.length → (∀ x, x < i → L[x]?.getD 0 ≤ a) →
    (m + 2 * n + 3 ≤ k → block_down.l0 k l a (n : Int) L (i : Int) = some (runD L (l.length : Int) n a)) ∧ (m + 2 * n + 2 ≤ k → a ≠ (l.length : Int) → 0 < n → block_down.l1 k l a (n : Int) L (i : Int) = some (runD L (l.length : Int) n a)) := by
  intro m
  induction m using Nat.strongRecOn with
  | _ m ih =>
    intro n i k a hm hn hi hlo
    have hl1 : ∀ k, m + 2 * n + 2 ≤ k → a ≠ (l.length : Int) → 0 < n → block_down.l1 k l a (n : Int) L (i : Int) = some (runD L (l.length : Int) n a) := by
      intro k hk ha h0
      obtain ⟨k, rfl⟩ : ∃ k', k = k' + 1 := ⟨k - 1, by omega⟩
      obtain ⟨n, rfl⟩ : ∃ n', n = n' + 1 := ⟨n - 1, by omega⟩
      rw [block_down.l1, runD, if_neg ha]
      have e1 : wrap64 (((n + 1 : Nat) : Int) - 1) = (n : Int) := by rw [w64 _ (by omega)]; omega
      have hmul : (n + 1 + 1) * (L.length + 2) = (n + 1) * (L.length + 2) + (L.length + 2) := by rw [Nat.add_mul]; omega
      have hf : L.length + 2 ≤ (n + 1) * (L.length + 2) := Nat.le_mul_of_pos_left _ (by omega)
      by_cases hlt : (i : Int) < (L.length : Int)
      · have hil : i < L.length := by omega
        rw [if_pos hlt, if_pos (by omega), rd_nat]
        by_cases hc : L[i]?.getD 0 ≤ a
        · rw [if_pos hc, w64 ((i : Int) + 1) (by omega)]
          have hq := (ih (m - 1) (by omega) (n + 1) (i + 1) k a (by omega) hn (by omega) (fun x hx => by
            by_cases hxe : x = i
            · rw [hxe]; exact hc
            · exact hlo x (by omega))).2 (by omega) ha (by omega)
          rw [runD, if_neg ha] at hq
          exact hq
        · rw [if_neg hc, e1]
          have hnx : nextD L (l.length : Int) a = L[i]?.getD 0 := by
            unfold nextD
            rw [find_skip L a i hlo hi, List.drop_eq_getElem_cons hil, List.find?_cons_of_pos]
            · rw [List.getElem?_eq_getElem hil]; rfl
            · rw [List.getElem?_eq_getElem hil] at hc
              simp at hc ⊢
              exact hc
          rw [hnx]
          refine (ih ((n + 1) * (L.length + 2) - i) (by omega) n i k _ rfl (by omega) hi (fun x hx => ?_)).1 (by omega)
          have := hlo x hx
          omega
      · have hil : i = L.length := by omega
        rw [if_neg hlt, e1]
        have hnx : nextD L (l.length : Int) a = (l.length : Int) := by
          unfold nextD
          rw [find_skip L a i hlo hi, hil, List.drop_length]
          rfl
        rw [hnx]
        refine (ih ((n + 1) * (L.length + 2) - i) (by omega) n i k _ rfl (by omega) hi (fun x hx => ?_)).1 (by omega)
        have hxl : x < L.length := by omega
        rw [List.getElem?_eq_getElem hxl]
        exact hN _ (List.getElem_mem hxl)
    refine ⟨fun hk => ?_, fun hk ha h0 => hl1 k hk ha h0⟩
    obtain ⟨k, rfl⟩ : ∃ k', k = k' + 1 := ⟨k - 1, by omega⟩
    rw [block_down.l0]
    cases n with
    | zero => rw [if_neg (by omega)]; rfl
    | succ n =>
      rw [if_pos (by omega)]
      by_cases ha : a = (l.length : Int)
      · rw [if_pos ha, runD, if_pos ha]
      · rw [if_neg ha]
        exact hl1 k (by omega) ha (by omega)
theorem down_eq (l : List Int) (L : List Int) (hL : L.length ≤ 1048577) (hs : L.Pairwise (· < ·)) (hN : ∀ x ∈ L, x ≤ (l.length : Int)) (hl : l.length ≤ 1048576) (n k : Nat) (a : Int) (hn : n ≤ 9999) (hk : 12000 * 1048600 ≤ k) :
    block_down.f k l a (n : Int) L = some (runD L (l.length : Int) n a) := by
  have h1 : (n + 1) * (L.length + 2) ≤ 10000 * 1048579 := Nat.mul_le_mul (by omega) (by omega)
  exact (down_loop l L hL hs hN hl _ n 0 k a rfl hn (by omega) (fun x hx => by omega)).1 (by omega)
def prevU (L : List Int) (a : Int) : Int := (L.reverse.find? fun x => decide (x < a)).getD 0
def runU (L : List Int) : Nat → Int → Int × Int
  | 0, a => (a, 0)
  | n + 1, a => if a = 0 then (0, 70) else runU L n (prevU L a)
theorem find_back (L : List Int) (a : Int) (i : Nat) (hi : i ≤ L.length) (h : ∀ x, i ≤ x → x < L.length → a ≤ L[x]?.getD 0) : L.reverse.find? (fun x => decide (x < a)) = (L.take i).reverse.find? fun x => decide (x < a) := by
  conv => lhs; rw [← List.take_append_drop i L]
  rw [List.reverse_append, List.find?_append]
  have : (L.drop i).reverse.find? (fun x => decide (x < a)) = none := by
    rw [List.find?_eq_none]
    intro x hx
    obtain ⟨j, hj, rfl⟩ := List.mem_iff_getElem.1 (List.mem_reverse.1 hx)
    have hj2 : i + j < L.length := by simp at hj; omega
    have := h (i + j) (by omega) hj2
    rw [List.getElem?_eq_getElem hj2] at this
    simp at this ⊢
    exact this
  rw [this]; rfl
theorem up_loop (L : List Int) (hL : L.length ≤ 1048577) : ∀ (m n i k : Nat) (a : Int), m = n * (L.length + 2) + i → n ≤ 9999 → i ≤ L.length → (∀ x, i ≤ x → x < L.length → a ≤ L[x]?.getD 0) →
    (m + 2 * n + 3 ≤ k → block_up.l0 k a (n : Int) L ((i : Int) - 1) = some (runU L n a)) ∧ (m + 2 * n + 2 ≤ k → a ≠ 0 → 0 < n → block_up.l1 k a (n : Int) L ((i : Int) - 1) = some (runU L n a)) := by
  intro m
  induction m using Nat.strongRecOn with
  | _ m ih =>
    intro n i k a hm hn hi hhi
    have hl1 : ∀ k, m + 2 * n + 2 ≤ k → a ≠ 0 → 0 < n → block_up.l1 k a (n : Int) L ((i : Int) - 1) = some (runU L n a) := by
      intro k hk ha h0
      obtain ⟨k, rfl⟩ : ∃ k', k = k' + 1 := ⟨k - 1, by omega⟩
      obtain ⟨n, rfl⟩ : ∃ n', n = n' + 1 := ⟨n - 1, by omega⟩
      rw [block_up.l1, runU, if_neg ha]
      have e1 : wrap64 (((n + 1 : Nat) : Int) - 1) = (n : Int) := by rw [w64 _ (by omega)]; omega
      have hmul : (n + 1) * (L.length + 2) = n * (L.length + 2) + (L.length + 2) := by rw [Nat.add_mul]; omega
      by_cases hlt : ((i : Int) - 1) ≥ 0
      · obtain ⟨i, rfl⟩ : ∃ i', i = i' + 1 := ⟨i - 1, by omega⟩
        have hil : i < L.length := by omega
        have ei : (((i + 1 : Nat) : Int) - 1) = (i : Int) := by omega
        rw [ei] at hlt ⊢
        rw [if_pos hlt, if_pos hlt, if_pos (by omega), rd_nat]
        by_cases hc : L[i]?.getD 0 ≥ a
        · rw [if_pos hc, w64 ((i : Int) - 1) (by omega)]
          have hq := (ih (m - 1) (by omega) (n + 1) i k a (by omega) hn (by omega) (fun x hx hxl => by
            by_cases hxe : x = i
            · rw [hxe]; exact hc
            · exact hhi x (by omega) hxl)).2 (by omega) ha (by omega)
          rw [runU, if_neg ha] at hq
          exact hq
        · rw [if_neg hc, e1]
          have hnx : prevU L a = L[i]?.getD 0 := by
            unfold prevU
            rw [find_back L a (i + 1) hi hhi, List.take_succ_eq_append_getElem hil, List.reverse_append, List.reverse_cons, List.reverse_nil, List.nil_append, List.singleton_append, List.find?_cons_of_pos]
            · rw [List.getElem?_eq_getElem hil]
            · rw [List.getElem?_eq_getElem hil] at hc
              simp at hc ⊢
              exact hc
          rw [hnx]
          have hq := (ih (n * (L.length + 2) + (i + 1)) (by omega) n (i + 1) k (L[i]?.getD 0) rfl (by omega) hi (fun x hx hxl => by
            have := hhi x (by omega) hxl
            omega)).1 (by omega)
          rw [ei] at hq
          exact hq
      · have hil : i = 0 := by omega
        subst hil
        rw [if_neg hlt, e1]
        have hnx : prevU L a = 0 := by
          unfold prevU
          rw [find_back L a 0 hi hhi]
          rfl
        rw [hnx]
        have hz : ∀ x, 0 ≤ x → x < L.length → 0 ≤ L[x]?.getD 0 ∨ True := fun _ _ _ => Or.inr trivial
        cases n with
        | zero =>
          obtain ⟨k, rfl⟩ : ∃ k', k = k' + 1 := ⟨k - 1, by omega⟩
          rw [block_up.l0, if_neg (by omega)]
          rfl
        | succ n =>
          obtain ⟨k, rfl⟩ : ∃ k', k = k' + 1 := ⟨k - 1, by omega⟩
          rw [block_up.l0, if_pos (by omega), if_pos rfl, runU, if_pos rfl]
    refine ⟨fun hk => ?_, fun hk ha h0 => hl1 k hk ha h0⟩
    obtain ⟨k, rfl⟩ : ∃ k', k = k' + 1 := ⟨k - 1, by omega⟩
    rw [block_up.l0]
    cases n with
    | zero => rw [if_neg (by omega)]; rfl
    | succ n =>
      rw [if_pos (by omega)]
      by_cases ha : a = 0
      · rw [if_pos ha, runU, if_pos ha]
      · rw [if_neg ha]
        exact hl1 k (by omega) ha (by omega)
theorem up_eq (L : List Int) (hL : L.length ≤ 1048577) (n k : Nat) (a : Int) (hn : n ≤ 9999) (hk : 12000 * 1048600 ≤ k) : block_up.f k a (n : Int) L = some (runU L n a) := by
  have h1 : n * (L.length + 2) ≤ 9999 * 1048579 := Nat.mul_le_mul (by omega) (by omega)
  unfold block_up.f
  rw [w64 _ (by omega)]
  exact (up_loop L hL _ n L.length k a rfl hn (Nat.le_refl _) (fun x hx hxl => by omega)).1 (by omega)
end Go.Proofs.Ytbklmdgmgffjeaa.Hand
