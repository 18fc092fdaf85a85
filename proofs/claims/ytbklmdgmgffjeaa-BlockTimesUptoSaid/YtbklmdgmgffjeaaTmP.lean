/- BlockTimes, plain: the stops of sentences rise; a motion with a count. Condition: the text's length is at most 1048576. -/
import Derived.Test.YtbklmdgmgffjeaaBsP
namespace Go.Proofs.Ytbklmdgmgffjeaa.Hand
open Go.RowKit Go.Proofs.Ytbklmdgmgffjeaa.PBl Go.Proofs.YtbklmdgmgffjeaaW.PrintWords
set_option linter.unusedVariables false
set_option linter.unusedSimpArgs false
/-- a rising list of places below m -/
def Ok (l : List Int) (m : Nat) : Prop := l.Pairwise (· < ·) ∧ (∀ x ∈ l, 0 ≤ x ∧ x < m) ∧ l.length ≤ m
theorem Ok.more {l : List Int} {m : Nat} (h : Ok l m) : Ok l (m + 1) := ⟨h.1, fun x hx => by have := h.2.1 x hx; omega, by have := h.2.2; omega⟩
theorem Ok.push {l : List Int} {m : Nat} (h : Ok l m) : Ok (l ++ [(m : Int)]) (m + 1) := by
  refine ⟨List.pairwise_append.2 ⟨h.1, by simp, fun x hx y hy => ?_⟩, fun x hx => ?_, by have := h.2.2; simp; omega⟩
  · simp only [List.mem_singleton] at hy
    have := h.2.1 x hx
    omega
  · rcases List.mem_append.1 hx with h1 | h1
    · have := h.2.1 x h1; omega
    · simp only [List.mem_singleton] at h1; omega
theorem of_ex (k : Nat) (a : Int) (big : Bool) : ∃ r, class_Of.f (k + 1) a big = some r := by
  unfold class_Of.f
  by_cases h1 : a = 10
  · rw [if_pos h1]; exact ⟨_, rfl⟩
  · rw [if_neg h1]
    have key : ∀ b : Bool, ∃ r, class_Of.j0 (k + 1) a big b = some r := by
      intro b
      unfold class_Of.j0 class_small.f class_great.f
      by_cases s1 : a ≥ 97 <;> by_cases s2 : a ≥ 65 <;> simp only [s1, s2, if_true, if_false, Option.bind_some] <;> (repeat' split) <;> exact ⟨_, rfl⟩
    split <;> exact key _
theorem blank_ex (k : Nat) (a : Int) : ∃ r, block_blank.f (k + 1) a = some r := by
  unfold block_blank.f
  obtain ⟨r, hr⟩ := of_ex k a false
  split
  · exact ⟨_, rfl⟩
  · rw [hr]; exact ⟨_, rfl⟩
theorem sent_loop (T : List Int) (hl : T.length ≤ 1048576) : ∀ (c i k : Nat) (acc : List Int) (x4 x5 x6 x7 : Bool), i + c = T.length → 2 * c + 3 ≤ k → Ok acc i →
    ∃ L, block_sentences.l0 k T acc x4 x5 x6 x7 T (T.length : Int) (i : Int) = some L ∧ Ok L (T.length + 1)
  | 0, i, k + 1, acc, x4, x5, x6, x7, h, hk, ho => by
    obtain rfl : i = T.length := by omega
    rw [block_sentences.l0, if_neg (by omega), empty_f T T.length (Nat.le_refl _) hl, Option.bind_some]
    have hlen := ho.2.2
    cases emp T (T.length : Int)
    · rw [if_neg (by simp)]
      exact ⟨_, rfl, ho.more⟩
    · rw [if_pos rfl]
      by_cases h0 : (T.length : Int) = 0
      · rw [if_pos h0, if_pos (by omega)]
        exact ⟨_, rfl, ho.push⟩
      · rw [if_neg h0, w64 _ (by omega), show ((T.length : Int) - 1) = ((T.length - 1 : Nat) : Int) by omega, empty_f T (T.length - 1) (by omega) hl, Option.bind_some]
        split
        · exact ⟨_, rfl, ho.more⟩
        · rw [if_pos (by omega)]
          exact ⟨_, rfl, ho.push⟩
  | c + 1, i, k, acc, x4, x5, x6, x7, h, hk, ho => by
    obtain ⟨k, rfl⟩ : ∃ k', k = k' + 2 := ⟨k - 2, by omega⟩
    have hlen := ho.2.2
    have e1 : ((i : Int) + 1) = ((i + 1 : Nat) : Int) := by omega
    have ih : ∀ (k' : Nat) (acc' : List Int) (y4 y5 y6 y7 : Bool), 2 * c + 3 ≤ k' → (acc' = acc ∨ acc' = acc ++ [(i : Int)]) → ∃ L, block_sentences.l0 k' T acc' y4 y5 y6 y7 T (T.length : Int) (wrap64 ((i : Int) + 1)) = some L ∧ Ok L (T.length + 1) := by
      intro k' acc' y4 y5 y6 y7 hk' ha
      rw [w64 _ (by omega), e1]
      refine sent_loop T hl c (i + 1) k' acc' y4 y5 y6 y7 (by omega) hk' ?_
      rcases ha with rfl | rfl
      · exact ho.more
      · exact ho.push
    have j1 : ∀ (y5 y6 y46 : Bool) (b : Int), ∃ L, block_sentences.j1 (k + 1) T acc y5 y6 (i : Int) b T (T.length : Int) (i : Int) y46 = some L ∧ Ok L (T.length + 1) := by
      intro y5 y6 y46 b
      rw [block_sentences.j1]
      simp only [strings_IndexByte.f, Option.bind_some]
      cases y46
      · rw [if_neg (by simp)]
        (repeat' split) <;> exact ih k _ _ _ _ _ (by omega) (Or.inl rfl)
      · rw [if_pos rfl, if_pos (by omega)]
        (repeat' split) <;> exact ih k _ _ _ _ _ (by omega) (Or.inr rfl)
    rw [block_sentences.l0, if_pos (by omega), if_pos (by omega), if_pos (by omega)]
    obtain ⟨bl, hbl⟩ := blank_ex k (rd T (i : Int))
    rw [hbl, Option.bind_some]
    cases bl
    · rw [if_neg (by simp)]
      (repeat' split) <;> exact j1 _ _ _ _
    · rw [if_pos rfl, empty_f T i (by omega) hl, Option.bind_some]
      cases emp T (i : Int)
      · rw [if_neg (by simp)]
        exact ih (k + 1) _ _ _ _ _ (by omega) (Or.inl rfl)
      · rw [if_pos rfl]
        by_cases h0 : (i : Int) = 0
        · rw [if_pos h0, if_pos (by omega)]
          exact ih (k + 1) _ _ _ _ _ (by omega) (Or.inr rfl)
        · rw [if_neg h0, w64 ((i : Int) - 1) (by omega), show ((i : Int) - 1) = ((i - 1 : Nat) : Int) by omega, empty_f T (i - 1) (by omega) hl, Option.bind_some]
          cases emp T ((i - 1 : Nat) : Int)
          · rw [if_neg (by simp), if_pos (by omega)]
            exact ih (k + 1) _ _ _ _ _ (by omega) (Or.inr rfl)
          · rw [if_pos rfl]
            exact ih (k + 1) _ _ _ _ _ (by omega) (Or.inl rfl)
theorem sent_ok (T : List Int) (hl : T.length ≤ 1048576) (k : Nat) (hk : 2 * T.length + 3 ≤ k) : ∃ L, block_sentences.f k T = some L ∧ Ok L (T.length + 1) := by
  unfold block_sentences.f
  exact sent_loop T hl T.length 0 k [] true false false false (by omega) (by omega) ⟨by simp, by simp, by simp⟩
theorem stops_ok (T : List Int) (hl : T.length ≤ 1048576) (x : UInt8) (hx : x = 125 ∨ x = 123 ∨ x = 40 ∨ x = 41) (k : Nat) (hk : 2 * T.length + 7 ≤ k) : ∃ L, block_stops.f k T ⟨#[x]⟩ = some L ∧ Ok L (T.length + 1) := by
  rcases hx with rfl | rfl | rfl | rfl
  · exact ⟨_, stops_dn T k (by omega) hl, lst_sorted _ _, fun x hx => ⟨(lst_lt _ _ _ hx).1, (lst_lt _ _ _ hx).2.1⟩, lst_len _ _⟩
  · exact ⟨_, stops_up T k (by omega) hl, lst_sorted _ _, fun x hx => ⟨(lst_lt _ _ _ hx).1, (lst_lt _ _ _ hx).2.1⟩, lst_len _ _⟩
  · obtain ⟨k, rfl⟩ : ∃ k', k = k' + 1 := ⟨k - 1, by omega⟩
    obtain ⟨L, h1, h2⟩ := sent_ok T hl k (by omega)
    refine ⟨L, ?_, h2⟩
    unfold block_stops.f
    rw [key_toList, if_pos rfl, block_stops.j0, if_pos rfl, h1]; rfl
  · obtain ⟨k, rfl⟩ : ∃ k', k = k' + 1 := ⟨k - 1, by omega⟩
    obtain ⟨L, h1, h2⟩ := sent_ok T hl k (by omega)
    refine ⟨L, ?_, h2⟩
    unfold block_stops.f
    rw [key_toList, if_neg (by decide), block_stops.j0, if_pos (by decide), h1]; rfl
/-- so many steps -/
def runG (nx : Nat → Nat) (st : Nat → Bool) : Nat → Nat → Int × Int
  | 0, q => (q, 0)
  | n + 1, q => if st q = true then (0, 70) else runG nx st n (nx q)
theorem runD_G (L : List Int) (N : Nat) (hL : ∀ x ∈ L, 0 ≤ x ∧ x < ((N + 1 : Nat) : Int)) : ∀ (n q : Nat), runD L (N : Int) n (q : Int) = runG (fun q => (nextD L (N : Int) (q : Int)).toNat) (fun q => decide (q = N)) n q
  | 0, q => rfl
  | n + 1, q => by
    rw [runD, runG]
    by_cases h : q = N
    · rw [if_pos (by omega), if_pos (by simpa using h)]
    · rw [if_neg (by omega), if_neg (by simpa using h)]
      have h0 : 0 ≤ nextD L (N : Int) (q : Int) := by
        unfold nextD
        cases hf : L.find? (fun x => decide ((q : Int) < x)) with
        | none => simp
        | some x => exact (hL x (List.mem_of_find?_eq_some hf)).1
      have h1 := runD_G L N hL n (nextD L (N : Int) (q : Int)).toNat
      rw [Int.toNat_of_nonneg h0] at h1
      exact h1
theorem runU_G (L : List Int) (hL : ∀ x ∈ L, 0 ≤ x) : ∀ (n q : Nat), runU L n (q : Int) = runG (fun q => (prevU L (q : Int)).toNat) (fun q => decide (q = 0)) n q
  | 0, q => rfl
  | n + 1, q => by
    rw [runU, runG]
    by_cases h : q = 0
    · rw [if_pos (by omega), if_pos (by simpa using h)]
    · rw [if_neg (by omega), if_neg (by simpa using h)]
      have h0 : 0 ≤ prevU L (q : Int) := by
        unfold prevU
        cases hf : L.reverse.find? (fun x => decide (x < (q : Int))) with
        | none => simp
        | some x => exact hL x (List.mem_reverse.1 (List.mem_of_find?_eq_some hf))
      have h1 := runU_G L hL n (prevU L (q : Int)).toNat
      rw [Int.toNat_of_nonneg h0] at h1
      exact h1
/-- what is known of a key: the next place, where it is stuck -/
structure Way (T : List Int) (k : Nat) (key : ByteArray) (forth : Bool) (nx : Nat → Nat) (st : Nat → Bool) : Prop where
  mv : ∀ p n : Nat, p ≤ T.length → 1 ≤ n → n ≤ 9999 → block_Move.f k T (p : Int) (n : Int) key = some (mvR (p : Int) (runG nx st n p))
  le : ∀ q, q ≤ T.length → st q = false → nx q ≤ T.length
  fw : ∀ q, q ≤ T.length → st q = false → forth = true → q < nx q
  bw : ∀ q, q ≤ T.length → st q = false → forth = false → nx q < q
theorem way_dn (T : List Int) (hl : T.length ≤ 1048576) (x : UInt8) (hx : x = 125 ∨ x = 41) (k : Nat) (hk : 12000 * 1048600 + 5 ≤ k) : ∃ nx st, Way T k ⟨#[x]⟩ true nx st := by
  obtain ⟨k, rfl⟩ : ∃ k', k = k' + 3 := ⟨k - 3, by omega⟩
  obtain ⟨L, h1, h2, h3, h4⟩ := stops_ok T hl x (by rcases hx with h | h <;> simp [h]) (k + 1) (by omega)
  refine ⟨fun q => (nextD L (T.length : Int) (q : Int)).toNat, fun q => decide (q = T.length), fun p n hp hn1 hn2 => ?_, fun q hq hs => ?_, fun q hq hs _ => ?_, fun q hq hs h => by cases h⟩
  · rw [← runD_G L T.length h3]
    unfold block_Move.f
    rw [if_neg (by omega), if_neg (by omega), if_neg (by omega), block_Move.j0, if_neg (by simp; omega), key_toList]
    have hj : ∀ b : Bool, b = true → block_Move.j1 (k + 2) T (p : Int) (n : Int) ⟨#[x]⟩ (p : Int) 1 ⟨#[x]⟩ b = some (mvR (p : Int) (runD L (T.length : Int) n (p : Int))) := by
      intro b hb
      rw [block_Move.j1, if_pos hb, h1, Option.bind_some, down_eq T L (by omega) h2 (fun x hx => by have := h3 x hx; omega) hl n _ _ hn2 (by omega), Option.bind_some]
      unfold mvR
      split <;> rfl
    rcases hx with rfl | rfl
    · rw [if_pos rfl]; exact hj _ (by decide)
    · rw [if_neg (by decide)]; exact hj _ (by decide)
  · have hq2 : q ≠ T.length := by simpa using hs
    have : nextD L (T.length : Int) (q : Int) ≤ (T.length : Int) := by
      unfold nextD
      cases hf : L.find? (fun x => decide ((q : Int) < x)) with
      | none => simp
      | some y => have := h3 y (List.mem_of_find?_eq_some hf); show y ≤ _; omega
    show (nextD L (T.length : Int) (q : Int)).toNat ≤ T.length
    omega
  · have hq2 : q ≠ T.length := by simpa using hs
    have : (q : Int) < nextD L (T.length : Int) (q : Int) := by
      unfold nextD
      cases hf : L.find? (fun x => decide ((q : Int) < x)) with
      | none => show (q : Int) < (T.length : Int); omega
      | some y => simpa using List.find?_some hf
    show q < (nextD L (T.length : Int) (q : Int)).toNat
    omega
theorem way_up (T : List Int) (hl : T.length ≤ 1048576) (x : UInt8) (hx : x = 123 ∨ x = 40) (k : Nat) (hk : 12000 * 1048600 + 5 ≤ k) : ∃ nx st, Way T k ⟨#[x]⟩ false nx st := by
  obtain ⟨k, rfl⟩ : ∃ k', k = k' + 3 := ⟨k - 3, by omega⟩
  obtain ⟨L, h1, h2, h3, h4⟩ := stops_ok T hl x (by rcases hx with h | h <;> simp [h]) k (by omega)
  refine ⟨fun q => (prevU L (q : Int)).toNat, fun q => decide (q = 0), fun p n hp hn1 hn2 => ?_, fun q hq hs => ?_, fun q hq hs h => (by cases h), fun q hq hs _ => ?_⟩
  · rw [← runU_G L (fun x hx => (h3 x hx).1)]
    unfold block_Move.f
    have hj : ∀ b : Bool, b = true → block_Move.j2 (k + 1) T (p : Int) (n : Int) ⟨#[x]⟩ (p : Int) 1 ⟨#[x]⟩ b = some (mvR (p : Int) (runU L n (p : Int))) := by
      intro b hb
      rw [block_Move.j2, if_pos hb, h1, Option.bind_some, up_eq L (by omega) n _ _ hn2 (by omega), Option.bind_some]
      unfold mvR
      split <;> rfl
    rcases hx with rfl | rfl
    · rw [if_neg (by omega), if_neg (by omega), if_neg (by omega), block_Move.j0, if_neg (by simp; omega), key_toList, if_neg (by decide), block_Move.j1, if_neg (by decide), key_toList, if_pos rfl]; exact hj _ (by decide)
    · rw [if_neg (by omega), if_neg (by omega), if_neg (by omega), block_Move.j0, if_neg (by simp; omega), key_toList, if_neg (by decide), block_Move.j1, if_neg (by decide), key_toList, if_neg (by decide)]; exact hj _ (by decide)
  · have hq2 : q ≠ 0 := by simpa using hs
    have : prevU L (q : Int) ≤ (T.length : Int) := by
      unfold prevU
      cases hf : L.reverse.find? (fun x => decide (x < (q : Int))) with
      | none => simp
      | some y => have := h3 y (List.mem_reverse.1 (List.mem_of_find?_eq_some hf)); show y ≤ _; omega
    show (prevU L (q : Int)).toNat ≤ T.length
    omega
  · have hq2 : q ≠ 0 := by simpa using hs
    have : prevU L (q : Int) < (q : Int) := by
      unfold prevU
      cases hf : L.reverse.find? (fun x => decide (x < (q : Int))) with
      | none => show (0 : Int) < (q : Int); omega
      | some y => simpa using List.find?_some hf
    show (prevU L (q : Int)).toNat < q
    omega
end Go.Proofs.Ytbklmdgmgffjeaa.Hand
