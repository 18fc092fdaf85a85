/- BlockStops, plain, and the function literals in it. Condition: the text's length is at most 1048576. -/
import Derived.Test.YtbklmdgmgffjeaaBlP
import Derived.Test.YtbklmdgmgffjeaaPBlx6
import Derived.Test.YtbklmdgmgffjeaaPBlxP
import Derived.Outline
namespace Go.Proofs.Ytbklmdgmgffjeaa.Hand
open Go.RowKit Go.Proofs.Ytbklmdgmgffjeaa.PBl Go.Proofs.YtbklmdgmgffjeaaW.PrintWords Go.Proofs.YtbklmdgmgffjeaaW.PrintLast Go.Proofs.YtbklmdgmgffjeaaW.PrintMore
set_option linter.unusedVariables false
set_option linter.unusedSimpArgs false
theorem place_f (a : Int) (n : Nat) (h1 : -9223372036854775808 ≤ a ∧ a ≤ 9223372036854775807) (hn : 0 < n) : ∃ p : Nat, p < n ∧ quoinlaw10_place.f a (n : Int) = some (p : Int) := by
  unfold quoinlaw10_place.f
  by_cases h : a < 0
  · rw [if_pos h, if_neg (by omega), w64 (a + 1) (by omega), w64 (-(a + 1)) (by omega)]
    refine ⟨((-(a + 1)).tmod n).toNat, ?_, ?_⟩
    · have h2 := Int.emod_lt_of_pos (-(a + 1)) (show (0 : Int) < n by omega)
      have h3 := Int.emod_nonneg (-(a + 1)) (show (n : Int) ≠ 0 by omega)
      rw [Int.tmod_eq_emod_of_nonneg (by omega)]
      omega
    · have h3 := Int.emod_nonneg (-(a + 1)) (show (n : Int) ≠ 0 by omega)
      rw [Int.tmod_eq_emod_of_nonneg (by omega)]
      congr 1
      omega
  · rw [if_neg h, if_neg (by omega)]
    refine ⟨(a.tmod n).toNat, ?_, ?_⟩
    · have h2 := Int.emod_lt_of_pos a (show (0 : Int) < n by omega)
      rw [Int.tmod_eq_emod_of_nonneg (by omega)]
      omega
    · have h3 := Int.emod_nonneg a (show (n : Int) ≠ 0 by omega)
      rw [Int.tmod_eq_emod_of_nonneg (by omega)]
      congr 1
      omega
/-- what a motion over stops answers -/
def mvR (p : Int) (r : Int × Int) : Int × Int × Int × Int := if r.2 = 0 then (p, r.1, 1, 0) else (0, 0, 0, r.2)
theorem key_toList (a : UInt8) : (⟨#[a]⟩ : ByteArray).toList = [a] := by simp [ByteArray.toList_eq]
theorem move_dn (T : List Int) (hl : T.length ≤ 1048576) (p n k : Nat) (hp : p ≤ T.length) (h1 : 1 ≤ n) (h2 : n ≤ 9999) (hk : 12000 * 1048600 + 5 ≤ k) : block_Move.f k T (p : Int) (n : Int) ⟨#[125]⟩ = some (mvR (p : Int) (runD (lst (DN T) (T.length + 1)) (T.length : Int) n (p : Int))) := by
  obtain ⟨k, rfl⟩ : ∃ k', k = k' + 3 := ⟨k - 3, by omega⟩
  unfold block_Move.f
  have hle := lst_len (DN T) (T.length + 1)
  rw [if_neg (by omega), if_neg (by omega), if_neg (by omega), block_Move.j0, if_neg (by simp; omega), key_toList, if_pos rfl, block_Move.j1, if_pos (by decide), stops_dn T _ (by omega) hl, Option.bind_some, down_eq T _ (by omega) (lst_sorted _ _) (fun x hx => by have := lst_lt _ _ _ hx; omega) hl n _ _ h2 (by omega), Option.bind_some]
  unfold mvR
  split <;> rfl
theorem move_up (T : List Int) (hl : T.length ≤ 1048576) (p n k : Nat) (hp : p ≤ T.length) (h1 : 1 ≤ n) (h2 : n ≤ 9999) (hk : 12000 * 1048600 + 5 ≤ k) : block_Move.f k T (p : Int) (n : Int) ⟨#[123]⟩ = some (mvR (p : Int) (runU (lst (UP T) (T.length + 1)) n (p : Int))) := by
  obtain ⟨k, rfl⟩ : ∃ k', k = k' + 3 := ⟨k - 3, by omega⟩
  unfold block_Move.f
  have hle := lst_len (UP T) (T.length + 1)
  rw [if_neg (by omega), if_neg (by omega), if_neg (by omega), block_Move.j0, if_neg (by simp; omega), key_toList, if_neg (by decide), block_Move.j1, if_neg (by decide), key_toList, if_pos rfl, block_Move.j2, if_pos (by decide), stops_up T _ (by omega) hl, Option.bind_some, up_eq _ (by omega) n _ _ h2 (by omega), Option.bind_some]
  unfold mvR
  split <;> rfl
theorem next_spec (P : Int → Bool) (N p : Nat) (hp : p < N) : ∃ g : Nat, nextD (lst P (N + 1)) (N : Int) (p : Int) = g ∧ p < g ∧ g ≤ N ∧ (g ≠ N → P (g : Int) = true) ∧ ∀ q : Nat, p < q → q < g → P (q : Int) = false := by
  unfold nextD
  cases hf : (lst P (N + 1)).find? (fun x => decide ((p : Int) < x)) with
  | none =>
    rw [List.find?_eq_none] at hf
    refine ⟨N, rfl, hp, Nat.le_refl _, fun h => absurd rfl h, fun q h1 h2 => ?_⟩
    cases hq : P (q : Int) with
    | false => rfl
    | true =>
      have := hf _ (lst_mem P (N + 1) q (by omega) hq)
      simp at this
      omega
  | some x =>
    have hm := lst_lt _ _ _ (List.mem_of_find?_eq_some hf)
    have hx : (p : Int) < x := by simpa using List.find?_some hf
    obtain ⟨g, rfl⟩ := Int.eq_ofNat_of_zero_le hm.1
    refine ⟨g, rfl, by omega, by omega, fun _ => hm.2.2, fun q h1 h2 => ?_⟩
    cases hq : P (q : Int) with
    | false => rfl
    | true =>
      have hs := lst_sorted P (N + 1)
      obtain ⟨u1, u2, he, hno⟩ := List.find?_eq_some_iff_append.1 hf |>.2
      have hmem := lst_mem P (N + 1) q (by omega) hq
      rw [he] at hmem hs
      rcases List.mem_append.1 hmem with h | h
      · have := hno _ h
        simp at this
        omega
      · rcases List.mem_cons.1 h with h | h
        · omega
        · have := (List.pairwise_cons.1 (List.pairwise_append.1 hs).2.1).1 _ h
          omega
theorem prev_spec (P : Int → Bool) (N p : Nat) (hp : 0 < p) (hN : p ≤ N) : ∃ g : Nat, prevU (lst P (N + 1)) (p : Int) = g ∧ g < p ∧ (g ≠ 0 → P (g : Int) = true) ∧ ∀ q : Nat, g < q → q < p → P (q : Int) = false := by
  unfold prevU
  cases hf : (lst P (N + 1)).reverse.find? (fun x => decide (x < (p : Int))) with
  | none =>
    rw [List.find?_eq_none] at hf
    refine ⟨0, rfl, hp, fun h => absurd rfl h, fun q h1 h2 => ?_⟩
    cases hq : P (q : Int) with
    | false => rfl
    | true =>
      have := hf _ (List.mem_reverse.2 (lst_mem P (N + 1) q (by omega) hq))
      simp at this
      omega
  | some x =>
    have hm := lst_lt _ _ _ (List.mem_reverse.1 (List.mem_of_find?_eq_some hf))
    have hx : x < (p : Int) := by simpa using List.find?_some hf
    obtain ⟨g, rfl⟩ := Int.eq_ofNat_of_zero_le hm.1
    refine ⟨g, rfl, by omega, fun _ => hm.2.2, fun q h1 h2 => ?_⟩
    cases hq : P (q : Int) with
    | false => rfl
    | true =>
      have hs := lst_sorted P (N + 1)
      obtain ⟨u1, u2, he, hno⟩ := List.find?_eq_some_iff_append.1 hf |>.2
      have hmem := List.mem_reverse.2 (lst_mem P (N + 1) q (by omega) hq)
      have hs2 := List.pairwise_reverse.2 (show (lst P (N + 1)).Pairwise (fun a b => b > a) from hs)
      rw [he] at hmem hs2
      rcases List.mem_append.1 hmem with h | h
      · have := hno _ h
        simp at this
        omega
      · rcases List.mem_cons.1 h with h | h
        · omega
        · have := (List.pairwise_cons.1 (List.pairwise_append.1 hs2).2.1).1 _ h
          omega
end Go.Proofs.Ytbklmdgmgffjeaa.Hand
