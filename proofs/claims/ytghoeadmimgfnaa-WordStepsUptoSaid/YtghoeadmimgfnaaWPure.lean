/- The laws of layer 8, plain: what the printed functions of the laws answer. Condition: the text's length is at most 1048576. -/
import Derived.Test.YtghoeadmimgfnaaWPlain
import Derived.Test.YtghoeadmimgfnaaRefP
import Derived.Test.YtghoeadmimgfnaaPWbx5
import Derived.Test.YtghoeadmimgfnaaPWbx3
import Derived.Test.YtghoeadmimgfnaaPWbx2
namespace Go.Proofs.Ytghoeadmimgfnaa.Pure
open Go.RowKit Go.Proofs.Ytghoeadmimgfnaa.PWb Go.Proofs.Ytghoeadmimgfnaa.Hand Go.Proofs.YtghoeadmimgfnaaW.PrintWords
set_option linter.unusedVariables false
set_option linter.unusedSimpArgs false

theorem move_f (T : List Int) (a c : Int) (key : ByteArray) (h : T.length ≤ 1048576) : word_Move.f T a c key = some (mwF T a c key) := by
  unfold word_Move.f
  rw [if_pos h]
theorem mw_in (T : List Int) (a n j : Nat) (key : ByteArray) (hk : kix key = some j) (ha : a ≤ T.length) (h1 : 1 ≤ n) (h2 : n ≤ 9999) : mwF T (a : Int) (n : Int) key = mvF T (decide (3 < j)) a n (j % 4) := by
  unfold mwF
  have e : (mx (n : Int) 1).toNat = n := by unfold mx; split <;> omega
  rw [if_neg (by omega), hk]
  simp only [Int.toNat_natCast, e]
theorem mw_out (T : List Int) (a c : Int) (key : ByteArray) (h : a < 0 ∨ (T.length : Int) < a) : mwF T a c key = (0, 0, 0, 2) := by
  unfold mwF
  rw [if_pos (by omega)]
theorem mw_cnt (T : List Int) (a n : Int) (j : Nat) (key : ByteArray) (hk : kix key = some j) : mwF T a n key = (0, 0, 0, 2) ∨ ∃ (an m : Nat), a = an ∧ an ≤ T.length ∧ 1 ≤ m ∧ m ≤ 9999 ∧ mwF T a n key = mvF T (decide (3 < j)) an m (j % 4) := by
  unfold mwF
  by_cases h : a < 0 ∨ (T.length : Int) < a ∨ n < 0 ∨ 9999 < n
  · rw [if_pos h]; exact Or.inl rfl
  · rw [if_neg h, hk]
    right
    refine ⟨a.toNat, (mx n 1).toNat, by omega, by omega, ?_, ?_, rfl⟩
    · unfold mx; split <;> omega
    · unfold mx; split <;> omega
theorem keys_eq (key : ByteArray) : ∃ key' j, quoinlaw08_keys.f key = some key' ∧ kix key' = some j ∧ j < 8 := by
  have h0 : kix ⟨#[119]⟩ = some 0 := by simp [kix, ByteArray.toList_eq]
  unfold quoinlaw08_keys.f
  by_cases k0 : key.toList = ([119] : List UInt8)
  · exact ⟨key, 0, by rw [if_pos k0], by unfold kix; rw [if_pos k0], by omega⟩
  by_cases k1 : key.toList = ([98] : List UInt8)
  · exact ⟨key, 1, by rw [if_neg k0, if_pos k1], by unfold kix; rw [if_neg k0, if_pos k1], by omega⟩
  by_cases k2 : key.toList = ([101] : List UInt8)
  · exact ⟨key, 2, by rw [if_neg k0, if_neg k1, if_pos k2], by unfold kix; rw [if_neg k0, if_neg k1, if_pos k2], by omega⟩
  by_cases k3 : key.toList = ([103, 101] : List UInt8)
  · exact ⟨key, 3, by rw [if_neg k0, if_neg k1, if_neg k2, if_pos k3], by unfold kix; rw [if_neg k0, if_neg k1, if_neg k2, if_pos k3], by omega⟩
  by_cases k4 : key.toList = ([87] : List UInt8)
  · exact ⟨key, 4, by rw [if_neg k0, if_neg k1, if_neg k2, if_neg k3, if_pos k4], by unfold kix; rw [if_neg k0, if_neg k1, if_neg k2, if_neg k3, if_pos k4], by omega⟩
  by_cases k5 : key.toList = ([66] : List UInt8)
  · exact ⟨key, 5, by rw [if_neg k0, if_neg k1, if_neg k2, if_neg k3, if_neg k4, if_pos k5], by unfold kix; rw [if_neg k0, if_neg k1, if_neg k2, if_neg k3, if_neg k4, if_pos k5], by omega⟩
  by_cases k6 : key.toList = ([69] : List UInt8)
  · exact ⟨key, 6, by rw [if_neg k0, if_neg k1, if_neg k2, if_neg k3, if_neg k4, if_neg k5, if_pos k6], by unfold kix; rw [if_neg k0, if_neg k1, if_neg k2, if_neg k3, if_neg k4, if_neg k5, if_pos k6], by omega⟩
  by_cases k7 : key.toList = ([103, 69] : List UInt8)
  · exact ⟨key, 7, by rw [if_neg k0, if_neg k1, if_neg k2, if_neg k3, if_neg k4, if_neg k5, if_neg k6, if_pos k7], by unfold kix; rw [if_neg k0, if_neg k1, if_neg k2, if_neg k3, if_neg k4, if_neg k5, if_neg k6, if_pos k7], by omega⟩
  exact ⟨⟨#[119]⟩, 0, by rw [if_neg k0, if_neg k1, if_neg k2, if_neg k3, if_neg k4, if_neg k5, if_neg k6, if_neg k7], h0, by omega⟩
theorem j0_true (k : Nat) (key : ByteArray) (T : List Int) (a m n : Int) (key0 : ByteArray) : quoinlaw08_WordSteps.j0 (k + 1) key true T a m n key0 = some true := by
  rw [quoinlaw08_WordSteps.j0]
  rw [if_pos rfl]
theorem WordSteps (T : List Int) (a m n : Int) (key : ByteArray) {G : Prop} (_ : G) (hn : T.length ≤ 1048576) : ∃ k, quoinlaw08_WordSteps.f k T a m n key = some true := by
  refine ⟨3, ?_⟩
  obtain ⟨key', j, h1, h2, h3⟩ := keys_eq key
  unfold quoinlaw08_WordSteps.f
  simp only [quoinlaw08_alive.f, Option.bind_some, if_true, h1]
  by_cases c1 : m < 1
  · rw [if_pos c1]; exact j0_true _ _ _ _ _ _ _
  rw [if_neg c1]
  by_cases c2 : n < 1
  · rw [if_pos c2]; exact j0_true _ _ _ _ _ _ _
  rw [if_neg c2]
  by_cases c3 : m > 9999
  · rw [if_pos c3]; exact j0_true _ _ _ _ _ _ _
  rw [if_neg c3, w64 (9999 - m) (by omega)]
  by_cases c4 : n > 9999 - m
  · rw [decide_eq_true c4]; exact j0_true _ _ _ _ _ _ _
  rw [decide_eq_false c4]
  obtain ⟨mn, rfl⟩ := Int.eq_ofNat_of_zero_le (show 0 ≤ m by omega)
  obtain ⟨nn, rfl⟩ := Int.eq_ofNat_of_zero_le (show 0 ≤ n by omega)
  rw [quoinlaw08_WordSteps.j0]
  rw [if_neg (by simp), move_f _ _ _ _ hn, Option.bind_some, w64 ((mn : Int) + nn) (by omega), show ((mn : Int) + nn) = ((mn + nn : Nat) : Int) by omega]
  by_cases ho : a < 0 ∨ (T.length : Int) < a
  · simp only [mw_out T a _ key' ho, move_f _ _ _ _ hn, Option.bind_some]
    simp
  · obtain ⟨an, rfl⟩ := Int.eq_ofNat_of_zero_le (show 0 ≤ a by omega)
    have ha : an ≤ T.length := by omega
    rw [mw_in T an mn j key' h2 ha (by omega) (by omega)]
    by_cases he : (mvF T (decide (3 < j)) an mn (j % 4)).2.2.2 = 0
    · obtain ⟨b, hb1, hb2, hb3, hb4⟩ := step_add T (decide (3 < j)) an mn nn (j % 4) (by omega) ha (by omega) (by omega) he
      simp only [he, if_true]
      rw [hb1, move_f _ _ _ _ hn, Option.bind_some, move_f _ _ _ _ hn, Option.bind_some, mw_in T b nn j key' h2 hb2 (by omega) (by omega), mw_in T an (mn + nn) j key' h2 ha (by omega) (by omega), if_pos hb3]
      rcases hb4 with ⟨q1, q2⟩ | ⟨q1, q2⟩
      · rw [if_neg (by rw [q1]; decide), q1]
        rw [quoinlaw08_WordSteps.j1]
        rw [if_neg (by simp), if_neg (by decide), q2]
        simp
      · rw [if_pos q1, q1]
        rw [quoinlaw08_WordSteps.j1]
        rw [if_neg (by simp), if_pos rfl, q2]
        simp
    · obtain ⟨q1, q2⟩ := err_same T (decide (3 < j)) an mn (mn + nn) (j % 4) he
      rw [if_neg he, move_f _ _ _ _ hn, Option.bind_some, mw_in T an (mn + nn) j key' h2 ha (by omega) (by omega), q1, q2]
      simp [no70]
/-! ### WordWays -/
theorem wrong_0 (k : Nat) (T : List Int) (a n : Int) (L : List ByteArray) (i : Int) (hi : i < 8) (h0 : 0 ≤ i) (hl : i < (L.length : Int)) (hn : T.length ≤ 1048576)
    (h : mwF T a n (rdOf ByteArray.empty L i) = (0, 0, 0, 2) ∨ mwF T a n (rdOf ByteArray.empty L i) = no70) : quoinlaw08_WordWays.l0 (k + 1) T a n L i = quoinlaw08_WordWays.l0 k T a n L (wrap64 (i + 1)) := by
  conv => lhs; rw [quoinlaw08_WordWays.l0]
  rw [if_pos hi, if_pos h0, if_pos hl, move_f _ _ _ _ hn, Option.bind_some]
  rcases h with h | h <;> rw [h] <;> simp [no70]
theorem right_1 (k : Nat) (T : List Int) (a n t : Int) (L : List ByteArray) (i : Nat) (hi : i < 8) (hl : i < L.length) (hn : T.length ≤ 1048576)
    (h : mwF T a n (rdOf ByteArray.empty L i) = (a, t, if i = 2 ∨ i = 3 ∨ 6 ≤ i then 2 else 1, 0)) (ht : 0 ≤ t) (htl : t ≤ T.length) (hu : i < 4 → a < t) (hd : 4 ≤ i → t < a) :
    quoinlaw08_WordWays.l0 (k + 3) T a n L (i : Int) = quoinlaw08_WordWays.l0 k T a n L ((i : Int) + 1) := by
  conv => lhs; rw [quoinlaw08_WordWays.l0]
  rw [if_pos (by omega), if_pos (by omega), if_pos (by omega), move_f _ _ _ _ hn, Option.bind_some, h]
  simp only [if_true]
  rw [if_neg (by omega), if_neg (by omega)]
  have key : quoinlaw08_WordWays.j1 (k + 2) T a n L (i : Int) false a t (if i = 2 ∨ i = 3 ∨ 6 ≤ i then 2 else 1) = quoinlaw08_WordWays.l0 k T a n L ((i : Int) + 1) := by
    rw [quoinlaw08_WordWays.j1]
    simp only [quoinlaw08_WordWays.j2]
    rw [if_neg (by simp), w64 ((i : Int) + 1) (by omega)]
    by_cases h2 : (i : Int) = 2
    · rw [if_pos h2, if_pos trivial, if_pos (by rw [if_pos]; omega)]
    · rw [if_neg h2]
      by_cases h3 : (i : Int) = 3
      · rw [if_pos h3, if_pos trivial, if_pos (by rw [if_pos]; omega)]
      · rw [if_neg h3]
        by_cases h6 : (i : Int) ≥ 6
        · rw [decide_eq_true h6, if_pos rfl, if_pos (by rw [if_pos]; omega)]
        · rw [decide_eq_false h6, if_neg (by simp), if_pos (by rw [if_neg]; omega)]
  by_cases h4 : i < 4
  · have := hu h4
    rw [if_pos (by omega), if_neg (by omega), if_neg (by omega)]
    exact key
  · have := hd (by omega)
    rw [if_neg (by omega), if_pos (by omega), decide_eq_false (by omega)]
    exact key
def wk : List ByteArray := [(⟨#[119]⟩ : ByteArray), (⟨#[87]⟩ : ByteArray), (⟨#[101]⟩ : ByteArray), (⟨#[69]⟩ : ByteArray), (⟨#[98]⟩ : ByteArray), (⟨#[66]⟩ : ByteArray), (⟨#[103, 101]⟩ : ByteArray), (⟨#[103, 69]⟩ : ByteArray)]
def wj : List Nat := [0, 4, 2, 6, 1, 5, 3, 7]
theorem wk_j (i : Nat) (hi : i < 8) : ∃ j, wj[i]? = some j ∧ j < 8 ∧ kix (rdOf ByteArray.empty wk (i : Int)) = some j ∧ ((i = 2 ∨ i = 3 ∨ 6 ≤ i) ↔ 2 ≤ j % 4) ∧ (i < 4 → j % 4 % 2 = 0) ∧ (4 ≤ i → j % 4 % 2 = 1) := by
  match i, hi with
  | 0, _ => exact ⟨0, rfl, by omega, by simp [wk, rdOf, kix, ByteArray.toList_eq], by omega, by omega, by omega⟩
  | 1, _ => exact ⟨4, rfl, by omega, by simp [wk, rdOf, kix, ByteArray.toList_eq], by omega, by omega, by omega⟩
  | 2, _ => exact ⟨2, rfl, by omega, by simp [wk, rdOf, kix, ByteArray.toList_eq], by omega, by omega, by omega⟩
  | 3, _ => exact ⟨6, rfl, by omega, by simp [wk, rdOf, kix, ByteArray.toList_eq], by omega, by omega, by omega⟩
  | 4, _ => exact ⟨1, rfl, by omega, by simp [wk, rdOf, kix, ByteArray.toList_eq], by omega, by omega, by omega⟩
  | 5, _ => exact ⟨5, rfl, by omega, by simp [wk, rdOf, kix, ByteArray.toList_eq], by omega, by omega, by omega⟩
  | 6, _ => exact ⟨3, rfl, by omega, by simp [wk, rdOf, kix, ByteArray.toList_eq], by omega, by omega, by omega⟩
  | 7, _ => exact ⟨7, rfl, by omega, by simp [wk, rdOf, kix, ByteArray.toList_eq], by omega, by omega, by omega⟩
theorem ways_loop (T : List Int) (a n : Int) (hn : T.length ≤ 1048576) : ∀ (c i k : Nat), i + c = 8 → 3 * c + 1 ≤ k → quoinlaw08_WordWays.l0 k T a n wk (i : Int) = some true
  | 0, i, k + 1, h, _ => by
    rw [quoinlaw08_WordWays.l0]
    rw [if_neg (by omega)]
  | c + 1, i, k, h, hk => by
    obtain ⟨k, rfl⟩ : ∃ k', k = k' + 3 := ⟨k - 3, by omega⟩
    obtain ⟨j, h1, h2, h3, h4, h5, h6⟩ := wk_j i (by omega)
    have hlen : wk.length = 8 := rfl
    rcases mw_cnt T a n j _ h3 with h0 | ⟨an, m, rfl, q1, q2, q3, q4⟩
    · rw [show k + 3 = (k + 2) + 1 by omega, wrong_0 (k + 2) T a n wk i (by omega) (by omega) (by omega) hn (Or.inl h0), w64 _ (by omega)]
      exact ways_loop T a n hn c (i + 1) (k + 2) (by omega) (by omega)
    · by_cases he : (mvF T (decide (3 < j)) an m (j % 4)).2.2.2 = 0
      · obtain ⟨w1, w2, w3, w4, w5, w6⟩   := Hand.ways T (decide (3 < j)) an m (j % 4) (by omega) q1 he
        rw [right_1 k T an n (mvF T (decide (3 < j)) an m (j % 4)).2.1 wk i (by omega) (by omega) hn ?_ w2 w3 (fun h => w4 (h5 h)) (fun h => w5 (h6 h))]
        · exact ways_loop T an n hn c (i + 1) k (by omega) (by omega)
        · rw [q4]
          refine Prod.ext w1 (Prod.ext rfl (Prod.ext ?_ he))
          show (mvF T (decide (3 < j)) an m (j % 4)).2.2.1 = _
          rw [w6]
          by_cases hc : i = 2 ∨ i = 3 ∨ 6 ≤ i
          · rw [if_pos hc, if_neg (by have := h4.1 hc; omega)]
          · rw [if_neg hc, if_pos (by have := mt h4.2 hc; omega)]
      · obtain ⟨e1, _⟩ := err_same T (decide (3 < j)) an m m (j % 4) he
        rw [show k + 3 = (k + 2) + 1 by omega, wrong_0 (k + 2) T an n wk i (by omega) (by omega) (by omega) hn (Or.inr (by rw [q4, e1])), w64 _ (by omega)]
        exact ways_loop T an n hn c (i + 1) (k + 2) (by omega) (by omega)
theorem WordWays (T : List Int) (a n : Int) {G1 G2 G3 : Prop} (_ : G1) (_ : G2) (_ : G3) (hn : T.length ≤ 1048576) : ∃ k, quoinlaw08_WordWays.f k T a n = some true := by
  refine ⟨25, ?_⟩
  unfold quoinlaw08_WordWays.f
  simp only [quoinlaw08_alive.f, Option.bind_some, if_true]
  exact ways_loop T a n hn 8 0 25 rfl (by omega)
/-! ### WordBack -/
theorem of_f (k : Nat) (a : Int) (big : Bool) : class_Of.f (k + 1) a big = some (cls a big) := by
  have h : class_Of.f (k + 1) a big = PWa.class_Of.f (k + 1) a big := rfl
  rw [h]
  exact of_eq k a big
theorem bare_f (T : List Int) (big : Bool) (p : Nat) (hp : p ≤ T.length) (hl : T.length ≤ 1048576) : quoinlaw08_bare.f T (p : Int) = some (bareK T big (p : Int)) := bare_eq T big p hp hl
def startK (T : List Int) (big : Bool) (i : Int) : Bool := inWK (kindAt T big i) && kindAt T big (i - 1) != kindAt T big i
theorem kindAt_in (T : List Int) (big : Bool) (i : Int) (h0 : 0 ≤ i) (h1 : i < (T.length : Int)) : kindAt T big i = cls (rd T i) big := by
  unfold kindAt
  rw [if_neg (by omega), if_neg (by omega)]
theorem kindAt_out (T : List Int) (big : Bool) (i : Int) (h : i < 0 ∨ (T.length : Int) ≤ i) : kindAt T big i = 3 := by
  unfold kindAt
  by_cases h0 : i < 0
  · rw [if_pos h0]
  · rw [if_neg h0, if_pos (by omega)]
theorem inW_cases (q : Int) (h0 : 0 ≤ q ∧ q ≤ 3) : (q = 2 ∧ inWK q = true) ∨ (q = 1 ∧ inWK q = true) ∨ (q ≠ 2 ∧ q ≠ 1 ∧ inWK q = false) := by
  unfold inWK
  by_cases h2 : q = 2
  · left; simp [h2]
  · by_cases h1 : q = 1
    · right; left; simp [h1]
    · right; right; simp [h1, h2]
theorem starts_f (k : Nat) (T : List Int) (big : Bool) (p : Nat) (hp : p ≤ T.length) (hl : T.length ≤ 1048576) : quoinlaw08_starts.f (k + 1) T (p : Int) big = some (startK T big (p : Int)) := by
  unfold quoinlaw08_starts.f startK
  by_cases h : (p : Int) ≥ (T.length : Int)
  · rw [if_pos h, kindAt_out T big p (by omega)]
    simp [inWK]
  · rw [if_neg h, if_pos (by omega), if_pos (by omega), of_f, Option.bind_some, kindAt_in T big p (by omega) (by omega)]
    by_cases h0 : (p : Int) = 0
    · have hk : kindAt T big ((p : Int) - 1) = 3 := kindAt_out T big _ (by omega)
      rw [hk]
      rcases inW_cases (cls (rd T (p : Int)) big) (cls_range _ _) with ⟨q1, q2⟩ | ⟨q1, q2⟩ | ⟨q1, q2, q3⟩
      · rw [if_pos q1, if_pos h0, q2, q1]; rfl
      · rw [if_neg (by omega), if_pos q1, if_pos h0, q2, q1]; rfl
      · rw [if_neg q1, if_neg q2, q3]; rfl
    · rw [w64 _ (by omega), kindAt_in T big ((p : Int) - 1) (by omega) (by omega)]
      rcases inW_cases (cls (rd T (p : Int)) big) (cls_range _ _) with ⟨q1, q2⟩ | ⟨q1, q2⟩ | ⟨q1, q2, q3⟩
      · rw [if_pos q1, if_neg h0, if_pos (by omega), if_pos (by omega), of_f, Option.bind_some, q2]; rfl
      · rw [if_neg (by omega), if_pos q1, if_neg h0, if_pos (by omega), if_pos (by omega), of_f, Option.bind_some, q2]; rfl
      · rw [if_neg q1, if_neg q2, q3]; rfl
theorem ends_f (k : Nat) (T : List Int) (big : Bool) (p : Nat) (hp : p ≤ T.length) (hl : T.length ≤ 1048576) : quoinlaw08_ends.f (k + 1) T (p : Int) big = some (endK T big (p : Int)) := by
  unfold quoinlaw08_ends.f endK
  by_cases h : (p : Int) ≥ (T.length : Int)
  · rw [if_pos h, kindAt_out T big p (by omega)]
    simp [inWK]
  · rw [if_neg h, if_pos (by omega), if_pos (by omega), of_f, Option.bind_some, kindAt_in T big p (by omega) (by omega), w64 _ (by omega)]
    by_cases h0 : (p : Int) + 1 = (T.length : Int)
    · have hk : kindAt T big ((p : Int) + 1) = 3 := kindAt_out T big _ (by omega)
      rw [hk]
      rcases inW_cases (cls (rd T (p : Int)) big) (cls_range _ _) with ⟨q1, q2⟩ | ⟨q1, q2⟩ | ⟨q1, q2, q3⟩
      · rw [if_pos q1, if_pos h0, q2, q1]; rfl
      · rw [if_neg (by omega), if_pos q1, if_pos h0, q2, q1]; rfl
      · rw [if_neg q1, if_neg q2, q3]; rfl
    · rw [kindAt_in T big ((p : Int) + 1) (by omega) (by omega)]
      rcases inW_cases (cls (rd T (p : Int)) big) (cls_range _ _) with ⟨q1, q2⟩ | ⟨q1, q2⟩ | ⟨q1, q2, q3⟩
      · rw [if_pos q1, if_neg h0, if_pos (by omega), if_pos (by omega), of_f, Option.bind_some, q2]; rfl
      · rw [if_neg (by omega), if_pos q1, if_neg h0, if_pos (by omega), if_pos (by omega), of_f, Option.bind_some, q2]; rfl
      · rw [if_neg q1, if_neg q2, q3]; rfl
theorem beg_split (T : List Int) (big : Bool) (p : Int) : begK T big p = (bareK T big p || startK T big p) := rfl
section
variable (T : List Int) (big : Bool) (a : Nat) (hn : T.length ≤ 1048576) (ha : a ≤ T.length)
include hn ha
/-- the way on to the ending: no empty line between -/
theorem back_l0 (ge : ByteArray) (hge : ∀ p : Nat, p ≤ T.length → mwF T (p : Int) 1 ge = mvF T big p 1 3) (b : Nat) (hb : b ≤ T.length) (hab : a < b) (hE : endK T big (a : Int) = true) (hno : ∀ q : Nat, a < q → q < b → endK T big (q : Int) = false) (z1 z3 : Int) :
    ∀ (c k p : Nat), p + c = b → a + 1 ≤ p → c + 2 ≤ k → (∀ q : Nat, a < q → q < p → bareK T big (q : Int) = false) → quoinlaw08_WordBack.l0 k T (a : Int) ge (p : Int) z1 (b : Int) z3 = some true
  | 0, k + 1, p, h, hp, hk, hq => by
    have hm : mvF T big b 1 3 = ((b : Int), (dn (haltK T big) b)[0]?.getD 0, 2, 0) := by rw [mvF3, if_neg (by omega)]
    rw [quoinlaw08_WordBack.l0, if_neg (by omega), move_f _ _ _ _ hn, Option.bind_some, hge b hb, hm]
    have h1 : (dn (haltK T big) b)[0]? = some (a : Int) := by
      rw [show b = a + 1 + (b - (a + 1)) by omega]
      refine dn_none _ a _ (fun q h1 h2 => ?_) (by unfold haltK; rw [hE]; simp)
      unfold haltK
      rw [hno q h1 (by omega), hq q h1 (by omega)]
      rfl
    rw [h1]
    simp
  | c + 1, k + 1, p, h, hp, hk, hq => by
    rw [quoinlaw08_WordBack.l0, if_pos (by omega), bare_f T big p (by omega) hn, Option.bind_some]
    cases hbk : bareK T big (p : Int)
    · rw [if_neg (by simp), w64 _ (by omega)]
      refine back_l0 ge hge b hb hab hE hno z1 z3 c k (p + 1) (by omega) (by omega) (by omega) (fun q h1 h2 => ?_)
      by_cases he : q = p
      · rw [he]; exact hbk
      · exact hq q h1 (by omega)
    · rw [if_pos rfl]
theorem back_j4 (e ge : ByteArray) (he : ∀ p : Nat, p ≤ T.length → mwF T (p : Int) 1 e = mvF T big p 1 2) (hge : ∀ p : Nat, p ≤ T.length → mwF T (p : Int) 1 ge = mvF T big p 1 3) (k : Nat) (hk : T.length + 5 ≤ k) :
    quoinlaw08_WordBack.j4 k T (a : Int) big e ge = some true := by
  obtain ⟨k, rfl⟩ : ∃ k', k = k' + 2 := ⟨k - 2, by omega⟩
  rw [quoinlaw08_WordBack.j4, ends_f k T big a ha hn, Option.bind_some]
  cases hE : endK T big (a : Int)
  · rw [if_neg (by simp)]
  · rw [if_pos rfl, move_f _ _ _ _ hn, Option.bind_some, he a ha]
    simp only [mvF]
    cases hz : (up (endK T big) (a + 1) (T.length - a)).getLast? with
    | none => simp [no70]
    | some z =>
      simp only [if_true]
      cases hu : (up (endK T big) (a + 1) (T.length - a))[1 - 1]? with
      | none =>
        rw [List.getElem?_eq_none_iff] at hu
        have : up (endK T big) (a + 1) (T.length - a) = [] := List.eq_nil_of_length_eq_zero (by omega)
        rw [this] at hz
        cases hz
      | some b =>
        obtain ⟨bn, rfl, h2, h3, h4, _⟩ := up_at _ _ _ _ _ hu
        rw [Option.getD_some, w64 _ (by omega)]
        exact back_l0 T big a hn ha ge hge bn (by omega) (by omega) hE (fun q h1 h2 => up_first_none _ _ _ _ hu q (by omega) (by omega)) _ _ (bn - (a + 1)) (k + 1) (a + 1) (by omega) (by omega) (by omega) (fun q h1 h2 => by omega)
theorem back_j1 (w b e ge : ByteArray) (hw : ∀ p : Nat, p ≤ T.length → mwF T (p : Int) 1 w = mvF T big p 1 0) (hb : ∀ p : Nat, p ≤ T.length → mwF T (p : Int) 1 b = mvF T big p 1 1)
    (he : ∀ p : Nat, p ≤ T.length → mwF T (p : Int) 1 e = mvF T big p 1 2) (hge : ∀ p : Nat, p ≤ T.length → mwF T (p : Int) 1 ge = mvF T big p 1 3) (k : Nat) (hk : T.length + 10 ≤ k) :
    quoinlaw08_WordBack.j1 k T (a : Int) big w b e ge = some true := by
  obtain ⟨k, rfl⟩ : ∃ k', k = k' + 4 := ⟨k - 4, by omega⟩
  have j4 : ∀ k, T.length + 5 ≤ k → quoinlaw08_WordBack.j4 k T (a : Int) big e ge = some true := fun k hk => back_j4 T big a hn ha e ge he hge k hk
  have key : ∀ x : Bool, begK T big (a : Int) = x → quoinlaw08_WordBack.j2 (k + 3) T (a : Int) big w b e ge x = some true := by
    intro x hx
    rw [quoinlaw08_WordBack.j2]
    cases x
    · rw [if_neg (by simp)]
      exact j4 _ (by omega)
    · rw [if_pos rfl, move_f _ _ _ _ hn, Option.bind_some, hw a ha]
      by_cases hc : a = T.length
      · have hm : mvF T big a 1 0 = no70 := by simp [mvF, hc]
        rw [hm, if_neg (by decide), quoinlaw08_WordBack.j3, if_neg (by simp)]
        exact j4 _ (by omega)
      · have hm : mvF T big a 1 0 = ((a : Int), (up (begK T big) (a + 1) (T.length - a))[0]?.getD (T.length : Int), 1, 0) := by simp [mvF, hc]
        rw [hm]
        simp only [if_true]
        obtain ⟨g, hg, hga, hgT, hgb⟩ : ∃ g : Nat, (up (begK T big) (a + 1) (T.length - a))[0]?.getD (T.length : Int) = g ∧ a < g ∧ g ≤ T.length ∧ (begK T big (g : Int) = true → (dn (begK T big) g)[0]? = some (a : Int)) := by
          cases hu : (up (begK T big) (a + 1) (T.length - a))[0]? with
          | none =>
            refine ⟨T.length, rfl, by omega, Nat.le_refl _, fun hB => ?_⟩
            rw [List.getElem?_eq_none_iff] at hu
            have hnil : up (begK T big) (a + 1) (T.length - a) = [] := List.eq_nil_of_length_eq_zero (by omega)
            exfalso
            have h1 := lst_up (begK T big) (T.length - a) (a + 1)
            rw [hnil, List.append_nil, show a + 1 + (T.length - a) = T.length + 1 by omega] at h1
            have h2 : ((T.length : Nat) : Int) ∈ lst (begK T big) (T.length + 1) := by rw [lst, hB, if_pos rfl]; simp
            rw [h1] at h2
            have := lst_lt _ _ _ h2
            omega
          | some y =>
            obtain ⟨bn, rfl, h2, h3, _⟩ := up_at _ _ _ _ _ hu
            refine ⟨bn, rfl, by omega, by omega, fun _ => ?_⟩
            obtain ⟨b', hb1, hb2⟩ := dn_first (begK T big) _ (a + 1) (a : Int) (dn_hd _ a hx) _ hu
            have : b' = bn := by omega
            rw [← this]
            exact hb2
        rw [hg, starts_f (k + 1) T big g hgT hn, Option.bind_some]
        have j3 : ∀ y : Bool, begK T big (g : Int) = y → quoinlaw08_WordBack.j3 (k + 2) T (a : Int) big b e ge y (a : Int) (g : Int) 1 = some true := by
          intro y hy
          rw [quoinlaw08_WordBack.j3]
          cases y
          · rw [if_neg (by simp)]
            exact j4 _ (by omega)
          · have hm2 : mvF T big g 1 1 = ((g : Int), (dn (begK T big) g)[0]?.getD 0, 1, 0) := by rw [mvF1, if_neg (by omega)]
            rw [if_pos rfl, move_f _ _ _ _ hn, Option.bind_some, hb g hgT, hm2, hgb hy]
            simp only [Option.getD_some, if_true]
            exact j4 _ (by omega)
        cases hs : startK T big (g : Int)
        · rw [if_neg (by simp), bare_f T big g hgT hn, Option.bind_some]
          exact j3 _ (by rw [beg_split, hs, Bool.or_false])
        · rw [if_pos rfl]
          exact j3 _ (by rw [beg_split, hs, Bool.or_true])
  rw [quoinlaw08_WordBack.j1, starts_f (k + 2) T big a ha hn, Option.bind_some]
  cases hs : startK T big (a : Int)
  · rw [if_neg (by simp), bare_f T big a ha hn, Option.bind_some]
    exact key _ (by rw [beg_split, hs, Bool.or_false])
  · rw [if_pos rfl]
    exact key _ (by rw [beg_split, hs, Bool.or_true])
end
theorem WordBack (T : List Int) (a : Int) (big : Bool) {G1 G2 G3 : Prop} (_ : G1) (_ : G2) (_ : G3) (hn : T.length ≤ 1048576) : ∃ k, quoinlaw08_WordBack.f k T a big = some true := by
  refine ⟨T.length + 20, ?_⟩
  unfold quoinlaw08_WordBack.f
  simp only [quoinlaw08_alive.f, Option.bind_some, if_true]
  have j0t : quoinlaw08_WordBack.j0 (T.length + 20) T a big true = some true := by rw [quoinlaw08_WordBack.j0, if_pos rfl]
  by_cases c1 : a < 0
  · rw [if_pos c1]; exact j0t
  rw [if_neg c1]
  by_cases c2 : a > (T.length : Int)
  · rw [decide_eq_true c2]; exact j0t
  rw [decide_eq_false c2, quoinlaw08_WordBack.j0, if_neg (by simp)]
  obtain ⟨an, rfl⟩ := Int.eq_ofNat_of_zero_le (show 0 ≤ a by omega)
  have kx : ∀ (key : ByteArray) (j : Nat), kix key = some j → decide (3 < j) = big → ∀ p : Nat, p ≤ T.length → mwF T (p : Int) 1 key = mvF T big p 1 (j % 4) := by
    intro key j hk hj p hp
    have := mw_in T p 1 j key hk hp (by omega) (by omega)
    rw [hj] at this
    exact this
  cases big
  · rw [if_neg (by simp)]
    exact back_j1 T false an hn (by omega) _ _ _ _ (kx _ 0 (by simp [kix, ByteArray.toList_eq]) rfl) (kx _ 1 (by simp [kix, ByteArray.toList_eq]) rfl) (kx _ 2 (by simp [kix, ByteArray.toList_eq]) rfl) (kx _ 3 (by simp [kix, ByteArray.toList_eq]) rfl) _ (by omega)
  · rw [if_pos rfl]
    exact back_j1 T true an hn (by omega) _ _ _ _ (kx _ 4 (by simp [kix, ByteArray.toList_eq]) rfl) (kx _ 5 (by simp [kix, ByteArray.toList_eq]) rfl) (kx _ 6 (by simp [kix, ByteArray.toList_eq]) rfl) (kx _ 7 (by simp [kix, ByteArray.toList_eq]) rfl) _ (by omega)
end Go.Proofs.Ytghoeadmimgfnaa.Pure
