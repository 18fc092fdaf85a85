/- pins: plain facts of the law PinsFollow. No condition. -/
import Derived.Test.YtjmpmcgdfgfmfaaApplied
namespace Go.Proofs.Ytjmpmcgdfgfmfaa.Hand
open Go.RowKit Go.Proofs.Ytjmpmcgdfgfmfaa.Aggs Go.Proofs.YtjmpmcgdfgfmfaaW.PrintWords
set_option linter.unusedVariables false
set_option linter.unusedSimpArgs false
/-- where a mark at y is behind an edit -/
def nextY (p lo ln y : Nat) : Nat := if y < p then y else if p + lo ≤ y then y + ln - lo else p + min (y - p) ln
theorem behindI_nat (p lo ln y : Nat) (h1 : p ≤ 1099511627776) (h2 : lo ≤ 1099511627776) (h3 : ln ≤ 1099511627776) (h4 : y ≤ 1099511627776) : behindI p lo ln y = (nextY p lo ln y : Nat) := by
  have w1 : wrap64 ((p : Int) + lo) = p + lo := by unfold wrap64; omega
  have w2 : wrap64 (wrap64 ((y : Int) + ln) - lo) = y + ln - lo := by unfold wrap64; omega
  unfold behindI nextY
  rw [w1, w2, if_neg (by omega)]
  by_cases ha : y < p
  · rw [if_pos (by omega), if_pos ha]
  · rw [if_neg (by omega), if_neg ha]
    by_cases hb : p + lo ≤ y
    · rw [if_pos (by omega), if_pos hb]
      omega
    · rw [if_neg (by omega), if_neg hb]
      have w3 : wrap64 ((y : Int) - p) = y - p := by unfold wrap64; omega
      rw [w3]
      have w4 : mn ((y : Int) - p) ln = ((min (y - p) ln : Nat) : Int) := by
        unfold mn
        split <;> omega
      rw [w4]
      unfold wrap64
      omega
theorem behindI_off (a o n : Int) : behindI a o n (-1) = -1 := by simp [behindI]
theorem off_set_map (f : Int → Int) (hf : f (-1) = -1) (y : Int) : (allOff.set 16 y).map f = allOff.set 16 (f y) := by
  rw [List.map_set]
  have e : allOff.map f = allOff := by simp [allOff, hf]
  rw [e]
theorem off_len (y : Int) : (allOff.set 16 y).length = 27 := by simp [allOff]
theorem set_q (q : Nat) : setR allOff 113 q = (allOff.set 16 (q : Int), 0) := by
  unfold setR
  rw [show idx 113 = some 16 by rfl]
  simp
theorem get_q (y : Nat) : getR (allOff.set 16 (y : Int)) 113 = ((y : Int), 0) := by
  unfold getR
  rw [show idx 113 = some 16 by rfl]
  simp [allOff]
theorem fits_q (y : Nat) (s : Int) (h : (y : Int) ≤ s) : fitsB s (allOff.set 16 (y : Int)) = true := by
  refine fits_yes s _ (fun j hj => ?_)
  rw [List.getElem?_set]
  have h0 : badI s (-1) = false := by simp [badI]
  have hy : badI s (y : Int) = false := by
    simp only [badI, Bool.or_eq_false_iff, Bool.and_eq_false_iff, decide_eq_false_iff_not]
    exact ⟨by omega, Or.inr (by omega)⟩
  by_cases hk : 16 = j
  · rw [if_pos hk, if_pos (by simp [allOff])]
    exact hy
  · rw [if_neg hk]
    have e : allOff[j]? = some (-1) := by
      unfold allOff
      rw [List.getElem?_replicate, if_pos hj]
    rw [e]
    exact h0
theorem new_len (us ns : List Int) (p lo : Nat) (h : p + lo ≤ us.length) : (us.take p ++ ns ++ us.drop (p + lo)).length + lo = us.length + ns.length := by
  simp only [List.length_append, List.length_take, List.length_drop]
  omega
theorem nextY_le (us ns : List Int) (p lo y : Nat) (h : p + lo ≤ us.length) (hy : y ≤ us.length) : nextY p lo ns.length y + lo ≤ us.length + ns.length := by
  unfold nextY
  split
  · omega
  · split <;> omega
theorem stays_before (us ns : List Int) (p lo y : Nat) (h : p + lo ≤ us.length) (hy : y < p) : (us.take p ++ ns ++ us.drop (p + lo))[y]? = us[y]? := by
  rw [List.append_assoc, List.getElem?_append_left (by rw [List.length_take]; omega), List.getElem?_take_of_lt hy]
theorem stays_behind (us ns : List Int) (p lo y : Nat) (h : p + lo ≤ us.length) (hy : p + lo ≤ y) : (us.take p ++ ns ++ us.drop (p + lo))[y + ns.length - lo]? = us[y]? := by
  rw [List.getElem?_append_right (by simp only [List.length_append, List.length_take]; omega), List.getElem?_drop]
  congr 1
  simp only [List.length_append, List.length_take]
  omega
theorem C_cell {w : World} {A : Option Addr} {n : Nat} {xs : List Int} (h : (Kd.int .u8).C w A n xs) (j : Nat) (x : Int) (hj : xs[j]? = some x) : ∃ ad, A = some ad ∧ w.cell? (ad.add j) = some (.int .u8 x) := by
  have hl := (List.getElem?_eq_some_iff.1 hj).1
  obtain ⟨ad, rfl, hc⟩ := h.2.2 (by have := h.1; omega)
  obtain ⟨cs, h1, h2, h3⟩ := hc j x hj
  refine ⟨ad, rfl, ?_⟩
  have h4 : cs = [Value.int .u8 x] := h2
  have h5 := h3 0 (Value.int .u8 x) (by rw [h4]; rfl)
  have e : j * (Kd.int .u8).sz + 0 = j := Nat.mul_one j
  rw [e] at h5
  exact h5
theorem putCells_cell (vs : List Value) (W : World) (g o : Nat) (x : Addr) (h : x.block ≠ g) : (putCells W g o vs).cell? x = W.cell? x := by
  unfold World.cell?
  rw [putCells_other vs W g o x.block h]
theorem C_put {W : World} {A : Option Addr} {n g o : Nat} {xs : List Int} {vs : List Value} (h : (Kd.int .u8).C W A n xs) (hne : ∀ ad, A = some ad → 0 < xs.length → ad.block ≠ g) : (Kd.int .u8).C (putCells W g o vs) A n xs := by
  refine ⟨h.1, h.2.1, fun hp => ?_⟩
  obtain ⟨ad, rfl, hc⟩ := h.2.2 hp
  have h1 := hne ad rfl (by rw [h.1]; exact hp)
  refine ⟨ad, rfl, fun j p hj => ?_⟩
  obtain ⟨cs, h2, h3, h4⟩ := hc j p hj
  refine ⟨cs, h2, h3, fun i u hu => ?_⟩
  rw [putCells_cell vs W g o _ (by unfold Addr.add; split <;> exact h1)]
  exact h4 i u hu
theorem C_old {W : World} {A : Option Addr} {xs : List Int} (h : (Kd.int .u8).C W A xs.length xs) (ad : Addr) (hA : A = some ad) (hp : 0 < xs.length) : ad.block < W.heap.size := by
  obtain ⟨ad', h1, h2⟩ := C_cell h 0 xs[0] (List.getElem?_eq_getElem hp)
  rw [hA] at h1
  cases h1
  rcases Nat.lt_or_ge ad.block W.heap.size with h' | h'
  · exact h'
  · have e : (ad.add 0) = ad := by simp [Addr.add]
    rw [e] at h2
    simp [World.cell?, Array.getElem?_eq_none h'] at h2
theorem edit_read1 {w : World} {A : Option Addr} {es : List S42} (h : k42.C w A es.length es) (i : Nat) (hi : i < es.length) :
    ∃ ad Ao o Bo n, A = some ad ∧ (Kd.int .u8).C w Ao es[i].f1.length es[i].f1 ∧ (Kd.int .u8).C w Bo es[i].f2.length es[i].f2 ∧ ∀ j v, [Value.int .i64 es[i].f0, Value.slice Ao es[i].f1.length o, Value.slice Bo es[i].f2.length n][j]? = some v → w.cell? ((ad.add (i * 3)).add j) = some v := by
  obtain ⟨ad, c, rfl, hl, hk, hc⟩ := Kd.C_get h es[i] (i : Int) (by omega) (by omega)
  have e1 : es.getD (i : Int).toNat es[i] = es[i] := by simp [List.getD_eq_getElem?_getD, List.getElem?_eq_getElem hi]
  rw [e1] at hk
  obtain ⟨Ao, o, Bo, n, rfl, g1, g2, g3, g4⟩ := k42_open hk
  refine ⟨ad, Ao, o, Bo, n, rfl, g3, g4, fun j v hj => ?_⟩
  have := hc j v hj
  rw [Addr.add_add]
  exact this
theorem good_edits1 (es : List S42) (h : ∀ x ∈ es, (Lit.int .i64 x.f0).wf = true ∧ (x.f1.length * Try.prog.bytesOf 5 ≤ reachBytes ∧ ∀ y ∈ x.f1, (Lit.int .u8 y).wf = true) ∧ (x.f2.length * Try.prog.bytesOf 5 ≤ reachBytes ∧ ∀ y ∈ x.f2, (Lit.int .u8 y).wf = true)) : ∀ e ∈ es, goodE e := by
  have hb : Try.prog.bytesOf 5 = 1 := by kernel_rfl
  intro e he
  obtain ⟨_, ⟨h1, _⟩, ⟨h2, _⟩⟩ := h e he
  rw [hb, Nat.mul_one] at h1 h2
  exact ⟨h1, h2⟩
theorem sumE_drop (es : List S42) (i : Nat) (h : i < es.length) : sumE (es.drop i) = es[i].f1.length + es[i].f2.length + 1 + sumE (es.drop (i + 1)) := by
  rw [List.drop_eq_getElem_cons h]
  rfl
end Go.Proofs.Ytjmpmcgdfgfmfaa.Hand
