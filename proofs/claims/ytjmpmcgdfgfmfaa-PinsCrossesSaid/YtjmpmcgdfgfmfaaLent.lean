/- The verifier's lent: a copy with two bytes behind it. No condition. -/
import Derived.Test.YtjmpmcgdfgfmfaaBack
namespace Go.Proofs.Ytjmpmcgdfgfmfaa.Hand
open Go.RowKit Go.Proofs.Ytjmpmcgdfgfmfaa.Aggs Go.Proofs.YtjmpmcgdfgfmfaaW.PrintWords Go.Proofs.YtjmpmcgdfgfmfaaW.PrintLast Go.Proofs.YtjmpmcgdfgfmfaaW.PrintMore
set_option linter.unusedVariables false
set_option linter.unusedSimpArgs false
section
variable {P : Program}
/-- append where there is room: the cells are written behind the row. -/
theorem run_append_in (W : World) (t e ty g n cap m c size : Nat) (ht : P.underlying t = some (.slice e)) (hinfo : (P.info? e).map (fun i => i.size) = some size) (ad : Addr) (ys : List Value)
    (hc : ∀ j v, ys[j]? = some v → W.cell? (ad.add j) = some v) (hy : ys.length = m * size) (hcap : n + m ≤ cap) (cur : Array Value) (et : TypeId) (hb : W.heap[g]? = some (.cells cur et (0, 0))) (hfit : n * size + ys.length ≤ cur.size) (h1 : ∀ v ∈ ys, v.oneCell' = true) :
    (Builtin.append_ #[t, t] ty #[.slice (some ⟨g, 0, none⟩) n cap, .slice (some ad) m c]).run P W = .ok (.slice (some ⟨g, 0, none⟩) (n + m) cap) (putCells W g (n * size) ys) := by
  obtain ⟨i0, hi, hz⟩ := Option.map_eq_some_iff.1 hinfo
  have hl := run_loadCells_list (P := P) W ad ys hc
  have hs := run_storeCells (P := P) ys W g (n * size) 0 cur et hb (by omega) h1
  rw [Nat.add_zero] at hs
  have ha : (⟨g, 0, none⟩ : Addr).add (n * size) = ⟨g, n * size, none⟩ := by rw [add_plain', Nat.zero_add]
  rw [hy] at hl
  simp [Builtin.append_, run_underlying ht, sizeOf, typeInfo, hi, hz, Builtin.lenOf, Builtin.firstCells, hcap, hl, ha, hs, Sem.run_bind]
theorem run_append_in_op {o : Oper} {a : Act} (W : World) (s x : Operand) (t e : TypeId) (ho : o.op = .call { callee := .builtin .append, args := #[s, x], argTypes := #[t, t] })
    (g n cap m c size : Nat) (ht : P.underlying t = some (.slice e)) (hinfo : (P.info? e).map (fun i => i.size) = some size) (ad : Addr) (ys : List Value) (hs : a.eval s = .slice (some ⟨g, 0, none⟩) n cap) (hx : a.eval x = .slice (some ad) m c)
    (hc : ∀ j v, ys[j]? = some v → W.cell? (ad.add j) = some v) (hy : ys.length = m * size) (hcap : n + m ≤ cap) (cur : Array Value) (et : TypeId) (hb : W.heap[g]? = some (.cells cur et (0, 0))) (hfit : n * size + ys.length ≤ cur.size) (h1 : ∀ v ∈ ys, v.oneCell' = true) :
    (execOp a.eval o).run P W = .ok (.value (.slice (some ⟨g, 0, none⟩) (n + m) cap)) (putCells W g (n * size) ys) := by
  unfold execOp
  simp only [ho, resolve, invoke, builtin, Sem.run_bind, Sem.run_pure, Result.andThen_ok, List.map_toArray, List.map_cons, List.map_nil, hs, hx, run_append_in W t e o.type g n cap m c size ht hinfo ad ys hc hy hcap cur et hb hfit h1]
end
/-- The bytes and 77, 78 behind them, in a block of cap cells. -/
def lentB (W : World) (g cap : Nat) (xs : List Int) : Prop := ∃ cs : Array Value, W.heap[g]? = some (.cells cs 5 (0, 0)) ∧ cs.size = cap ∧ xs.length + 2 ≤ cap ∧ cap ≤ 9223372036854775807 ∧ cs.toList.take (xs.length + 2) = nums .u8 (xs ++ [77, 78])
theorem lentB_below {W W' : World} {g cap : Nat} {xs : List Int} (h : lentB W g cap xs) (hb : Below W.heap.size W W') : lentB W' g cap xs := by
  obtain ⟨cs, h1, h2⟩ := h
  exact ⟨cs, blk_below h1 hb, h2⟩
theorem lentB_lt {W : World} {g cap : Nat} {xs : List Int} (h : lentB W g cap xs) : g < W.heap.size := by
  obtain ⟨cs, h1, h2⟩ := h
  exact blk_lt h1
theorem lentB_cell {W : World} {g cap : Nat} {xs : List Int} (h : lentB W g cap xs) (i : Nat) (x : Int) (hx : (xs ++ [77, 78])[i]? = some x) : W.cell? ⟨g, i, none⟩ = some (.int .u8 x) := by
  obtain ⟨cs, h1, h2, h3, h5, h4⟩ := h
  have hi : i < xs.length + 2 := by
    have := (List.getElem?_eq_some_iff.1 hx).1
    simpa using this
  rw [blk_cell h1, ← Array.getElem?_toList, ← List.getElem?_take_of_lt hi, h4]
  simp only [nums, List.getElem?_map, hx, Option.map_some]
theorem lentB_reads {W : World} {g cap : Nat} {xs : List Int} (h : lentB W g cap xs) (hx : xs.length ≤ 140737488355328) : (Kd.int .u8).C W (some ⟨g, 0, none⟩) xs.length xs := by
  refine ⟨rfl, by omega, fun _ => ⟨_, rfl, fun j p hj => ⟨[.int .u8 p], rfl, rfl, fun i u hu => ?_⟩⟩⟩
  have hi : i = 0 := by
    have := (List.getElem?_eq_some_iff.1 hu).1
    simp at this
    omega
  subst hi
  cases hu
  rw [add_plain', Nat.zero_add]
  show W.cell? ⟨g, j * 1 + 0, none⟩ = _
  rw [Nat.mul_one, Nat.add_zero]
  refine lentB_cell h j p ?_
  rw [List.getElem?_append_left (List.getElem?_eq_some_iff.1 hj).1]
  exact hj
theorem reps_u8 {w : World} {xs : List Int} {cs : List Value} (h : Reps ((Kd.int .u8).K w) 1 xs cs) : cs = nums .u8 xs := by
  obtain ⟨h1, h2⟩ := h
  rw [Nat.mul_one] at h1
  apply List.ext_getElem?
  intro i
  by_cases hi : i < xs.length
  · have hq : (cs.drop (i * 1)).take 1 = [Value.int .u8 xs[i]] := h2 i _ (List.getElem?_eq_getElem hi)
    have hg : ((cs.drop (i * 1)).take 1)[0]? = some (Value.int .u8 xs[i]) := by rw [hq]; rfl
    rw [List.getElem?_take, if_pos (by omega), List.getElem?_drop, Nat.mul_one, Nat.add_zero] at hg
    rw [hg]
    simp [nums, hi]
  · rw [List.getElem?_eq_none (by omega), List.getElem?_eq_none (by simp [nums]; omega)]
theorem two_reads (wk W : World) : ReadsRow ((Kd.int .u8).K wk) 1 (W.alloc (Obj.cells #[.int .u8 77, .int .u8 78] 5)) (some ⟨W.heap.size, 0, none⟩) 2 [77, 78] := by
  refine ⟨rfl, by decide, fun _ => ⟨_, rfl, fun j p hj => ⟨[.int .u8 p], rfl, rfl, fun i u hu => ?_⟩⟩⟩
  have hi : i = 0 := by
    have := (List.getElem?_eq_some_iff.1 hu).1
    simp at this
    omega
  subst hi
  cases hu
  rw [add_plain', Nat.zero_add, blk_cell (blk_new W _)]
  match j, hj with
  | 0, hj => cases hj; rfl
  | 1, hj => cases hj; rfl

set_option maxHeartbeats 1000000 in
set_option maxRecDepth 100000 in
theorem lent_calls (xs : List Int) (A : Option Addr) (c : Nat) (w : World) (hr : (Kd.int .u8).C w A xs.length xs) (hx : xs.length ≤ 140737488351232) :
    Calls Try.prog 37 #[.slice A xs.length c] w fun e w' => ∃ g cap, e = .returned (.slice (some ⟨g, 0, none⟩) xs.length cap) ∧ w.heap.size ≤ g ∧ lentB w' g cap xs ∧ Below w.heap.size w w' := by
  have HO0 : (w.alloc (Obj.cells #[] 5)).ownsRow w.heap.size 5 1 (.slice (some ⟨w.heap.size, 0, none⟩) 0 0) 0 [] := ⟨rfl, .inr ⟨w.heap.size, 0, #[], rfl, Nat.le_refl _, blk_new _ _, Nat.le_refl _, by simp [maxLen], rfl, rfl⟩⟩
  have HOO := Aside0.mk HO0
  have HBA := Aside0.mk ((Below.refl w.heap.size w).alloc (Nat.le_refl _) (Obj.cells #[] 5))
  have HR1 := Aside0.mk (ReadsRow.imp_ (R' := (Kd.int .u8).K w) hr HBA.out (fun _ _ h => h))
  clear HO0 hr
  go_enter Try.func37, Try.ntmps37
  go_wp2_with (refine append_rows_raw (Kd.int .u8) w (w0 := w) w.heap.size rfl (.tmp 3) (.tmp 4) 40 5 (.int .u8 0) 1 rfl Try.underlying40 (by kernel_rfl) (by rfl) (by decide) (by decide) (.slice (some ⟨w.heap.size, 0, none⟩) 0 0) 0 [] A xs.length c xs rfl rfl HOO.out HR1.out HBA.out HBA.out.size (by omega) ?ap2)
  intro v1 W1 news1 hq1 ho1 hb1 hg1
  obtain rfl := reps_u8 hq1
  have HO1 := Aside0.mk (own_alloc ho1 (Obj.cells #[.int .u8 77, .int .u8 78] 5))
  have HB1 := Aside0.mk (hb1.alloc hb1.size (Obj.cells #[.int .u8 77, .int .u8 78] 5))
  have HR2 := Aside0.mk (two_reads w W1)
  clear hq1 ho1 hb1 hg1 HOO HBA HR1
  go_wp2_with (refine append_rows_raw (Kd.int .u8) w (w0 := w) w.heap.size rfl (.tmp 5) (.tmp 6) 40 5 (.int .u8 0) 1 rfl Try.underlying40 (by kernel_rfl) (by rfl) (by decide) (by decide) v1 xs.length (nums .u8 xs) (some ⟨W1.heap.size, 0, none⟩) 2 2 [77, 78] rfl rfl HO1.out HR2.out HB1.out HB1.out.size (by omega) ?ap4)
  intro v2 W2 news2 hq2 ho2 hb2 hg2
  obtain rfl := reps_u8 hq2
  obtain ⟨_, hL | ⟨g, cap, cur, rfl, hge, hblk, hnc, hmax, hsz, htk⟩⟩ := ho2
  · exact absurd hL.2 (by omega)
  have HF : Aside0 (w.heap.size ≤ g ∧ lentB W2 g cap xs ∧ Below w.heap.size w W2) := Aside0.mk ⟨hge, ⟨cur, hblk, hsz.trans (Nat.mul_one _), hnc, hmax, ((congrArg (fun k => cur.toList.take k) (Nat.mul_one _).symm).trans htk).trans (by simp [nums])⟩, hb2⟩
  have hc1 : xs.length ≤ cap := by omega
  have hc2 : cap ≤ 9223372036854775807 := by simpa [maxLen] using hmax
  clear hq2 hb2 hg2 hge hblk hnc hmax hsz htk HO1 HB1 HR2
  go_wp2
  go_ret
  exact ⟨g, cap, rfl, HF.out⟩

set_option maxHeartbeats 1000000 in
set_option maxRecDepth 100000 in
theorem whole_calls (xs : List Int) (g cap : Nat) (A : Option Addr) (c : Nat) (w : World) (hb : lentB w g cap xs) (hr : (Kd.int .u8).C w A xs.length xs) (hx : xs.length ≤ 140737488351232) :
    Calls Try.prog 40 #[.slice (some ⟨g, 0, none⟩) xs.length cap, .slice A xs.length c] w fun e w' => e = .returned (.bool true) ∧ Below w.heap.size w w' := by
  have hs1 : (convert 40 9 (.slice (some ⟨g, 0, none⟩) xs.length cap)).run Try.prog w = .ok (.string (strOfNums xs)) w := Kd.C_string Try.underlying40 Try.underlying5 Try.underlying9 (lentB_reads hb (by omega))
  have hs2 : (convert 40 9 (.slice A xs.length c)).run Try.prog w = .ok (.string (strOfNums xs)) w := Kd.C_string Try.underlying40 Try.underlying5 Try.underlying9 hr
  have h77 : w.cell? ⟨g, xs.length, none⟩ = some (.int .u8 77) := lentB_cell hb xs.length 77 (by simp)
  have h78 : w.cell? ⟨g, xs.length + 1, none⟩ = some (.int .u8 78) := lentB_cell hb (xs.length + 1) 78 (by simp)
  obtain ⟨_, _, _, hc1, hc2, _⟩ := hb
  generalize xs.length = n at *
  generalize strOfNums xs = s at hs1 hs2
  clear hr
  go_enter Try.func40, Try.ntmps40
  go_wp2

  go_ret
  exact ⟨rfl, Below.refl _ _⟩

end Go.Proofs.Ytjmpmcgdfgfmfaa.Hand
