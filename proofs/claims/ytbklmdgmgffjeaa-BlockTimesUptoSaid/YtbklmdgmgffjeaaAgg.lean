/- Aggregates of many cells, told as lists: what a load, a store and an index of them come to; blocks whose cells are such lists. No law, no condition. -/
import Derived.Laws.Rows
import Derived.Test.YtbklmdgmgffjeaaWWords
namespace Go.Proofs.Ytbklmdgmgffjeaa.Aggs
open Go.RowKit Go.Proofs.YtbklmdgmgffjeaaW.PrintWords
set_option linter.unusedVariables false

theorem add_plain' (g o j : Nat) : (⟨g, o, none⟩ : Addr).add j = ⟨g, o + j, none⟩ := by
  unfold Addr.add
  split
  · rename_i h; subst h; rfl
  · rfl

section
variable {P : Program}

theorem run_loadVar_agg (w : World) (ad : Addr) (ty : TypeId) (vs : List Value) (d : TypeDesc) (hc : ∀ j v, vs[j]? = some v → w.cell? (ad.add j) = some v)
    (hu : P.underlying ty = some d) (hd : (match d with | .struct _ | .array _ _ => true | _ => false) = true) (hi : (P.info? ty).map (·.size) = some vs.length) :
    (loadVar ty ad).run P w = .ok (.agg vs.toArray) w := by
  have hl : (loadCells ad vs.length).run P w = .ok vs.toArray w := run_loadCells_list (P := P) w ad vs hc
  cases hq : P.info? ty with
  | none => simp [hq] at hi
  | some i =>
    have hs : i.size = vs.length := by simpa [hq] using hi
    have hagg : (isAgg ty).run P w = .ok true w := by
      unfold isAgg
      rw [Sem.run_bind, run_underlying hu w]
      cases d <;> simp_all
    simp [loadVar, Sem.run_bind, hagg, sizeOf, typeInfo, hq, hs, hl]

theorem wpList_load_agg {ops : Array Oper} {rest : List Oper} {o : Oper} {a : Act} {w : World} {Q : Exit → Act → World → Prop} (hgd : o.guard = none) (ty : TypeId) (x : Operand) (ho : o.op = .load ty x)
    (ad : Addr) (hx : a.eval x = .pointer (some ad)) (vs : List Value) (d : TypeDesc) (hc : ∀ j v, vs[j]? = some v → w.cell? (ad.add j) = some v)
    (hu : P.underlying ty = some d) (hd : (match d with | .struct _ | .array _ _ => true | _ => false) = true) (hi : (P.info? ty).map (·.size) = some vs.length)
    (h : wpList P ops Q rest (a.put o.dst (.agg vs.toArray)) w) : wpList P ops Q (o :: rest) a w :=
  wpList_plain hgd fun _ hK => by
    unfold Oper.wp execOp
    simp only [ho, hx, Instr.loadAt, Instr.sureAddr, Sem.run_bind, Sem.run_pure, Result.andThen_ok, run_loadVar_agg w ad ty vs d hc hu hd hi]
    exact hK _ _ h

/-- a run of cells written, one by one -/
def putCells (w : World) (g : Nat) : Nat → List Value → World
  | _, [] => w
  | o, v :: vs => putCells (w.setCell ⟨g, o, none⟩ v) g (o + 1) vs
def splice (cs : Array Value) : Nat → List Value → Array Value
  | _, [] => cs
  | o, v :: vs => splice (cs.setIfInBounds o v) (o + 1) vs
theorem splice_size : ∀ (vs : List Value) (cs : Array Value) (o : Nat), (splice cs o vs).size = cs.size
  | [], cs, o => rfl
  | v :: vs, cs, o => by rw [splice, splice_size vs]; simp
theorem splice_get : ∀ (vs : List Value) (cs : Array Value) (o j : Nat), (splice cs o vs)[j]? = if o ≤ j ∧ j < o + vs.length ∧ j < cs.size then vs[j - o]? else cs[j]?
  | [], cs, o, j => by
    rw [splice, if_neg (by simp; omega)]
  | v :: vs, cs, o, j => by
    rw [splice, splice_get vs]
    simp only [Array.size_setIfInBounds, List.length_cons]
    by_cases hj : j = o
    · subst hj
      by_cases hs : j < cs.size
      · rw [if_neg (by omega), if_pos (by omega)]
        simp [hs]
      · rw [if_neg (by omega), if_neg (by omega)]
        simp [hs]
    · have h1 : (cs.setIfInBounds o v)[j]? = cs[j]? := Array.getElem?_setIfInBounds_ne (by omega)
      rw [h1]
      by_cases hin : o + 1 ≤ j ∧ j < o + 1 + vs.length ∧ j < cs.size
      · rw [if_pos hin, if_pos (by omega)]
        obtain ⟨m, rfl⟩ : ∃ m, j = o + 1 + m := ⟨j - (o + 1), by omega⟩
        rw [show o + 1 + m - (o + 1) = m by omega, show o + 1 + m - o = m + 1 by omega, List.getElem?_cons_succ]
      · rw [if_neg hin, if_neg (by omega)]
theorem splice_whole (cs : Array Value) (vs : List Value) (h : cs.size = vs.length) : splice cs 0 vs = vs.toArray := by
  apply Array.ext_getElem?
  intro j
  rw [splice_get]
  by_cases hj : j < vs.length
  · rw [if_pos (by omega)]
    simp
  · rw [if_neg (by omega), Array.getElem?_eq_none (by omega), Array.getElem?_eq_none (by simp; omega)]

theorem putCells_block : ∀ (vs : List Value) (w : World) (g o : Nat) (cs : Array Value) (t : TypeId), w.heap[g]? = some (.cells cs t (0, 0)) → (putCells w g o vs).heap[g]? = some (.cells (splice cs o vs) t (0, 0))
  | [], w, g, o, cs, t, h => h
  | v :: vs, w, g, o, cs, t, h => putCells_block vs _ g (o + 1) _ t (blk_set h o v)
theorem putCells_other : ∀ (vs : List Value) (w : World) (g o b : Nat), b ≠ g → (putCells w g o vs).heap[b]? = w.heap[b]?
  | [], w, g, o, b, h => rfl
  | v :: vs, w, g, o, b, h => (putCells_other vs _ g (o + 1) b h).trans (heap_setCell_other w ⟨g, o, none⟩ b v h)
theorem putCells_below : ∀ (vs : List Value) (w0 w : World) (B g o : Nat), B ≤ g → Below B w0 w → Below B w0 (putCells w g o vs)
  | [], w0, w, B, g, o, hg, h => h
  | v :: vs, w0, w, B, g, o, hg, h => putCells_below vs w0 _ B g (o + 1) hg (h.setCell (p := ⟨g, o, none⟩) hg v)
theorem putCells_size : ∀ (vs : List Value) (w : World) (g o : Nat), (putCells w g o vs).heap.size = w.heap.size
  | [], w, g, o => rfl
  | v :: vs, w, g, o => by rw [putCells, putCells_size vs]; simp

theorem run_storeCells : ∀ (vs : List Value) (w : World) (g o i : Nat) (cs : Array Value) (t : TypeId), w.heap[g]? = some (.cells cs t (0, 0)) → o + i + vs.length ≤ cs.size → (∀ v ∈ vs, v.oneCell' = true) →
    (storeCells ⟨g, o, none⟩ vs i).run P w = .ok () (putCells w g (o + i) vs)
  | [], w, g, o, i, cs, t, h, hl, h1 => rfl
  | v :: vs, w, g, o, i, cs, t, h, hl, h1 => by
    simp only [List.length_cons] at hl
    have hv := h1 v (by simp)
    have hc : w.cell? ((⟨g, o, none⟩ : Addr).add i) = some (cs[o + i]'(by omega)) := by
      rw [add_plain', blk_cell h]
      simp
    have hf : w.frozen? ((⟨g, o, none⟩ : Addr).add i) = false := by
      rw [add_plain']
      exact blk_frozen h _
    have ih := run_storeCells vs (w.setCell ⟨g, o + i, none⟩ v) g o (i + 1) (cs.setIfInBounds (o + i) v) t (blk_set h (o + i) v) (by simp; omega) (fun u hu => h1 u (by simp [hu]))
    rw [add_plain'] at hc hf
    unfold storeCells
    rw [Sem.run_bind]
    have hst : (store ((⟨g, o, none⟩ : Addr).add i) v).run P w = .ok () (w.setCell ⟨g, o + i, none⟩ v) := by
      rw [add_plain']
      cases v <;> first | (simp [Value.oneCell'] at hv; done) | simp [store, Sem.run, hc, hf]
    rw [hst, Result.andThen_ok, ih]
    rfl

theorem wpList_store_agg {ops : Array Oper} {rest : List Oper} {o : Oper} {a : Act} {w : World} {Q : Exit → Act → World → Prop} (hgd : o.guard = none) (ty : TypeId) (x y : Operand) (ho : o.op = .store ty x y)
    (g k : Nat) (hx : a.eval x = .pointer (some ⟨g, k, none⟩)) (vs : List Value) (hy : a.eval y = .agg vs.toArray) (cs : Array Value) (t : TypeId) (hb : w.heap[g]? = some (.cells cs t (0, 0)))
    (hl : k + vs.length ≤ cs.size) (h1 : ∀ v ∈ vs, v.oneCell' = true) (hi : (P.info? ty).map (·.size) = some vs.length)
    (h : wpList P ops Q rest (a.put o.dst undef) (putCells w g k vs)) : wpList P ops Q (o :: rest) a w :=
  wpList_plain hgd fun _ hK => by
    unfold Oper.wp execOp
    cases hq : P.info? ty with
    | none => simp [hq] at hi
    | some i =>
      have hs : i.size = vs.length := by simpa [hq] using hi
      have hst := run_storeCells (P := P) vs w g k 0 cs t hb (by omega) h1
      simp only [ho, hx, hy, Instr.storeAt, Instr.sureAddr, Sem.run_bind, Sem.run_pure, Result.andThen_ok, storeVar, Value.cells, sizeOf, typeInfo, run_program]
      simp [hq, hs, hst]
      exact hK _ _ h

theorem run_store_agg_op {o : Oper} {a : Act} {w : World} (ty : TypeId) (x y : Operand) (ho : o.op = .store ty x y)
    (g k : Nat) (hx : a.eval x = .pointer (some ⟨g, k, none⟩)) (vs : List Value) (hy : a.eval y = .agg vs.toArray) (cs : Array Value) (t : TypeId) (hb : w.heap[g]? = some (.cells cs t (0, 0)))
    (hl : k + vs.length ≤ cs.size) (h1 : ∀ v ∈ vs, v.oneCell' = true) (hi : (P.info? ty).map (·.size) = some vs.length) :
    (execOp a.eval o).run P w = .ok .skip (putCells w g k vs) := by
  unfold execOp
  cases hq : P.info? ty with
  | none => simp [hq] at hi
  | some i =>
    have hs : i.size = vs.length := by simpa [hq] using hi
    have hst := run_storeCells (P := P) vs w g k 0 cs t hb (by omega) h1
    simp only [ho, hx, hy, Instr.storeAt, Instr.sureAddr, Sem.run_bind, Sem.run_pure, Result.andThen_ok, storeVar, Value.cells, sizeOf, typeInfo, run_program]
    simp [hq, hs, hst]

/-- two aggregates compared -/
theorem run_eqGuard_agg (w : World) (op : BinOp) (ty : TypeId) (x y : Operand) (cs ds : Array Value) (hg : P.eqGuardType P.depth ty = false) : (eqGuard op ty x y (.agg cs) (.agg ds)).run P w = .ok () w := by
  unfold eqGuard
  cases op <;> simp [Sem.run_bind, hg]
theorem wpList_eq_agg {ops : Array Oper} {rest : List Oper} {o : Oper} {a : Act} {w : World} {Q : Exit → Act → World → Prop} (hgd : o.guard = none) (op : BinOp) (ty rt : TypeId) (x y : Operand) (ho : o.op = .binOp op ty x y rt)
    (cs ds : Array Value) (hx : a.eval x = .agg cs) (hy : a.eval y = .agg ds) (hg : P.eqGuardType P.depth ty = false) (v : Value) (hr : (binOp op ty (.agg cs) (.agg ds)).run P w = .ok v w)
    (h : wpList P ops Q rest (a.put o.dst v) w) : wpList P ops Q (o :: rest) a w :=
  wpList_plain hgd fun _ hK => by
    unfold Oper.wp execOp
    simp only [ho, hx, hy, Sem.run_bind, Result.andThen_ok, run_eqGuard_agg w op ty x y cs ds hg, hr, Sem.run_pure]
    exact hK _ _ h

/-- The same, as an operation's run (for a region that draws its order). -/
theorem run_load_agg_op {o : Oper} {a : Act} {w : World} (ty : TypeId) (x : Operand) (ho : o.op = .load ty x)
    (ad : Addr) (hx : a.eval x = .pointer (some ad)) (vs : List Value) (d : TypeDesc) (hc : ∀ j v, vs[j]? = some v → w.cell? (ad.add j) = some v)
    (hu : P.underlying ty = some d) (hd : (match d with | .struct _ | .array _ _ => true | _ => false) = true) (hi : (P.info? ty).map (·.size) = some vs.length) :
    (execOp a.eval o).run P w = .ok (.value (.agg vs.toArray)) w := by
  unfold execOp
  simp only [ho, hx, Instr.loadAt, Instr.sureAddr, Sem.run_bind, Sem.run_pure, Result.andThen_ok, run_loadVar_agg w ad ty vs d hc hu hd hi]
theorem run_eq_agg_op {o : Oper} {a : Act} {w : World} (op : BinOp) (ty rt : TypeId) (x y : Operand) (ho : o.op = .binOp op ty x y rt)
    (cs ds : Array Value) (hx : a.eval x = .agg cs) (hy : a.eval y = .agg ds) (hg : P.eqGuardType P.depth ty = false) (v : Value) (hr : (binOp op ty (.agg cs) (.agg ds)).run P w = .ok v w) :
    (execOp a.eval o).run P w = .ok (.value v) w := by
  unfold execOp
  simp only [ho, hx, hy, Sem.run_bind, Result.andThen_ok, run_eqGuard_agg w op ty x y cs ds hg, hr, Sem.run_pure]

/-- an array's element, of one cell -/
theorem run_index_agg (w : World) (t e n i : Nat) (cs : Array Value) (v : Value) (d : TypeDesc) (ht : P.underlying t = some (.array n e)) (he : P.underlying e = some d)
    (hd : (match d with | .struct _ | .array _ _ => true | _ => false) = false) (hi : (P.info? e).map (·.size) = some 1) (hin : i < n) (hv : cs[i]? = some v) :
    (Instr.index t (.agg cs) (.int .i64 (i : Int))).run P w = .ok v w := by
  have hagg : (isAgg e).run P w = .ok false w := by
    unfold isAgg
    rw [Sem.run_bind, run_underlying he w]
    cases d <;> simp_all
  cases hq : P.info? e with
  | none => simp [hq] at hi
  | some x =>
    have hs : x.size = 1 := by simpa [hq] using hi
    have h0 : (0 : Int) ≤ (i : Int) ∧ (i : Int) < (n : Int) := by omega
    unfold Instr.index
    simp only [asIntOf, Sem.run_bind, Sem.run_pure, Result.andThen_ok, run_underlying ht w]
    rw [if_pos h0]
    simp [part, Sem.run_bind, sizeOf, typeInfo, hq, hs, hagg, hv]

end
end Go.Proofs.Ytbklmdgmgffjeaa.Aggs
