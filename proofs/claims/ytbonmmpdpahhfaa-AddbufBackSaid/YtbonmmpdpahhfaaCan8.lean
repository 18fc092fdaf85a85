/- The engine, eighth part: operations that make a block. No law, no condition. -/
import Derived.Test.YtbonmmpdpahhfaaCan7
import Derived.IntWalk
namespace Go.Proofs.Ytbonmmpdpahhfaa.Can
open Go.RowKit
set_option linter.unusedVariables false
set_option linter.unusedSimpArgs false

def zerosL (z : Array Value) (n : Nat) : List Value := (List.range n).map fun k => z[k % z.size]!
def zerosE (z : Array Value) (n : Nat) : List Value := match z.toList with
  | [z0] => List.replicate n z0
  | _ => zerosL z n
theorem zerosE_eq (z : Array Value) (n : Nat) : zerosE z n = zerosL z n := by
  unfold zerosE zerosL
  split
  · rename_i z0 hz
    have : z = #[z0] := Array.ext' hz
    subst this
    apply List.ext_getElem
    · simp
    · intro i h1 h2
      simp [Nat.mod_one]
  · rfl
def evA (P : Program) (ts : Tm) (m : Nat) (o : Oper) : Option (List Value × TypeId × Value) :=
  match o.op with
  | .alloc e => match P.info? e with
    | some i => match i.zero with
      | some z => bif z.cells.toList.all flat then some (z.cells.toList, e, .pointer (some ⟨m, 0, none⟩)) else none
      | none => none
    | none => none
  | .box e x => match P.info? e, opd ts x with
    | some _, some v => bif isTup v then none else some (v.cells.toList, e, .pointer (some ⟨m, 0, none⟩))
    | _, _ => none
  | .buildSlice t len parts => match P.underlying t with
    | some (.slice e) => match P.info? e, pvals ts parts.toList with
      | some i, some ps => match i.zero with
        | some z => bif Nat.ble (len * i.size) 16777216 && (zerosL z.cells (len * i.size)).all flat then
            (match Instr.fill (fun k => some (k * i.size, i.size)) (zerosL z.cells (len * i.size)).toArray ps with
            | some r => some (r.toList, e, .slice (some ⟨m, 0, none⟩) len len)
            | none => none) else none
        | none => none
      | _, _ => none
    | _ => none
  | .makeSlice t l c => match P.underlying t, opd ts l, opd ts c with
    | some (.slice e), some (.int _ l), some (.int _ c) => match P.info? e with
      | some i => match i.zero with
        | some z => bif decide (0 ≤ l) && decide (l ≤ c) && decide (c ≤ 9223372036854775807) && decide (i.bytes * c ≤ 281474976710656) && z.cells.toList.all flat && Nat.blt 0 z.cells.size then
            some (zerosE z.cells (c.toNat * i.size), e, .slice (some ⟨m, 0, none⟩) l.toNat c.toNat) else none
        | none => none
      | none => none
    | _, _, _ => none
  | .convert s d x => match P.underlying s, P.underlying d, opd ts x with
    | some .string, some (.slice e), some (.string b) => match P.underlying e, P.info? e with
      | some (.int .u8), some i => bif Nat.beq i.size 1 then some (b.data.toList.map (fun x => .int .u8 x.toNat), e, .slice (some ⟨m, 0, none⟩) b.size b.size) else none
      | _, _ => none
    | _, _, _ => none
  | _ => none
/-- what a new block is good for -/
def AOut (P : Program) (N0 : Nat) (ρ : Rho) (w : World) (run : Result Next) (cs : List Value) (e m : Nat) (v : Value) : Prop :=
  ∃ (w' : World) (C : Array Value) (lo hi X sz : Nat) (v' : Value), run = .ok (.value v') w' ∧ Below w.heap.size w w' ∧ w'.heap[w.heap.size]? = some (.cells C e (lo, hi)) ∧ cs.length + X ≤ C.size ∧
    (lo = hi ∨ cs.length + X ≤ lo) ∧ (∀ (j : Nat) (x : Value), cs[j]? = some x → ∃ x', C[j]? = some x' ∧ CR N0 ρ x x') ∧ (P.info? e).map (fun i => i.size) = some sz ∧
    ((v = .pointer (some ⟨m, 0, none⟩) ∧ v' = .pointer (some ⟨w.heap.size, 0, none⟩)) ∨ ∃ l cp cp', v = .slice (some ⟨m, 0, none⟩) l cp ∧ v' = .slice (some ⟨w.heap.size, 0, none⟩) l cp' ∧ (cp' = cp ∨ (cp ≤ cp' ∧ cp' * sz ≤ cs.length + X)))
section
variable {P : Program} {N0 : Nat} {w0 : World} {ρ : Rho} {κ : Kap} {w : World} {ts : Tm} {a : Act} {o : Oper}
theorem below_push (w : World) (o : Obj) : Below w.heap.size w { w with heap := w.heap.push o } :=
  ⟨rfl, rfl, rfl, by simp, fun k hk => by
    show (w.heap.push o)[k]? = _
    rw [Array.getElem?_push, if_neg (by omega)]⟩
theorem aout_push {cs cs' : List Value} {e m sz : Nat} {v v' : Value} (hf : F2 (CR N0 ρ) cs cs') (hs : (P.info? e).map (fun i => i.size) = some sz)
    (hv : (v = .pointer (some ⟨m, 0, none⟩) ∧ v' = .pointer (some ⟨w.heap.size, 0, none⟩)) ∨ ∃ l cp, v = .slice (some ⟨m, 0, none⟩) l cp ∧ v' = .slice (some ⟨w.heap.size, 0, none⟩) l cp) :
    AOut P N0 ρ w (.ok (.value v') { w with heap := w.heap.push (.cells cs'.toArray e) }) cs e m v := by
  refine ⟨_, cs'.toArray, 0, 0, 0, sz, v', rfl, below_push _ _, by simp, by simp [hf.len], .inl rfl, fun j x hj => ?_, hs, ?_⟩
  · obtain ⟨y, h1, h2⟩ := hf.get j x hj
    exact ⟨y, by simpa using h1, h2⟩
  · rcases hv with hv | ⟨l, cp, h1, h2⟩
    · exact .inl hv
    · exact .inr ⟨l, cp, cp, h1, h2, .inl rfl⟩
theorem evA_sim (T : TR N0 ρ ts a.tmps) {m : Nat} {cs : List Value} {e : TypeId} {v : Value} (h : evA P ts m o = some (cs, e, v)) : AOut P N0 ρ w ((execOp a.eval o).run P w) cs e m v := by
  unfold evA at h
  split at h
  · rename_i e1 hop
    split at h
    · rename_i i hi
      split at h
      · rename_i z hz
        cases hf : z.cells.toList.all flat with
        | false => rw [hf] at h; cases h
        | true =>
          rw [hf] at h
          simp only [cond_true, Option.some.injEq, Prod.mk.injEq] at h
          obtain ⟨rfl, rfl, rfl⟩ := h
          have := aout_push (P := P) (N0 := N0) (ρ := ρ) (w := w) (e := e1) (m := m) (sz := i.size) (f2_of_flat hf) (by rw [hi]; rfl) (.inl ⟨rfl, rfl⟩)
          have hzr : (zeroValue e1).run P w = .ok z w := by simp [zeroValue, typeInfo, Sem.run_bind, hi, hz]
          have hr : (execOp a.eval o).run P w = .ok (.value (.pointer (some ⟨w.heap.size, 0, none⟩))) { w with heap := w.heap.push (.cells z.cells.toList.toArray e1) } := by
            unfold execOp; rw [hop]
            simp only [Instr.alloc, Sem.run_bind, hzr, Result.andThen_ok, newVar, newRow, run_newObj, Sem.run_pure]
          rw [hr]
          exact this
      · cases h
    · cases h
  · rename_i e1 x hop
    split at h
    · rename_i i u hi hx
      cases hb : isTup u with
      | true => rw [hb] at h; cases h
      | false =>
        rw [hb] at h
        simp only [cond_false, Option.some.injEq, Prod.mk.injEq] at h
        obtain ⟨rfl, rfl, rfl⟩ := h
        have h1 := opd_one T hx (fun cs hc => by subst hc; cases hb)
        have := aout_push (P := P) (N0 := N0) (ρ := ρ) (w := w) (e := e1) (m := m) (sz := i.size) h1.cells (by rw [hi]; rfl) (.inl ⟨rfl, rfl⟩)
        have hr : (execOp a.eval o).run P w = .ok (.value (.pointer (some ⟨w.heap.size, 0, none⟩))) { w with heap := w.heap.push (.cells (a.eval x).cells.toList.toArray e1) } := by
          unfold execOp; rw [hop]
          simp only [Instr.box, Sem.run_bind, Result.andThen_ok, newVar, newRow, run_newObj, Sem.run_pure]
        rw [hr]
        exact this
    · cases h
  · rename_i t len parts hop
    split at h
    · rename_i e1 hd
      split at h
      · rename_i i ps hi hps
        split at h
        · rename_i z hz
          cases hb : (Nat.ble (len * i.size) 16777216 && (zerosL z.cells (len * i.size)).all flat) with
          | false => rw [hb] at h; cases h
          | true =>
            rw [hb] at h
            simp only [cond_true] at h
            simp only [Bool.and_eq_true] at hb
            have hle := Nat.le_of_ble_eq_true hb.1
            split at h
            · rename_i r hr0
              simp only [Option.some.injEq, Prod.mk.injEq] at h
              obtain ⟨rfl, rfl, rfl⟩ := h
              obtain ⟨r', g1, g2⟩ := fill_sim _ (pvals_sim T _ _ hps) (f2_of_flat (N0 := N0) (ρ := ρ) (xs := (zerosL z.cells (len * i.size)).toArray.toList) (by simpa using hb.2)) hr0
              have := aout_push (P := P) (N0 := N0) (ρ := ρ) (w := w) (e := e1) (m := m) (sz := i.size) g2 (by rw [hi]; rfl) (.inr ⟨len, len, rfl, rfl⟩)
              have hzr : (zeroValue e1).run P w = .ok z w := by simp [zeroValue, typeInfo, Sem.run_bind, hi, hz]
              have e2 : (parts.map fun (x : Nat × Operand) => (x.1, a.eval x.2)).toList = (parts.toList.map fun (x : Nat × Operand) => (x.1, a.eval x.2)) := by simp
              have e3 : ∀ zz : Array Value, (len * i.size = 0 ∨ zz = z.cells) → ((Array.range (len * i.size)).map (fun k => zz[k % zz.size]!)) = (zerosL z.cells (len * i.size)).toArray := by
                intro zz hzz
                apply Array.ext'
                rcases hzz with hzz | rfl
                · simp [zerosL, hzz]
                · simp [zerosL]
              have hr : (execOp a.eval o).run P w = .ok (.value (.slice (some ⟨w.heap.size, 0, none⟩) len len)) { w with heap := w.heap.push (.cells r'.toList.toArray e1) } := by
                unfold execOp; rw [hop]
                simp only [Instr.buildSlice, Sem.run_bind, run_underlying hd, Result.andThen_ok, sizeOf_run hi, Sem.run_ite]
                rw [if_neg (by omega)]
                by_cases hz0 : len * i.size = 0
                · simp only [hz0, if_true, Sem.run_pure, Result.andThen_ok, Sem.run_bind]
                  have e4 := e3 #[] (.inl hz0)
                  rw [hz0] at e4
                  rw [e4, show zerosL z.cells 0 = zerosL z.cells (len * i.size) by rw [hz0], e2]
                  simp only [g1, Sem.run_bind, newRow, run_newObj, Sem.run_pure, Result.andThen_ok]
                · simp only [if_neg hz0, Sem.run_pure, Result.andThen_ok, Sem.run_bind, hzr]
                  rw [e3 z.cells (.inr rfl), e2]
                  simp only [g1, Sem.run_bind, newRow, run_newObj, Sem.run_pure, Result.andThen_ok]
              rw [hr]
              exact this
            · cases h
        · cases h
      · cases h
    · cases h
  · rename_i t l c hop
    split at h
    · rename_i e1 kl lv kc cv hd hl hc
      split at h
      · rename_i i hi
        split at h
        · rename_i z hz
          cases hb : (decide (0 ≤ lv) && decide (lv ≤ cv) && decide (cv ≤ 9223372036854775807) && decide (i.bytes * cv ≤ 281474976710656) && z.cells.toList.all flat && Nat.blt 0 z.cells.size) with
          | false => rw [hb] at h; cases h
          | true =>
            rw [hb] at h
            simp only [cond_true, Option.some.injEq, Prod.mk.injEq] at h
            obtain ⟨rfl, rfl, rfl⟩ := h
            simp only [Bool.and_eq_true, decide_eq_true_eq, Nat.blt_eq] at hb
            obtain ⟨⟨⟨⟨⟨b1, b2⟩, b3⟩, b4⟩, b5⟩, b6⟩ := hb
            have hzr : (zeroValue e1).run P w = .ok z w := by simp [zeroValue, typeInfo, Sem.run_bind, hi, hz]
            have wl : IntKind.i64.wrap lv = lv := IntWalk.i64_in _ (by omega)
            have wc : IntKind.i64.wrap cv = cv := IntWalk.i64_in _ (by omega)
            have hfl : (zerosE z.cells (cv.toNat * i.size)).all flat = true := by
              rw [zerosE_eq, zerosL, List.all_eq_true]
              intro x hx
              obtain ⟨k, hk, rfl⟩ := List.mem_map.1 hx
              have hlt : k % z.cells.size < z.cells.size := Nat.mod_lt _ b6
              rw [getElem!_pos z.cells _ hlt]
              exact List.all_eq_true.1 b5 _ (by simp)
            have := aout_push (P := P) (N0 := N0) (ρ := ρ) (w := w) (e := e1) (m := m) (sz := i.size) (f2_of_flat hfl) (by rw [hi]; rfl) (.inr ⟨lv.toNat, cv.toNat, rfl, rfl⟩)
            have e3 : ∀ zz : Array Value, (cv.toNat * i.size = 0 ∨ zz = z.cells) → ((Array.range (cv.toNat * i.size)).map (fun k => zz[k % zz.size]!)) = (zerosE z.cells (cv.toNat * i.size)).toArray := by
              intro zz hzz
              rw [zerosE_eq]
              apply Array.ext'
              rcases hzz with hzz | rfl
              · simp [zerosL, hzz]
              · simp [zerosL]
            have hr : (execOp a.eval o).run P w = .ok (.value (.slice (some ⟨w.heap.size, 0, none⟩) lv.toNat cv.toNat)) { w with heap := w.heap.push (.cells (zerosE z.cells (cv.toNat * i.size)).toArray e1) } := by
              have c1 : ¬ ((cv < 0 || decide ((i.bytes : Int) * cv > 2 ^ 48)) || decide (lv < 0) || decide (lv > cv)) = true := by
                simp
                omega
              unfold execOp; rw [hop]
              simp only [opd_int T hl, opd_int T hc, Instr.makeSlice, Sem.run_bind, run_underlying hd, Result.andThen_ok, asInt, asIntOf, Sem.run_pure, typeInfo, run_program, hi, wl, wc, Sem.run_ite, if_neg c1, run_askRoom, sizeOf_run hi]
              by_cases hz0 : cv.toNat * i.size = 0
              · simp only [hz0, if_true, Sem.run_pure, Result.andThen_ok, Sem.run_bind]
                have e4 := e3 #[] (.inl hz0)
                rw [hz0] at e4
                rw [e4]
                simp only [newRow, Sem.run_bind, run_newObj, Sem.run_pure, Result.andThen_ok]
              · simp only [if_neg hz0, Sem.run_pure, Result.andThen_ok, Sem.run_bind, hzr]
                rw [e3 z.cells (.inr rfl)]
                simp only [newRow, Sem.run_bind, run_newObj, Sem.run_pure, Result.andThen_ok]
            rw [hr]
            exact this
        · cases h
      · cases h
    · cases h
  · rename_i s d x hop
    split at h
    · rename_i e1 b hs hd hx
      split at h
      · rename_i i he hi
        cases hb : Nat.beq i.size 1 with
        | false => rw [hb] at h; cases h
        | true =>
          rw [hb] at h
          simp only [cond_true, Option.some.injEq, Prod.mk.injEq] at h
          obtain ⟨rfl, rfl, rfl⟩ := h
          have hsz := Nat.eq_of_beq_eq_true hb
          have hge := grownCap_ge w b.size 0 e1
          have hC : (Lib.bytesCells w e1 b).size = grownCap w b.size 0 e1 := by
            have : b.data.size = b.size := rfl
            simp [Lib.bytesCells, this]
            omega
          have hlen : (b.data.toList.map (fun x => Value.int .u8 x.toNat)).length = b.size := by simp
          refine ⟨Lib.bytesWorld w e1 b, Lib.bytesCells w e1 b, _, _, grownCap w b.size 0 e1 - b.size, 1, .slice (some ⟨w.heap.size, 0, none⟩) b.size (grownCap w b.size 0 e1), ?_, ?_, Lib.bytesWorld_at_new w e1 b, ?_, ?_, ?_, ?_, ?_⟩
          · unfold execOp; rw [hop]
            simp only [opd_str T hx, Sem.run_bind, Lib.run_convert_string_bytes w s d e1 b hs hd he, Result.andThen_ok, Sem.run_pure]
          · exact ⟨rfl, rfl, rfl, by rw [Lib.bytesWorld_size]; omega, fun k hk => Lib.bytesWorld_at_old w e1 b k hk⟩
          · rw [hlen, hC]; omega
          · right
            rw [hlen, hC]
            omega
          · intro j y hj
            refine ⟨y, ?_, ?_⟩
            · have hjl : j < b.size := by
                have := (List.getElem?_eq_some_iff.1 hj).1
                rwa [hlen] at this
              unfold Lib.bytesCells
              have hjl' : j < b.data.size := hjl
              rw [Array.getElem?_append_left (by simpa using hjl')]
              simpa using hj
            · obtain ⟨q, _, rfl⟩ := List.mem_map.1 (List.mem_of_getElem? hj)
              exact .int _ _
          · rw [hi]; simp [hsz]
          · exact .inr ⟨b.size, b.size, grownCap w b.size 0 e1, rfl, rfl, .inr ⟨hge, by rw [hlen]; omega⟩⟩
      · cases h
    · cases h
  · cases h
end
end Go.Proofs.Ytbonmmpdpahhfaa.Can
