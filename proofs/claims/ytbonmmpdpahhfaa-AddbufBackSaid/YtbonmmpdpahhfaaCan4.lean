/- The engine, fourth part: structs built, fields and elements taken; all pure operations. No law, no condition. -/
import Derived.Test.YtbonmmpdpahhfaaCan3
namespace Go.Proofs.Ytbonmmpdpahhfaa.Can
open Go.RowKit
set_option linter.unusedVariables false
set_option linter.unusedSimpArgs false

def ptrs (ts : Tm) : List Operand → Option (List Addr)
  | [] => some []
  | x :: xs => match opd ts x with
    | some (.pointer (some a)) => (match ptrs ts xs with | some l => some (a :: l) | none => none)
    | _ => none
def isTup : Value → Bool
  | .tuple _ => true
  | _ => false
def pvals (ts : Tm) : List (Nat × Operand) → Option (List (Nat × Value))
  | [] => some []
  | (i, x) :: r => match opd ts x with
    | some v => bif isTup v then none else (match pvals ts r with | some l => some ((i, v) :: l) | none => none)
    | none => none
def placesE (P : Program) (t : TypeId) : Option (Array Value × (Nat → Option (Nat × Nat))) :=
  match P.info? t, P.underlying t with
  | some i, some (.struct fields) => match i.zero, runP P (fields.mapM fun f => (do pure (f.offset, ← sizeOf f.type) : Sem (Nat × Nat))) with
    | some z, some places => bif z.cells.toList.all flat then some (z.cells, fun j => places[j]?) else none
    | _, _ => none
  | some i, some (.array _ elem) => match i.zero, P.info? elem with
    | some z, some ie => bif z.cells.toList.all flat then some (z.cells, fun j => some (j * ie.size, ie.size)) else none
    | _, _ => none
  | _, _ => none
section
variable {P : Program} {N0 : Nat} {ρ : Rho} {ts : Tm} {a : Act} {o : Oper} {w : World}
theorem ptrs_sim (T : TR N0 ρ ts a.tmps) : ∀ (xs : List Operand) (l : List Addr), ptrs ts xs = some l → ∃ l' : List Addr, xs.map a.eval = l'.map ptrV ∧ F2 (AR ρ) l l'
  | [], l, h => by simp only [ptrs, Option.some.injEq] at h; subst h; exact ⟨[], rfl, .nil⟩
  | x :: xs, l, h => by
    simp only [ptrs] at h
    split at h
    · rename_i ad hx
      split at h
      · rename_i l1 hl
        simp only [Option.some.injEq] at h
        subst h
        obtain ⟨ad', h1, h2⟩ := opd_ptr T hx
        obtain ⟨l', h3, h4⟩ := ptrs_sim T xs l1 hl
        exact ⟨ad' :: l', by simp [h1, h3, ptrV], .cons h2 h4⟩
      · cases h
    · cases h
def PR (N0 : Nat) (ρ : Rho) (p q : Nat × Value) : Prop := p.1 = q.1 ∧ VR1 N0 ρ p.2 q.2
theorem pvals_sim (T : TR N0 ρ ts a.tmps) : ∀ (xs : List (Nat × Operand)) (l : List (Nat × Value)), pvals ts xs = some l → F2 (PR N0 ρ) l (xs.map fun (i, x) => (i, a.eval x))
  | [], l, h => by simp only [pvals, Option.some.injEq] at h; subst h; exact .nil
  | (i, x) :: xs, l, h => by
    simp only [pvals] at h
    split at h
    · rename_i v hx
      cases hb : isTup v with
      | true => rw [hb] at h; cases h
      | false =>
        rw [hb] at h
        simp only [cond_false] at h
        split at h
        · rename_i l1 hl
          simp only [Option.some.injEq] at h
          subst h
          exact .cons ⟨rfl, opd_one T hx (fun cs hc => by subst hc; cases hb)⟩ (pvals_sim T xs l1 hl)
        · cases h
    · cases h
theorem F2.set {α β : Type} {R : α → β → Prop} : ∀ {l : List α} {m : List β} (i : Nat) {x : α} {y : β}, F2 R l m → R x y → F2 R (l.set i x) (m.set i y)
  | _, _, _, _, _, .nil, _ => .nil
  | _, _, 0, _, _, .cons _ t, h => .cons h t
  | _, _, i + 1, _, _, .cons k t, h => .cons k (t.set i h)
theorem fold_sim {R : Value → Value → Prop} (off : Nat) : ∀ {vs vs' : List Value} (k : Nat) {cs cs' : Array Value}, F2 R vs vs' → F2 R cs.toList cs'.toList →
    F2 R ((vs.zipIdx k).foldl (fun cs (x : Value × Nat) => cs.setIfInBounds (off + x.2) x.1) cs).toList ((vs'.zipIdx k).foldl (fun cs (x : Value × Nat) => cs.setIfInBounds (off + x.2) x.1) cs').toList
  | _, _, k, cs, cs', .nil, h => h
  | _, _, k, cs, cs', .cons h t, hc => by
    simp only [List.zipIdx_cons, List.foldl_cons]
    refine fold_sim off (k + 1) t ?_
    simp only [Array.toList_setIfInBounds]
    exact hc.set _ h
theorem fill_sim (pl : Nat → Option (Nat × Nat)) : ∀ {ps qs : List (Nat × Value)} {cs cs' r : Array Value}, F2 (PR N0 ρ) ps qs → F2 (CR N0 ρ) cs.toList cs'.toList → Instr.fill pl cs ps = some r →
    ∃ r', Instr.fill pl cs' qs = some r' ∧ F2 (CR N0 ρ) r.toList r'.toList
  | _, _, cs, cs', r, .nil, hc, h => by
    simp only [Instr.fill, Option.some.injEq] at h
    subst h
    exact ⟨cs', rfl, hc⟩
  | _, _, cs, cs', r, .cons (a := p) (b := q) (l := ps) (m := qs) hp t, hc, h => by
    obtain ⟨i, v⟩ := p
    obtain ⟨j, u⟩ := q
    obtain ⟨h1, h2⟩ := hp
    simp only at h1 h2
    subst h1
    simp only [Instr.fill] at h ⊢
    have hvc := h2.cells
    have hs : v.cells.size = u.cells.size := by have := hvc.len; simpa using this
    have hs2 : cs.size = cs'.size := by have := hc.len; simpa using this
    cases hpl : pl i with
    | none => rw [hpl] at h; cases h
    | some os =>
      obtain ⟨off, size⟩ := os
      rw [hpl] at h
      simp only at h ⊢
      rw [← hs, ← hs2]
      split at h
      · cases h
      · rename_i hn
        rw [if_neg hn]
        refine fill_sim pl t ?_ h
        rw [← Array.foldl_toList, ← Array.foldl_toList, Array.toList_zipIdx, Array.toList_zipIdx]
        exact fold_sim off 0 hvc hc
theorem build_sim {t : TypeId} {ps qs : List (Nat × Value)} {z r : Array Value} {pl : Nat → Option (Nat × Nat)} (hp : placesE P t = some (z, pl)) (hf : F2 (PR N0 ρ) ps qs) (h : Instr.fill pl z ps = some r) (w : World) :
    ∃ r' : List Value, (Instr.build t qs.toArray).run P w = .ok (.agg r'.toArray) w ∧ F2 (CR N0 ρ) r.toList r' := by
  unfold placesE at hp
  split at hp
  · rename_i i fields hi hd
    split at hp
    · rename_i z0 places hz hpl
      cases hfl : z0.cells.toList.all flat with
      | false => rw [hfl] at hp; cases hp
      | true =>
        rw [hfl] at hp
        simp only [cond_true, Option.some.injEq, Prod.mk.injEq] at hp
        obtain ⟨rfl, rfl⟩ := hp
        obtain ⟨r', h1, h2⟩ := fill_sim _ hf (f2_of_flat hfl) h
        refine ⟨r'.toList, ?_, h2⟩
        have hzr : (zeroValue t).run P w = .ok z0 w := by simp [zeroValue, typeInfo, Sem.run_bind, hi, hz]
        have hmr := runP_run _ _ hpl w
        unfold Instr.build
        simp only [Sem.run_bind, hzr, Result.andThen_ok, run_underlying hd]
        simp only [Sem.run_bind, hmr, Result.andThen_ok, h1]
        rfl
    · cases hp
  · rename_i i n elem hi hd
    split at hp
    · rename_i z0 ie hz hie
      cases hfl : z0.cells.toList.all flat with
      | false => rw [hfl] at hp; cases hp
      | true =>
        rw [hfl] at hp
        simp only [cond_true, Option.some.injEq, Prod.mk.injEq] at hp
        obtain ⟨rfl, rfl⟩ := hp
        obtain ⟨r', h1, h2⟩ := fill_sim _ hf (f2_of_flat hfl) h
        refine ⟨r'.toList, ?_, h2⟩
        have hzr : (zeroValue t).run P w = .ok z0 w := by simp [zeroValue, typeInfo, Sem.run_bind, hi, hz]
        unfold Instr.build
        simp only [Sem.run_bind, hzr, Result.andThen_ok, run_underlying hd, sizeOf_run hie, h1]
        rfl
    · cases hp
  · cases hp

/-- fields and elements of a struct or an array that is a value -/
def fieldE (P : Program) (t : TypeId) (cs : List Value) (f : Nat) : Option Value :=
  match P.underlying t with
  | some (.struct fields) => match fields[f]? with
    | some fd => partE P fd.type cs fd.offset
    | none => none
  | _ => none
theorem field_sim {t : TypeId} {xs ys : List Value} {f : Nat} {v : Value} (hf : F2 (CR N0 ρ) xs ys) (h : fieldE P t xs f = some v) (w : World) : ∃ v', (Instr.field t (.agg ys.toArray) f).run P w = .ok v' w ∧ VR1 N0 ρ v v' := by
  unfold fieldE at h
  split at h
  · rename_i fields hd
    split at h
    · rename_i fd hfd
      obtain ⟨v', h1, h2⟩ := part_sim hf h w
      refine ⟨v', ?_, h2⟩
      unfold Instr.field
      simp only [Sem.run_bind, run_underlying hd, Result.andThen_ok, hfd, asAgg, Sem.run_pure, h1]
    · cases h
  · cases h
def indexE (P : Program) (t : TypeId) (cs : List Value) (i : Int) : Option Value :=
  match P.underlying t with
  | some (.array n e) => match P.info? e with
    | some ie => bif decide (0 ≤ i) && decide (i < n) then partE P e cs (i.toNat * ie.size) else none
    | none => none
  | _ => none
theorem index_sim {t : TypeId} {xs ys : List Value} {i : Int} {k : IntKind} {v : Value} (hf : F2 (CR N0 ρ) xs ys) (h : indexE P t xs i = some v) (w : World) : ∃ v', (Instr.index t (.agg ys.toArray) (.int k i)).run P w = .ok v' w ∧ VR1 N0 ρ v v' := by
  unfold indexE at h
  split at h
  · rename_i n e hd
    split at h
    · rename_i ie hie
      cases hb : (decide (0 ≤ i) && decide (i < n)) with
      | false => rw [hb] at h; cases h
      | true =>
        rw [hb] at h
        simp only [cond_true] at h
        simp only [Bool.and_eq_true, decide_eq_true_eq] at hb
        obtain ⟨v', h1, h2⟩ := part_sim hf h w
        refine ⟨v', ?_, h2⟩
        unfold Instr.index
        simp only [asIntOf, Sem.run_bind, Sem.run_pure, run_underlying hd, Result.andThen_ok, Sem.run_ite]
        rw [if_pos hb]
        simp only [Sem.run_bind, sizeOf_run hie, Result.andThen_ok, h1]
    · cases h
  · cases h
/-- addresses of fields and elements -/
def fieldAddrE (P : Program) (t : TypeId) (b o f : Nat) : Option Value :=
  match P.underlying t with
  | some (.struct fields) => match fields[f]? with
    | some fd => match P.info? fd.type with
      | some i => bif Nat.beq i.size 0 then none else some (.pointer (some ⟨b, o + fd.offset, none⟩))
      | none => none
    | none => none
  | _ => none
theorem fieldAddr_sim {t : TypeId} {b o f : Nat} {ad' : Addr} {v : Value} (ha : AR ρ ⟨b, o, none⟩ ad') (h : fieldAddrE P t b o f = some v) (w : World) : ∃ v', (Instr.fieldAt t (.pointer (some ad')) f).run P w = .ok v' w ∧ CR N0 ρ v v' := by
  unfold fieldAddrE at h
  split at h
  · rename_i fields hd
    split at h
    · rename_i fd hfd
      split at h
      · rename_i i hi
        cases hb : Nat.beq i.size 0 with
        | true => rw [hb] at h; cases h
        | false =>
          rw [hb] at h
          simp only [cond_false, Option.some.injEq] at h
          subst h
          refine ⟨.pointer (some (ad'.add fd.offset)), ?_, .ptr (ha.add _)⟩
          have hne : i.size ≠ 0 := fun e => by rw [e] at hb; cases hb
          unfold Instr.fieldAt fieldPlace
          simp only [Sem.run_bind, run_underlying hd, Result.andThen_ok, hfd, Instr.sureAddr, Sem.run_pure, sizeOf_run hi, Sem.run_ite, if_neg hne]
      · cases h
    · cases h
  · cases h
def indexAddrE (P : Program) (t : TypeId) (x : Value) (i : Int) : Option Value :=
  match P.underlying t, x with
  | some (.array n e), .pointer (some ⟨b, o, none⟩) => match P.info? e with
    | some ie => bif decide (0 ≤ i) && decide (i < n) then some (.pointer (some ⟨b, o + i.toNat * ie.size, none⟩)) else none
    | none => none
  | some (.slice e), .slice (some ⟨b, o, none⟩) l _ => match P.info? e with
    | some ie => bif decide (0 ≤ i) && decide (i < l) then some (.pointer (some ⟨b, o + i.toNat * ie.size, none⟩)) else none
    | none => none
  | _, _ => none
theorem SlR.ar {b o l cp cp' : Nat} {a' : Addr} (h : SlR N0 ρ ⟨b, o, none⟩ l cp a' cp') (hl : l ≠ 0) : AR ρ ⟨b, o, none⟩ a' := by
  obtain ⟨h0, h1, h2⟩ := h
  refine ⟨h0, h1, ?_⟩
  rcases h2 with h2 | ⟨B, O, n, X, sz, d, h2, h3, h4, h5⟩
  · exact .inl h2
  · have hd : d = 0 := by rcases h4 with h4 | h4; exact h4; exact absurd h4.1 hl
    subst hd
    exact .inr ⟨B, O, n, X, sz, h2, h3⟩
theorem indexAddr_sim {t : TypeId} {x x' : Value} {i : Int} {k : IntKind} {v : Value} (hx : VR N0 ρ x x') (h : indexAddrE P t x i = some v) (w : World) : ∃ v', (Instr.indexAt t x' (.int k i)).run P w = .ok v' w ∧ CR N0 ρ v v' := by
  unfold indexAddrE at h
  split at h
  · rename_i n e b o hd
    split at h
    · rename_i ie hie
      cases hb : (decide (0 ≤ i) && decide (i < n)) with
      | false => rw [hb] at h; cases h
      | true =>
        rw [hb] at h
        simp only [cond_true, Option.some.injEq] at h
        simp only [Bool.and_eq_true, decide_eq_true_eq] at hb
        subst h
        cases hx with | one h1 => cases h1 with | one h2 => cases h2 with | ptr h3 =>
        rename_i ad'
        refine ⟨.pointer (some (ad'.add (i.toNat * ie.size))), ?_, .ptr (h3.add _)⟩
        unfold Instr.indexAt
        simp only [asIntOf, Sem.run_bind, Sem.run_pure, run_underlying hd, Result.andThen_ok, Instr.sureAddr, Sem.run_ite]
        rw [if_pos hb]
        simp only [Sem.run_bind, sizeOf_run hie, Result.andThen_ok, Sem.run_pure]
    · cases h
  · rename_i e b o l cp hd
    split at h
    · rename_i ie hie
      cases hb : (decide (0 ≤ i) && decide (i < l)) with
      | false => rw [hb] at h; cases h
      | true =>
        rw [hb] at h
        simp only [cond_true, Option.some.injEq] at h
        simp only [Bool.and_eq_true, decide_eq_true_eq] at hb
        subst h
        cases hx with | one h1 => cases h1 with | one h2 => cases h2 with | sl h3 =>
        rename_i ad' cp'
        refine ⟨.pointer (some (ad'.add (i.toNat * ie.size))), ?_, .ptr ((h3.ar (by omega)).add _)⟩
        unfold Instr.indexAt
        simp only [asIntOf, Sem.run_bind, Sem.run_pure, run_underlying hd, Result.andThen_ok, Sem.run_ite]
        rw [if_pos hb]
        simp only [Sem.run_bind, sizeOf_run hie, Result.andThen_ok, Sem.run_pure]
    · cases h
  · cases h
end
end Go.Proofs.Ytbonmmpdpahhfaa.Can
