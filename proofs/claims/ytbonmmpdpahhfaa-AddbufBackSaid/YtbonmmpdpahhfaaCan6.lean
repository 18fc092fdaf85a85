/- The engine, sixth part: operations that read memory; operations that make a block. No law, no condition. -/
import Derived.Test.YtbonmmpdpahhfaaCan5
import Derived.Laws.BytesString
import Derived.Lib.ConvBytes
import Derived.Laws.AppendOwn
namespace Go.Proofs.Ytbonmmpdpahhfaa.Can
open Go.RowKit
set_option linter.unusedVariables false
set_option linter.unusedSimpArgs false

def u8s : List Value → Option (List Int)
  | [] => some []
  | .int .u8 n :: r => match u8s r with
    | some l => some (n :: l)
    | none => none
  | _ => none
theorem u8s_eq : ∀ {L : List Value} {ns : List Int}, u8s L = some ns → L = ns.map (Value.int .u8)
  | [], ns, h => by simp only [u8s, Option.some.injEq] at h; subst h; rfl
  | v :: r, ns, h => by
    unfold u8s at h
    split at h
    · rename_i hq; cases hq
    · rename_i n r' hq
      simp only [List.cons.injEq] at hq
      obtain ⟨rfl, rfl⟩ := hq
      split at h
      · rename_i l hl
        simp only [Option.some.injEq] at h
        subst h
        rw [u8s_eq hl]
        rfl
      · cases h
    · cases h
def strOf (ns : List Int) : ByteArray := ns.foldl (fun r n => r.push (UInt8.ofNat n.toNat)) ByteArray.empty
def loadE (P : Program) (N0 : Nat) (κ : Kap) (t : TypeId) (b o : Nat) : Option Value :=
  match P.underlying t with
  | some d => bif isAggD d then (match P.info? t with
      | some i => match ldK N0 κ b i.size o with
        | some L => some (.agg L.toArray)
        | none => none
      | none => none)
    else match cellK κ ⟨b, o, none⟩ with
      | some v => bif okL N0 b v then some v else none
      | none => none
  | none => none
/-- is block b a row of elements e? (of old blocks it isn't asked) -/
def rowOk (N0 : Nat) (κ : Kap) (b : Nat) (e : TypeId) : Bool := Nat.blt b N0 || (match κ b with
  | some (.cells _ e' (_, 0)) => Nat.beq e' e
  | _ => false)
def optI (ts : Tm) : Option Operand → Option (Option Int)
  | none => some none
  | some x => match opd ts x with
    | some (.int _ n) => some (some n)
    | _ => none
/-- the bounds of a cut: from, to; len and what it may reach -/
def bounds (len cap : Nat) (lo hi : Option Int) : Option (Nat × Nat) :=
  bif (match hi with | some h => decide (0 ≤ h) && decide (h ≤ cap) | none => true) then
    (match lo with
    | none => some (0, (hi.getD len).toNat)
    | some l => bif decide (0 ≤ l) && decide (l ≤ hi.getD len) then some (l.toNat, (hi.getD len).toNat) else none)
  else none
def cutE (P : Program) (N0 : Nat) (κ : Kap) (t : TypeId) (x : Value) (lo hi : Option Int) : Option (Value × List Nat) :=
  match P.underlying t, x with
  | some (.slice e), .slice none len cap => match P.info? e, bounds len cap lo hi with
    | some i, some (l, h) => some (.slice none (h - l) (cap - l), [])
    | _, _ => none
  | some (.slice e), .slice (some ⟨b, o, none⟩) len cap => match P.info? e, bounds len cap lo hi with
    | some i, some (l, h) => bif rowOk N0 κ b e && Nat.ble len cap then some (.slice (some (bif Nat.beq cap l then ⟨b, o, none⟩ else ⟨b, o + l * i.size, none⟩)) (h - l) (cap - l), [b]) else none
    | _, _ => none
  | some (.array n e), .pointer (some ⟨b, o, none⟩) => match P.info? e, bounds n n lo hi with
    | some i, some (l, h) => some (.slice (some (bif Nat.beq n l then ⟨b, o, none⟩ else ⟨b, o + l * i.size, none⟩)) (h - l) (n - l), [])
    | _, _ => none
  | _, _ => none
def evL (P : Program) (N0 : Nat) (κ : Kap) (ts : Tm) (o : Oper) : Option (Value × List Nat) :=
  match o.op with
  | .load t x => match opd ts x with
    | some (.pointer (some ⟨b, of, none⟩)) => match loadE P N0 κ t b of with
      | some v => some (v, [b])
      | none => none
    | _ => none
  | .convert s d x => match P.underlying s, P.underlying d, opd ts x with
    | some (.slice e), some .string, some (.slice (some ⟨b, of, none⟩) l _) => match P.underlying e with
      | some (.int .u8) => match ldK N0 κ b l of with
        | some L => match u8s L with
          | some ns => some (.string (strOf ns), [b])
          | none => none
        | none => none
      | _ => none
    | _, _, _ => none
  | .slice t x lo hi none => match opd ts x, optI ts lo, optI ts hi with
    | some v, some l, some h => cutE P N0 κ t v l h
    | _, _, _ => none
  | _ => none
section
variable {P : Program} {N0 : Nat} {w0 : World} {ρ : Rho} {κ : Kap} {w : World} {ts : Tm} {a : Act} {o : Oper}
theorem SlR.ar' {b o l cp cp' : Nat} {a' : Addr} (h : SlR N0 ρ ⟨b, o, none⟩ l cp a' cp') : ∃ d, AR ρ ⟨b, o + d, none⟩ a' ∧ (d = 0 ∨ (l = 0 ∧ cp = 0)) := by
  obtain ⟨h0, h1, h2⟩ := h
  rcases h2 with h2 | ⟨B, O, n, X, sz, d, h2, h3, h4, h5⟩
  · exact ⟨0, ⟨rfl, h1, .inl h2⟩, .inl rfl⟩
  · exact ⟨d, ⟨rfl, h1, .inr ⟨B, O, n, X, sz, h2, h3⟩⟩, h4⟩
theorem load_sim (R : RelK P N0 w0 ρ κ w) {t : TypeId} {b of : Nat} {ad' : Addr} {v : Value} (ha : AR ρ ⟨b, of, none⟩ ad') (h : loadE P N0 κ t b of = some v) : ∃ v', (loadVar t ad').run P w = .ok v' w ∧ VR1 N0 ρ v v' := by
  unfold loadE at h
  split at h
  · rename_i d hd
    cases hb : isAggD d with
    | true =>
      rw [hb] at h
      simp only [cond_true] at h
      split at h
      · rename_i i hi
        split at h
        · rename_i L hL
          simp only [Option.some.injEq] at h
          subst h
          obtain ⟨L', h1, h2, h3⟩ := ldK_sim R _ _ _ _ ha hL
          refine ⟨.agg L'.toArray, ?_, .agg h1⟩
          have h4 : (loadCells ad' i.size).run P w = .ok L'.toArray w := by
            have h5 := run_ldK (P := P) h3
            rwa [← h1.len, h2] at h5
          unfold loadVar
          rw [Sem.run_bind, isAgg_run hd w, hb]
          simp only [Result.andThen_ok, if_true, Sem.run_bind, sizeOf_run hi w, h4, Sem.run_pure]
        · cases h
      · cases h
    | false =>
      rw [hb] at h
      simp only [cond_false] at h
      split at h
      · rename_i u hu
        cases hk : okL N0 b u with
        | false => rw [hk] at h; cases h
        | true =>
          rw [hk] at h
          simp only [cond_true, Option.some.injEq] at h
          subst h
          obtain ⟨v', h1, h2⟩ := cell_sim R ha hu hk
          refine ⟨v', ?_, .one h2⟩
          unfold loadVar
          rw [Sem.run_bind, isAgg_run hd w, hb]
          simp [h1]
      · cases h
  · cases h
theorem bounds_spec {len cap : Nat} {lo hi : Option Int} {l h : Nat} (hb : bounds len cap lo hi = some (l, h)) :
    (match hi with | some x => 0 ≤ x ∧ x ≤ cap ∧ x = h | none => h = len) ∧ (match lo with | some y => 0 ≤ y ∧ y ≤ h ∧ y = l | none => l = 0) ∧ l ≤ h := by
  unfold bounds at hb
  cases hi with
  | none =>
    simp only [cond_true, Option.getD_none] at hb
    cases lo with
    | none =>
      simp only [Option.some.injEq, Prod.mk.injEq] at hb
      obtain ⟨rfl, rfl⟩ := hb
      simp
    | some y =>
      simp only at hb
      cases hq : (decide (0 ≤ y) && decide (y ≤ (len : Int))) with
      | false => rw [hq] at hb; cases hb
      | true =>
        rw [hq] at hb
        simp only [cond_true, Option.some.injEq, Prod.mk.injEq] at hb
        simp only [Bool.and_eq_true, decide_eq_true_eq] at hq
        obtain ⟨rfl, rfl⟩ := hb
        refine ⟨Int.toNat_natCast _, ⟨hq.1, ?_, ?_⟩, ?_⟩ <;> omega
  | some x =>
    simp only [Option.getD_some] at hb
    cases hq0 : (decide (0 ≤ x) && decide (x ≤ (cap : Int))) with
    | false => rw [hq0] at hb; cases hb
    | true =>
      rw [hq0] at hb
      simp only [cond_true] at hb
      simp only [Bool.and_eq_true, decide_eq_true_eq] at hq0
      cases lo with
      | none =>
        simp only [Option.some.injEq, Prod.mk.injEq] at hb
        obtain ⟨rfl, rfl⟩ := hb
        refine ⟨⟨hq0.1, hq0.2, ?_⟩, rfl, ?_⟩ <;> omega
      | some y =>
        simp only at hb
        cases hq : (decide (0 ≤ y) && decide (y ≤ x)) with
        | false => rw [hq] at hb; cases hb
        | true =>
          rw [hq] at hb
          simp only [cond_true, Option.some.injEq, Prod.mk.injEq] at hb
          simp only [Bool.and_eq_true, decide_eq_true_eq] at hq
          obtain ⟨rfl, rfl⟩ := hb
          refine ⟨⟨hq0.1, hq0.2, ?_⟩, ⟨hq.1, ?_, ?_⟩, ?_⟩ <;> omega
def optV (k : IntKind) : Option Int → Option Value := fun x => x.map (Value.int k)
theorem optI_sim (T : TR N0 ρ ts a.tmps) {x : Option Operand} {r : Option Int} (h : optI ts x = some r) : (r = none ∧ x.map a.eval = none) ∨ ∃ n k, r = some n ∧ x.map a.eval = some (.int k n) := by
  cases x with
  | none => simp only [optI, Option.some.injEq] at h; exact .inl ⟨h.symm, rfl⟩
  | some y =>
    simp only [optI] at h
    split at h
    · rename_i k n hy
      simp only [Option.some.injEq] at h
      exact .inr ⟨n, k, h.symm, by simp [opd_int T hy]⟩
    · cases h
theorem sliceBounds_run {isS : Bool} {len cap cap' : Nat} {lo hi : Option Int} {lo' hi' : Option Value} {l h : Nat} (hb : bounds len cap lo hi = some (l, h)) (hc : cap ≤ cap')
    (hlo : (lo = none ∧ lo' = none) ∨ ∃ n k, lo = some n ∧ lo' = some (.int k n)) (hhi : (hi = none ∧ hi' = none) ∨ ∃ n k, hi = some n ∧ hi' = some (.int k n)) (w : World) :
    (Instr.sliceBounds isS len cap' lo' hi' none).run P w = .ok (l, h, cap') w := by
  obtain ⟨h1, h2, h3⟩ := bounds_spec hb
  unfold Instr.sliceBounds
  simp only [Sem.run_bind, Sem.run_pure, Result.andThen_ok]
  rcases hhi with ⟨rfl, rfl⟩ | ⟨n, k, rfl, rfl⟩
  · simp only at h1
    subst h1
    simp only [Sem.run_pure, Result.andThen_ok]
    rcases hlo with ⟨rfl, rfl⟩ | ⟨n2, k2, rfl, rfl⟩
    · simp only at h2
      subst h2
      rfl
    · obtain ⟨g1, g2, g3⟩ := h2
      simp only [Instr.sliceBound, asIntOf, Sem.run_bind, Sem.run_pure, Result.andThen_ok, Sem.run_ite]
      rw [if_pos ⟨g1, g2⟩]
      simp only [Sem.run_pure, Result.andThen_ok, ← g3, Int.toNat_natCast]
      rw [g3]; rfl
  · obtain ⟨f1, f2, f3⟩ := h1
    simp only [Instr.sliceBound, asIntOf, Sem.run_bind, Sem.run_pure, Result.andThen_ok, Sem.run_ite]
    rw [if_pos ⟨f1, by omega⟩]
    simp only [Sem.run_pure, Result.andThen_ok]
    have f4 : n.toNat = h := by omega
    rw [f4]
    rcases hlo with ⟨rfl, rfl⟩ | ⟨n2, k2, rfl, rfl⟩
    · simp only at h2
      subst h2
      rfl
    · obtain ⟨g1, g2, g3⟩ := h2
      simp only [Instr.sliceBound, asIntOf, Sem.run_bind, Sem.run_pure, Result.andThen_ok, Sem.run_ite]
      rw [if_pos ⟨g1, g2⟩]
      have g4 : n2.toNat = l := by omega
      simp only [Sem.run_pure, Result.andThen_ok, g4]
end
end Go.Proofs.Ytbonmmpdpahhfaa.Can
