/- The engine: regions that draw their order: the evaluator and its trace. No law, no condition. -/
import Derived.Test.YtbonmmpdpahhfaaCanC
namespace Go.Proofs.Ytbonmmpdpahhfaa.Can
open Go.RowKit
set_option linter.unusedVariables false
set_option linter.unusedSimpArgs false

def prune (ks : List Nat) (ts : Tm) : Tm := ks.map fun t => (t, tget ts t)
/-- i comes ahead of j, whatever the order -/
inductive Rch (ops : Array Oper) : Nat → Nat → Prop
  | edge {j : Nat} {o : Oper} {e : Edge} (h : ops[j]? = some o) (he : e ∈ o.after.toList) (hb : Region.binds .any e = true) : Rch ops e.on j
  | step {i j : Nat} {o : Oper} {e : Edge} (h : ops[j]? = some o) (he : e ∈ o.after.toList) (hb : Region.binds .any e = true) (r : Rch ops i e.on) : Rch ops i j
def maskE (acc : List Nat) : List Edge → Nat
  | [] => 0
  | e :: r => bif Region.binds .any e then Nat.lor (Nat.lor (2 ^ e.on) (acc.getD e.on 0)) (maskE acc r) else maskE acc r
def masks : List Oper → List Nat → List Nat
  | [], acc => acc
  | o :: r, acc => masks r (acc ++ [maskE acc o.after.toList])
def backB : List Oper → Nat → Bool
  | [], _ => true
  | o :: r, k => (o.after.toList.all fun e => !(Region.binds .any e) || Nat.blt e.on k) && backB r (k + 1)
def meets (l m : List Nat) : Bool := l.any fun b => m.any (Nat.beq b)
def conf (f g : FP) : Bool := meets f.wr g.rd || meets f.wr g.wr || meets g.wr f.rd || (f.cl && !g.wr.isEmpty) || (g.cl && !f.wr.isEmpty)
def fp0 : FP := ⟨[], [], false⟩
def chk (ops : Array Oper) (ms : List Nat) (fs : List FP) : Bool := backB ops.toList 0 && (List.range ops.size).all fun j => (List.range j).all fun i => Nat.testBit (ms.getD j 0) i ||
  ((match ops[i]?, ops[j]? with
    | some oi, some oj => oi.apart ops oj
    | _, _ => false) && !(conf (fs.getD i fp0) (fs.getD j fp0)))
def Clean (c c' : World) : Prop := ∀ b, b < c.heap.size → c'.heap[b]? = c.heap[b]?
def cleanB (c c' : World) : Bool := (List.range c.heap.size).all fun b => Nat.beq (stamp c.heap[b]?) (stamp c'.heap[b]?)
structure Rc where
  v : Value
  c : World
  fp : FP
def evTr (P : Program) (N0 : Nat) (C : CallE) (nt : Nat) (ops : Array Oper) : List Oper → Tm → World → Option (List Rc)
  | [], _, _ => some []
  | o :: r, ts, c => bif dstOk nt o.dst then (match wantE ops (prune (o.looksAt ops) ts) o with
    | some true => match evOp P N0 C (prune (o.looksAt ops) ts) c o with
      | some (v, c', fp) => bif !fp.cl || cleanB c c' then (match evTr P N0 C nt ops r (putT ts o.dst v) c' with
        | some l => some (⟨v, c', fp⟩ :: l)
        | none => none) else none
      | none => none
    | some false => match evTr P N0 C nt ops r (putT ts o.dst undef) c with
      | some l => some (⟨undef, c, fp0⟩ :: l)
      | none => none
    | none => none) else none
def runT : List Oper → List Rc → Tm → Tm
  | o :: r, x :: l, ts => runT r l (putT ts o.dst x.v)
  | _, _, ts => ts
def lastC : List Rc → World → World
  | [], c => c
  | x :: l, _ => lastC l x.c
def evDrawn (P : Program) (N0 : Nat) (C : CallE) (nt : Nat) (ops : Array Oper) (ts : Tm) (c : World) : Option (Tm × World) :=
  match evTr P N0 C nt ops ops.toList ts c with
  | some l => bif chk ops (masks ops.toList []) (l.map (fun x => x.fp)) then some (runT ops.toList l ts, lastC l c) else none
  | none => none
section
variable {P : Program} {N0 : Nat} {C : CallE} {nt : Nat} {ops : Array Oper}
theorem maskE_spec {acc : List Nat} {j : Nat} {o : Oper} (ho : ops[j]? = some o) (hacc : ∀ k i, Nat.testBit (acc.getD k 0) i = true → Rch ops i k) : ∀ (es : List Edge), (∀ e ∈ es, e ∈ o.after.toList) → ∀ i, Nat.testBit (maskE acc es) i = true → Rch ops i j
  | [], _, i, h => by simp [maskE] at h
  | e :: es, hin, i, h => by
    simp only [maskE] at h
    cases hb : Region.binds .any e with
    | false => rw [hb] at h; exact maskE_spec ho hacc es (fun e he => hin e (by simp [he])) i h
    | true =>
      rw [hb] at h
      simp only [cond_true] at h
      have h1 : Nat.testBit ((2 ^ e.on ||| acc.getD e.on 0) ||| maskE acc es) i = true := h
      rw [Nat.testBit_or, Nat.testBit_or, Nat.testBit_two_pow] at h1
      simp only [Bool.or_eq_true, decide_eq_true_eq] at h1
      rcases h1 with (h1 | h1) | h1
      · subst h1; exact .edge ho (hin e (by simp)) hb
      · exact .step ho (hin e (by simp)) hb (hacc _ _ h1)
      · exact maskE_spec ho hacc es (fun e he => hin e (by simp [he])) i h1
theorem masks_spec : ∀ (l : List Oper) (acc : List Nat), (∀ k o, l[k]? = some o → ops[acc.length + k]? = some o) → (∀ k i, Nat.testBit (acc.getD k 0) i = true → Rch ops i k) → ∀ k i, Nat.testBit ((masks l acc).getD k 0) i = true → Rch ops i k
  | [], acc, _, h, k, i, hb => h k i hb
  | o :: r, acc, hl, h, k, i, hb => by
    simp only [masks] at hb
    refine masks_spec r _ (fun k o hk => ?_) ?_ k i hb
    · have := hl (k + 1) o (by simpa using hk)
      rw [List.length_append]
      rw [show acc.length + (k + 1) = acc.length + [maskE acc o.after.toList].length + k by simp; omega] at this
      exact this
    · intro k i hb
      by_cases hk : k < acc.length
      · refine h k i ?_
        simpa [List.getD, List.getElem?_append_left hk] using hb
      · by_cases he : k = acc.length
        · subst he
          have ho := hl 0 o rfl
          refine maskE_spec ho h _ (fun e he => he) i ?_
          simpa [List.getD] using hb
        · exfalso
          have hn : (acc ++ [maskE acc o.after.toList])[k]? = none := List.getElem?_eq_none (by simp; omega)
          simp [List.getD, hn] at hb
theorem back_spec : ∀ (l : List Oper) (m : Nat), backB l m = true → ∀ k o, l[k]? = some o → ∀ e ∈ o.after.toList, Region.binds .any e = true → e.on < m + k
  | [], m, _, k, o, h => by simp at h
  | x :: r, m, hb, 0, o, h => by
    simp only [List.getElem?_cons_zero, Option.some.injEq] at h
    subst h
    simp only [backB, Bool.and_eq_true] at hb
    intro e he hbe
    have := List.all_eq_true.1 hb.1 e he
    rw [hbe] at this
    simpa [Nat.blt_eq] using this
  | x :: r, m, hb, k + 1, o, h => by
    simp only [backB, Bool.and_eq_true] at hb
    intro e he hbe
    have := back_spec r (m + 1) hb.2 k o (by simpa using h) e he hbe
    omega
/-- a trace in the order of the text -/
def TrH (P : Program) (N0 : Nat) (C : CallE) (nt : Nat) (ops : Array Oper) (l : List Oper) (T : Nat → Tm) (Cw : Nat → World) (V : Nat → Value) (F : Nat → FP) : Prop :=
  ∀ k o, l[k]? = some o → dstOk nt o.dst = true ∧ T (k + 1) = putT (T k) o.dst (V k) ∧
    ((wantE ops (prune (o.looksAt ops) (T k)) o = some true ∧ evOp P N0 C (prune (o.looksAt ops) (T k)) (Cw k) o = some (V k, Cw (k + 1), F k) ∧ ((F k).cl = true → cleanB (Cw k) (Cw (k + 1)) = true)) ∨
      (wantE ops (prune (o.looksAt ops) (T k)) o = some false ∧ V k = undef ∧ Cw (k + 1) = Cw k ∧ F k = fp0))
theorem tr_spec : ∀ (l : List Oper) (ts : Tm) (c : World) (rs : List Rc), evTr P N0 C nt ops l ts c = some rs → rs.length = l.length ∧
    TrH P N0 C nt ops l (fun k => runT (l.take k) (rs.take k) ts) (fun k => lastC (rs.take k) c) (fun k => (rs.map (fun x => x.v)).getD k undef) (fun k => (rs.map (fun x => x.fp)).getD k fp0)
  | [], ts, c, rs, h => by
    simp only [evTr, Option.some.injEq] at h
    subst h
    exact ⟨rfl, fun k o hk => by simp at hk⟩
  | o :: r, ts, c, rs, h => by
    simp only [evTr] at h
    obtain ⟨hd, h⟩ := cond_some h
    split at h
    · rename_i hw
      split at h
      · rename_i v c' fp hop
        obtain ⟨hcl, h⟩ := cond_some h
        split at h
        · rename_i l hl
          simp only [Option.some.injEq] at h
          subst h
          obtain ⟨h1, h2⟩ := tr_spec r _ _ _ hl
          refine ⟨by simp [h1], fun k o' hk => ?_⟩
          cases k with
          | zero =>
            simp only [List.getElem?_cons_zero, Option.some.injEq] at hk
            subst hk
            exact ⟨hd, rfl, .inl ⟨hw, hop, fun (hh : fp.cl = true) => by
              rw [hh] at hcl
              exact (by simpa using hcl : cleanB c c' = true)⟩⟩
          | succ k => exact h2 k o' (by simpa using hk)
        · cases h
      · cases h
    · rename_i hw
      split at h
      · rename_i l hl
        simp only [Option.some.injEq] at h
        subst h
        obtain ⟨h1, h2⟩ := tr_spec r _ _ _ hl
        refine ⟨by simp [h1], fun k o' hk => ?_⟩
        cases k with
        | zero =>
          simp only [List.getElem?_cons_zero, Option.some.injEq] at hk
          subst hk
          exact ⟨hd, rfl, .inr ⟨hw, rfl, rfl, rfl⟩⟩
        | succ k => exact h2 k o' (by simpa using hk)
      · cases h
    · cases h
/-! ### values by the operations that have been carried out -/
open Classical in
noncomputable def ov (Cw : Nat → World) (D : Nat → Bool) : Nat → Kap
  | 0 => Kof (Cw 0)
  | k + 1 => fun b => if D k = true ∧ ¬ (Kof (Cw (k + 1)) b = Kof (Cw k) b) then Kof (Cw (k + 1)) b else ov Cw D k b
theorem ov_agree {Cw : Nat → World} {D : Nat → Bool} {b i : Nat} : ∀ (n : Nat), (∀ k, k < n → ¬ (Kof (Cw (k + 1)) b = Kof (Cw k) b) → (k < i ↔ D k = true)) → ov Cw D n b = Kof (Cw (min n i)) b
  | 0, _ => by simp [ov]
  | n + 1, h => by
    have ih := ov_agree n (fun k hk => h k (by omega))
    simp only [ov]
    by_cases hc : Kof (Cw (n + 1)) b = Kof (Cw n) b
    · rw [if_neg (fun hh => hh.2 hc), ih]
      rcases Nat.lt_or_ge n i with hi | hi
      · rw [show min n i = n by omega, show min (n + 1) i = n + 1 by omega, hc]
      · rw [show min n i = i by omega, show min (n + 1) i = i by omega]
    · have hd := h n (by omega) hc
      by_cases hD : D n = true
      · rw [if_pos ⟨hD, hc⟩]
        have := hd.2 hD
        rw [show min (n + 1) i = n + 1 by omega]
      · rw [if_neg (fun hh => hD hh.1), ih]
        have : ¬ n < i := fun hl => hD (hd.1 hl)
        rw [show min n i = i by omega, show min (n + 1) i = i by omega]
theorem ov_same {Cw : Nat → World} {D D' : Nat → Bool} {b i : Nat} (hD : ∀ k, k ≠ i → D' k = D k) (hi : Kof (Cw (i + 1)) b = Kof (Cw i) b) : ∀ n, ov Cw D' n b = ov Cw D n b
  | 0 => rfl
  | n + 1 => by
    simp only [ov]
    rw [ov_same hD hi n]
    by_cases hn : n = i
    · subst hn
      rw [if_neg (fun hh => hh.2 hi), if_neg (fun hh => hh.2 hi)]
    · rw [hD n hn]
def tv (T : Nat → Tm) (V : Nat → Value) (ds : Nat → Option Tmp) (D : Nat → Bool) : Nat → Nat → Value
  | 0, t => tget (T 0) t
  | k + 1, t => if D k = true ∧ ds k = some t then V k else tv T V ds D k t
theorem tget_put {ts : Tm} {dst : Option Tmp} {v : Value} {t : Nat} : tget (putT ts dst v) t = if dst = some t then v else tget ts t := by
  cases dst with
  | none => simp [putT]
  | some d =>
    simp only [putT, tget, Option.some.injEq]
    cases hq : Nat.beq d t with
    | true => rw [if_pos (Nat.eq_of_beq_eq_true hq)]; rfl
    | false => rw [if_neg (fun e => by rw [e] at hq; simp at hq)]; rfl
theorem tv_agree {T : Nat → Tm} {V : Nat → Value} {ds : Nat → Option Tmp} {D : Nat → Bool} {t i : Nat} : ∀ (n : Nat), (∀ k, k < n → T (k + 1) = putT (T k) (ds k) (V k)) → (∀ k, k < n → ds k = some t → (k < i ↔ D k = true)) → tv T V ds D n t = tget (T (min n i)) t
  | 0, _, _ => by simp [tv]
  | n + 1, hT, h => by
    have ih := tv_agree n (fun k hk => hT k (by omega)) (fun k hk => h k (by omega))
    simp only [tv]
    by_cases hc : ds n = some t
    · have hd := h n (by omega) hc
      by_cases hD : D n = true
      · rw [if_pos ⟨hD, hc⟩, show min (n + 1) i = n + 1 by have := hd.2 hD; omega, hT n (by omega), tget_put, if_pos hc]
      · rw [if_neg (fun hh => hD hh.1), ih]
        have : ¬ n < i := fun hl => hD (hd.1 hl)
        rw [show min n i = i by omega, show min (n + 1) i = i by omega]
    · rw [if_neg (fun hh => hc hh.2), ih]
      rcases Nat.lt_or_ge n i with hi | hi
      · rw [show min n i = n by omega, show min (n + 1) i = n + 1 by omega, hT n (by omega), tget_put, if_neg hc]
      · rw [show min n i = i by omega, show min (n + 1) i = i by omega]
theorem tv_same {T : Nat → Tm} {V : Nat → Value} {ds : Nat → Option Tmp} {D D' : Nat → Bool} {t i : Nat} (hD : ∀ k, k ≠ i → D' k = D k) (hi : ds i ≠ some t) : ∀ n, tv T V ds D' n t = tv T V ds D n t
  | 0 => rfl
  | n + 1 => by
    simp only [tv]
    rw [tv_same hD hi n]
    by_cases hn : n = i
    · subst hn
      rw [if_neg (fun hh => hi hh.2), if_neg (fun hh => hi hh.2)]
    · rw [hD n hn]
section
variable {N0 : Nat} {ρ : Rho} {ts : Tm}
theorem tget_prune (ks : List Nat) (ts : Tm) (t : Nat) : tget (prune ks ts) t = tget ts t ∨ tget (prune ks ts) t = unk := by
  induction ks with
  | nil => exact .inr rfl
  | cons k ks ih =>
    simp only [prune, List.map_cons, tget]
    cases hq : Nat.beq k t with
    | true => have := Nat.eq_of_beq_eq_true hq; subst this; exact .inl rfl
    | false => exact ih
theorem TR.prune {tmps : Array Value} (T : TR N0 ρ ts tmps) (ks : List Nat) : TR N0 ρ (prune ks ts) tmps := fun t ht => by
  rcases tget_prune ks ts t with h | h
  · rw [h] at ht ⊢; exact T t ht
  · rw [h] at ht; cases ht
end
end
end Go.Proofs.Ytbonmmpdpahhfaa.Can
