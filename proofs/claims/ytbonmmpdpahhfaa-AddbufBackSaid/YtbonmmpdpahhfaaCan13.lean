/- The engine, thirteenth part: steps of the canonical world; calls. No law, no condition. -/
import Derived.Test.YtbonmmpdpahhfaaCan12
import Derived.Tactics
namespace Go.Proofs.Ytbonmmpdpahhfaa.Can
open Go.RowKit
set_option linter.unusedVariables false
set_option linter.unusedSimpArgs false

def setO (c : World) (b : Nat) (o : Obj) : World := { c with heap := c.heap.setIfInBounds b o }
def upsC (c : World) : List (Nat × Obj) → World
  | [] => c
  | (b, o) :: r => upsC (setO c b o) r
def apC (c : World) (d : Dl) : World := match d.nw with
  | none => upsC c d.ups
  | some ob => (upsC c d.ups).alloc ob
def stamp : Option Obj → Nat
  | some (.cells _ _ (k, _)) => k
  | _ => 0
/-- the updates of an operation: of rows that are there, each with a higher stamp -/
def GoodUps (N0 : Nat) (κ : Kap) (ups : List (Nat × Obj)) : Prop := ups = [] ∨ ∃ b ob cs e k cs' e' f, ups = [(b, ob)] ∧ N0 ≤ b ∧ κ b = some (.cells cs e (k, 0)) ∧ ob = .cells cs' e' (k + 1, f)
section
variable {P : Program} {N0 : Nat} {w0 : World} {ρ ρ' ρ'' : Rho} {κ : Kap} {c c' c'' w w' w'' : World} {ts : Tm} {a : Act} {o : Oper}
theorem putE_good {b of : Nat} {vs : List Value} {ups : List (Nat × Obj)} (h : putE N0 κ b of vs = some ups) : GoodUps N0 κ ups := by
  unfold putE at h
  split at h
  · simp only [Option.some.injEq] at h; exact .inl h.symm
  · split at h
    · rename_i cs e k hr
      obtain ⟨h1, h2⟩ := rowAt_spec hr
      cases hq : Nat.ble (of + vs.length) cs.size with
      | false => rw [hq] at h; cases h
      | true =>
        rw [hq] at h
        simp only [cond_true, Option.some.injEq] at h
        exact .inr ⟨b, _, cs, e, k, _, _, 0, h.symm, h1, h2, rfl⟩
    · cases h
theorem cond_some {α : Type} {b : Bool} {x : Option α} {d : α} (h : (bif b then x else none) = some d) : b = true ∧ x = some d := by
  cases b
  · cases h
  · exact ⟨rfl, h⟩
theorem cond_none {α : Type} {b : Bool} {x : Option α} {d : α} (h : (bif b then none else x) = some d) : b = false ∧ x = some d := by
  cases b
  · exact ⟨rfl, h⟩
  · cases h
theorem cond_or {α : Type} {b : Bool} {x y : Option α} {d : α} (h : (bif b then x else y) = some d) : (b = true ∧ x = some d) ∨ (b = false ∧ y = some d) := by
  cases b
  · exact .inr ⟨rfl, h⟩
  · exact .inl ⟨rfl, h⟩
theorem roomE_good {e size : Nat} {A : Option Addr} {l cp n : Nat} {news : List Value} {rd : List Nat} {d : Dl} (h : roomE N0 κ e size A l cp n news rd = some d) : GoodUps N0 κ d.ups := by
  unfold roomE at h
  split at h
  · split at h
    · simp only [Option.some.injEq] at h; subst h; exact .inl rfl
    · cases h
  · have h := (cond_some h).2
    split at h
    · rename_i hups
      simp only [Option.some.injEq] at h; subst h; exact putE_good hups
    · cases h
  · cases h
theorem growE_good {e size m : Nat} {A : Option Addr} {l cp n : Nat} {news : List Value} {rd : List Nat} {d : Dl} (h : growE N0 κ e size m A l cp n news rd = some d) : GoodUps N0 κ d.ups := by
  unfold growE at h
  split at h
  · have h := (cond_some h).2
    simp only [Option.some.injEq] at h; subst h; exact .inl rfl
  · have h := (cond_some h).2
    split at h
    · rcases cond_or h with ⟨_, h⟩ | ⟨_, h⟩
      · simp only [Option.some.injEq] at h; subst h; exact .inl rfl
      · split at h
        · rename_i cs e' k hr
          obtain ⟨h1, h2⟩ := rowAt_spec hr
          simp only [Option.some.injEq] at h; subst h
          exact .inr ⟨_, _, cs, e', k, _, _, 1, rfl, h1, h2, rfl⟩
        · cases h
    · cases h
  · cases h
theorem evW_good {m : Nat} {d : Dl} (h : evW P N0 κ ts m o = some d) : GoodUps N0 κ d.ups := by
  unfold evW at h
  split at h
  · split at h
    · have h := (cond_none h).2
      split at h
      · rename_i hups
        simp only [Option.some.injEq] at h
        subst h
        exact putE_good hups
      · cases h
    · cases h
  · split at h
    · split at h
      · split at h
        · split at h
          · have h := (cond_some h).2
            rcases cond_or h with ⟨_, h⟩ | ⟨_, h⟩
            · exact roomE_good h
            · exact growE_good h
          · cases h
        · cases h
      · cases h
    · split at h
      · split at h
        · split at h
          · split at h
            · simp only [Option.some.injEq] at h; subst h; exact .inl rfl
            · split at h
              · rename_i hups
                simp only [Option.some.injEq] at h; subst h; exact putE_good hups
              · cases h
            · cases h
          · cases h
        · cases h
      · cases h
    · cases h
  · split at h
    · have h := (cond_some h).2
      split at h
      · rename_i cs e' k hr
        obtain ⟨h1, h2⟩ := rowAt_spec hr
        simp only [Option.some.injEq] at h; subst h
        exact .inr ⟨_, _, cs, e', k, _, _, 0, rfl, h1, h2, rfl⟩
      · cases h
    · cases h
  · cases h
theorem evD_good {m : Nat} {d : Dl} (h : evD P N0 κ ts m o = some d) : GoodUps N0 κ d.ups := by
  unfold evD at h
  split at h
  · simp only [Option.some.injEq] at h; subst h; exact .inl rfl
  · split at h
    · simp only [Option.some.injEq] at h; subst h; exact .inl rfl
    · split at h
      · simp only [Option.some.injEq] at h; subst h; exact .inl rfl
      · exact evW_good h
theorem kof_setO {b : Nat} {x o' : Obj} (hb : Kof c b = some x) : Kof (setO c b o') = upd (Kof c) b (some o') := kof_set c b o' (Array.getElem?_eq_some_iff.1 hb).1
theorem kof_ap {d : Dl} (g : GoodUps N0 (Kof c) d.ups) : Kof (apC c d) = kapD (Kof c) c.heap.size d ∧ (upsC c d.ups).heap.size = c.heap.size := by
  have h : Kof (upsC c d.ups) = upsK (Kof c) d.ups ∧ (upsC c d.ups).heap.size = c.heap.size := by
    rcases g with g | ⟨b, ob, cs, e, k, cs', e', f, g, h1, h2, h3⟩
    · rw [g]; exact ⟨rfl, rfl⟩
    · rw [g]
      exact ⟨kof_setO h2, by simp [upsC, setO]⟩
  refine ⟨?_, h.2⟩
  unfold apC kapD
  cases d.nw with
  | none => exact h.1
  | some ob => simp only; rw [kof_alloc, h.1, h.2]

/-- what a piece of the run does to both worlds -/
structure St (ρ : Rho) (c w : World) (ρ' : Rho) (c' w' : World) : Prop where
  cs : c.heap.size ≤ c'.heap.size
  ws : w.heap.size ≤ w'.heap.size
  ch : ∀ b, b < c.heap.size → c'.heap[b]? = c.heap[b]? ∨ stamp c.heap[b]? < stamp c'.heap[b]?
  ext : ∀ b, b < c.heap.size → ρ' b = ρ b ∨ (stamp c.heap[b]? < stamp c'.heap[b]? ∧ ρ' b = some .dead)
  frame : ∀ B, B < w.heap.size → w'.heap[B]? = w.heap[B]? ∨ ∃ b, b < c.heap.size ∧ LiveAt ρ b B ∧ stamp c.heap[b]? < stamp c'.heap[b]?
  new : ∀ b B, c.heap.size ≤ b → LiveAt ρ' b B → w.heap.size ≤ B ∨ ∃ b0, b0 < c.heap.size ∧ LiveAt ρ b0 B ∧ stamp c.heap[b0]? < stamp c'.heap[b0]?
  tot : ∀ b, c.heap.size ≤ b → b < c'.heap.size → ρ' b ≠ none
theorem St.refl (h : ∀ b, ρ b ≠ none → b < c.heap.size) : St ρ c w ρ c w :=
  ⟨Nat.le_refl _, Nat.le_refl _, fun _ _ => .inl rfl, fun _ _ => .inl rfl, fun _ _ => .inl rfl, fun b B hb hl => by
    obtain ⟨O, n, X, sz, h1⟩ := hl
    have := h b (by rw [h1]; simp)
    omega, fun b h1 h2 => by omega⟩
theorem St.up (h : St ρ c w ρ' c' w') {b : Nat} (hb : b < c.heap.size) : stamp c.heap[b]? ≤ stamp c'.heap[b]? := by
  rcases h.ch b hb with h | h
  · rw [h]; exact Nat.le_refl _
  · omega
theorem St.back (h : St ρ c w ρ' c' w') {b B : Nat} (hb : b < c.heap.size) (hl : LiveAt ρ' b B) : LiveAt ρ b B := by
  rcases h.ext b hb with e | ⟨_, e⟩
  · obtain ⟨O, n, X, sz, h1⟩ := hl
    exact ⟨O, n, X, sz, e ▸ h1⟩
  · obtain ⟨O, n, X, sz, h1⟩ := hl
    rw [e] at h1
    cases h1
theorem St.trans (h : St ρ c w ρ' c' w') (k : St ρ' c' w' ρ'' c'' w'') : St ρ c w ρ'' c'' w'' := by
  have hfr : ∀ b, b < c.heap.size → stamp c'.heap[b]? < stamp c''.heap[b]? → stamp c.heap[b]? < stamp c''.heap[b]? := fun b hb hl => Nat.lt_of_le_of_lt (h.up hb) hl
  have hnew : ∀ b B, b < c'.heap.size → LiveAt ρ' b B → stamp c'.heap[b]? < stamp c''.heap[b]? → w.heap.size ≤ B ∨ ∃ b0, b0 < c.heap.size ∧ LiveAt ρ b0 B ∧ stamp c.heap[b0]? < stamp c''.heap[b0]? := by
    intro b B hb hl hs
    by_cases hbc : b < c.heap.size
    · exact .inr ⟨b, hbc, h.back hbc hl, hfr b hbc hs⟩
    · rcases h.new b B (by omega) hl with h1 | ⟨b0, h1, h2, h3⟩
      · exact .inl h1
      · exact .inr ⟨b0, h1, h2, Nat.lt_of_lt_of_le h3 (k.up (Nat.lt_of_lt_of_le h1 h.cs))⟩
  refine ⟨Nat.le_trans h.cs k.cs, Nat.le_trans h.ws k.ws, ?_, ?_, ?_, ?_, ?_⟩
  · intro b hb
    have hb' := Nat.lt_of_lt_of_le hb h.cs
    rcases k.ch b hb' with h1 | h1
    · rcases h.ch b hb with h2 | h2
      · exact .inl (h1.trans h2)
      · exact .inr (by rw [h1]; exact h2)
    · exact .inr (hfr b hb h1)
  · intro b hb
    have hb' := Nat.lt_of_lt_of_le hb h.cs
    rcases k.ext b hb' with h1 | ⟨h1, h2⟩
    · rcases h.ext b hb with h2 | ⟨h2, h3⟩
      · exact .inl (h1.trans h2)
      · exact .inr ⟨Nat.lt_of_lt_of_le h2 (k.up hb'), h1.trans h3⟩
    · exact .inr ⟨hfr b hb h1, h2⟩
  · intro B hB
    rcases k.frame B (Nat.lt_of_lt_of_le hB h.ws) with h1 | ⟨b, h1, h2, h3⟩
    · rcases h.frame B hB with h2 | ⟨b, h2, h3, h4⟩
      · exact .inl (h1.trans h2)
      · exact .inr ⟨b, h2, h3, Nat.lt_of_lt_of_le h4 (k.up (Nat.lt_of_lt_of_le h2 h.cs))⟩
    · rcases hnew b B h1 h2 h3 with h4 | h4
      · omega
      · exact .inr h4
  · intro b B hb hl
    by_cases hbc : b < c'.heap.size
    · have hl' := k.back hbc hl
      rcases h.new b B hb hl' with h1 | ⟨b0, h1, h2, h3⟩
      · exact .inl h1
      · exact .inr ⟨b0, h1, h2, Nat.lt_of_lt_of_le h3 (k.up (Nat.lt_of_lt_of_le h1 h.cs))⟩
    · rcases k.new b B (by omega) hl with h1 | ⟨b0, h1, h2, h3⟩
      · exact .inl (Nat.le_trans h.ws h1)
      · exact hnew b0 B h1 h2 h3
  · intro b h1 h2
    by_cases hb : b < c'.heap.size
    · have h3 := h.tot b h1 hb
      rcases k.ext b hb with h4 | ⟨_, h4⟩
      · rw [h4]; exact h3
      · rw [h4]; simp
    · exact k.tot b (by omega) h2
theorem St.toExt (h : St ρ c w ρ' c' w') (hd : ∀ b, ρ b ≠ none → b < c.heap.size) : Ext ρ ρ' := fun b hb => by
  rcases h.ext b (hd b hb) with h1 | ⟨_, h1⟩
  · exact .inl h1
  · exact .inr h1
/-- an operation's outcome, seen as a step -/
theorem post_step (R : Rel P N0 w0 ρ c w) {d : Dl} (g : GoodUps N0 (Kof c) d.ups) {run : Result Next} {v' : Value} (h : OpPost P N0 w0 ρ (Kof c) w c.heap.size d run v' w' ρ') : Rel P N0 w0 ρ' (apC c d) w' ∧ St ρ c w ρ' (apC c d) w' := by
  obtain ⟨hk, hsz⟩ := kof_ap (N0 := N0) g
  have hdm : ρ c.heap.size = none := by
    cases hq : ρ c.heap.size with
    | none => rfl
    | some x => have := R.dom c.heap.size (by rw [hq]; simp); omega
  have hsize : (d.nw = none → (apC c d).heap.size = c.heap.size) ∧ (d.nw ≠ none → (apC c d).heap.size = c.heap.size + 1) := by
    unfold apC
    cases d.nw with
    | none => exact ⟨fun _ => hsz, fun h => absurd rfl h⟩
    | some ob => exact ⟨(fun h => by cases h), fun _ => by simp [hsz]⟩
  have hle : c.heap.size ≤ (apC c d).heap.size := by
    by_cases hn : d.nw = none
    · rw [hsize.1 hn]; exact Nat.le_refl _
    · rw [hsize.2 hn]; omega
  have hb : ∀ b, b < c.heap.size → (apC c d).heap[b]? = upsK (Kof c) d.ups b := fun b hb => by
    show Kof (apC c d) b = _
    rw [hk]
    unfold kapD
    cases d.nw with
    | none => rfl
    | some ob => exact upd_ne (by omega)
  have hin : ∀ z ob, (z, ob) ∈ d.ups → z < c.heap.size ∧ stamp c.heap[z]? < stamp (apC c d).heap[z]? := fun z ob hz => by
    rcases g with g | ⟨b, ob1, cs, e, k, cs', e', f, g, h1, h2, h3⟩
    · rw [g] at hz; cases hz
    · rw [g] at hz
      have hz := List.mem_singleton.1 hz
      simp only [Prod.mk.injEq] at hz
      obtain ⟨rfl, rfl⟩ := hz
      have hlt : z < c.heap.size := (Array.getElem?_eq_some_iff.1 h2).1
      refine ⟨hlt, ?_⟩
      rw [hb z hlt, g, h3]
      have h2' : c.heap[z]? = some (.cells cs e (k, 0)) := h2
      rw [h2']
      simp only [upsK, upd_same, stamp]
      omega
  have hnin : ∀ b, b < c.heap.size → (∀ ob, (b, ob) ∉ d.ups) → (apC c d).heap[b]? = c.heap[b]? := fun b hlt hno => by
    rw [hb b hlt]
    rcases g with g | ⟨b1, ob1, cs, e, k, cs', e', f, g, h1, h2, h3⟩
    · rw [g]; rfl
    · rw [g] at hno ⊢
      have : b ≠ b1 := fun e => hno ob1 (by rw [e]; exact List.mem_singleton.2 rfl)
      simp only [upsK]
      exact upd_ne this
  refine ⟨⟨by rw [hk]; exact h.rel, ?_, Nat.le_trans R.cz hle⟩, ⟨hle, h.size, ?_, ?_, ?_, ?_, ?_⟩⟩
  · intro b hb
    by_cases hbm : b = c.heap.size
    · subst hbm
      by_cases hn : d.nw = none
      · exact absurd ((h.newN hn).trans hdm) hb
      · rw [hsize.2 hn]; omega
    · by_cases hu : ∀ ob, (b, ob) ∉ d.ups
      · rw [h.same b hbm hu] at hb
        exact Nat.lt_of_lt_of_le (R.dom b hb) hle
      · obtain ⟨ob, hob⟩ : ∃ ob, (b, ob) ∈ d.ups := Classical.byContradiction fun hc => hu fun ob hm => hc ⟨ob, hm⟩
        exact Nat.lt_of_lt_of_le (hin b ob hob).1 hle
  · intro b hlt
    by_cases hu : ∀ ob, (b, ob) ∉ d.ups
    · exact .inl (hnin b hlt hu)
    · obtain ⟨ob, hob⟩ : ∃ ob, (b, ob) ∈ d.ups := Classical.byContradiction fun hc => hu fun ob hm => hc ⟨ob, hm⟩
      exact .inr (hin b ob hob).2
  · intro b hlt
    by_cases hu : ∀ ob, (b, ob) ∉ d.ups
    · exact .inl (h.same b (by omega) hu)
    · obtain ⟨ob, hob⟩ : ∃ ob, (b, ob) ∈ d.ups := Classical.byContradiction fun hc => hu fun ob hm => hc ⟨ob, hm⟩
      rcases h.chg b ob hob with h1 | h1
      · exact .inl h1
      · exact .inr ⟨(hin b ob hob).2, h1⟩
  · intro B hB
    rcases h.frame B hB with h1 | ⟨z, ob, h1, h2⟩
    · exact .inl h1
    · exact .inr ⟨z, (hin z ob h1).1, h2, (hin z ob h1).2⟩
  · intro b B hb1 hl
    by_cases hbm : b = c.heap.size
    · subst hbm
      by_cases hn : d.nw = none
      · obtain ⟨O, n, X, sz, h1⟩ := hl
        rw [h.newN hn, hdm] at h1; cases h1
      · obtain ⟨B1, O, n, X, sz, h1, h2⟩ := h.newS hn
        obtain ⟨O2, n2, X2, sz2, h3⟩ := hl
        rw [h1] at h3
        simp only [Option.some.injEq, Im.live.injEq] at h3
        obtain ⟨rfl, _⟩ := h3
        rcases h2 with h2 | ⟨z, ob, h4, h5⟩
        · exact .inl h2
        · exact .inr ⟨z, (hin z ob h4).1, h5, (hin z ob h4).2⟩
    · exfalso
      have hu : ∀ ob, (b, ob) ∉ d.ups := fun ob hm => by have := (hin b ob hm).1; omega
      obtain ⟨O2, n2, X2, sz2, h3⟩ := hl
      rw [h.same b hbm hu] at h3
      have := R.dom b (by rw [h3]; simp)
      omega
  · intro b h1 h2
    by_cases hn : d.nw = none
    · rw [hsize.1 hn] at h2; omega
    · rw [hsize.2 hn] at h2
      obtain ⟨B1, O, n, X, sz, h3, _⟩ := h.newS hn
      have : b = c.heap.size := by omega
      rw [this, h3]
      simp
end
end Go.Proofs.Ytbonmmpdpahhfaa.Can
