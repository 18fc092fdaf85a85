/- The engine: regions that draw their order: what holds whatever has been carried out. No law, no condition. -/
import Derived.Test.YtbonmmpdpahhfaaCanE
namespace Go.Proofs.Ytbonmmpdpahhfaa.Can
open Go.RowKit
set_option linter.unusedVariables false
set_option linter.unusedSimpArgs false
def Dm (Cw : Nat → World) (n : Nat) (D : Nat → Bool) (b : Nat) : Prop := b < (Cw 0).heap.size ∨ ∃ k, k < n ∧ D k = true ∧ (Cw k).heap.size ≤ b ∧ b < (Cw (k + 1)).heap.size
def dsOf (ops : Array Oper) (k : Nat) : Option Tmp := (ops[k]?).bind fun o => o.dst
def add1 (D : Nat → Bool) (i : Nat) : Nat → Bool := fun k => if k = i then true else D k
structure Inv (P : Program) (N0 : Nat) (w0 : World) (nt : Nat) (ops : Array Oper) (T : Nat → Tm) (Cw : Nat → World) (V : Nat → Value) (F : Nat → FP) (ρ0 : Rho) (ws : World) (df : List Deferred) (D : Nat → Bool) (ρ : Rho) (a : Act) (w : World) : Prop where
  rel : RelK P N0 w0 ρ (ov Cw D ops.size) w
  dom : ∀ b, ρ b ≠ none → Dm Cw ops.size D b
  kdom : ∀ b, ov Cw D ops.size b ≠ none → Dm Cw ops.size D b
  wrd : ∀ k, k < ops.size → D k = true → ∀ z ∈ (F k).wr, Dm Cw ops.size D z
  tmp : ∀ t, known (tv T V (dsOf ops) D ops.size t) = true → VR N0 ρ (tv T V (dsOf ops) D ops.size t) (a.tmps.getD t undef)
  sz : a.tmps.size = nt
  df : a.defers = df
  clo : ∀ j o e, ops[j]? = some o → e ∈ o.after.toList → Region.binds .any e = true → D j = true → D e.on = true
  tot : ∀ k, k < ops.size → D k = true → ∀ b, (Cw k).heap.size ≤ b → b < (Cw (k + 1)).heap.size → ρ b ≠ none
  e0 : ∀ b, b < (Cw 0).heap.size → ov Cw D ops.size b = Kof (Cw 0) b ∨ stamp (Kof (Cw 0) b) < stamp (ov Cw D ops.size b)
  e1 : ∀ b, b < (Cw 0).heap.size → ρ b = ρ0 b ∨ (stamp (Kof (Cw 0) b) < stamp (ov Cw D ops.size b) ∧ ρ b = some .dead)
  e2 : ∀ B, B < ws.heap.size → w.heap[B]? = ws.heap[B]? ∨ ∃ b, b < (Cw 0).heap.size ∧ LiveAt ρ0 b B ∧ stamp (Kof (Cw 0) b) < stamp (ov Cw D ops.size b)
  e3 : ∀ b B, (Cw 0).heap.size ≤ b → LiveAt ρ b B → ws.heap.size ≤ B ∨ ∃ b0, b0 < (Cw 0).heap.size ∧ LiveAt ρ0 b0 B ∧ stamp (Kof (Cw 0) b0) < stamp (ov Cw D ops.size b0)
  wsz : ws.heap.size ≤ w.heap.size
section
variable {P : Program} {N0 : Nat} {w0 : World} {C : CallE} {nt : Nat} {ops : Array Oper} {T : Nat → Tm} {Cw : Nat → World} {V : Nat → Value} {F : Nat → FP} {ρ ρ0 ρ' : Rho} {ws w w' : World} {df : List Deferred} {D : Nat → Bool} {a : Act} {i : Nat} {o : Oper}
theorem add1_ne {k : Nat} (h : k ≠ i) : add1 D i k = D k := if_neg h
theorem add1_same : add1 D i i = true := if_pos rfl
theorem add1_up {k : Nat} (h : D k = true) : add1 D i k = true := by unfold add1; split <;> first | rfl | exact h
theorem Dm.up {n b : Nat} (h : Dm Cw n D b) : Dm Cw n (add1 D i) b := by
  rcases h with h | ⟨k, h1, h2, h3⟩
  · exact .inl h
  · exact .inr ⟨k, h1, add1_up h2, h3⟩
theorem prune_get : ∀ (ks : List Nat) (ts : Tm) (t : Nat), t ∉ ks → tget (prune ks ts) t = unk
  | [], ts, t, _ => rfl
  | k :: ks, ts, t, h => by
    simp only [prune, List.map_cons, tget]
    have hne : k ≠ t := fun e => h (by simp [e])
    have hq : Nat.beq k t = false := by
      cases hq : Nat.beq k t with
      | false => rfl
      | true => exact absurd (Nat.eq_of_beq_eq_true hq) hne
    rw [hq, cond_false]
    exact prune_get ks ts t (fun hm => h (by simp [hm]))
theorem sz_mono (hc : ∀ j, j < ops.size → Chg (Cw j) (Cw (j + 1)) (F j)) {k : Nat} (hk : k ≤ ops.size) : ∀ j, j ≤ k → (Cw j).heap.size ≤ (Cw k).heap.size := by
  induction k with
  | zero => intro j hj; rw [show j = 0 by omega]; exact Nat.le_refl _
  | succ k ih =>
    intro j hj
    by_cases h : j = k + 1
    · rw [h]; exact Nat.le_refl _
    · exact Nat.le_trans (ih (by omega) j (by omega)) (hc k (by omega)).1
theorem rch_in (hclo : ∀ j o e, ops[j]? = some o → e ∈ o.after.toList → Region.binds .any e = true → D j = true → D e.on = true) {k j : Nat} (h : Rch ops k j) (hj : D j = true) : D k = true := by
  induction h with
  | edge h1 h2 h3 => exact hclo _ _ _ h1 h2 h3 hj
  | step h1 h2 h3 r ih => exact ih (hclo _ _ _ h1 h2 h3 hj)
/-- operation i is next -/
structure Nx (P : Program) (N0 : Nat) (w0 : World) (C : CallE) (nt : Nat) (ops : Array Oper) (T : Nat → Tm) (Cw : Nat → World) (V : Nat → Value) (F : Nat → FP) (D : Nat → Bool) (i : Nat) (o : Oper) : Prop where
  G : Rg P N0 w0 C nt ops T Cw V F
  hc : ∀ j, j < ops.size → Chg (Cw j) (Cw (j + 1)) (F j)
  ho : ops[i]? = some o
  hi : D i = false
  hr : ∀ e ∈ o.after.toList, Region.binds .any e = true → D e.on = true
  clo : ∀ j o e, ops[j]? = some o → e ∈ o.after.toList → Region.binds .any e = true → D j = true → D e.on = true
theorem Nx.lt (h : Nx P N0 w0 C nt ops T Cw V F D i o) : i < ops.size := (Array.getElem?_eq_some_iff.1 h.ho).1
theorem rch_ready (h : Nx P N0 w0 C nt ops T Cw V F D i o) {k : Nat} (r : Rch ops k i) : D k = true := by
  cases r with
  | edge h1 h2 h3 =>
    rw [h.ho] at h1
    simp only [Option.some.injEq] at h1
    subst h1
    exact h.hr _ h2 h3
  | step h1 h2 h3 r =>
    rw [h.ho] at h1
    simp only [Option.some.injEq] at h1
    subst h1
    exact rch_in h.clo r (h.hr _ h2 h3)
/-- what gets in each other's way comes in the order of the text -/
theorem ordered (h : Nx P N0 w0 C nt ops T Cw V F D i o) {k : Nat} {ok : Oper} (hk : ops[k]? = some ok) (hne : k ≠ i)
    (hx : (ok.apart ops o = true → conf (F k) (F i) = false → k < i → False) ∧ (o.apart ops ok = true → conf (F i) (F k) = false → i < k → False)) : k < i ↔ D k = true := by
  constructor
  · intro hlt
    rcases h.G.pair k i ok o hlt hk h.ho with r | ⟨h1, h2⟩
    · exact rch_ready h r
    · exact (hx.1 h1 h2 hlt).elim
  · intro hD
    rcases Nat.lt_or_ge k i with hlt | hge
    · exact hlt
    · have hlt : i < k := by omega
      rcases h.G.pair i k o ok hlt h.ho hk with r | ⟨h1, h2⟩
      · have := rch_in h.clo r hD
        rw [h.hi] at this
        cases this
      · exact (hx.2 h1 h2 hlt).elim
theorem op_of {k : Nat} (hk : k < ops.size) : ∃ ok, ops[k]? = some ok := ⟨ops[k], by simp⟩
theorem T_step (G : Rg P N0 w0 C nt ops T Cw V F) : ∀ k, k < ops.size → T (k + 1) = putT (T k) (dsOf ops k) (V k) := by
  intro k hk
  obtain ⟨ok, hok⟩ := op_of hk
  have := (G.H k ok (by simpa using hok)).2.1
  rw [this]
  simp [dsOf, hok]
theorem tmp_in (h : Nx P N0 w0 C nt ops T Cw V F D i o) {t : Nat} (ht : t ∈ o.looksAt ops) : tv T V (dsOf ops) D ops.size t = tget (T i) t := by
  have := tv_agree (V := V) (ds := dsOf ops) (D := D) (t := t) (i := i) ops.size (T_step h.G) (fun k hk hd => by
    by_cases hki : k = i
    · subst hki
      rw [h.hi]
      simp
    · obtain ⟨ok, hok⟩ := op_of hk
      have hd' : ok.dst = some t := by simpa [dsOf, hok] using hd
      exact ordered h hok hki ⟨fun ha _ _ => (Oper.apart_spec ha).1 t hd' ht, fun ha _ _ => (Oper.apart_spec ha).2.2 t hd' ht⟩)
  rw [this, show min ops.size i = i by have := h.lt; omega]
theorem tr_in (h : Nx P N0 w0 C nt ops T Cw V F D i o) (I : Inv P N0 w0 nt ops T Cw V F ρ0 ws df D ρ a w) : TR N0 ρ (prune (o.looksAt ops) (T i)) a.tmps := by
  intro t ht
  by_cases hm : t ∈ o.looksAt ops
  · rcases tget_prune (o.looksAt ops) (T i) t with he | he
    · rw [he] at ht ⊢
      rw [← tmp_in h hm] at ht ⊢
      exact I.tmp t ht
    · rw [he] at ht; cases ht
  · rw [prune_get _ _ _ hm] at ht; cases ht
theorem tmp_out (h : Nx P N0 w0 C nt ops T Cw V F D i o) (I : Inv P N0 w0 nt ops T Cw V F ρ0 ws df D ρ a w) (he : Ext ρ ρ') {v' : Value} (hv : VR N0 ρ' (V i) v') :
    ∀ t, known (tv T V (dsOf ops) (add1 D i) ops.size t) = true → VR N0 ρ' (tv T V (dsOf ops) (add1 D i) ops.size t) ((a.put o.dst v').tmps.getD t undef) := by
  intro t ht
  have hds : dsOf ops i = o.dst := by simp [dsOf, h.ho]
  have hdok := (h.G.H i o (by simpa using h.ho)).1
  by_cases hd : o.dst = some t
  · have := tv_agree (V := V) (ds := dsOf ops) (D := add1 D i) (t := t) (i := i + 1) ops.size (T_step h.G) (fun k hk hdk => by
      by_cases hki : k = i
      · subst hki
        simp [add1_same]
      · obtain ⟨ok, hok⟩ := op_of hk
        have hd' : ok.dst = some t := by simpa [dsOf, hok] using hdk
        have := ordered h hok hki ⟨fun ha _ _ => (Oper.apart_spec ha).2.1 t hd' hd, fun ha _ _ => (Oper.apart_spec ha).2.1 t hd hd'⟩
        rw [add1_ne hki, ← this]
        omega)
    rw [show min ops.size (i + 1) = i + 1 by have := h.lt; omega, T_step h.G i h.lt, tget_put, hds, if_pos hd] at this
    rw [this]
    have hlt : t < a.tmps.size := by
      rw [hd] at hdok
      rw [I.sz]
      simpa [dstOk, Nat.blt_eq] using hdok
    rw [hd]
    simpa [Act.put, hlt] using hv
  · have hsame := tv_same (T := T) (V := V) (ds := dsOf ops) (D := D) (D' := add1 D i) (t := t) (i := i) (fun k hk => add1_ne hk) (by rw [hds]; exact hd) ops.size
    rw [hsame] at ht ⊢
    have := (I.tmp t ht).mono he
    have e1 : (a.put o.dst v').tmps.getD t undef = a.tmps.getD t undef := by
      cases hdd : o.dst with
      | none => rfl
      | some d =>
        have hne : d ≠ t := fun e => hd (by rw [hdd, e])
        simp [Act.put, Array.getD_eq_getD_getElem?, Array.getElem?_setIfInBounds_ne hne]
    rw [e1]
    exact this
theorem clo_out (h : Nx P N0 w0 C nt ops T Cw V F D i o) : ∀ j oj e, ops[j]? = some oj → e ∈ oj.after.toList → Region.binds .any e = true → add1 D i j = true → add1 D i e.on = true := by
  intro j oj e hj he hb hD
  by_cases hji : j = i
  · subst hji
    rw [h.ho] at hj
    simp only [Option.some.injEq] at hj
    subst hj
    exact add1_up (h.hr e he hb)
  · rw [add1_ne hji] at hD
    exact add1_up (h.clo j oj e hj he hb hD)
/-- a block that operation i touches is as in the order of the text -/
theorem ov_in (h : Nx P N0 w0 C nt ops T Cw V F D i o) {b : Nat} (hD : Dm Cw ops.size D b) (hlt : b < (Cw i).heap.size) (hx : (F i).cl = true ∨ b ∈ (F i).rd ∨ b ∈ (F i).wr) : ov Cw D ops.size b = Kof (Cw i) b ∧
    ov Cw (add1 D i) ops.size b = Kof (Cw (i + 1)) b := by
  have hw : ∀ k, k < ops.size → k ≠ i → ¬ (Kof (Cw (k + 1)) b = Kof (Cw k) b) → (k < i ↔ D k = true) := by
    intro k hk hki hch
    obtain ⟨ok, hok⟩ := op_of hk
    rcases (h.hc k hk).2 b hch with ⟨hwr, _⟩ | ⟨h1, h2⟩
    · refine ordered h hok hki ⟨fun _ hcf _ => ?_, fun _ hcf _ => ?_⟩
      · simp only [conf, Bool.or_eq_false_iff] at hcf
        have hne : (F k).wr.isEmpty = false := by cases hq : (F k).wr with
          | nil => rw [hq] at hwr; cases hwr
          | cons => rfl
        have hmm : ∀ l : List Nat, b ∈ l → meets (F k).wr l = true := fun l hl => by
          unfold meets
          exact List.any_eq_true.2 ⟨b, hwr, List.any_eq_true.2 ⟨b, hl, by simp⟩⟩
        rcases hx with hx | hx | hx
        · rw [hx, hne] at hcf; simp at hcf
        · rw [hmm _ hx] at hcf; simp at hcf
        · rw [hmm _ hx] at hcf; simp at hcf
      · simp only [conf, Bool.or_eq_false_iff] at hcf
        have hne : (F k).wr.isEmpty = false := by cases hq : (F k).wr with
          | nil => rw [hq] at hwr; cases hwr
          | cons => rfl
        rcases hx with hx | hx | hx
        · rw [hx, hne] at hcf; simp at hcf
        · have : meets (F k).wr (F i).rd = true := by
            unfold meets
            exact List.any_eq_true.2 ⟨b, hwr, List.any_eq_true.2 ⟨b, hx, by simp⟩⟩
          rw [this] at hcf; simp at hcf
        · have : meets (F i).wr (F k).wr = true := by
            unfold meets
            exact List.any_eq_true.2 ⟨b, hx, List.any_eq_true.2 ⟨b, hwr, by simp⟩⟩
          rw [this] at hcf; simp at hcf
    · have hklt : k < i := by
        rcases Nat.lt_or_ge k i with hh | hh
        · exact hh
        · have := sz_mono h.hc (k := k) (by omega) i hh
          omega
      refine ⟨fun _ => ?_, fun _ => hklt⟩
      rcases hD with hD | ⟨k2, g1, g2, g3, g4⟩
      · have := sz_mono h.hc (k := k) (by omega) 0 (by omega)
        omega
      · have : k2 = k := by
          rcases Nat.lt_trichotomy k2 k with hh | hh | hh
          · have := sz_mono h.hc (k := k) (by omega) (k2 + 1) (by omega); omega
          · exact hh
          · have := sz_mono h.hc (k := k2) (by omega) (k + 1) (by omega); omega
        rw [← this]; exact g2
  constructor
  · have := ov_agree (Cw := Cw) (D := D) (b := b) (i := i) ops.size (fun k hk hch => by
      by_cases hki : k = i
      · subst hki; rw [h.hi]; simp
      · exact hw k hk hki hch)
    rw [this, show min ops.size i = i by have := h.lt; omega]
  · have := ov_agree (Cw := Cw) (D := add1 D i) (b := b) (i := i + 1) ops.size (fun k hk hch => by
      by_cases hki : k = i
      · subst hki; simp [add1_same]
      · rw [add1_ne hki, ← hw k hk hki hch]; omega)
    rw [this, show min ops.size (i + 1) = i + 1 by have := h.lt; omega]
/-- a block that operation i makes -/
theorem ov_new (h : Nx P N0 w0 C nt ops T Cw V F D i o) (I : Inv P N0 w0 nt ops T Cw V F ρ0 ws df D ρ a w) {b : Nat} (h1 : (Cw i).heap.size ≤ b) (h2 : b < (Cw (i + 1)).heap.size) : ov Cw (add1 D i) ops.size b = Kof (Cw (i + 1)) b ∧ ¬ Dm Cw ops.size D b := by
  have hnD : ¬ Dm Cw ops.size D b := by
    intro hD
    rcases hD with hD | ⟨k2, g1, g2, g3, g4⟩
    · have := sz_mono h.hc (k := i) (by have := h.lt; omega) 0 (by omega)
      omega
    · have hi := h.lt
      have : k2 = i := by
        rcases Nat.lt_trichotomy k2 i with hh | hh | hh
        · have := sz_mono h.hc (k := i) (by omega) (k2 + 1) (by omega); omega
        · exact hh
        · have := sz_mono h.hc (k := k2) (by omega) (i + 1) (by omega); omega
      rw [this, h.hi] at g2
      cases g2
  refine ⟨?_, hnD⟩
  have := ov_agree (Cw := Cw) (D := add1 D i) (b := b) (i := i + 1) ops.size (fun k hk hch => by
    by_cases hki : k = i
    · subst hki; simp [add1_same]
    · rw [add1_ne hki]
      have hi := h.lt
      constructor
      · intro hlt
        exfalso
        have hs := sz_mono h.hc (k := i) (by omega) (k + 1) (by omega)
        have hs2 := (h.hc k hk).1
        have e1 : Kof (Cw (k + 1)) b = none := by simp [Kof]; omega
        have e2 : Kof (Cw k) b = none := by simp [Kof]; omega
        exact hch (e1.trans e2.symm)
      · intro hDk
        exfalso
        rcases (h.hc k hk).2 b hch with ⟨hwr, _⟩ | ⟨g1, g2⟩
        · exact hnD (I.wrd k hk hDk b hwr)
        · exact hnD (.inr ⟨k, hk, hDk, g1, g2⟩))
  rw [this, show min ops.size (i + 1) = i + 1 by have := h.lt; omega]
theorem ov_far (h : Nx P N0 w0 C nt ops T Cw V F D i o) {b : Nat} (hch : Kof (Cw (i + 1)) b = Kof (Cw i) b) : ov Cw (add1 D i) ops.size b = ov Cw D ops.size b := ov_same (fun k hk => add1_ne hk) hch ops.size
end
end Go.Proofs.Ytbonmmpdpahhfaa.Can
