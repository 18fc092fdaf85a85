/- The engine, second part: cells read, written, made, in canonical and real worlds at once. No law, no condition. -/
import Derived.Test.YtbonmmpdpahhfaaCan1
namespace Go.Proofs.Ytbonmmpdpahhfaa.Can
open Go.RowKit
set_option linter.unusedVariables false
set_option linter.unusedSimpArgs false

theorem add_eq {a : Addr} (h : a.spot = none) (j : Nat) : a.add j = ⟨a.block, a.off + j, none⟩ := by
  obtain ⟨x, y, z⟩ := a
  simp only at h
  subst h
  unfold Addr.add
  split
  · rename_i h; subst h; rfl
  · rfl
theorem AR.add {ρ : Rho} {b o : Nat} {a' : Addr} (h : AR ρ ⟨b, o, none⟩ a') (j : Nat) : AR ρ ⟨b, o + j, none⟩ (a'.add j) := by
  obtain ⟨h0, h1, h2⟩ := h
  rw [add_eq h1]
  refine ⟨rfl, rfl, ?_⟩
  rcases h2 with h2 | ⟨B, O, n, X, sz, h2, rfl⟩
  · exact .inl h2
  · exact .inr ⟨B, O, n, X, sz, h2, by simp [Nat.add_assoc]⟩
theorem add_add' {a : Addr} (h : a.spot = none) (i j : Nat) : (a.add i).add j = a.add (i + j) := by
  rw [add_eq h, add_eq h, add_eq rfl]
  simp [Nat.add_assoc]
/-- n cells of block b from o on -/
def ldK (N0 : Nat) (κ : Kap) (b : Nat) : Nat → Nat → Option (List Value)
  | 0, _ => some []
  | n + 1, o => match cellK κ ⟨b, o, none⟩ with
    | some v => bif okL N0 b v then (match ldK N0 κ b n (o + 1) with | some l => some (v :: l) | none => none) else none
    | none => none
theorem ldK_sim {P : Program} {N0 : Nat} {w0 : World} {ρ : Rho} {κ : Kap} {w : World} (R : RelK P N0 w0 ρ κ w) {b : Nat} : ∀ (n o : Nat) (a' : Addr) (L : List Value), AR ρ ⟨b, o, none⟩ a' → ldK N0 κ b n o = some L →
    ∃ L', F2 (CR N0 ρ) L L' ∧ L.length = n ∧ ∀ (j : Nat) (v : Value), L'[j]? = some v → w.cell? (a'.add j) = some v
  | 0, o, a', L, ha, h => by
    simp only [ldK, Option.some.injEq] at h
    subst h
    exact ⟨[], .nil, rfl, fun j v h => by simp at h⟩
  | n + 1, o, a', L, ha, h => by
    simp only [ldK] at h
    split at h
    · rename_i v hv
      cases hk : okL N0 b v with
      | false => rw [hk] at h; cases h
      | true =>
        rw [hk] at h
        simp only [cond_true] at h
        split at h
        · rename_i l hl
          simp only [Option.some.injEq] at h
          subst h
          obtain ⟨v', h1, h2⟩ := cell_sim R ha hv hk
          obtain ⟨L', h3, h4, h5⟩ := ldK_sim R n (o + 1) (a'.add 1) l (ha.add 1) hl
          refine ⟨v' :: L', .cons h2 h3, by simp [h4], fun j u hj => ?_⟩
          cases j with
          | zero =>
            simp only [List.getElem?_cons_zero, Option.some.injEq] at hj
            subst hj
            rw [add_eq ha.2.1]
            have : (⟨a'.block, a'.off + 0, none⟩ : Addr) = a' := by
              have := ha.2.1
              obtain ⟨x, y, z⟩ := a'
              simp only at this
              subst this
              rfl
            rw [this]
            exact h1
          | succ j =>
            have := h5 j u (by simpa using hj)
            rw [add_add' ha.2.1] at this
            rw [Nat.add_comm j 1]
            exact this
        · cases h
    · cases h
theorem run_ldK {P : Program} {w : World} {a' : Addr} {L' : List Value} (h : ∀ (j : Nat) (v : Value), L'[j]? = some v → w.cell? (a'.add j) = some v) : (loadCells a' L'.length).run P w = .ok L'.toArray w := run_loadCells_list (P := P) w a' L' h

/-! ### written -/
def splice (cs : Array Value) : Nat → List Value → Array Value
  | _, [] => cs
  | o, v :: vs => splice (cs.setIfInBounds o v) (o + 1) vs
theorem splice_size : ∀ (vs : List Value) (cs : Array Value) (o : Nat), (splice cs o vs).size = cs.size
  | [], cs, o => rfl
  | v :: vs, cs, o => by rw [splice, splice_size vs]; simp
theorem splice_get : ∀ (vs : List Value) (cs : Array Value) (o j : Nat), o + vs.length ≤ cs.size → (splice cs o vs)[j]? = if o ≤ j ∧ j < o + vs.length then vs[j - o]? else cs[j]?
  | [], cs, o, j, h => by rw [splice, if_neg (by rw [List.length_nil]; omega)]
  | v :: vs, cs, o, j, h => by
    simp only [List.length_cons] at h
    rw [splice, splice_get vs _ _ _ (by simp; omega)]
    simp only [List.length_cons]
    by_cases hj : j = o
    · subst hj
      rw [if_neg (by omega), if_pos (by omega)]
      have : j < cs.size := by omega
      simp [this]
    · by_cases h1 : o ≤ j ∧ j < o + (vs.length + 1)
      · rw [if_pos (by omega), if_pos h1]
        obtain ⟨d, rfl⟩ : ∃ d, j = o + 1 + d := ⟨j - (o + 1), by omega⟩
        rw [show o + 1 + d - (o + 1) = d by omega, show o + 1 + d - o = d + 1 by omega]
        rfl
      · rw [if_neg (by omega), if_neg h1]
        simp [Ne.symm hj]
theorem run_storeCells (P : Program) : ∀ (vs : List Value) (w : World) (B o i : Nat) (C : Array Value) (e lo hi : Nat), w.heap[B]? = some (.cells C e (lo, hi)) → o + i + vs.length ≤ C.size →
    (∀ j, j < vs.length → ¬ (lo ≤ o + i + j ∧ o + i + j < hi)) → (∀ v ∈ vs, v.oneCell' = true) →
    ∃ w', (storeCells ⟨B, o, none⟩ vs i).run P w = .ok () w' ∧ w'.heap[B]? = some (.cells (splice C (o + i) vs) e (lo, hi)) ∧ (∀ B', B' ≠ B → w'.heap[B']? = w.heap[B']?) ∧ w'.heap.size = w.heap.size ∧ w'.os = w.os ∧ w'.tape = w.tape ∧ w'.output = w.output
  | [], w, B, o, i, C, e, lo, hi, h, _, _, _ => ⟨w, rfl, h, fun _ _ => rfl, rfl, rfl, rfl, rfl⟩
  | v :: vs, w, B, o, i, C, e, lo, hi, h, hs, hf, h1 => by
    simp only [List.length_cons] at hs hf
    have ha : (⟨B, o, none⟩ : Addr).add i = ⟨B, o + i, none⟩ := add_eq rfl i
    have hc : w.cell? ⟨B, o + i, none⟩ = some C[o + i] := by
      simp only [World.cell?, h]
      simp
    have hfr : w.frozen? ⟨B, o + i, none⟩ = false := by
      simp only [World.frozen?, h]
      have := hf 0 (by omega)
      simp only [Nat.add_zero] at this
      simpa using this
    have hh : (w.setCell ⟨B, o + i, none⟩ v).heap[B]? = some (.cells (C.setIfInBounds (o + i) v) e (lo, hi)) := by
      simp [World.setCell, Array.getElem?_modify, h]
    obtain ⟨w', r1, r2, r3, r4, r5, r6, r7⟩ := run_storeCells P vs (w.setCell ⟨B, o + i, none⟩ v) B o (i + 1) (C.setIfInBounds (o + i) v) e lo hi hh (by simp; omega)
      (fun j hj => by have := hf (j + 1) (by omega); rwa [show o + i + (j + 1) = o + (i + 1) + j by omega] at this) (fun u hu => h1 u (by simp [hu]))
    refine ⟨w', ?_, ?_, ?_, ?_, r5, r6, r7⟩
    · simp only [storeCells, Sem.run_bind, ha]
      rw [run_store P w _ v .plain (h1 v (by simp)), hc, hfr]
      simpa using r1
    · rw [r2]
      rfl
    · intro B' hB'
      rw [r3 B' hB']
      exact Below.heap_setCell w _ _ _ hB'
    · rw [r4]
      simp [World.setCell]
def upd {β : Type} (f : Nat → β) (x : Nat) (y : β) : Nat → β := fun z => if z = x then y else f z
theorem upd_same {β : Type} {f : Nat → β} {x : Nat} {y : β} : upd f x y x = y := if_pos rfl
theorem upd_ne {β : Type} {f : Nat → β} {x z : Nat} {y : β} (h : z ≠ x) : upd f x y z = f z := if_neg h
theorem kof_alloc (c : World) (o : Obj) : Kof (c.alloc o) = upd (Kof c) c.heap.size (some o) := by
  funext z
  unfold Kof upd World.alloc
  simp only [Array.getElem?_push]
theorem kof_set (c : World) (b : Nat) (o : Obj) (h : b < c.heap.size) : Kof { c with heap := c.heap.setIfInBounds b o } = upd (Kof c) b (some o) := by
  funext z
  unfold Kof upd
  simp only [Array.getElem?_setIfInBounds]
  by_cases hz : b = z
  · subst hz; simp [h]
  · simp [hz, Ne.symm hz]
section
variable {P : Program} {N0 : Nat} {w0 : World} {ρ : Rho} {κ : Kap} {w : World}
theorem f2_get {R : Value → Value → Prop} {vs vs' : List Value} (h : F2 R vs vs') {j : Nat} {v : Value} (hv : vs[j]? = some v) : ∃ v', vs'[j]? = some v' ∧ R v v' := h.get j v hv
/-- a store -/
theorem wr_sim (R : RelK P N0 w0 ρ κ w) {b o : Nat} {cs : Array Value} {e k : Nat} {vs vs' : List Value} {a' : Addr} (hb : N0 ≤ b) (hk : κ b = some (.cells cs e (k, 0))) (hs : o + vs.length ≤ cs.size)
    (ha : AR ρ ⟨b, o, none⟩ a') (hv : F2 (CR N0 ρ) vs vs') :
    ∃ w', (storeCells a' vs').run P w = .ok () w' ∧ RelK P N0 w0 ρ (upd κ b (some (.cells (splice cs o vs) e (k + 1, 0)))) w' ∧ (∀ B, B < w.heap.size → w'.heap[B]? = w.heap[B]? ∨ ∃ O n X sz, ρ b = some (.live B O n X sz)) ∧ w'.heap.size = w.heap.size := by
  obtain ⟨h0, h1, h2⟩ := ha
  rcases h2 with h2 | ⟨B, O, n, X, sz, h2, rfl⟩
  · obtain ⟨e', k', hd⟩ := R.dead _ h2
    simp only at hd
    rw [hk] at hd
    simp at hd
  · simp only at h2
    obtain ⟨q0, cs', e1, k1, C, e', lo, hi, q1, q2, q3, q4, q5, q6, q7⟩ := R.new b B O n X sz hb h2
    rw [hk] at q1
    simp only [Option.some.injEq, Obj.cells.injEq, Prod.mk.injEq] at q1
    obtain ⟨rfl, rfl, rfl, -⟩ := q1
    have hl := hv.len
    obtain ⟨w', r1, r2, r3, r4, r5, r6, r7⟩ := run_storeCells P vs' w B (O + o) 0 C e' lo hi q4 (by omega) (fun j hj => by have := fz_no q6 (o + j) (by omega); rwa [show O + o + 0 + j = O + (o + j) by omega]) (fun u hu => by
      obtain ⟨j, hj, rfl⟩ := List.mem_iff_getElem.1 hu
      obtain ⟨x, hx, hr⟩ : ∃ x, vs[j]? = some x ∧ CR N0 ρ x vs'[j] := by
        have hj' : j < vs.length := by omega
        obtain ⟨y, h1, h2⟩ := hv.get j vs[j] (by simp [hj'])
        refine ⟨vs[j], by simp [hj'], ?_⟩
        have : y = vs'[j] := by simpa [hj] using h1.symm
        exact this ▸ h2
      exact hr.oneCell.2)
    refine ⟨w', r1, ?_, ?_, r4⟩
    · refine ⟨R.n0, ⟨r5.trans R.wb.os, r6.trans R.wb.tape, r7.trans R.wb.output, by rw [r4]; exact R.wb.size, fun z hz => (r3 z (by omega)).trans (R.wb.block z hz)⟩, fun z hz => (upd_ne (by omega)).trans (R.kb z hz), R.old, ?_, ?_, R.inj⟩
      · intro z B' O' n' X' sz' hz hz'
        by_cases hzb : z = b
        · subst hzb
          rw [h2] at hz'
          simp only [Option.some.injEq, Im.live.injEq] at hz'
          obtain ⟨rfl, rfl, rfl, rfl, rfl⟩ := hz'
          refine ⟨q0, splice cs o vs, e, k + 1, splice C (O + o + 0) vs', e', lo, hi, upd_same, by rw [splice_size]; exact q2, q3, r2, by rw [splice_size]; exact q5, q6, ?_⟩
          intro j v hj
          rw [splice_get _ _ _ _ hs] at hj
          rw [splice_get _ _ _ _ (by omega)]
          by_cases hc : o ≤ j ∧ j < o + vs.length
          · rw [if_pos hc] at hj
            rw [if_pos (by omega), show O + j - (O + o + 0) = j - o by omega]
            exact hv.get _ _ hj
          · rw [if_neg hc] at hj
            rw [if_neg (by omega)]
            exact q7 j v hj
        · obtain ⟨p0, cs2, e2, k2, C2, e2', lo2, hi2, p1, p2, p3, p4, p5⟩ := R.new z B' O' n' X' sz' hz hz'
          have hB : B' ≠ B := fun he => hzb (R.inj z b B' O' n' X' sz' O n X sz hz hb hz' (he ▸ h2))
          exact ⟨p0, cs2, e2, k2, C2, e2', lo2, hi2, by rw [upd_ne hzb]; exact p1, p2, p3, by rw [r3 _ hB]; exact p4, p5⟩
      · intro z hz
        obtain ⟨e3, k3, h3⟩ := R.dead z hz
        have : z ≠ b := fun he => by subst he; rw [hk] at h3; simp at h3
        exact ⟨e3, k3, by rw [upd_ne this]; exact h3⟩
    · intro B' hB'
      by_cases he : B' = B
      · subst he; exact .inr ⟨O, n, X, sz, h2⟩
      · exact .inl (r3 B' he)
theorem ext_new {m : Nat} {i : Im} (h : ρ m = none) : Ext ρ (upd ρ m (some i)) := by
  intro b hb
  by_cases hbm : b = m
  · subst hbm; exact absurd h hb
  · exact .inl (upd_ne hbm)
theorem ext_dead {b : Nat} : Ext ρ (upd ρ b (some .dead)) := by
  intro z hz
  by_cases h : z = b
  · subst h; exact .inr upd_same
  · exact .inl (upd_ne h)
theorem ImOk.mono {ρ' : Rho} {w' : World} {κ' : Kap} {b B O n X sz : Nat} (h : ImOk P N0 ρ κ w b B O n X sz) (e : Ext ρ ρ') (hk : κ' b = κ b) (hw : w'.heap[B]? = w.heap[B]?) : ImOk P N0 ρ' κ' w' b B O n X sz := by
  obtain ⟨p0, cs, e2, k2, C2, e2', lo2, hi2, p1, p2, p3, p4, p5, p6, p7⟩ := h
  exact ⟨p0, cs, e2, k2, C2, e2', lo2, hi2, hk.trans p1, p2, p3, hw.trans p4, p5, p6, fun j v hj => by obtain ⟨v', h1, h2⟩ := p7 j v hj; exact ⟨v', h1, h2.mono e⟩⟩
/-- a new block -/
theorem new_sim (R : RelK P N0 w0 ρ κ w) {m B O n X sz : Nat} (hm : ρ m = none) (hN : N0 ≤ m) {w' : World} (hw : Below w.heap.size w w') (hB : w.heap.size ≤ B) {cs : Array Value} {e k : Nat}
    (h : ImOk P N0 (upd ρ m (some (.live B O n X sz))) (upd κ m (some (.cells cs e (k, 0)))) w' m B O n X sz) :
    RelK P N0 w0 (upd ρ m (some (.live B O n X sz))) (upd κ m (some (.cells cs e (k, 0)))) w' := by
  have hwz := R.wz
  have hext : Ext ρ (upd ρ m (some (.live B O n X sz))) := ext_new hm
  refine ⟨R.n0, R.wb.trans (hw.mono hwz), fun z hz => (upd_ne (by omega)).trans (R.kb z hz), fun z hz => (upd_ne (by omega)).trans (R.old z hz), ?_, ?_, ?_⟩
  · intro z B' O' n' X' sz' hz hz'
    by_cases hzm : z = m
    · subst hzm
      rw [upd_same] at hz'
      simp only [Option.some.injEq, Im.live.injEq] at hz'
      obtain ⟨rfl, rfl, rfl, rfl, rfl⟩ := hz'
      exact h
    · rw [upd_ne hzm] at hz'
      have h1 := R.new z B' O' n' X' sz' hz hz'
      exact h1.mono hext (upd_ne hzm) (hw.block B' h1.lt)
  · intro z hz
    by_cases hzm : z = m
    · subst hzm; rw [upd_same] at hz; simp at hz
    · rw [upd_ne hzm] at hz
      obtain ⟨e3, k3, h3⟩ := R.dead z hz
      exact ⟨e3, k3, (upd_ne hzm).trans h3⟩
  · intro b b' B' O1 n1 X1 s1 O2 n2 X2 s2 hb hb' h1 h2
    by_cases e1 : b = m
    · by_cases e2 : b' = m
      · rw [e1, e2]
      · subst e1
        rw [upd_same] at h1
        simp only [Option.some.injEq, Im.live.injEq] at h1
        rw [upd_ne e2] at h2
        have := (R.new b' _ _ _ _ _ hb' h2).lt
        omega
    · by_cases e2 : b' = m
      · subst e2
        rw [upd_same] at h2
        simp only [Option.some.injEq, Im.live.injEq] at h2
        rw [upd_ne e1] at h1
        have := (R.new b _ _ _ _ _ hb h1).lt
        omega
      · rw [upd_ne e1] at h1
        rw [upd_ne e2] at h2
        exact R.inj b b' B' O1 n1 X1 s1 O2 n2 X2 s2 hb hb' h1 h2
/-- a block that is not used any more -/
theorem kill_sim (R : RelK P N0 w0 ρ κ w) {b : Nat} (hb : N0 ≤ b) {e k : Nat} :
    RelK P N0 w0 (upd ρ b (some .dead)) (upd κ b (some (.cells #[] e (k, 1)))) w := by
  refine ⟨R.n0, R.wb, fun z hz => (upd_ne (by omega)).trans (R.kb z hz), fun z hz => (upd_ne (by omega)).trans (R.old z hz), ?_, ?_, ?_⟩
  · intro z B' O' n' X' sz' hz hz'
    by_cases h : z = b
    · subst h; rw [upd_same] at hz'; simp at hz'
    · rw [upd_ne h] at hz'
      exact (R.new z B' O' n' X' sz' hz hz').mono ext_dead (upd_ne h) rfl
  · intro z hz
    by_cases h : z = b
    · subst h; exact ⟨e, k, upd_same⟩
    · rw [upd_ne h] at hz
      obtain ⟨e3, k3, h3⟩ := R.dead z hz
      exact ⟨e3, k3, (upd_ne h).trans h3⟩
  · intro z z' B' O1 n1 X1 s1 O2 n2 X2 s2 hz hz' h1 h2
    by_cases h : z = b
    · subst h; rw [upd_same] at h1; simp at h1
    · by_cases h' : z' = b
      · subst h'; rw [upd_same] at h2; simp at h2
      · rw [upd_ne h] at h1
        rw [upd_ne h'] at h2
        exact R.inj z z' B' O1 n1 X1 s1 O2 n2 X2 s2 hz hz' h1 h2
/-- a draw, or whatever else leaves the heap as it is -/
theorem RelK.same (R : RelK P N0 w0 ρ κ w) {w' : World} (hw : Below w.heap.size w w') : RelK P N0 w0 ρ κ w' :=
  ⟨R.n0, R.wb.trans (hw.mono R.wz), R.kb, R.old, fun b B O n X sz hb h => by have h1 := R.new b B O n X sz hb h; exact h1.mono (Ext.refl ρ) rfl (hw.block B h1.lt), R.dead, R.inj⟩
end
end Go.Proofs.Ytbonmmpdpahhfaa.Can
