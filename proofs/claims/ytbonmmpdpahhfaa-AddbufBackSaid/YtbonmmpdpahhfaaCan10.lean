/- The engine, tenth part: appends in both worlds; all operations but calls in one. No law, no condition. -/
import Derived.Test.YtbonmmpdpahhfaaCan9
namespace Go.Proofs.Ytbonmmpdpahhfaa.Can
open Go.RowKit
set_option linter.unusedVariables false
set_option linter.unusedSimpArgs false
section
variable {P : Program} {N0 : Nat} {w0 : World} {ρ : Rho} {κ : Kap} {w : World} {ts : Tm} {a : Act} {o : Oper}
theorem new_sim2 (R : RelK P N0 w0 ρ κ w) {m B O n X sz : Nat} (hm : ρ m = none) (hN : N0 ≤ m) (hB : ∀ z O' n' X' sz', N0 ≤ z → ρ z ≠ some (.live B O' n' X' sz')) {cs : Array Value} {e k : Nat}
    (h : ImOk P N0 (upd ρ m (some (.live B O n X sz))) (upd κ m (some (.cells cs e (k, 0)))) w m B O n X sz) :
    RelK P N0 w0 (upd ρ m (some (.live B O n X sz))) (upd κ m (some (.cells cs e (k, 0)))) w := by
  have hext : Ext ρ (upd ρ m (some (.live B O n X sz))) := ext_new hm
  refine ⟨R.n0, R.wb, fun z hz => (upd_ne (by omega)).trans (R.kb z hz), fun z hz => (upd_ne (by omega)).trans (R.old z hz), ?_, ?_, ?_⟩
  · intro z B' O' n' X' sz' hz hz'
    by_cases hzm : z = m
    · subst hzm
      rw [upd_same] at hz'
      simp only [Option.some.injEq, Im.live.injEq] at hz'
      obtain ⟨rfl, rfl, rfl, rfl, rfl⟩ := hz'
      exact h
    · rw [upd_ne hzm] at hz'
      have h1 := R.new z B' O' n' X' sz' hz hz'
      exact h1.mono hext (upd_ne hzm) rfl
  · intro z hz
    by_cases hzm : z = m
    · subst hzm; rw [upd_same] at hz; simp at hz
    · rw [upd_ne hzm] at hz
      obtain ⟨e3, k3, h3⟩ := R.dead z hz
      exact ⟨e3, k3, (upd_ne hzm).trans h3⟩
  · intro b b' B' O1 n1 X1 s1 O2 n2 X2 s2 hb hb' h1 h2
    by_cases e1 : b = m
    · by_cases e2 : b' = m
      · rw [e1, e2]
      · subst e1
        rw [upd_same] at h1
        simp only [Option.some.injEq, Im.live.injEq] at h1
        rw [upd_ne e2] at h2
        obtain ⟨rfl, _⟩ := h1
        exact absurd h2 (hB b' _ _ _ _ hb')
    · by_cases e2 : b' = m
      · subst e2
        rw [upd_same] at h2
        simp only [Option.some.injEq, Im.live.injEq] at h2
        rw [upd_ne e1] at h1
        obtain ⟨rfl, _⟩ := h2
        exact absurd h1 (hB b _ _ _ _ hb)
      · rw [upd_ne e1] at h1
        rw [upd_ne e2] at h2
        exact R.inj b b' B' O1 n1 X1 s1 O2 n2 X2 s2 hb hb' h1 h2
/-- a block that nothing lies in is changed -/
theorem RelK.other (R : RelK P N0 w0 ρ κ w) {B : Nat} {w' : World} (hN : N0 ≤ B) (hB : ∀ z O' n' X' sz', N0 ≤ z → ρ z ≠ some (.live B O' n' X' sz')) (hw : ∀ B', B' ≠ B → w'.heap[B']? = w.heap[B']?) (hs : w'.heap.size = w.heap.size)
    (h1 : w'.os = w.os) (h2 : w'.tape = w.tape) (h3 : w'.output = w.output) : RelK P N0 w0 ρ κ w' :=
  ⟨R.n0, ⟨h1.trans R.wb.os, h2.trans R.wb.tape, h3.trans R.wb.output, by rw [hs]; exact R.wb.size, fun z hz => (hw z (by omega)).trans (R.wb.block z hz)⟩, R.kb, R.old,
    fun b B' O n X sz hb h => (R.new b B' O n X sz hb h).mono (Ext.refl ρ) rfl (hw B' (fun e => by subst e; exact hB b _ _ _ _ hb h)), R.dead, R.inj⟩
theorem fresh_no (R : RelK P N0 w0 ρ κ w) {B : Nat} (h : w.heap.size ≤ B) : ∀ z O' n' X' sz', N0 ≤ z → ρ z ≠ some (.live B O' n' X' sz') := fun z O' n' X' sz' hz hl => by
  have := (R.new z _ _ _ _ _ hz hl).lt
  omega
/-- a new block of a new real block -/
theorem made_sim (R : RelK P N0 w0 ρ κ w) {m : Nat} (hm : ρ m = none) (hN : N0 ≤ m) {w' : World} (hw : Below w.heap.size w w') {cs : List Value} {C : Array Value} {e lo hi X sz : Nat} (h1 : w'.heap[w.heap.size]? = some (.cells C e (lo, hi)))
    (h2 : cs.length + X ≤ C.size) (h3 : lo = hi ∨ cs.length + X ≤ lo) (h4 : ∀ (j : Nat) (x : Value), cs[j]? = some x → ∃ x', C[j]? = some x' ∧ CR N0 ρ x x') (h5 : (P.info? e).map (fun i => i.size) = some sz) :
    RelK P N0 w0 (upd ρ m (some (.live w.heap.size 0 cs.length X sz))) (upd κ m (some (.cells cs.toArray e (0, 0)))) w' := by
  refine new_sim2 (R.same hw) hm hN (fresh_no R (Nat.le_refl _)) ⟨R.wz, cs.toArray, e, 0, C, e, lo, hi, upd_same, by simp, h5, h1, by omega, by omega, fun j v hj => ?_⟩
  obtain ⟨x', g1, g2⟩ := h4 j v (by simpa using hj)
  exact ⟨x', by simpa using g1, g2.mono (ext_new hm)⟩
def kapD (κ : Kap) (m : Nat) (d : Dl) : Kap := match d.nw with
  | none => upsK κ d.ups
  | some ob => upd (upsK κ d.ups) m (some ob)
/-- what an operation comes to in the real world -/
structure OpPost (P : Program) (N0 : Nat) (w0 : World) (ρ : Rho) (κ : Kap) (w : World) (m : Nat) (d : Dl) (run : Result Next) (v' : Value) (w' : World) (ρ' : Rho) : Prop where
  run : run = .ok (.value v') w' ∨ (run = .ok .skip w' ∧ v' = undef)
  rel : RelK P N0 w0 ρ' (kapD κ m d) w'
  val : VR N0 ρ' d.v v'
  ext : Ext ρ ρ'
  same : ∀ z, z ≠ m → (∀ ob, (z, ob) ∉ d.ups) → ρ' z = ρ z
  newN : d.nw = none → ρ' m = ρ m
  newS : d.nw ≠ none → ∃ B O n X sz, ρ' m = some (.live B O n X sz) ∧ (w.heap.size ≤ B ∨ ∃ z ob, (z, ob) ∈ d.ups ∧ LiveAt ρ z B)
  frame : ∀ B, B < w.heap.size → w'.heap[B]? = w.heap[B]? ∨ ∃ z ob, (z, ob) ∈ d.ups ∧ LiveAt ρ z B
  size : w.heap.size ≤ w'.heap.size
  chg : ∀ z ob, (z, ob) ∈ d.ups → ρ' z = ρ z ∨ ρ' z = some .dead
def evD (P : Program) (N0 : Nat) (κ : Kap) (ts : Tm) (m : Nat) (o : Oper) : Option Dl :=
  match evP P ts o with
  | some v => some ⟨v, [], none, []⟩
  | none => match evL P N0 κ ts o with
    | some (v, rd) => some ⟨v, [], none, rd⟩
    | none => match evA P ts m o with
      | some (cs, e, v) => some ⟨v, [], some (.cells cs.toArray e (0, 0)), []⟩
      | none => evW P N0 κ ts m o
theorem post_same (R : RelK P N0 w0 ρ κ w) {m : Nat} {v v' : Value} {rd : List Nat} {run : Result Next} (hr : run = .ok (.value v') w) (hv : VR N0 ρ v v') : OpPost P N0 w0 ρ κ w m ⟨v, [], none, rd⟩ run v' w ρ :=
  ⟨.inl hr, R, hv, Ext.refl ρ, fun _ _ _ => rfl, fun _ => rfl, fun h => absurd rfl h, fun _ _ => .inl rfl, Nat.le_refl _, fun _ _ h => (by cases h)⟩
theorem post_new (R : RelK P N0 w0 ρ κ w) {m : Nat} (hm : ρ m = none) (hN : N0 ≤ m) {run : Result Next} {cs : List Value} {e : TypeId} {v : Value} (h : AOut P N0 ρ w run cs e m v) :
    ∃ v' w' ρ', OpPost P N0 w0 ρ κ w m ⟨v, [], some (.cells cs.toArray e (0, 0)), []⟩ run v' w' ρ' := by
  obtain ⟨w', C, lo, hi, X, sz, v', h1, h2, h3, h4, h5, h6, h7, h8⟩ := h
  refine ⟨v', w', upd ρ m (some (.live w.heap.size 0 cs.length X sz)), .inl h1, made_sim R hm hN h2 h3 h4 h5 h6 h7, ?_, ext_new hm, fun z hz _ => upd_ne hz, (fun h => by cases h), fun _ => ⟨w.heap.size, 0, cs.length, X, sz, upd_same, .inl (Nat.le_refl _)⟩, fun B hB => .inl (h2.block B hB), h2.size, fun _ _ h => (by cases h)⟩
  rcases h8 with ⟨rfl, rfl⟩ | ⟨l, cp, cp', rfl, rfl, h8⟩
  · exact .one (.one (.ptr ⟨rfl, rfl, .inr ⟨w.heap.size, 0, cs.length, X, sz, upd_same, rfl⟩⟩))
  · refine .one (.one (.sl ⟨rfl, rfl, .inr ⟨w.heap.size, 0, cs.length, X, sz, 0, upd_same, rfl, .inl rfl, ?_⟩⟩))
    rcases h8 with h8 | ⟨h8, h9⟩
    · exact .inl ⟨h8, rfl⟩
    · exact .inr ⟨hN, h8, by simpa using h9⟩
theorem undef_VR : VR N0 ρ undef undef := .tup (xs := []) (ys := []) .nil
/-- an append where there is room, canonically and really -/
theorem room_sim (R : RelK P N0 w0 ρ κ w) {m : Nat} {e : TypeId} {i : TypeInfo} (hi : P.info? e = some i) {A : Option Addr} {l cp n : Nat} {news news' : List Value} {rd : List Nat} {d : Dl} (hs0 : 0 < i.size)
    (h : roomE N0 κ e i.size A l cp n news rd = some d) (hn : F2 (CR N0 ρ) news news') (hnl : news.length = n * i.size) (hc : l + n ≤ cp) {s' : Value} (hs : VR N0 ρ (.slice A l cp) s') {run : Result Next}
    (hrun : ∀ base cp', s' = .slice base l cp' → l + n ≤ cp' → run = match base with
      | none => .ok (.value (.slice none (l + n) cp')) w
      | some ad => ((storeCells (ad.add (l * i.size)) news').run P w).andThen fun _ w' => .ok (.value (.slice (some ad) (l + n) cp')) w') :
    ∃ v' w' ρ', OpPost P N0 w0 ρ κ w m d run v' w' ρ' := by
  unfold roomE at h
  split at h
  · split at h
    · simp only [Option.some.injEq] at h
      subst h
      have := hs.closed_eq rfl
      subst this
      exact ⟨_, w, ρ, post_same R (hrun none cp rfl hc) (.one (.one (.nils _ _)))⟩
    · cases h
  · rename_i b of
    cases hr : rowOk N0 κ b e with
    | false => rw [hr] at h; cases h
    | true =>
      rw [hr] at h
      simp only [cond_true] at h
      split at h
      · rename_i ups hups
        simp only [Option.some.injEq] at h
        subst h
        cases hs with | one h1 => cases h1 with | one h2 => cases h2 with | sl h3 =>
        rename_i ad' cp'
        obtain ⟨hnd, _⟩ := rowOk_live R hr
        have h3' := h3
        obtain ⟨_, hsp, h4⟩ := h3
        rcases h4 with h4 | ⟨B, O, nn, X, sz, dd, h4, rfl, h6, h7⟩
        · exact absurd h4 hnd
        · have hcp : cp ≤ cp' := by rcases h7 with h7 | h7 <;> omega
          have hadd : news ≠ [] → AR ρ ⟨b, of + l * i.size, none⟩ ((⟨B, O + (of + dd), none⟩ : Addr).add (l * i.size)) := fun hne => by
            have hn0 : n ≠ 0 := fun e => by
              rw [e, Nat.zero_mul] at hnl
              exact hne (List.eq_nil_of_length_eq_zero hnl)
            have hd0 : dd = 0 := by rcases h6 with h6 | h6 <;> omega
            subst hd0
            have : AR ρ ⟨b, of, none⟩ ⟨B, O + (of + 0), none⟩ := ⟨rfl, rfl, .inr ⟨B, O, nn, X, sz, h4, rfl⟩⟩
            exact this.add _
          obtain ⟨w', g1, g2, g3, g4⟩ := put_sim R hups hadd hn
          have hr2 := hrun (some ⟨B, O + (of + dd), none⟩) cp' rfl (by omega)
          simp only [g1, Result.andThen_ok] at hr2
          refine ⟨_, w', ρ, .inl hr2, g2, ?_, Ext.refl ρ, fun _ _ _ => rfl, fun _ => rfl, fun h => absurd rfl h, g3, by omega, fun _ _ _ => .inl rfl⟩
          refine .one (.one (.sl ⟨rfl, rfl, .inr ⟨B, O, nn, X, sz, dd, h4, rfl, ?_, h7⟩⟩))
          rcases h6 with h6 | h6
          · exact .inl h6
          · exact .inr ⟨by omega, h6.2⟩
      · cases h
  · cases h
end
end Go.Proofs.Ytbonmmpdpahhfaa.Can
