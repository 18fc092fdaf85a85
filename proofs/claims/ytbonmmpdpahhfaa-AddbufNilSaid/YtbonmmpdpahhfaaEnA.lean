/- The engine, merged part A. No law, no condition. -/
import Derived.Below
import Derived.Laws.Cells
import Derived.KernelRfl
import Derived.Orders
import Derived.Laws.BytesString
import Derived.Lib.ConvBytes
import Derived.Laws.AppendOwn
import Derived.IntWalk
/- The engine, first part: canonical and real values and worlds, tied by an injection of blocks. No law, no condition. -/
namespace Go.Proofs.Ytbonmmpdpahhfaa.Can
open Go.RowKit
set_option linter.unusedVariables false
set_option linter.unusedSimpArgs false

inductive F2 {α β : Type} (R : α → β → Prop) : List α → List β → Prop
  | nil : F2 R [] []
  | cons {a : α} {b : β} {l : List α} {m : List β} (h : R a b) (t : F2 R l m) : F2 R (a :: l) (b :: m)
theorem F2.len {α β : Type} {R : α → β → Prop} : ∀ {l : List α} {m : List β}, F2 R l m → l.length = m.length
  | _, _, .nil => rfl
  | _, _, .cons _ t => by simp [t.len]
theorem F2.get {α β : Type} {R : α → β → Prop} : ∀ {l : List α} {m : List β}, F2 R l m → ∀ (j : Nat) (x : α), l[j]? = some x → ∃ y, m[j]? = some y ∧ R x y
  | _, _, .nil, j, x, h => by simp at h
  | _, _, .cons h t, 0, x, hx => by simp at hx; subst hx; exact ⟨_, rfl, h⟩
  | _, _, .cons h t, j + 1, x, hx => by simpa using t.get j x (by simpa using hx)
theorem F2.app {α β : Type} {R : α → β → Prop} : ∀ {l : List α} {m : List β} {l' : List α} {m' : List β}, F2 R l m → F2 R l' m' → F2 R (l ++ l') (m ++ m')
  | _, _, _, _, .nil, h => h
  | _, _, _, _, .cons h t, h' => .cons h (t.app h')
/-- where a canonical block lies: nowhere any more, or in block B from cell O on: n cells, X more behind them, sz cells an element -/
inductive Im where
  | dead
  | live (B O n X sz : Nat)
abbrev Rho := Nat → Option Im
def AR (ρ : Rho) (a a' : Addr) : Prop :=
  a.spot = none ∧ a'.spot = none ∧ (ρ a.block = some .dead ∨ ∃ B O n X sz, ρ a.block = some (.live B O n X sz) ∧ a' = ⟨B, O + a.off, none⟩)
/-- addresses of slices: of a slice without room the real one may lie further on -/
def SlR (N0 : Nat) (ρ : Rho) (a : Addr) (l cp : Nat) (a' : Addr) (cp' : Nat) : Prop :=
  a.spot = none ∧ a'.spot = none ∧ (ρ a.block = some .dead ∨ ∃ B O n X sz d, ρ a.block = some (.live B O n X sz) ∧ a' = ⟨B, O + (a.off + d), none⟩ ∧ (d = 0 ∨ (l = 0 ∧ cp = 0)) ∧
    ((cp' = cp ∧ d = 0) ∨ (N0 ≤ a.block ∧ cp ≤ cp' ∧ a.off + d + cp' * sz ≤ n + X)))
def ptrV (a : Addr) : Value := .pointer (some a)
/-- values of one cell -/
inductive CR (N0 : Nat) (ρ : Rho) : Value → Value → Prop
  | bool (b : Bool) : CR N0 ρ (.bool b) (.bool b)
  | int (k : IntKind) (n : Int) : CR N0 ρ (.int k n) (.int k n)
  | str (s : ByteArray) : CR N0 ρ (.string s) (.string s)
  | nilp : CR N0 ρ (.pointer none) (.pointer none)
  | ptr {a a' : Addr} (h : AR ρ a a') : CR N0 ρ (.pointer (some a)) (.pointer (some a'))
  | nils (l cp : Nat) : CR N0 ρ (.slice none l cp) (.slice none l cp)
  | sl {a a' : Addr} {l cp cp' : Nat} (h : SlR N0 ρ a l cp a' cp') : CR N0 ρ (.slice (some a) l cp) (.slice (some a') l cp')
  | nilf : CR N0 ρ .nilFunc .nilFunc
  | fn (f : FuncId) {cs cs' : List Addr} (h : F2 (AR ρ) cs cs') : CR N0 ρ (.func (.func f) #[] (cs.map ptrV).toArray) (.func (.func f) #[] (cs'.map ptrV).toArray)
inductive VR1 (N0 : Nat) (ρ : Rho) : Value → Value → Prop
  | one {v v' : Value} (h : CR N0 ρ v v') : VR1 N0 ρ v v'
  | agg {xs ys : List Value} (h : F2 (CR N0 ρ) xs ys) : VR1 N0 ρ (.agg xs.toArray) (.agg ys.toArray)
inductive VR (N0 : Nat) (ρ : Rho) : Value → Value → Prop
  | one {v v' : Value} (h : VR1 N0 ρ v v') : VR N0 ρ v v'
  | tup {xs ys : List Value} (h : F2 (VR1 N0 ρ) xs ys) : VR N0 ρ (.tuple xs.toArray) (.tuple ys.toArray)

def Ext (ρ ρ' : Rho) : Prop := ∀ b, ρ b ≠ none → ρ' b = ρ b ∨ ρ' b = some .dead
theorem Ext.refl (ρ : Rho) : Ext ρ ρ := fun _ _ => .inl rfl
theorem Ext.trans {ρ ρ1 ρ2 : Rho} (h : Ext ρ ρ1) (k : Ext ρ1 ρ2) : Ext ρ ρ2 := by
  intro b hb
  rcases h b hb with h1 | h1
  · rcases k b (by rw [h1]; exact hb) with h2 | h2
    · exact .inl (h2.trans h1)
    · exact .inr h2
  · rcases k b (by rw [h1]; simp) with h2 | h2
    · exact .inr (h2.trans h1)
    · exact .inr h2
theorem AR.mono {ρ ρ' : Rho} (e : Ext ρ ρ') {a a' : Addr} (h : AR ρ a a') : AR ρ' a a' := by
  obtain ⟨h0, h1, h2⟩ := h
  refine ⟨h0, h1, ?_⟩
  rcases h2 with h2 | ⟨B, O, n, X, sz, h2, h3⟩
  · rcases e a.block (by rw [h2]; simp) with k | k
    · exact .inl (k.trans h2)
    · exact .inl k
  · rcases e a.block (by rw [h2]; simp) with k | k
    · exact .inr ⟨B, O, n, X, sz, k.trans h2, h3⟩
    · exact .inl k
theorem SlR.mono {N0 : Nat} {ρ ρ' : Rho} (e : Ext ρ ρ') {a a' : Addr} {l cp cp' : Nat} (h : SlR N0 ρ a l cp a' cp') : SlR N0 ρ' a l cp a' cp' := by
  obtain ⟨h0, h1, h2⟩ := h
  refine ⟨h0, h1, ?_⟩
  rcases h2 with h2 | ⟨B, O, n, X, sz, d, h2, h3⟩
  · rcases e a.block (by rw [h2]; simp) with k | k
    · exact .inl (k.trans h2)
    · exact .inl k
  · rcases e a.block (by rw [h2]; simp) with k | k
    · exact .inr ⟨B, O, n, X, sz, d, k.trans h2, h3⟩
    · exact .inl k
theorem f2_imp {α β : Type} {R S : α → β → Prop} (h : ∀ a b, R a b → S a b) : ∀ {l : List α} {m : List β}, F2 R l m → F2 S l m
  | _, _, .nil => .nil
  | _, _, .cons a b => .cons (h _ _ a) (f2_imp h b)
theorem CR.mono {N0 : Nat} {ρ ρ' : Rho} (e : Ext ρ ρ') {v v' : Value} (h : CR N0 ρ v v') : CR N0 ρ' v v' := by
  cases h with
  | bool b => exact .bool b
  | int k n => exact .int k n
  | str s => exact .str s
  | nilp => exact .nilp
  | ptr h => exact .ptr (h.mono e)
  | nils l c => exact .nils l c
  | sl h => exact .sl (h.mono e)
  | nilf => exact .nilf
  | fn f h => exact .fn f (f2_imp (fun _ _ k => k.mono e) h)
theorem VR1.mono {N0 : Nat} {ρ ρ' : Rho} (e : Ext ρ ρ') {v v' : Value} (h : VR1 N0 ρ v v') : VR1 N0 ρ' v v' := by
  cases h with
  | one h => exact .one (h.mono e)
  | agg h => exact .agg (f2_imp (fun _ _ k => k.mono e) h)
theorem VR.mono {N0 : Nat} {ρ ρ' : Rho} (e : Ext ρ ρ') {v v' : Value} (h : VR N0 ρ v v') : VR N0 ρ' v v' := by
  cases h with
  | one h => exact .one (h.mono e)
  | tup h => exact .tup (f2_imp (fun _ _ k => k.mono e) h)

/-- a value of one cell without an address -/
def flat : Value → Bool
  | .bool _ | .int _ _ | .string _ | .pointer none | .slice none _ _ | .nilFunc => true
  | _ => false
def closed : Value → Bool
  | .agg cs => cs.toList.all flat
  | v => flat v
theorem CR.of_flat {N0 : Nat} {ρ : Rho} {v : Value} (h : flat v = true) : CR N0 ρ v v := by
  unfold flat at h
  split at h <;> first | constructor | cases h
theorem CR.flat_eq {N0 : Nat} {ρ : Rho} {v v' : Value} (h : CR N0 ρ v v') (hf : flat v = true) : v' = v := by
  cases h <;> first | rfl | simp [flat] at hf
theorem f2_flat {N0 : Nat} {ρ : Rho} : ∀ {xs ys : List Value}, F2 (CR N0 ρ) xs ys → xs.all flat = true → ys = xs
  | _, _, .nil, _ => rfl
  | _, _, .cons a b, h => by
    simp only [List.all_cons, Bool.and_eq_true] at h
    rw [a.flat_eq h.1, f2_flat b h.2]
theorem f2_of_flat {N0 : Nat} {ρ : Rho} : ∀ {xs : List Value}, xs.all flat = true → F2 (CR N0 ρ) xs xs
  | [], _ => .nil
  | x :: xs, h => by
    simp only [List.all_cons, Bool.and_eq_true] at h
    exact .cons (.of_flat h.1) (f2_of_flat h.2)
theorem VR1.of_closed {N0 : Nat} {ρ : Rho} {v : Value} (h : closed v = true) : VR1 N0 ρ v v := by
  cases v <;> first | exact .one (.of_flat h) | (rename_i cs; exact .agg (xs := cs.toList) (ys := cs.toList) (f2_of_flat h))
theorem VR1.closed_eq {N0 : Nat} {ρ : Rho} {v v' : Value} (h : VR1 N0 ρ v v') (hc : closed v = true) : v' = v := by
  cases h with
  | one h =>
    refine h.flat_eq ?_
    cases h <;> first | rfl | simp [closed, flat] at hc
  | agg h => rw [f2_flat h (by simpa [closed] using hc)]
theorem VR.closed_eq {N0 : Nat} {ρ : Rho} {v v' : Value} (h : VR N0 ρ v v') (hc : closed v = true) : v' = v := by
  cases h with
  | one h => exact h.closed_eq hc
  | tup h => simp [closed, flat] at hc
theorem CR.oneCell {N0 : Nat} {ρ : Rho} {v v' : Value} (h : CR N0 ρ v v') : v.oneCell' = true ∧ v'.oneCell' = true := by cases h <;> exact ⟨rfl, rfl⟩
theorem CR.cells {N0 : Nat} {ρ : Rho} {v v' : Value} (h : CR N0 ρ v v') : v.cells = #[v] ∧ v'.cells = #[v'] := by cases h <;> exact ⟨rfl, rfl⟩
theorem VR1.cells {N0 : Nat} {ρ : Rho} {v v' : Value} (h : VR1 N0 ρ v v') : F2 (CR N0 ρ) v.cells.toList v'.cells.toList := by
  cases h with
  | one h => rw [h.cells.1, h.cells.2]; exact .cons h .nil
  | agg h => exact h

/-! ### worlds -/
abbrev Kap := Nat → Option Obj
def ImOk (P : Program) (N0 : Nat) (ρ : Rho) (κ : Kap) (w : World) (b B O n X sz : Nat) : Prop :=
  N0 ≤ B ∧ ∃ (cs : Array Value) (e k : Nat) (C : Array Value) (e' lo hi : Nat), κ b = some (.cells cs e (k, 0)) ∧ cs.size = n ∧ (P.info? e).map (fun i => i.size) = some sz ∧
    w.heap[B]? = some (.cells C e' (lo, hi)) ∧ O + n + X ≤ C.size ∧ (lo = hi ∨ O + n + X ≤ lo) ∧ ∀ (j : Nat) (v : Value), cs[j]? = some v → ∃ v', C[O + j]? = some v' ∧ CR N0 ρ v v'
theorem fz_no {lo hi O n X : Nat} (h : lo = hi ∨ O + n + X ≤ lo) (j : Nat) (hj : j < n + X) : ¬ (lo ≤ O + j ∧ O + j < hi) := by omega
structure RelK (P : Program) (N0 : Nat) (w0 : World) (ρ : Rho) (κ : Kap) (w : World) : Prop where
  n0 : N0 = w0.heap.size
  wb : Below N0 w0 w
  kb : ∀ b, b < N0 → κ b = w0.heap[b]?
  old : ∀ b, b < N0 → ρ b = some (.live b 0 0 0 0)
  new : ∀ b B O n X sz, N0 ≤ b → ρ b = some (.live B O n X sz) → ImOk P N0 ρ κ w b B O n X sz
  dead : ∀ b, ρ b = some .dead → ∃ e k, κ b = some (.cells #[] e (k, 1))
  inj : ∀ b b' B O n X sz O' n' X' sz', N0 ≤ b → N0 ≤ b' → ρ b = some (.live B O n X sz) → ρ b' = some (.live B O' n' X' sz') → b = b'
def Kof (c : World) : Kap := fun b => c.heap[b]?
structure Rel (P : Program) (N0 : Nat) (w0 : World) (ρ : Rho) (c w : World) : Prop where
  k : RelK P N0 w0 ρ (Kof c) w
  dom : ∀ b, ρ b ≠ none → b < c.heap.size
  cz : N0 ≤ c.heap.size
theorem RelK.wz {P : Program} {N0 : Nat} {w0 : World} {ρ : Rho} {κ : Kap} {w : World} (h : RelK P N0 w0 ρ κ w) : N0 ≤ w.heap.size := by have := h.wb.size; have := h.n0; omega
theorem ImOk.lt {P : Program} {N0 : Nat} {ρ : Rho} {κ : Kap} {w : World} {b B O n X sz : Nat} (h : ImOk P N0 ρ κ w b B O n X sz) : B < w.heap.size := by
  obtain ⟨_, _, _, _, _, _, _, _, _, _, _, h, _⟩ := h
  exact (Array.getElem?_eq_some_iff.1 h).1

def cellK (κ : Kap) (a : Addr) : Option Value := match κ a.block with
  | some (.cells c _ _) => if a.spot.isSome then none else c[a.off]?
  | _ => none
theorem cellK_of (c : World) (a : Addr) : cellK (Kof c) a = c.cell? a := rfl
/-- an old value that old blocks hold -/
def okL (N0 b : Nat) (v : Value) : Bool := flat v || Nat.ble N0 b || (match v with
  | .pointer (some a) => a.spot.isNone && Nat.blt a.block N0
  | .slice (some a) _ _ => a.spot.isNone && Nat.blt a.block N0
  | _ => false)
theorem CR.of_old {P : Program} {N0 : Nat} {w0 : World} {ρ : Rho} {κ : Kap} {w : World} (R : RelK P N0 w0 ρ κ w) {b : Nat} {v : Value} (hb : b < N0) (h : okL N0 b v = true) : CR N0 ρ v v := by
  have hnb : Nat.ble N0 b = false := by
    cases hq : Nat.ble N0 b with
    | false => rfl
    | true => have := Nat.le_of_ble_eq_true hq; omega
  unfold okL at h
  by_cases hf : flat v = true
  · exact .of_flat hf
  · simp only [Bool.or_eq_true, hnb, hf, Bool.false_eq_true, false_or, or_false] at h
    split at h
    · rename_i a
      simp only [Bool.and_eq_true, Option.isNone_iff_eq_none, Nat.blt_eq] at h
      refine .ptr ⟨h.1, h.1, .inr ⟨a.block, 0, 0, 0, 0, R.old _ h.2, ?_⟩⟩
      obtain ⟨x, y, z⟩ := a
      obtain ⟨h1, h2⟩ := h
      subst h1
      simp
    · rename_i a l cp
      simp only [Bool.and_eq_true, Option.isNone_iff_eq_none, Nat.blt_eq] at h
      refine .sl ⟨h.1, h.1, .inr ⟨a.block, 0, 0, 0, 0, 0, R.old _ h.2, ?_, .inl rfl, .inl ⟨rfl, rfl⟩⟩⟩
      obtain ⟨x, y, z⟩ := a
      obtain ⟨h1, h2⟩ := h
      subst h1
      simp
    · cases h
theorem cell_sim {P : Program} {N0 : Nat} {w0 : World} {ρ : Rho} {κ : Kap} {w : World} (R : RelK P N0 w0 ρ κ w) {b o : Nat} {a' : Addr} {v : Value} (ha : AR ρ ⟨b, o, none⟩ a') (hc : cellK κ ⟨b, o, none⟩ = some v) (hk : okL N0 b v = true) :
    ∃ v', w.cell? a' = some v' ∧ CR N0 ρ v v' := by
  obtain ⟨_, h1, h2⟩ := ha
  rcases h2 with h2 | ⟨B, O, n, X, sz, h2, rfl⟩
  · obtain ⟨e, k, hd⟩ := R.dead _ h2
    simp only [] at hd
    simp [cellK, hd] at hc
  · simp only [] at h2
    by_cases hb : b < N0
    · have h3 := R.old b hb
      rw [h2] at h3
      simp only [Option.some.injEq, Im.live.injEq] at h3
      obtain ⟨rfl, rfl, rfl, rfl, rfl⟩ := h3
      refine ⟨v, ?_, CR.of_old R hb hk⟩
      have h4 := R.kb _ hb
      simp only [cellK, h4] at hc
      have h5 := R.wb.block _ hb
      simp only [World.cell?, h5, Nat.zero_add]
      revert hc
      cases w0.heap[B]? with
      | none => intro hc; cases hc
      | some x => cases x <;> intro hc <;> first | exact hc | cases hc
    · obtain ⟨_, cs, e, k, C, e', lo, hi, q1, q2, q3, q4, q5, q6, q7⟩ := R.new b B O n X sz (by omega) h2
      simp only [cellK, q1] at hc
      obtain ⟨v', r1, r2⟩ := q7 o v (by simpa using hc)
      exact ⟨v', by simp only [World.cell?, q4]; simpa using r1, r2⟩
end Go.Proofs.Ytbonmmpdpahhfaa.Can

/- The engine, second part: cells read, written, made, in canonical and real worlds at once. No law, no condition. -/
namespace Go.Proofs.Ytbonmmpdpahhfaa.Can
open Go.RowKit
set_option linter.unusedVariables false
set_option linter.unusedSimpArgs false

theorem add_eq {a : Addr} (h : a.spot = none) (j : Nat) : a.add j = ⟨a.block, a.off + j, none⟩ := by
  obtain ⟨x, y, z⟩ := a
  simp only at h
  subst h
  unfold Addr.add
  split
  · rename_i h; subst h; rfl
  · rfl
theorem AR.add {ρ : Rho} {b o : Nat} {a' : Addr} (h : AR ρ ⟨b, o, none⟩ a') (j : Nat) : AR ρ ⟨b, o + j, none⟩ (a'.add j) := by
  obtain ⟨h0, h1, h2⟩ := h
  rw [add_eq h1]
  refine ⟨rfl, rfl, ?_⟩
  rcases h2 with h2 | ⟨B, O, n, X, sz, h2, rfl⟩
  · exact .inl h2
  · exact .inr ⟨B, O, n, X, sz, h2, by simp [Nat.add_assoc]⟩
theorem add_add' {a : Addr} (h : a.spot = none) (i j : Nat) : (a.add i).add j = a.add (i + j) := by
  rw [add_eq h, add_eq h, add_eq rfl]
  simp [Nat.add_assoc]
/-- n cells of block b from o on -/
def ldK (N0 : Nat) (κ : Kap) (b : Nat) : Nat → Nat → Option (List Value)
  | 0, _ => some []
  | n + 1, o => match cellK κ ⟨b, o, none⟩ with
    | some v => bif okL N0 b v then (match ldK N0 κ b n (o + 1) with | some l => some (v :: l) | none => none) else none
    | none => none
theorem ldK_sim {P : Program} {N0 : Nat} {w0 : World} {ρ : Rho} {κ : Kap} {w : World} (R : RelK P N0 w0 ρ κ w) {b : Nat} : ∀ (n o : Nat) (a' : Addr) (L : List Value), AR ρ ⟨b, o, none⟩ a' → ldK N0 κ b n o = some L →
    ∃ L', F2 (CR N0 ρ) L L' ∧ L.length = n ∧ ∀ (j : Nat) (v : Value), L'[j]? = some v → w.cell? (a'.add j) = some v
  | 0, o, a', L, ha, h => by
    simp only [ldK, Option.some.injEq] at h
    subst h
    exact ⟨[], .nil, rfl, fun j v h => by simp at h⟩
  | n + 1, o, a', L, ha, h => by
    simp only [ldK] at h
    split at h
    · rename_i v hv
      cases hk : okL N0 b v with
      | false => rw [hk] at h; cases h
      | true =>
        rw [hk] at h
        simp only [cond_true] at h
        split at h
        · rename_i l hl
          simp only [Option.some.injEq] at h
          subst h
          obtain ⟨v', h1, h2⟩ := cell_sim R ha hv hk
          obtain ⟨L', h3, h4, h5⟩ := ldK_sim R n (o + 1) (a'.add 1) l (ha.add 1) hl
          refine ⟨v' :: L', .cons h2 h3, by simp [h4], fun j u hj => ?_⟩
          cases j with
          | zero =>
            simp only [List.getElem?_cons_zero, Option.some.injEq] at hj
            subst hj
            rw [add_eq ha.2.1]
            have : (⟨a'.block, a'.off + 0, none⟩ : Addr) = a' := by
              have := ha.2.1
              obtain ⟨x, y, z⟩ := a'
              simp only at this
              subst this
              rfl
            rw [this]
            exact h1
          | succ j =>
            have := h5 j u (by simpa using hj)
            rw [add_add' ha.2.1] at this
            rw [Nat.add_comm j 1]
            exact this
        · cases h
    · cases h
theorem run_ldK {P : Program} {w : World} {a' : Addr} {L' : List Value} (h : ∀ (j : Nat) (v : Value), L'[j]? = some v → w.cell? (a'.add j) = some v) : (loadCells a' L'.length).run P w = .ok L'.toArray w := run_loadCells_list (P := P) w a' L' h

/-! ### written -/
def splice (cs : Array Value) : Nat → List Value → Array Value
  | _, [] => cs
  | o, v :: vs => splice (cs.setIfInBounds o v) (o + 1) vs
theorem splice_size : ∀ (vs : List Value) (cs : Array Value) (o : Nat), (splice cs o vs).size = cs.size
  | [], cs, o => rfl
  | v :: vs, cs, o => by rw [splice, splice_size vs]; simp
theorem splice_get : ∀ (vs : List Value) (cs : Array Value) (o j : Nat), o + vs.length ≤ cs.size → (splice cs o vs)[j]? = if o ≤ j ∧ j < o + vs.length then vs[j - o]? else cs[j]?
  | [], cs, o, j, h => by rw [splice, if_neg (by rw [List.length_nil]; omega)]
  | v :: vs, cs, o, j, h => by
    simp only [List.length_cons] at h
    rw [splice, splice_get vs _ _ _ (by simp; omega)]
    simp only [List.length_cons]
    by_cases hj : j = o
    · subst hj
      rw [if_neg (by omega), if_pos (by omega)]
      have : j < cs.size := by omega
      simp [this]
    · by_cases h1 : o ≤ j ∧ j < o + (vs.length + 1)
      · rw [if_pos (by omega), if_pos h1]
        obtain ⟨d, rfl⟩ : ∃ d, j = o + 1 + d := ⟨j - (o + 1), by omega⟩
        rw [show o + 1 + d - (o + 1) = d by omega, show o + 1 + d - o = d + 1 by omega]
        rfl
      · rw [if_neg (by omega), if_neg h1]
        simp [Ne.symm hj]
theorem run_storeCells (P : Program) : ∀ (vs : List Value) (w : World) (B o i : Nat) (C : Array Value) (e lo hi : Nat), w.heap[B]? = some (.cells C e (lo, hi)) → o + i + vs.length ≤ C.size →
    (∀ j, j < vs.length → ¬ (lo ≤ o + i + j ∧ o + i + j < hi)) → (∀ v ∈ vs, v.oneCell' = true) →
    ∃ w', (storeCells ⟨B, o, none⟩ vs i).run P w = .ok () w' ∧ w'.heap[B]? = some (.cells (splice C (o + i) vs) e (lo, hi)) ∧ (∀ B', B' ≠ B → w'.heap[B']? = w.heap[B']?) ∧ w'.heap.size = w.heap.size ∧ w'.os = w.os ∧ w'.tape = w.tape ∧ w'.output = w.output
  | [], w, B, o, i, C, e, lo, hi, h, _, _, _ => ⟨w, rfl, h, fun _ _ => rfl, rfl, rfl, rfl, rfl⟩
  | v :: vs, w, B, o, i, C, e, lo, hi, h, hs, hf, h1 => by
    simp only [List.length_cons] at hs hf
    have ha : (⟨B, o, none⟩ : Addr).add i = ⟨B, o + i, none⟩ := add_eq rfl i
    have hc : w.cell? ⟨B, o + i, none⟩ = some C[o + i] := by
      simp only [World.cell?, h]
      simp
    have hfr : w.frozen? ⟨B, o + i, none⟩ = false := by
      simp only [World.frozen?, h]
      have := hf 0 (by omega)
      simp only [Nat.add_zero] at this
      simpa using this
    have hh : (w.setCell ⟨B, o + i, none⟩ v).heap[B]? = some (.cells (C.setIfInBounds (o + i) v) e (lo, hi)) := by
      simp [World.setCell, Array.getElem?_modify, h]
    obtain ⟨w', r1, r2, r3, r4, r5, r6, r7⟩ := run_storeCells P vs (w.setCell ⟨B, o + i, none⟩ v) B o (i + 1) (C.setIfInBounds (o + i) v) e lo hi hh (by simp; omega)
      (fun j hj => by have := hf (j + 1) (by omega); rwa [show o + i + (j + 1) = o + (i + 1) + j by omega] at this) (fun u hu => h1 u (by simp [hu]))
    refine ⟨w', ?_, ?_, ?_, ?_, r5, r6, r7⟩
    · simp only [storeCells, Sem.run_bind, ha]
      rw [run_store P w _ v .plain (h1 v (by simp)), hc, hfr]
      simpa using r1
    · rw [r2]
      rfl
    · intro B' hB'
      rw [r3 B' hB']
      exact Below.heap_setCell w _ _ _ hB'
    · rw [r4]
      simp [World.setCell]
def upd {β : Type} (f : Nat → β) (x : Nat) (y : β) : Nat → β := fun z => if z = x then y else f z
theorem upd_same {β : Type} {f : Nat → β} {x : Nat} {y : β} : upd f x y x = y := if_pos rfl
theorem upd_ne {β : Type} {f : Nat → β} {x z : Nat} {y : β} (h : z ≠ x) : upd f x y z = f z := if_neg h
theorem kof_alloc (c : World) (o : Obj) : Kof (c.alloc o) = upd (Kof c) c.heap.size (some o) := by
  funext z
  unfold Kof upd World.alloc
  simp only [Array.getElem?_push]
theorem kof_set (c : World) (b : Nat) (o : Obj) (h : b < c.heap.size) : Kof { c with heap := c.heap.setIfInBounds b o } = upd (Kof c) b (some o) := by
  funext z
  unfold Kof upd
  simp only [Array.getElem?_setIfInBounds]
  by_cases hz : b = z
  · subst hz; simp [h]
  · simp [hz, Ne.symm hz]
section
variable {P : Program} {N0 : Nat} {w0 : World} {ρ : Rho} {κ : Kap} {w : World}
theorem f2_get {R : Value → Value → Prop} {vs vs' : List Value} (h : F2 R vs vs') {j : Nat} {v : Value} (hv : vs[j]? = some v) : ∃ v', vs'[j]? = some v' ∧ R v v' := h.get j v hv
/-- a store -/
theorem wr_sim (R : RelK P N0 w0 ρ κ w) {b o : Nat} {cs : Array Value} {e k : Nat} {vs vs' : List Value} {a' : Addr} (hb : N0 ≤ b) (hk : κ b = some (.cells cs e (k, 0))) (hs : o + vs.length ≤ cs.size)
    (ha : AR ρ ⟨b, o, none⟩ a') (hv : F2 (CR N0 ρ) vs vs') :
    ∃ w', (storeCells a' vs').run P w = .ok () w' ∧ RelK P N0 w0 ρ (upd κ b (some (.cells (splice cs o vs) e (k + 1, 0)))) w' ∧ (∀ B, B < w.heap.size → w'.heap[B]? = w.heap[B]? ∨ ∃ O n X sz, ρ b = some (.live B O n X sz)) ∧ w'.heap.size = w.heap.size := by
  obtain ⟨h0, h1, h2⟩ := ha
  rcases h2 with h2 | ⟨B, O, n, X, sz, h2, rfl⟩
  · obtain ⟨e', k', hd⟩ := R.dead _ h2
    simp only at hd
    rw [hk] at hd
    simp at hd
  · simp only at h2
    obtain ⟨q0, cs', e1, k1, C, e', lo, hi, q1, q2, q3, q4, q5, q6, q7⟩ := R.new b B O n X sz hb h2
    rw [hk] at q1
    simp only [Option.some.injEq, Obj.cells.injEq, Prod.mk.injEq] at q1
    obtain ⟨rfl, rfl, rfl, -⟩ := q1
    have hl := hv.len
    obtain ⟨w', r1, r2, r3, r4, r5, r6, r7⟩ := run_storeCells P vs' w B (O + o) 0 C e' lo hi q4 (by omega) (fun j hj => by have := fz_no q6 (o + j) (by omega); rwa [show O + o + 0 + j = O + (o + j) by omega]) (fun u hu => by
      obtain ⟨j, hj, rfl⟩ := List.mem_iff_getElem.1 hu
      obtain ⟨x, hx, hr⟩ : ∃ x, vs[j]? = some x ∧ CR N0 ρ x vs'[j] := by
        have hj' : j < vs.length := by omega
        obtain ⟨y, h1, h2⟩ := hv.get j vs[j] (by simp [hj'])
        refine ⟨vs[j], by simp [hj'], ?_⟩
        have : y = vs'[j] := by simpa [hj] using h1.symm
        exact this ▸ h2
      exact hr.oneCell.2)
    refine ⟨w', r1, ?_, ?_, r4⟩
    · refine ⟨R.n0, ⟨r5.trans R.wb.os, r6.trans R.wb.tape, r7.trans R.wb.output, by rw [r4]; exact R.wb.size, fun z hz => (r3 z (by omega)).trans (R.wb.block z hz)⟩, fun z hz => (upd_ne (by omega)).trans (R.kb z hz), R.old, ?_, ?_, R.inj⟩
      · intro z B' O' n' X' sz' hz hz'
        by_cases hzb : z = b
        · subst hzb
          rw [h2] at hz'
          simp only [Option.some.injEq, Im.live.injEq] at hz'
          obtain ⟨rfl, rfl, rfl, rfl, rfl⟩ := hz'
          refine ⟨q0, splice cs o vs, e, k + 1, splice C (O + o + 0) vs', e', lo, hi, upd_same, by rw [splice_size]; exact q2, q3, r2, by rw [splice_size]; exact q5, q6, ?_⟩
          intro j v hj
          rw [splice_get _ _ _ _ hs] at hj
          rw [splice_get _ _ _ _ (by omega)]
          by_cases hc : o ≤ j ∧ j < o + vs.length
          · rw [if_pos hc] at hj
            rw [if_pos (by omega), show O + j - (O + o + 0) = j - o by omega]
            exact hv.get _ _ hj
          · rw [if_neg hc] at hj
            rw [if_neg (by omega)]
            exact q7 j v hj
        · obtain ⟨p0, cs2, e2, k2, C2, e2', lo2, hi2, p1, p2, p3, p4, p5⟩ := R.new z B' O' n' X' sz' hz hz'
          have hB : B' ≠ B := fun he => hzb (R.inj z b B' O' n' X' sz' O n X sz hz hb hz' (he ▸ h2))
          exact ⟨p0, cs2, e2, k2, C2, e2', lo2, hi2, by rw [upd_ne hzb]; exact p1, p2, p3, by rw [r3 _ hB]; exact p4, p5⟩
      · intro z hz
        obtain ⟨e3, k3, h3⟩ := R.dead z hz
        have : z ≠ b := fun he => by subst he; rw [hk] at h3; simp at h3
        exact ⟨e3, k3, by rw [upd_ne this]; exact h3⟩
    · intro B' hB'
      by_cases he : B' = B
      · subst he; exact .inr ⟨O, n, X, sz, h2⟩
      · exact .inl (r3 B' he)
theorem ext_new {m : Nat} {i : Im} (h : ρ m = none) : Ext ρ (upd ρ m (some i)) := by
  intro b hb
  by_cases hbm : b = m
  · subst hbm; exact absurd h hb
  · exact .inl (upd_ne hbm)
theorem ext_dead {b : Nat} : Ext ρ (upd ρ b (some .dead)) := by
  intro z hz
  by_cases h : z = b
  · subst h; exact .inr upd_same
  · exact .inl (upd_ne h)
theorem ImOk.mono {ρ' : Rho} {w' : World} {κ' : Kap} {b B O n X sz : Nat} (h : ImOk P N0 ρ κ w b B O n X sz) (e : Ext ρ ρ') (hk : κ' b = κ b) (hw : w'.heap[B]? = w.heap[B]?) : ImOk P N0 ρ' κ' w' b B O n X sz := by
  obtain ⟨p0, cs, e2, k2, C2, e2', lo2, hi2, p1, p2, p3, p4, p5, p6, p7⟩ := h
  exact ⟨p0, cs, e2, k2, C2, e2', lo2, hi2, hk.trans p1, p2, p3, hw.trans p4, p5, p6, fun j v hj => by obtain ⟨v', h1, h2⟩ := p7 j v hj; exact ⟨v', h1, h2.mono e⟩⟩
/-- a new block -/
theorem new_sim (R : RelK P N0 w0 ρ κ w) {m B O n X sz : Nat} (hm : ρ m = none) (hN : N0 ≤ m) {w' : World} (hw : Below w.heap.size w w') (hB : w.heap.size ≤ B) {cs : Array Value} {e k : Nat}
    (h : ImOk P N0 (upd ρ m (some (.live B O n X sz))) (upd κ m (some (.cells cs e (k, 0)))) w' m B O n X sz) :
    RelK P N0 w0 (upd ρ m (some (.live B O n X sz))) (upd κ m (some (.cells cs e (k, 0)))) w' := by
  have hwz := R.wz
  have hext : Ext ρ (upd ρ m (some (.live B O n X sz))) := ext_new hm
  refine ⟨R.n0, R.wb.trans (hw.mono hwz), fun z hz => (upd_ne (by omega)).trans (R.kb z hz), fun z hz => (upd_ne (by omega)).trans (R.old z hz), ?_, ?_, ?_⟩
  · intro z B' O' n' X' sz' hz hz'
    by_cases hzm : z = m
    · subst hzm
      rw [upd_same] at hz'
      simp only [Option.some.injEq, Im.live.injEq] at hz'
      obtain ⟨rfl, rfl, rfl, rfl, rfl⟩ := hz'
      exact h
    · rw [upd_ne hzm] at hz'
      have h1 := R.new z B' O' n' X' sz' hz hz'
      exact h1.mono hext (upd_ne hzm) (hw.block B' h1.lt)
  · intro z hz
    by_cases hzm : z = m
    · subst hzm; rw [upd_same] at hz; simp at hz
    · rw [upd_ne hzm] at hz
      obtain ⟨e3, k3, h3⟩ := R.dead z hz
      exact ⟨e3, k3, (upd_ne hzm).trans h3⟩
  · intro b b' B' O1 n1 X1 s1 O2 n2 X2 s2 hb hb' h1 h2
    by_cases e1 : b = m
    · by_cases e2 : b' = m
      · rw [e1, e2]
      · subst e1
        rw [upd_same] at h1
        simp only [Option.some.injEq, Im.live.injEq] at h1
        rw [upd_ne e2] at h2
        have := (R.new b' _ _ _ _ _ hb' h2).lt
        omega
    · by_cases e2 : b' = m
      · subst e2
        rw [upd_same] at h2
        simp only [Option.some.injEq, Im.live.injEq] at h2
        rw [upd_ne e1] at h1
        have := (R.new b _ _ _ _ _ hb h1).lt
        omega
      · rw [upd_ne e1] at h1
        rw [upd_ne e2] at h2
        exact R.inj b b' B' O1 n1 X1 s1 O2 n2 X2 s2 hb hb' h1 h2
/-- a block that is not used any more -/
theorem kill_sim (R : RelK P N0 w0 ρ κ w) {b : Nat} (hb : N0 ≤ b) {e k : Nat} :
    RelK P N0 w0 (upd ρ b (some .dead)) (upd κ b (some (.cells #[] e (k, 1)))) w := by
  refine ⟨R.n0, R.wb, fun z hz => (upd_ne (by omega)).trans (R.kb z hz), fun z hz => (upd_ne (by omega)).trans (R.old z hz), ?_, ?_, ?_⟩
  · intro z B' O' n' X' sz' hz hz'
    by_cases h : z = b
    · subst h; rw [upd_same] at hz'; simp at hz'
    · rw [upd_ne h] at hz'
      exact (R.new z B' O' n' X' sz' hz hz').mono ext_dead (upd_ne h) rfl
  · intro z hz
    by_cases h : z = b
    · subst h; exact ⟨e, k, upd_same⟩
    · rw [upd_ne h] at hz
      obtain ⟨e3, k3, h3⟩ := R.dead z hz
      exact ⟨e3, k3, (upd_ne h).trans h3⟩
  · intro z z' B' O1 n1 X1 s1 O2 n2 X2 s2 hz hz' h1 h2
    by_cases h : z = b
    · subst h; rw [upd_same] at h1; simp at h1
    · by_cases h' : z' = b
      · subst h'; rw [upd_same] at h2; simp at h2
      · rw [upd_ne h] at h1
        rw [upd_ne h'] at h2
        exact R.inj z z' B' O1 n1 X1 s1 O2 n2 X2 s2 hz hz' h1 h2
/-- a draw, or whatever else leaves the heap as it is -/
theorem RelK.same (R : RelK P N0 w0 ρ κ w) {w' : World} (hw : Below w.heap.size w w') : RelK P N0 w0 ρ κ w' :=
  ⟨R.n0, R.wb.trans (hw.mono R.wz), R.kb, R.old, fun b B O n X sz hb h => by have h1 := R.new b B O n X sz hb h; exact h1.mono (Ext.refl ρ) rfl (hw.block B h1.lt), R.dead, R.inj⟩
end
end Go.Proofs.Ytbonmmpdpahhfaa.Can

/- The engine, third part: operations that read no memory. No law, no condition. -/
namespace Go.Proofs.Ytbonmmpdpahhfaa.Can
open Go.RowKit
set_option linter.unusedVariables false
set_option linter.unusedSimpArgs false

/-- what asks nothing of the world -/
def runP (P : Program) {α : Type} : Sem α → Option α
  | .pure a => some a
  | .program k => runP P (k P)
  | .mark _ k => runP P k
  | _ => none
theorem runP_run {P : Program} {α : Type} : ∀ (s : Sem α) (a : α), runP P s = some a → ∀ w, s.run P w = .ok a w := by
  intro s
  induction s with
  | pure a => intro b h w; simp only [runP, Option.some.injEq] at h; subst h; rfl
  | program k ih => intro b h w; simp only [runP] at h; simp only [Sem.run]; exact ih P b h w
  | mark m k ih => intro b h w; simp only [runP] at h; simp only [Sem.run]; exact ih b h w
  | _ => intro b h; simp [runP] at h

def unk : Value := .tuple #[.tuple #[]]
abbrev Tm := List (Nat × Value)
def tget : Tm → Nat → Value
  | [], _ => unk
  | (k, v) :: r, t => bif Nat.beq k t then v else tget r t
def known : Value → Bool
  | .tuple cs => match cs.toList with | [_] => false | _ => true
  | _ => true
def opd (ts : Tm) : Operand → Option Value
  | .tmp t => bif known (tget ts t) then some (tget ts t) else none
  | .const v => bif closed v then some v else none
  | .func f => some (.func (.func f) #[] #[])
  | .global _ => none
def TR (N0 : Nat) (ρ : Rho) (ts : Tm) (tmps : Array Value) : Prop := ∀ t, known (tget ts t) = true → VR N0 ρ (tget ts t) (tmps.getD t undef)
theorem TR.mono {N0 : Nat} {ρ ρ' : Rho} {ts : Tm} {tmps : Array Value} (h : TR N0 ρ ts tmps) (e : Ext ρ ρ') : TR N0 ρ' ts tmps := fun t ht => (h t ht).mono e
theorem opd_sim {N0 : Nat} {ρ : Rho} {ts : Tm} {a : Act} (T : TR N0 ρ ts a.tmps) {x : Operand} {v : Value} (h : opd ts x = some v) : VR N0 ρ v (a.eval x) := by
  cases x with
  | tmp t =>
    simp only [opd] at h
    cases hk : known (tget ts t) with
    | false => rw [hk] at h; cases h
    | true =>
      rw [hk] at h
      simp only [cond_true, Option.some.injEq] at h
      subst h
      exact T t hk
  | const u =>
    simp only [opd] at h
    cases hk : closed u with
    | false => rw [hk] at h; cases h
    | true =>
      rw [hk] at h
      simp only [cond_true, Option.some.injEq] at h
      subst h
      exact .one (VR1.of_closed hk)
  | func f =>
    simp only [opd, Option.some.injEq] at h
    subst h
    exact .one (.one (.fn f (cs := []) (cs' := []) .nil))
  | global g => cases h
theorem opd_closed {N0 : Nat} {ρ : Rho} {ts : Tm} {a : Act} (T : TR N0 ρ ts a.tmps) {x : Operand} {v : Value} (h : opd ts x = some v) (hc : closed v = true) : a.eval x = v := (opd_sim T h).closed_eq hc
section
variable {P : Program} {N0 : Nat} {ρ : Rho} {ts : Tm} {a : Act} {o : Oper} {w : World}
theorem opd_ptr (T : TR N0 ρ ts a.tmps) {x : Operand} {ad : Addr} (h : opd ts x = some (.pointer (some ad))) : ∃ ad', a.eval x = .pointer (some ad') ∧ AR ρ ad ad' := by
  have := opd_sim T h
  generalize a.eval x = y at this ⊢
  cases this with
  | one h1 => cases h1 with | one h2 => cases h2 with | ptr h3 => exact ⟨_, rfl, h3⟩
theorem opd_int (T : TR N0 ρ ts a.tmps) {x : Operand} {k : IntKind} {n : Int} (h : opd ts x = some (.int k n)) : a.eval x = .int k n := opd_closed T h rfl
theorem opd_bool (T : TR N0 ρ ts a.tmps) {x : Operand} {b : Bool} (h : opd ts x = some (.bool b)) : a.eval x = .bool b := opd_closed T h rfl
theorem opd_str (T : TR N0 ρ ts a.tmps) {x : Operand} {s : ByteArray} (h : opd ts x = some (.string s)) : a.eval x = .string s := opd_closed T h rfl
theorem opd_slice (T : TR N0 ρ ts a.tmps) {x : Operand} {A : Option Addr} {l cp : Nat} (h : opd ts x = some (.slice A l cp)) :
    (A = none ∧ a.eval x = .slice none l cp) ∨ ∃ ad ad' cp', A = some ad ∧ a.eval x = .slice (some ad') l cp' ∧ SlR N0 ρ ad l cp ad' cp' := by
  have := opd_sim T h
  generalize a.eval x = y at this ⊢
  cases this with
  | one h1 => cases h1 with | one h2 => cases h2 with
    | nils l cp => exact .inl ⟨rfl, rfl⟩
    | sl h3 => exact .inr ⟨_, _, _, rfl, rfl, h3⟩
theorem opd_agg (T : TR N0 ρ ts a.tmps) {x : Operand} {cs : Array Value} (h : opd ts x = some (.agg cs)) : ∃ ds : List Value, a.eval x = .agg ds.toArray ∧ F2 (CR N0 ρ) cs.toList ds := by
  have := opd_sim T h
  generalize a.eval x = y at this ⊢
  cases this with
  | one h1 => cases h1 with
    | one h2 => cases h2
    | agg h2 => exact ⟨_, rfl, h2⟩
theorem opd_one (T : TR N0 ρ ts a.tmps) {x : Operand} {v : Value} (h : opd ts x = some v) (hn : ∀ cs, v ≠ .tuple cs) : VR1 N0 ρ v (a.eval x) := by
  have := opd_sim T h
  generalize a.eval x = y at this ⊢
  cases this with
  | one h1 => exact h1
  | tup h1 => exact absurd rfl (hn _)

def isAggD : TypeDesc → Bool
  | .struct _ | .array _ _ => true
  | _ => false
def partE (P : Program) (t : TypeId) (cs : List Value) (off : Nat) : Option Value :=
  match P.info? t, P.underlying t with
  | some i, some d => bif isAggD d then some (.agg ((cs.drop off).take i.size).toArray) else cs[off]?
  | _, _ => none
theorem F2.drop {α β : Type} {R : α → β → Prop} : ∀ {l : List α} {m : List β} (n : Nat), F2 R l m → F2 R (l.drop n) (m.drop n)
  | _, _, 0, h => h
  | _, _, n + 1, .nil => .nil
  | _, _, n + 1, .cons _ t => t.drop n
theorem F2.take {α β : Type} {R : α → β → Prop} : ∀ {l : List α} {m : List β} (n : Nat), F2 R l m → F2 R (l.take n) (m.take n)
  | _, _, 0, h => .nil
  | _, _, n + 1, .nil => .nil
  | _, _, n + 1, .cons h t => .cons h (t.take n)
theorem isAgg_run {t : TypeId} {d : TypeDesc} (h : P.underlying t = some d) (w : World) : (isAgg t).run P w = .ok (isAggD d) w := by
  unfold isAgg
  rw [Sem.run_bind, run_underlying h w]
  cases d <;> rfl
theorem sizeOf_run {t : TypeId} {i : TypeInfo} (h : P.info? t = some i) (w : World) : (sizeOf t).run P w = .ok i.size w := by
  simp [sizeOf, typeInfo, Sem.run_bind, h]
theorem part_sim {t : TypeId} {xs ys : List Value} {off : Nat} {v : Value} (hf : F2 (CR N0 ρ) xs ys) (h : partE P t xs off = some v) (w : World) : ∃ v', (part t ys.toArray off).run P w = .ok v' w ∧ VR1 N0 ρ v v' := by
  unfold partE at h
  split at h
  · rename_i i d hi hd
    cases hb : isAggD d with
    | true =>
      rw [hb] at h
      simp only [cond_true, Option.some.injEq] at h
      subst h
      refine ⟨.agg ((ys.drop off).take i.size).toArray, ?_, .agg ((hf.drop off).take i.size)⟩
      unfold part
      rw [Sem.run_bind, isAgg_run hd w, hb]
      simp only [Result.andThen_ok, if_true, Sem.run_bind, sizeOf_run hi w, Sem.run_pure]
      congr 2
      apply Array.ext'
      simp
    | false =>
      rw [hb] at h
      simp only [cond_false] at h
      obtain ⟨v', h1, h2⟩ := hf.get off v h
      refine ⟨v', ?_, .one h2⟩
      unfold part
      rw [Sem.run_bind, isAgg_run hd w, hb]
      simp [h1]
  · cases h

/-! ### the operations, one by one -/
def nilEq (P : Program) (op : BinOp) (t : TypeId) (x y : Value) : Option Bool :=
  match P.underlying t, x, y with
  | some (.pointer _), .pointer (some _), .pointer none | some (.slice _), .slice (some _) _ _, .slice none _ _ | some (.func _ _ _), .func _ _ _, .nilFunc =>
    match op with | .eql => some false | .neq => some true | _ => none
  | _, _, _ => none
theorem eqIn_ptr (d : Nat) {t e : TypeId} (hu : P.underlying t = some (.pointer e)) (p : Addr) (w : World) : (Op.equalIn (d + 1) t (.pointer (some p)) (.pointer none)).run P w = .ok false w := by
  simp only [Op.equalIn, Sem.run_bind, run_underlying hu, Result.andThen_ok, Sem.run_pure]
theorem eqIn_sl (d : Nat) {t e : TypeId} (hu : P.underlying t = some (.slice e)) (p : Addr) (l c l2 c2 : Nat) (w : World) : (Op.equalIn (d + 1) t (.slice (some p) l c) (.slice none l2 c2)).run P w = .ok false w := by
  simp only [Op.equalIn, Sem.run_bind, run_underlying hu, Result.andThen_ok, Sem.run_pure]
theorem eqIn_fn (d : Nat) {t : TypeId} {ps rs : Array TypeId} {b : Bool} (hu : P.underlying t = some (.func ps rs b)) (f : Fn) (x y : Array Value) (w : World) : (Op.equalIn (d + 1) t (.func f x y) .nilFunc).run P w = .ok false w := by
  simp only [Op.equalIn, Sem.run_bind, run_underlying hu, Result.andThen_ok, Sem.run_pure]
theorem eq_end {t : TypeId} {op : BinOp} {x y : Value} {b : Bool} (hop : (match op with | .eql => some false | .neq => some true | _ => none) = some b) (hq : ∀ w, (Op.equalIn (9999 + 1) t x y).run P w = .ok false w)
    (hb1 : binOp .eql t x y = (do pure (.bool (← Op.equal t x y)))) (hb2 : binOp .neq t x y = (do pure (.bool (!(← Op.equal t x y))))) (ox oy : Operand)
    (hg : ∀ op' w, (eqGuard op' t ox oy x y).run P w = .ok () w) (w : World) :
    (do eqGuard op t ox oy x y; binOp op t x y : Sem Value).run P w = .ok (.bool b) w := by
  have he : ∀ w, (Op.equal t x y).run P w = .ok false w := hq
  rw [Sem.run_bind, hg, Result.andThen_ok]
  cases op <;> simp only [reduceCtorEq, Option.some.injEq] at hop <;> subst hop
  · rw [hb1]
    simp [he]
  · rw [hb2]
    simp [he]
theorem equalIn_nil {t : TypeId} {op : BinOp} {x y x' y' : Value} {b : Bool} (h : nilEq P op t x y = some b) (hx : VR N0 ρ x x') (hy : VR N0 ρ y y') (ox oy : Operand) (w : World) :
    (do eqGuard op t ox oy x' y'; binOp op t x' y' : Sem Value).run P w = .ok (.bool b) w := by
  unfold nilEq at h
  split at h
  · rename_i e p hu
    have h2 := hy.closed_eq rfl
    subst h2
    cases hx with | one h1 => cases h1 with | one h2 => cases h2 with | ptr h3 =>
    exact eq_end h (fun w => eqIn_ptr 9999 hu _ w) rfl rfl ox oy (fun op' w => by cases op' <;> rfl) w
  · rename_i e p l c l2 c2 hu
    have h2 := hy.closed_eq rfl
    subst h2
    cases hx with | one h1 => cases h1 with | one h2 => cases h2 with | sl h3 =>
    exact eq_end h (fun w => eqIn_sl 9999 hu _ _ _ _ _ w) rfl rfl ox oy (fun op' w => by cases op' <;> rfl) w
  · rename_i hu
    have h2 := hy.closed_eq rfl
    subst h2
    cases hx with | one h1 => cases h1 with | one h2 => cases h2 with | fn f h3 =>
    exact eq_end h (fun w => eqIn_fn 9999 hu _ _ _ w) rfl rfl ox oy (fun op' w => by cases op' <;> rfl) w
  · cases h
end
end Go.Proofs.Ytbonmmpdpahhfaa.Can

/- The engine, fourth part: structs built, fields and elements taken; all pure operations. No law, no condition. -/
namespace Go.Proofs.Ytbonmmpdpahhfaa.Can
open Go.RowKit
set_option linter.unusedVariables false
set_option linter.unusedSimpArgs false

def ptrs (ts : Tm) : List Operand → Option (List Addr)
  | [] => some []
  | x :: xs => match opd ts x with
    | some (.pointer (some a)) => (match ptrs ts xs with | some l => some (a :: l) | none => none)
    | _ => none
def isTup : Value → Bool
  | .tuple _ => true
  | _ => false
def pvals (ts : Tm) : List (Nat × Operand) → Option (List (Nat × Value))
  | [] => some []
  | (i, x) :: r => match opd ts x with
    | some v => bif isTup v then none else (match pvals ts r with | some l => some ((i, v) :: l) | none => none)
    | none => none
def placesE (P : Program) (t : TypeId) : Option (Array Value × (Nat → Option (Nat × Nat))) :=
  match P.info? t, P.underlying t with
  | some i, some (.struct fields) => match i.zero, runP P (fields.mapM fun f => (do pure (f.offset, ← sizeOf f.type) : Sem (Nat × Nat))) with
    | some z, some places => bif z.cells.toList.all flat then some (z.cells, fun j => places[j]?) else none
    | _, _ => none
  | some i, some (.array _ elem) => match i.zero, P.info? elem with
    | some z, some ie => bif z.cells.toList.all flat then some (z.cells, fun j => some (j * ie.size, ie.size)) else none
    | _, _ => none
  | _, _ => none
section
variable {P : Program} {N0 : Nat} {ρ : Rho} {ts : Tm} {a : Act} {o : Oper} {w : World}
theorem ptrs_sim (T : TR N0 ρ ts a.tmps) : ∀ (xs : List Operand) (l : List Addr), ptrs ts xs = some l → ∃ l' : List Addr, xs.map a.eval = l'.map ptrV ∧ F2 (AR ρ) l l'
  | [], l, h => by simp only [ptrs, Option.some.injEq] at h; subst h; exact ⟨[], rfl, .nil⟩
  | x :: xs, l, h => by
    simp only [ptrs] at h
    split at h
    · rename_i ad hx
      split at h
      · rename_i l1 hl
        simp only [Option.some.injEq] at h
        subst h
        obtain ⟨ad', h1, h2⟩ := opd_ptr T hx
        obtain ⟨l', h3, h4⟩ := ptrs_sim T xs l1 hl
        exact ⟨ad' :: l', by simp [h1, h3, ptrV], .cons h2 h4⟩
      · cases h
    · cases h
def PR (N0 : Nat) (ρ : Rho) (p q : Nat × Value) : Prop := p.1 = q.1 ∧ VR1 N0 ρ p.2 q.2
theorem pvals_sim (T : TR N0 ρ ts a.tmps) : ∀ (xs : List (Nat × Operand)) (l : List (Nat × Value)), pvals ts xs = some l → F2 (PR N0 ρ) l (xs.map fun (i, x) => (i, a.eval x))
  | [], l, h => by simp only [pvals, Option.some.injEq] at h; subst h; exact .nil
  | (i, x) :: xs, l, h => by
    simp only [pvals] at h
    split at h
    · rename_i v hx
      cases hb : isTup v with
      | true => rw [hb] at h; cases h
      | false =>
        rw [hb] at h
        simp only [cond_false] at h
        split at h
        · rename_i l1 hl
          simp only [Option.some.injEq] at h
          subst h
          exact .cons ⟨rfl, opd_one T hx (fun cs hc => by subst hc; cases hb)⟩ (pvals_sim T xs l1 hl)
        · cases h
    · cases h
theorem F2.set {α β : Type} {R : α → β → Prop} : ∀ {l : List α} {m : List β} (i : Nat) {x : α} {y : β}, F2 R l m → R x y → F2 R (l.set i x) (m.set i y)
  | _, _, _, _, _, .nil, _ => .nil
  | _, _, 0, _, _, .cons _ t, h => .cons h t
  | _, _, i + 1, _, _, .cons k t, h => .cons k (t.set i h)
theorem fold_sim {R : Value → Value → Prop} (off : Nat) : ∀ {vs vs' : List Value} (k : Nat) {cs cs' : Array Value}, F2 R vs vs' → F2 R cs.toList cs'.toList →
    F2 R ((vs.zipIdx k).foldl (fun cs (x : Value × Nat) => cs.setIfInBounds (off + x.2) x.1) cs).toList ((vs'.zipIdx k).foldl (fun cs (x : Value × Nat) => cs.setIfInBounds (off + x.2) x.1) cs').toList
  | _, _, k, cs, cs', .nil, h => h
  | _, _, k, cs, cs', .cons h t, hc => by
    simp only [List.zipIdx_cons, List.foldl_cons]
    refine fold_sim off (k + 1) t ?_
    simp only [Array.toList_setIfInBounds]
    exact hc.set _ h
theorem fill_sim (pl : Nat → Option (Nat × Nat)) : ∀ {ps qs : List (Nat × Value)} {cs cs' r : Array Value}, F2 (PR N0 ρ) ps qs → F2 (CR N0 ρ) cs.toList cs'.toList → Instr.fill pl cs ps = some r →
    ∃ r', Instr.fill pl cs' qs = some r' ∧ F2 (CR N0 ρ) r.toList r'.toList
  | _, _, cs, cs', r, .nil, hc, h => by
    simp only [Instr.fill, Option.some.injEq] at h
    subst h
    exact ⟨cs', rfl, hc⟩
  | _, _, cs, cs', r, .cons (a := p) (b := q) (l := ps) (m := qs) hp t, hc, h => by
    obtain ⟨i, v⟩ := p
    obtain ⟨j, u⟩ := q
    obtain ⟨h1, h2⟩ := hp
    simp only at h1 h2
    subst h1
    simp only [Instr.fill] at h ⊢
    have hvc := h2.cells
    have hs : v.cells.size = u.cells.size := by have := hvc.len; simpa using this
    have hs2 : cs.size = cs'.size := by have := hc.len; simpa using this
    cases hpl : pl i with
    | none => rw [hpl] at h; cases h
    | some os =>
      obtain ⟨off, size⟩ := os
      rw [hpl] at h
      simp only at h ⊢
      rw [← hs, ← hs2]
      split at h
      · cases h
      · rename_i hn
        rw [if_neg hn]
        refine fill_sim pl t ?_ h
        rw [← Array.foldl_toList, ← Array.foldl_toList, Array.toList_zipIdx, Array.toList_zipIdx]
        exact fold_sim off 0 hvc hc
theorem build_sim {t : TypeId} {ps qs : List (Nat × Value)} {z r : Array Value} {pl : Nat → Option (Nat × Nat)} (hp : placesE P t = some (z, pl)) (hf : F2 (PR N0 ρ) ps qs) (h : Instr.fill pl z ps = some r) (w : World) :
    ∃ r' : List Value, (Instr.build t qs.toArray).run P w = .ok (.agg r'.toArray) w ∧ F2 (CR N0 ρ) r.toList r' := by
  unfold placesE at hp
  split at hp
  · rename_i i fields hi hd
    split at hp
    · rename_i z0 places hz hpl
      cases hfl : z0.cells.toList.all flat with
      | false => rw [hfl] at hp; cases hp
      | true =>
        rw [hfl] at hp
        simp only [cond_true, Option.some.injEq, Prod.mk.injEq] at hp
        obtain ⟨rfl, rfl⟩ := hp
        obtain ⟨r', h1, h2⟩ := fill_sim _ hf (f2_of_flat hfl) h
        refine ⟨r'.toList, ?_, h2⟩
        have hzr : (zeroValue t).run P w = .ok z0 w := by simp [zeroValue, typeInfo, Sem.run_bind, hi, hz]
        have hmr := runP_run _ _ hpl w
        unfold Instr.build
        simp only [Sem.run_bind, hzr, Result.andThen_ok, run_underlying hd]
        simp only [Sem.run_bind, hmr, Result.andThen_ok, h1]
        rfl
    · cases hp
  · rename_i i n elem hi hd
    split at hp
    · rename_i z0 ie hz hie
      cases hfl : z0.cells.toList.all flat with
      | false => rw [hfl] at hp; cases hp
      | true =>
        rw [hfl] at hp
        simp only [cond_true, Option.some.injEq, Prod.mk.injEq] at hp
        obtain ⟨rfl, rfl⟩ := hp
        obtain ⟨r', h1, h2⟩ := fill_sim _ hf (f2_of_flat hfl) h
        refine ⟨r'.toList, ?_, h2⟩
        have hzr : (zeroValue t).run P w = .ok z0 w := by simp [zeroValue, typeInfo, Sem.run_bind, hi, hz]
        unfold Instr.build
        simp only [Sem.run_bind, hzr, Result.andThen_ok, run_underlying hd, sizeOf_run hie, h1]
        rfl
    · cases hp
  · cases hp

/-- fields and elements of a struct or an array that is a value -/
def fieldE (P : Program) (t : TypeId) (cs : List Value) (f : Nat) : Option Value :=
  match P.underlying t with
  | some (.struct fields) => match fields[f]? with
    | some fd => partE P fd.type cs fd.offset
    | none => none
  | _ => none
theorem field_sim {t : TypeId} {xs ys : List Value} {f : Nat} {v : Value} (hf : F2 (CR N0 ρ) xs ys) (h : fieldE P t xs f = some v) (w : World) : ∃ v', (Instr.field t (.agg ys.toArray) f).run P w = .ok v' w ∧ VR1 N0 ρ v v' := by
  unfold fieldE at h
  split at h
  · rename_i fields hd
    split at h
    · rename_i fd hfd
      obtain ⟨v', h1, h2⟩ := part_sim hf h w
      refine ⟨v', ?_, h2⟩
      unfold Instr.field
      simp only [Sem.run_bind, run_underlying hd, Result.andThen_ok, hfd, asAgg, Sem.run_pure, h1]
    · cases h
  · cases h
def indexE (P : Program) (t : TypeId) (cs : List Value) (i : Int) : Option Value :=
  match P.underlying t with
  | some (.array n e) => match P.info? e with
    | some ie => bif decide (0 ≤ i) && decide (i < n) then partE P e cs (i.toNat * ie.size) else none
    | none => none
  | _ => none
theorem index_sim {t : TypeId} {xs ys : List Value} {i : Int} {k : IntKind} {v : Value} (hf : F2 (CR N0 ρ) xs ys) (h : indexE P t xs i = some v) (w : World) : ∃ v', (Instr.index t (.agg ys.toArray) (.int k i)).run P w = .ok v' w ∧ VR1 N0 ρ v v' := by
  unfold indexE at h
  split at h
  · rename_i n e hd
    split at h
    · rename_i ie hie
      cases hb : (decide (0 ≤ i) && decide (i < n)) with
      | false => rw [hb] at h; cases h
      | true =>
        rw [hb] at h
        simp only [cond_true] at h
        simp only [Bool.and_eq_true, decide_eq_true_eq] at hb
        obtain ⟨v', h1, h2⟩ := part_sim hf h w
        refine ⟨v', ?_, h2⟩
        unfold Instr.index
        simp only [asIntOf, Sem.run_bind, Sem.run_pure, run_underlying hd, Result.andThen_ok, Sem.run_ite]
        rw [if_pos hb]
        simp only [Sem.run_bind, sizeOf_run hie, Result.andThen_ok, h1]
    · cases h
  · cases h
/-- addresses of fields and elements -/
def fieldAddrE (P : Program) (t : TypeId) (b o f : Nat) : Option Value :=
  match P.underlying t with
  | some (.struct fields) => match fields[f]? with
    | some fd => match P.info? fd.type with
      | some i => bif Nat.beq i.size 0 then none else some (.pointer (some ⟨b, o + fd.offset, none⟩))
      | none => none
    | none => none
  | _ => none
theorem fieldAddr_sim {t : TypeId} {b o f : Nat} {ad' : Addr} {v : Value} (ha : AR ρ ⟨b, o, none⟩ ad') (h : fieldAddrE P t b o f = some v) (w : World) : ∃ v', (Instr.fieldAt t (.pointer (some ad')) f).run P w = .ok v' w ∧ CR N0 ρ v v' := by
  unfold fieldAddrE at h
  split at h
  · rename_i fields hd
    split at h
    · rename_i fd hfd
      split at h
      · rename_i i hi
        cases hb : Nat.beq i.size 0 with
        | true => rw [hb] at h; cases h
        | false =>
          rw [hb] at h
          simp only [cond_false, Option.some.injEq] at h
          subst h
          refine ⟨.pointer (some (ad'.add fd.offset)), ?_, .ptr (ha.add _)⟩
          have hne : i.size ≠ 0 := fun e => by rw [e] at hb; cases hb
          unfold Instr.fieldAt fieldPlace
          simp only [Sem.run_bind, run_underlying hd, Result.andThen_ok, hfd, Instr.sureAddr, Sem.run_pure, sizeOf_run hi, Sem.run_ite, if_neg hne]
      · cases h
    · cases h
  · cases h
def indexAddrE (P : Program) (t : TypeId) (x : Value) (i : Int) : Option Value :=
  match P.underlying t, x with
  | some (.array n e), .pointer (some ⟨b, o, none⟩) => match P.info? e with
    | some ie => bif decide (0 ≤ i) && decide (i < n) then some (.pointer (some ⟨b, o + i.toNat * ie.size, none⟩)) else none
    | none => none
  | some (.slice e), .slice (some ⟨b, o, none⟩) l _ => match P.info? e with
    | some ie => bif decide (0 ≤ i) && decide (i < l) then some (.pointer (some ⟨b, o + i.toNat * ie.size, none⟩)) else none
    | none => none
  | _, _ => none
theorem SlR.ar {b o l cp cp' : Nat} {a' : Addr} (h : SlR N0 ρ ⟨b, o, none⟩ l cp a' cp') (hl : l ≠ 0) : AR ρ ⟨b, o, none⟩ a' := by
  obtain ⟨h0, h1, h2⟩ := h
  refine ⟨h0, h1, ?_⟩
  rcases h2 with h2 | ⟨B, O, n, X, sz, d, h2, h3, h4, h5⟩
  · exact .inl h2
  · have hd : d = 0 := by rcases h4 with h4 | h4; exact h4; exact absurd h4.1 hl
    subst hd
    exact .inr ⟨B, O, n, X, sz, h2, h3⟩
theorem indexAddr_sim {t : TypeId} {x x' : Value} {i : Int} {k : IntKind} {v : Value} (hx : VR N0 ρ x x') (h : indexAddrE P t x i = some v) (w : World) : ∃ v', (Instr.indexAt t x' (.int k i)).run P w = .ok v' w ∧ CR N0 ρ v v' := by
  unfold indexAddrE at h
  split at h
  · rename_i n e b o hd
    split at h
    · rename_i ie hie
      cases hb : (decide (0 ≤ i) && decide (i < n)) with
      | false => rw [hb] at h; cases h
      | true =>
        rw [hb] at h
        simp only [cond_true, Option.some.injEq] at h
        simp only [Bool.and_eq_true, decide_eq_true_eq] at hb
        subst h
        cases hx with | one h1 => cases h1 with | one h2 => cases h2 with | ptr h3 =>
        rename_i ad'
        refine ⟨.pointer (some (ad'.add (i.toNat * ie.size))), ?_, .ptr (h3.add _)⟩
        unfold Instr.indexAt
        simp only [asIntOf, Sem.run_bind, Sem.run_pure, run_underlying hd, Result.andThen_ok, Instr.sureAddr, Sem.run_ite]
        rw [if_pos hb]
        simp only [Sem.run_bind, sizeOf_run hie, Result.andThen_ok, Sem.run_pure]
    · cases h
  · rename_i e b o l cp hd
    split at h
    · rename_i ie hie
      cases hb : (decide (0 ≤ i) && decide (i < l)) with
      | false => rw [hb] at h; cases h
      | true =>
        rw [hb] at h
        simp only [cond_true, Option.some.injEq] at h
        simp only [Bool.and_eq_true, decide_eq_true_eq] at hb
        subst h
        cases hx with | one h1 => cases h1 with | one h2 => cases h2 with | sl h3 =>
        rename_i ad' cp'
        refine ⟨.pointer (some (ad'.add (i.toNat * ie.size))), ?_, .ptr ((h3.ar (by omega)).add _)⟩
        unfold Instr.indexAt
        simp only [asIntOf, Sem.run_bind, Sem.run_pure, run_underlying hd, Result.andThen_ok, Sem.run_ite]
        rw [if_pos hb]
        simp only [Sem.run_bind, sizeOf_run hie, Result.andThen_ok, Sem.run_pure]
    · cases h
  · cases h
end
end Go.Proofs.Ytbonmmpdpahhfaa.Can

/- The engine, fifth part: all pure operations in one. No law, no condition. -/
namespace Go.Proofs.Ytbonmmpdpahhfaa.Can
open Go.RowKit
set_option linter.unusedVariables false
set_option linter.unusedSimpArgs false

def clo (ts : Tm) (x : Operand) : Bool := match opd ts x with
  | some v => closed v
  | none => false
def runC (P : Program) (ts : Tm) (o : Oper) : Option Value :=
  bif o.op.operands.toList.all (clo ts) then (match runP P (execOp (fun x => (opd ts x).getD unk) o) with
    | some (.value v) => bif closed v then some v else none
    | _ => none) else none
def lenE (P : Program) (t : TypeId) (l : Nat) : Option Value := match P.underlying t with
  | some (.slice _) => some (.int .i64 l)
  | _ => none
def evP (P : Program) (ts : Tm) (o : Oper) : Option Value :=
  match o.op with
  | .move x => opd ts x
  | .assign x => opd ts x
  | .pick c x y => match opd ts c with
    | some (.bool t) => bif t then opd ts x else opd ts y
    | _ => none
  | .nilCheck x => match opd ts x with
    | some (.pointer (some ad)) => some (.pointer (some ad))
    | some (.func (.func f) p q) => some (.func (.func f) p q)
    | _ => none
  | .binOp op t x y _ => match opd ts x, opd ts y with
    | some u, some v => match nilEq P op t u v with
      | some b => some (.bool b)
      | none => runC P ts o
    | _, _ => none
  | .unOp _ _ _ => runC P ts o
  | .convert _ _ _ => runC P ts o
  | .makeFunc (.func f) first captured => match first.toList with
    | [] => match ptrs ts captured.toList with
      | some cs => some (.func (.func f) #[] (cs.map ptrV).toArray)
      | none => none
    | _ => none
  | .extract x i => match opd ts x with
    | some (.tuple vs) => vs.toList[i]?
    | _ => none
  | .field t x f => match opd ts x with
    | some (.agg cs) => fieldE P t cs.toList f
    | _ => none
  | .index t x i => match opd ts x, opd ts i with
    | some (.agg cs), some (.int _ n) => indexE P t cs.toList n
    | _, _ => runC P ts o
  | .build t parts => match placesE P t, pvals ts parts.toList with
    | some (z, pl), some ps => match Instr.fill pl z ps with
      | some r => some (.agg r)
      | none => none
    | _, _ => none
  | .fieldAddr t x f => match opd ts x with
    | some (.pointer (some ⟨b, o, none⟩)) => fieldAddrE P t b o f
    | _ => none
  | .indexAddr t x i => match opd ts x, opd ts i with
    | some v, some (.int _ n) => indexAddrE P t v n
    | _, _ => none
  | .slice _ _ _ _ none => runC P ts o
  | .call c => match c.callee, c.args.toList, c.argTypes.toList with
    | .builtin .len, [x], [t] => match opd ts x with
      | some (.slice _ l _) => lenE P t l
      | _ => runC P ts o
    | .builtin .min, _, _ => runC P ts o
    | .builtin .max, _, _ => runC P ts o
    | _, _, _ => none
  | _ => none
section
variable {P : Program} {N0 : Nat} {ρ : Rho} {ts : Tm} {a : Act} {o : Oper}
theorem runC_sim (T : TR N0 ρ ts a.tmps) {v : Value} (hs : ∀ cs b, o.op ≠ .select cs b) (h : runC P ts o = some v) (w : World) : ∃ v', (execOp a.eval o).run P w = .ok (.value v') w ∧ VR N0 ρ v v' := by
  unfold runC at h
  cases hb : o.op.operands.toList.all (clo ts) with
  | false => rw [hb] at h; cases h
  | true =>
    rw [hb] at h
    simp only [cond_true] at h
    split at h
    · rename_i u hu
      cases hc : closed u with
      | false => rw [hc] at h; cases h
      | true =>
        rw [hc] at h
        simp only [cond_true, Option.some.injEq] at h
        subst h
        refine ⟨u, ?_, .one (VR1.of_closed hc)⟩
        rw [← execOp_congr (ρ := fun x => (opd ts x).getD unk) (ρ' := a.eval) o hs]
        · exact runP_run _ _ hu w
        · intro x hx
          have hk := List.all_eq_true.1 hb x (by simpa using hx)
          unfold clo at hk
          split at hk
          · rename_i y hy
            rw [hy, opd_closed T hy hk]
            rfl
          · cases hk
    · cases h
theorem opd_tup (T : TR N0 ρ ts a.tmps) {x : Operand} {vs : Array Value} (h : opd ts x = some (.tuple vs)) : ∃ ds : List Value, a.eval x = .tuple ds.toArray ∧ F2 (VR1 N0 ρ) vs.toList ds := by
  have := opd_sim T h
  generalize a.eval x = y at this ⊢
  cases this with
  | one h1 => cases h1 with | one h2 => cases h2
  | tup h1 => exact ⟨_, rfl, h1⟩
theorem evP_sim (T : TR N0 ρ ts a.tmps) {v : Value} (h : evP P ts o = some v) (w : World) : ∃ v', (execOp a.eval o).run P w = .ok (.value v') w ∧ VR N0 ρ v v' := by
  unfold evP at h
  split at h
  · rename_i x hop
    refine ⟨a.eval x, ?_, opd_sim T h⟩
    unfold execOp; rw [hop]; rfl
  · rename_i x hop
    refine ⟨a.eval x, ?_, opd_sim T h⟩
    unfold execOp; rw [hop]; rfl
  · rename_i c x y hop
    split at h
    · rename_i t hc
      have hcv := opd_bool T hc
      cases t with
      | true =>
        refine ⟨a.eval x, ?_, opd_sim T h⟩
        unfold execOp; rw [hop]
        simp [hcv, asBool]
      | false =>
        refine ⟨a.eval y, ?_, opd_sim T h⟩
        unfold execOp; rw [hop]
        simp [hcv, asBool]
    · cases h
  · rename_i x hop
    split at h
    · rename_i ad hx
      simp only [Option.some.injEq] at h
      subst h
      obtain ⟨ad', h1, h2⟩ := opd_ptr T hx
      refine ⟨a.eval x, ?_, opd_sim T hx⟩
      unfold execOp; rw [hop]; simp only [h1]; rfl
    · rename_i f p q hx
      simp only [Option.some.injEq] at h
      subst h
      have h1 := opd_sim T hx
      refine ⟨a.eval x, ?_, h1⟩
      generalize hy : a.eval x = y at h1 ⊢
      cases h1 with | one h1 => cases h1 with | one h2 => cases h2 with | fn f h3 =>
      unfold execOp; rw [hop]; simp only [hy]; rfl
    · cases h
  · rename_i op t x y ty hop
    split at h
    · rename_i u v1 hx hy
      split at h
      · rename_i b hn
        simp only [Option.some.injEq] at h
        subst h
        refine ⟨.bool b, ?_, .one (.one (.bool b))⟩
        have := equalIn_nil hn (opd_sim T hx) (opd_sim T hy) x y w
        unfold execOp; rw [hop]
        simp only [Sem.run_bind] at this ⊢
        simp only [this, Result.andThen_ok, Sem.run_pure]
      · exact runC_sim T (by intro cs b; rw [hop]; simp) h w
    · cases h
  · rename_i hop
    exact runC_sim T (by intro cs b; rw [hop]; simp) h w
  · rename_i hop
    exact runC_sim T (by intro cs b; rw [hop]; simp) h w
  · rename_i f first captured hop
    split at h
    · rename_i hfi
      split at h
      · rename_i cs hcs
        simp only [Option.some.injEq] at h
        subst h
        obtain ⟨cs', h1, h2⟩ := ptrs_sim T _ _ hcs
        refine ⟨.func (.func f) #[] (cs'.map ptrV).toArray, ?_, .one (.one (.fn f h2))⟩
        have e1 : first.map a.eval = #[] := by
          have : first = #[] := by simpa using hfi
          simp [this]
        have e2 : captured.map a.eval = (cs'.map ptrV).toArray := by
          apply Array.ext'
          simpa using h1
        unfold execOp; rw [hop]
        simp only [e1, e2, Instr.makeFunc, Sem.run_bind, Sem.run_pure, Result.andThen_ok]
      · cases h
    · cases h
  · rename_i x i hop
    split at h
    · rename_i vs hx
      obtain ⟨ds, h1, h2⟩ := opd_tup T hx
      obtain ⟨v', h3, h4⟩ := h2.get i v h
      refine ⟨v', ?_, .one h4⟩
      unfold execOp; rw [hop]
      simp [h1, Instr.extract, h3]
    · cases h
  · rename_i t x f hop
    split at h
    · rename_i cs hx
      obtain ⟨ds, h1, h2⟩ := opd_agg T hx
      obtain ⟨v', h3, h4⟩ := field_sim h2 h w
      refine ⟨v', ?_, .one h4⟩
      unfold execOp; rw [hop]
      simp only [h1, Sem.run_bind, h3, Result.andThen_ok, Sem.run_pure]
    · cases h
  · rename_i t x i hop
    split at h
    · rename_i cs k n hx hi
      obtain ⟨ds, h1, h2⟩ := opd_agg T hx
      obtain ⟨v', h3, h4⟩ := index_sim (k := k) h2 h w
      refine ⟨v', ?_, .one h4⟩
      unfold execOp; rw [hop]
      simp only [h1, opd_int T hi, Sem.run_bind, h3, Result.andThen_ok, Sem.run_pure]
    · exact runC_sim T (by intro cs b; rw [hop]; simp) h w
  · rename_i t parts hop
    split at h
    · rename_i z pl ps hp hps
      split at h
      · rename_i r hr
        simp only [Option.some.injEq] at h
        subst h
        obtain ⟨r', h1, h2⟩ := build_sim hp (pvals_sim T _ _ hps) hr w
        refine ⟨.agg r'.toArray, ?_, .one (.agg (xs := r.toList) h2)⟩
        have e1 : (parts.map fun (x : Nat × Operand) => (x.1, a.eval x.2)) = (parts.toList.map fun (x : Nat × Operand) => (x.1, a.eval x.2)).toArray := by
          apply Array.ext'
          simp
        unfold execOp; rw [hop]
        simp only [e1]
        simp only [Sem.run_bind, h1, Result.andThen_ok, Sem.run_pure]
      · cases h
    · cases h
  · rename_i t x f hop
    split at h
    · rename_i b of hx
      obtain ⟨ad', h1, h2⟩ := opd_ptr T hx
      obtain ⟨v', h3, h4⟩ := fieldAddr_sim h2 h w
      refine ⟨v', ?_, .one (.one h4)⟩
      unfold execOp; rw [hop]
      simp only [h1, Sem.run_bind, h3, Result.andThen_ok, Sem.run_pure]
    · cases h
  · rename_i t x i hop
    split at h
    · rename_i u k n hx hi
      obtain ⟨v', h3, h4⟩ := indexAddr_sim (k := k) (opd_sim T hx) h w
      refine ⟨v', ?_, .one (.one h4)⟩
      unfold execOp; rw [hop]
      simp only [opd_int T hi, Sem.run_bind, h3, Result.andThen_ok, Sem.run_pure]
    · cases h
  · rename_i hop
    exact runC_sim T (by intro cs b; rw [hop]; simp) h w
  · rename_i c hop
    split at h
    · rename_i x t hcal hargs htys
      split at h
      · rename_i A l cp hx
        unfold lenE at h
        split at h
        · rename_i e hd
          simp only [Option.some.injEq] at h
          subst h
          refine ⟨.int .i64 l, ?_, .one (.one (.int _ _))⟩
          have e1 : c.args = #[x] := Array.ext' hargs
          have e2 : c.argTypes = #[t] := Array.ext' htys
          have h1 : ∃ A' cp', a.eval x = .slice A' l cp' := by
            rcases opd_slice T hx with ⟨_, h1⟩ | ⟨_, _, _, _, h1, _⟩ <;> exact ⟨_, _, h1⟩
          obtain ⟨A', cp', h1⟩ := h1
          unfold execOp; rw [hop]
          simp [resolve, hcal, e1, e2, h1, invoke, builtin, Builtin.len_, run_underlying hd, goInt]
        · cases h
      · exact runC_sim T (by intro cs b; rw [hop]; simp) h w
    · exact runC_sim T (by intro cs b; rw [hop]; simp) h w
    · exact runC_sim T (by intro cs b; rw [hop]; simp) h w
    · cases h
  · cases h
end
end Go.Proofs.Ytbonmmpdpahhfaa.Can

/- The engine, sixth part: operations that read memory; operations that make a block. No law, no condition. -/
namespace Go.Proofs.Ytbonmmpdpahhfaa.Can
open Go.RowKit
set_option linter.unusedVariables false
set_option linter.unusedSimpArgs false

def u8s : List Value → Option (List Int)
  | [] => some []
  | .int .u8 n :: r => match u8s r with
    | some l => some (n :: l)
    | none => none
  | _ => none
theorem u8s_eq : ∀ {L : List Value} {ns : List Int}, u8s L = some ns → L = ns.map (Value.int .u8)
  | [], ns, h => by simp only [u8s, Option.some.injEq] at h; subst h; rfl
  | v :: r, ns, h => by
    unfold u8s at h
    split at h
    · rename_i hq; cases hq
    · rename_i n r' hq
      simp only [List.cons.injEq] at hq
      obtain ⟨rfl, rfl⟩ := hq
      split at h
      · rename_i l hl
        simp only [Option.some.injEq] at h
        subst h
        rw [u8s_eq hl]
        rfl
      · cases h
    · cases h
def strOf (ns : List Int) : ByteArray := ns.foldl (fun r n => r.push (UInt8.ofNat n.toNat)) ByteArray.empty
def loadE (P : Program) (N0 : Nat) (κ : Kap) (t : TypeId) (b o : Nat) : Option Value :=
  match P.underlying t with
  | some d => bif isAggD d then (match P.info? t with
      | some i => match ldK N0 κ b i.size o with
        | some L => some (.agg L.toArray)
        | none => none
      | none => none)
    else match cellK κ ⟨b, o, none⟩ with
      | some v => bif okL N0 b v then some v else none
      | none => none
  | none => none
/-- is block b a row of elements e? (of old blocks it isn't asked) -/
def rowOk (N0 : Nat) (κ : Kap) (b : Nat) (e : TypeId) : Bool := Nat.blt b N0 || (match κ b with
  | some (.cells _ e' (_, 0)) => Nat.beq e' e
  | _ => false)
def optI (ts : Tm) : Option Operand → Option (Option Int)
  | none => some none
  | some x => match opd ts x with
    | some (.int _ n) => some (some n)
    | _ => none
/-- the bounds of a cut: from, to; len and what it may reach -/
def bounds (len cap : Nat) (lo hi : Option Int) : Option (Nat × Nat) :=
  bif (match hi with | some h => decide (0 ≤ h) && decide (h ≤ cap) | none => true) then
    (match lo with
    | none => some (0, (hi.getD len).toNat)
    | some l => bif decide (0 ≤ l) && decide (l ≤ hi.getD len) then some (l.toNat, (hi.getD len).toNat) else none)
  else none
def cutE (P : Program) (N0 : Nat) (κ : Kap) (t : TypeId) (x : Value) (lo hi : Option Int) : Option (Value × List Nat) :=
  match P.underlying t, x with
  | some (.slice e), .slice none len cap => match P.info? e, bounds len cap lo hi with
    | some i, some (l, h) => some (.slice none (h - l) (cap - l), [])
    | _, _ => none
  | some (.slice e), .slice (some ⟨b, o, none⟩) len cap => match P.info? e, bounds len cap lo hi with
    | some i, some (l, h) => bif rowOk N0 κ b e && Nat.ble len cap then some (.slice (some (bif Nat.beq cap l then ⟨b, o, none⟩ else ⟨b, o + l * i.size, none⟩)) (h - l) (cap - l), [b]) else none
    | _, _ => none
  | some (.array n e), .pointer (some ⟨b, o, none⟩) => match P.info? e, bounds n n lo hi with
    | some i, some (l, h) => some (.slice (some (bif Nat.beq n l then ⟨b, o, none⟩ else ⟨b, o + l * i.size, none⟩)) (h - l) (n - l), [])
    | _, _ => none
  | _, _ => none
def evL (P : Program) (N0 : Nat) (κ : Kap) (ts : Tm) (o : Oper) : Option (Value × List Nat) :=
  match o.op with
  | .load t x => match opd ts x with
    | some (.pointer (some ⟨b, of, none⟩)) => match loadE P N0 κ t b of with
      | some v => some (v, [b])
      | none => none
    | _ => none
  | .convert s d x => match P.underlying s, P.underlying d, opd ts x with
    | some (.slice e), some .string, some (.slice (some ⟨b, of, none⟩) l _) => match P.underlying e with
      | some (.int .u8) => match ldK N0 κ b l of with
        | some L => match u8s L with
          | some ns => some (.string (strOf ns), [b])
          | none => none
        | none => none
      | _ => none
    | _, _, _ => none
  | .slice t x lo hi none => match opd ts x, optI ts lo, optI ts hi with
    | some v, some l, some h => cutE P N0 κ t v l h
    | _, _, _ => none
  | _ => none
section
variable {P : Program} {N0 : Nat} {w0 : World} {ρ : Rho} {κ : Kap} {w : World} {ts : Tm} {a : Act} {o : Oper}
theorem SlR.ar' {b o l cp cp' : Nat} {a' : Addr} (h : SlR N0 ρ ⟨b, o, none⟩ l cp a' cp') : ∃ d, AR ρ ⟨b, o + d, none⟩ a' ∧ (d = 0 ∨ (l = 0 ∧ cp = 0)) := by
  obtain ⟨h0, h1, h2⟩ := h
  rcases h2 with h2 | ⟨B, O, n, X, sz, d, h2, h3, h4, h5⟩
  · exact ⟨0, ⟨rfl, h1, .inl h2⟩, .inl rfl⟩
  · exact ⟨d, ⟨rfl, h1, .inr ⟨B, O, n, X, sz, h2, h3⟩⟩, h4⟩
theorem load_sim (R : RelK P N0 w0 ρ κ w) {t : TypeId} {b of : Nat} {ad' : Addr} {v : Value} (ha : AR ρ ⟨b, of, none⟩ ad') (h : loadE P N0 κ t b of = some v) : ∃ v', (loadVar t ad').run P w = .ok v' w ∧ VR1 N0 ρ v v' := by
  unfold loadE at h
  split at h
  · rename_i d hd
    cases hb : isAggD d with
    | true =>
      rw [hb] at h
      simp only [cond_true] at h
      split at h
      · rename_i i hi
        split at h
        · rename_i L hL
          simp only [Option.some.injEq] at h
          subst h
          obtain ⟨L', h1, h2, h3⟩ := ldK_sim R _ _ _ _ ha hL
          refine ⟨.agg L'.toArray, ?_, .agg h1⟩
          have h4 : (loadCells ad' i.size).run P w = .ok L'.toArray w := by
            have h5 := run_ldK (P := P) h3
            rwa [← h1.len, h2] at h5
          unfold loadVar
          rw [Sem.run_bind, isAgg_run hd w, hb]
          simp only [Result.andThen_ok, if_true, Sem.run_bind, sizeOf_run hi w, h4, Sem.run_pure]
        · cases h
      · cases h
    | false =>
      rw [hb] at h
      simp only [cond_false] at h
      split at h
      · rename_i u hu
        cases hk : okL N0 b u with
        | false => rw [hk] at h; cases h
        | true =>
          rw [hk] at h
          simp only [cond_true, Option.some.injEq] at h
          subst h
          obtain ⟨v', h1, h2⟩ := cell_sim R ha hu hk
          refine ⟨v', ?_, .one h2⟩
          unfold loadVar
          rw [Sem.run_bind, isAgg_run hd w, hb]
          simp [h1]
      · cases h
  · cases h
theorem bounds_spec {len cap : Nat} {lo hi : Option Int} {l h : Nat} (hb : bounds len cap lo hi = some (l, h)) :
    (match hi with | some x => 0 ≤ x ∧ x ≤ cap ∧ x = h | none => h = len) ∧ (match lo with | some y => 0 ≤ y ∧ y ≤ h ∧ y = l | none => l = 0) ∧ l ≤ h := by
  unfold bounds at hb
  cases hi with
  | none =>
    simp only [cond_true, Option.getD_none] at hb
    cases lo with
    | none =>
      simp only [Option.some.injEq, Prod.mk.injEq] at hb
      obtain ⟨rfl, rfl⟩ := hb
      simp
    | some y =>
      simp only at hb
      cases hq : (decide (0 ≤ y) && decide (y ≤ (len : Int))) with
      | false => rw [hq] at hb; cases hb
      | true =>
        rw [hq] at hb
        simp only [cond_true, Option.some.injEq, Prod.mk.injEq] at hb
        simp only [Bool.and_eq_true, decide_eq_true_eq] at hq
        obtain ⟨rfl, rfl⟩ := hb
        refine ⟨Int.toNat_natCast _, ⟨hq.1, ?_, ?_⟩, ?_⟩ <;> omega
  | some x =>
    simp only [Option.getD_some] at hb
    cases hq0 : (decide (0 ≤ x) && decide (x ≤ (cap : Int))) with
    | false => rw [hq0] at hb; cases hb
    | true =>
      rw [hq0] at hb
      simp only [cond_true] at hb
      simp only [Bool.and_eq_true, decide_eq_true_eq] at hq0
      cases lo with
      | none =>
        simp only [Option.some.injEq, Prod.mk.injEq] at hb
        obtain ⟨rfl, rfl⟩ := hb
        refine ⟨⟨hq0.1, hq0.2, ?_⟩, rfl, ?_⟩ <;> omega
      | some y =>
        simp only at hb
        cases hq : (decide (0 ≤ y) && decide (y ≤ x)) with
        | false => rw [hq] at hb; cases hb
        | true =>
          rw [hq] at hb
          simp only [cond_true, Option.some.injEq, Prod.mk.injEq] at hb
          simp only [Bool.and_eq_true, decide_eq_true_eq] at hq
          obtain ⟨rfl, rfl⟩ := hb
          refine ⟨⟨hq0.1, hq0.2, ?_⟩, ⟨hq.1, ?_, ?_⟩, ?_⟩ <;> omega
def optV (k : IntKind) : Option Int → Option Value := fun x => x.map (Value.int k)
theorem optI_sim (T : TR N0 ρ ts a.tmps) {x : Option Operand} {r : Option Int} (h : optI ts x = some r) : (r = none ∧ x.map a.eval = none) ∨ ∃ n k, r = some n ∧ x.map a.eval = some (.int k n) := by
  cases x with
  | none => simp only [optI, Option.some.injEq] at h; exact .inl ⟨h.symm, rfl⟩
  | some y =>
    simp only [optI] at h
    split at h
    · rename_i k n hy
      simp only [Option.some.injEq] at h
      exact .inr ⟨n, k, h.symm, by simp [opd_int T hy]⟩
    · cases h
theorem sliceBounds_run {isS : Bool} {len cap cap' : Nat} {lo hi : Option Int} {lo' hi' : Option Value} {l h : Nat} (hb : bounds len cap lo hi = some (l, h)) (hc : cap ≤ cap')
    (hlo : (lo = none ∧ lo' = none) ∨ ∃ n k, lo = some n ∧ lo' = some (.int k n)) (hhi : (hi = none ∧ hi' = none) ∨ ∃ n k, hi = some n ∧ hi' = some (.int k n)) (w : World) :
    (Instr.sliceBounds isS len cap' lo' hi' none).run P w = .ok (l, h, cap') w := by
  obtain ⟨h1, h2, h3⟩ := bounds_spec hb
  unfold Instr.sliceBounds
  simp only [Sem.run_bind, Sem.run_pure, Result.andThen_ok]
  rcases hhi with ⟨rfl, rfl⟩ | ⟨n, k, rfl, rfl⟩
  · simp only at h1
    subst h1
    simp only [Sem.run_pure, Result.andThen_ok]
    rcases hlo with ⟨rfl, rfl⟩ | ⟨n2, k2, rfl, rfl⟩
    · simp only at h2
      subst h2
      rfl
    · obtain ⟨g1, g2, g3⟩ := h2
      simp only [Instr.sliceBound, asIntOf, Sem.run_bind, Sem.run_pure, Result.andThen_ok, Sem.run_ite]
      rw [if_pos ⟨g1, g2⟩]
      simp only [Sem.run_pure, Result.andThen_ok, ← g3, Int.toNat_natCast]
      rw [g3]; rfl
  · obtain ⟨f1, f2, f3⟩ := h1
    simp only [Instr.sliceBound, asIntOf, Sem.run_bind, Sem.run_pure, Result.andThen_ok, Sem.run_ite]
    rw [if_pos ⟨f1, by omega⟩]
    simp only [Sem.run_pure, Result.andThen_ok]
    have f4 : n.toNat = h := by omega
    rw [f4]
    rcases hlo with ⟨rfl, rfl⟩ | ⟨n2, k2, rfl, rfl⟩
    · simp only at h2
      subst h2
      rfl
    · obtain ⟨g1, g2, g3⟩ := h2
      simp only [Instr.sliceBound, asIntOf, Sem.run_bind, Sem.run_pure, Result.andThen_ok, Sem.run_ite]
      rw [if_pos ⟨g1, g2⟩]
      have g4 : n2.toNat = l := by omega
      simp only [Sem.run_pure, Result.andThen_ok, g4]
end
end Go.Proofs.Ytbonmmpdpahhfaa.Can

/- The engine, seventh part: cuts; all reading operations in one. No law, no condition. -/
namespace Go.Proofs.Ytbonmmpdpahhfaa.Can
open Go.RowKit
set_option linter.unusedVariables false
set_option linter.unusedSimpArgs false
section
variable {P : Program} {N0 : Nat} {w0 : World} {ρ : Rho} {κ : Kap} {w : World} {ts : Tm} {a : Act} {o : Oper}
theorem rowOk_live (R : RelK P N0 w0 ρ κ w) {b : Nat} {e : TypeId} (h : rowOk N0 κ b e = true) : ρ b ≠ some .dead ∧ (N0 ≤ b → ∀ B O n X sz, ρ b = some (.live B O n X sz) → (P.info? e).map (fun i => i.size) = some sz) := by
  unfold rowOk at h
  simp only [Bool.or_eq_true, Nat.blt_eq] at h
  rcases h with h | h
  · refine ⟨fun hd => ?_, fun hb => by omega⟩
    have := R.old b h
    rw [hd] at this
    cases this
  · split at h
    · rename_i cs e' k hk
      have he : e' = e := Nat.eq_of_beq_eq_true h
      subst he
      refine ⟨fun hd => ?_, fun hb B O n X sz hl => ?_⟩
      · obtain ⟨e2, k2, h2⟩ := R.dead b hd
        rw [hk] at h2
        simp at h2
      · obtain ⟨_, cs2, e2, k2, C, e3, lo, hi, q1, q2, q3, _⟩ := R.new b B O n X sz hb hl
        rw [hk] at q1
        simp only [Option.some.injEq, Obj.cells.injEq, Prod.mk.injEq] at q1
        rw [q1.2.1]
        exact q3
    · cases h
theorem cut_slR (R : RelK P N0 w0 ρ κ w) {b o : Nat} {e : TypeId} {i : TypeInfo} {len cap cap' l h : Nat} {ad' : Addr} (hi : P.info? e = some i) (hr : rowOk N0 κ b e = true) (hs : SlR N0 ρ ⟨b, o, none⟩ len cap ad' cap')
    (hlh : l ≤ h) (hhc : h ≤ cap) :
    cap ≤ cap' ∧ SlR N0 ρ (bif Nat.beq cap l then ⟨b, o, none⟩ else ⟨b, o + l * i.size, none⟩) (h - l) (cap - l) (if cap' = l then ad' else ad'.add (l * i.size)) (cap' - l) := by
  obtain ⟨h1, h2⟩ := rowOk_live R hr
  obtain ⟨_, s1, s2⟩ := hs
  rcases s2 with s2 | ⟨B, O, n, X, sz, d, s2, rfl, s4, s5⟩
  · exact absurd s2 h1
  · have hsp : (bif Nat.beq cap l then (⟨b, o, none⟩ : Addr) else ⟨b, o + l * i.size, none⟩).spot = none := by cases Nat.beq cap l <;> rfl
    have hblk : (bif Nat.beq cap l then (⟨b, o, none⟩ : Addr) else ⟨b, o + l * i.size, none⟩).block = b := by cases Nat.beq cap l <;> rfl
    have hsp' : (if cap' = l then (⟨B, O + (o + d), none⟩ : Addr) else (⟨B, O + (o + d), none⟩ : Addr).add (l * i.size)).spot = none := by
      split
      · rfl
      · rw [add_eq rfl]
    rcases s5 with ⟨rfl, rfl⟩ | ⟨s5, s6, s7⟩
    · refine ⟨Nat.le_refl _, hsp, hsp', .inr ⟨B, O, n, X, sz, 0, by rw [hblk]; exact s2, ?_, .inl rfl, .inl ⟨rfl, rfl⟩⟩⟩
      cases hq : Nat.beq cap' l with
      | true =>
        have := Nat.eq_of_beq_eq_true hq
        rw [if_pos this]
        simp
      | false =>
        have : cap' ≠ l := fun e => by rw [e] at hq; simp at hq
        rw [if_neg this, add_eq rfl]
        simp [Nat.add_assoc]
    · have hsz : i.size = sz := by
        have := h2 s5 B O n X sz s2
        rw [hi] at this
        simpa using this
      subst hsz
      simp only at s5 s7
      refine ⟨s6, hsp, hsp', ?_⟩
      cases hq : Nat.beq cap l with
      | true =>
        have hcl := Nat.eq_of_beq_eq_true hq
        by_cases hc : cap' = l
        · refine .inr ⟨B, O, n, X, i.size, d, s2, ?_, .inr ⟨by omega, by omega⟩, .inr ⟨s5, by omega, ?_⟩⟩
          · rw [if_pos hc]; rfl
          · simp only [cond_true]
            have : cap' - l = 0 := by omega
            rw [this]
            simp
            omega
        · refine .inr ⟨B, O, n, X, i.size, d + l * i.size, s2, ?_, .inr ⟨by omega, by omega⟩, .inr ⟨s5, by omega, ?_⟩⟩
          · rw [if_neg hc, add_eq rfl]
            simp [Nat.add_assoc]
          · simp only [cond_true]
            have e1 : l * i.size + (cap' - l) * i.size = cap' * i.size := by
              rw [← Nat.add_mul]
              congr 1
              omega
            omega
      | false =>
        have hcl : cap ≠ l := fun e => by rw [e] at hq; simp at hq
        have hd : d = 0 := by
          rcases s4 with s4 | s4
          · exact s4
          · have := s4.2; omega
        subst hd
        have hc : cap' ≠ l := by omega
        refine .inr ⟨B, O, n, X, i.size, 0, s2, ?_, .inl rfl, .inr ⟨s5, by omega, ?_⟩⟩
        · rw [if_neg hc, add_eq rfl]
          simp [Nat.add_assoc]
        · simp only [cond_false]
          have e1 : l * i.size + (cap' - l) * i.size = cap' * i.size := by
            rw [← Nat.add_mul]
            congr 1
            omega
          omega
theorem cut_sim (R : RelK P N0 w0 ρ κ w) {t : TypeId} {x x' v : Value} {rd : List Nat} {lo hi : Option Int} {lo' hi' : Option Value} (hx : VR N0 ρ x x') (h : cutE P N0 κ t x lo hi = some (v, rd))
    (hlo : (lo = none ∧ lo' = none) ∨ ∃ n k, lo = some n ∧ lo' = some (.int k n)) (hhi : (hi = none ∧ hi' = none) ∨ ∃ n k, hi = some n ∧ hi' = some (.int k n)) :
    ∃ v', (Instr.sliceAt t x' lo' hi' none).run P w = .ok v' w ∧ CR N0 ρ v v' := by
  unfold cutE at h
  split at h
  · rename_i e len cap hd
    split at h
    · rename_i i l hh hi' hb
      simp only [Option.some.injEq, Prod.mk.injEq] at h
      obtain ⟨rfl, rfl⟩ := h
      have hx' := hx.closed_eq rfl
      subst hx'
      refine ⟨.slice none (hh - l) (cap - l), ?_, .nils _ _⟩
      unfold Instr.sliceAt Instr.slice
      simp only [Sem.run_bind, run_underlying hd, Result.andThen_ok, sliceBounds_run hb (Nat.le_refl _) hlo hhi w, sizeOf_run hi', Sem.run_pure, Option.map_none, ite_self]
    · cases h
  · rename_i e b of len cap hd
    split at h
    · rename_i i l hh hi' hb
      cases hr : (rowOk N0 κ b e && Nat.ble len cap) with
      | false => rw [hr] at h; cases h
      | true =>
        rw [hr] at h
        simp only [cond_true, Option.some.injEq, Prod.mk.injEq] at h
        obtain ⟨rfl, rfl⟩ := h
        simp only [Bool.and_eq_true] at hr
        have hlc := Nat.le_of_ble_eq_true hr.2
        cases hx with | one h1 => cases h1 with | one h2 => cases h2 with | sl h3 =>
        rename_i ad' cap'
        obtain ⟨g1, g2, g3⟩ := bounds_spec hb
        have hhc : hh ≤ cap := by
          cases hi with
          | none => simp only at g1; omega
          | some y => simp only at g1; omega
        obtain ⟨h4, h5⟩ := cut_slR R hi' hr.1 h3 g3 hhc
        refine ⟨.slice (some (if cap' = l then ad' else ad'.add (l * i.size))) (hh - l) (cap' - l), ?_, .sl h5⟩
        unfold Instr.sliceAt Instr.slice
        simp only [Sem.run_bind, run_underlying hd, Result.andThen_ok, sliceBounds_run hb h4 hlo hhi w, sizeOf_run hi', Sem.run_pure, Option.map_some]
        congr 2
        split <;> rfl
    · cases h
  · rename_i n e b of hd
    split at h
    · rename_i i l hh hi' hb
      simp only [Option.some.injEq, Prod.mk.injEq] at h
      obtain ⟨rfl, rfl⟩ := h
      cases hx with | one h1 => cases h1 with | one h2 => cases h2 with | ptr h3 =>
      rename_i ad'
      refine ⟨.slice (some (if n = l then ad' else ad'.add (l * i.size))) (hh - l) (n - l), ?_, ?_⟩
      · unfold Instr.sliceAt
        simp only [Sem.run_bind, run_underlying hd, Result.andThen_ok, Instr.sureAddr, sliceBounds_run hb (Nat.le_refl _) hlo hhi w, sizeOf_run hi', Sem.run_pure]
      · refine .sl ?_
        cases hq : Nat.beq n l with
        | true =>
          rw [if_pos (Nat.eq_of_beq_eq_true hq)]
          obtain ⟨_, r1, r2⟩ := h3
          refine ⟨rfl, r1, ?_⟩
          rcases r2 with r2 | ⟨B, O, n', X, sz, r2, r3⟩
          · exact .inl r2
          · exact .inr ⟨B, O, n', X, sz, 0, r2, r3, .inl rfl, .inl ⟨rfl, rfl⟩⟩
        | false =>
          have : n ≠ l := fun e => by rw [e] at hq; simp at hq
          rw [if_neg this]
          obtain ⟨_, r1, r2⟩ := h3.add (l * i.size)
          refine ⟨rfl, r1, ?_⟩
          rcases r2 with r2 | ⟨B, O, n', X, sz, r2, r3⟩
          · exact .inl r2
          · exact .inr ⟨B, O, n', X, sz, 0, r2, r3, .inl rfl, .inl ⟨rfl, rfl⟩⟩
    · cases h
  · cases h
theorem f2_u8 {L L' : List Value} {ns : List Int} (h : F2 (CR N0 ρ) L L') (hu : u8s L = some ns) : L' = ns.map (Value.int .u8) := by
  have e := u8s_eq hu
  have hf : L.all flat = true := by
    rw [e, List.all_eq_true]
    intro x hx
    obtain ⟨n, _, rfl⟩ := List.mem_map.1 hx
    rfl
  rw [f2_flat h hf, e]
theorem evL_sim (R : RelK P N0 w0 ρ κ w) (T : TR N0 ρ ts a.tmps) {v : Value} {rd : List Nat} (h : evL P N0 κ ts o = some (v, rd)) : ∃ v', (execOp a.eval o).run P w = .ok (.value v') w ∧ VR N0 ρ v v' := by
  unfold evL at h
  split at h
  · rename_i t x hop
    split at h
    · rename_i b of hx
      split at h
      · rename_i u hu
        simp only [Option.some.injEq, Prod.mk.injEq] at h
        obtain ⟨rfl, rfl⟩ := h
        obtain ⟨ad', h1, h2⟩ := opd_ptr T hx
        obtain ⟨v', h3, h4⟩ := load_sim R h2 hu
        refine ⟨v', ?_, .one h4⟩
        unfold execOp; rw [hop]
        simp only [h1, Instr.loadAt, Instr.sureAddr, Sem.run_bind, Sem.run_pure, Result.andThen_ok, h3]
      · cases h
    · cases h
  · rename_i s d x hop
    split at h
    · rename_i e b of l cp hs hd hx
      split at h
      · rename_i he
        split at h
        · rename_i L hL
          split at h
          · rename_i ns hns
            simp only [Option.some.injEq, Prod.mk.injEq] at h
            obtain ⟨rfl, rfl⟩ := h
            rcases opd_slice T hx with ⟨h0, _⟩ | ⟨ad, ad', cp', h0, h1, h2⟩
            · cases h0
            · simp only [Option.some.injEq] at h0
              subst h0
              refine ⟨.string (strOf ns), ?_, .one (.one (.str _))⟩
              have hl : (loadCells ad' l).run P w = .ok (ns.map (Value.int .u8)).toArray w := by
                by_cases hz : l = 0
                · subst hz
                  simp only [ldK, Option.some.injEq] at hL
                  subst hL
                  simp only [u8s, Option.some.injEq] at hns
                  subst hns
                  rfl
                · obtain ⟨L', g1, g2, g3⟩ := ldK_sim R _ _ _ _ (h2.ar hz) hL
                  have g4 := run_ldK (P := P) g3
                  rw [← g1.len, g2, f2_u8 g1 hns] at g4
                  exact g4
              unfold execOp; rw [hop]
              simp only [h1, Sem.run_bind, run_convert_bytes_string w s d e _ _ _ hs he hd, run_bytesToString w ad' l cp' ns hl, Result.andThen_ok, Sem.run_pure]
              rfl
          · cases h
        · cases h
      · cases h
    · cases h
  · rename_i t x lo hi hop
    split at h
    · rename_i u l hh hx hl hh'
      obtain ⟨v', h1, h2⟩ := cut_sim R (opd_sim T hx) h (optI_sim T hl) (optI_sim T hh')
      refine ⟨v', ?_, .one (.one h2)⟩
      unfold execOp; rw [hop]
      simp only [Sem.run_bind, Option.map_none, h1, Result.andThen_ok, Sem.run_pure]
    · cases h
  · cases h
end
end Go.Proofs.Ytbonmmpdpahhfaa.Can

/- The engine, eighth part: operations that make a block. No law, no condition. -/
namespace Go.Proofs.Ytbonmmpdpahhfaa.Can
open Go.RowKit
set_option linter.unusedVariables false
set_option linter.unusedSimpArgs false

def zerosL (z : Array Value) (n : Nat) : List Value := (List.range n).map fun k => z[k % z.size]!
def zerosE (z : Array Value) (n : Nat) : List Value := match z.toList with
  | [z0] => List.replicate n z0
  | _ => zerosL z n
theorem zerosE_eq (z : Array Value) (n : Nat) : zerosE z n = zerosL z n := by
  unfold zerosE zerosL
  split
  · rename_i z0 hz
    have : z = #[z0] := Array.ext' hz
    subst this
    apply List.ext_getElem
    · simp
    · intro i h1 h2
      simp [Nat.mod_one]
  · rfl
def evA (P : Program) (ts : Tm) (m : Nat) (o : Oper) : Option (List Value × TypeId × Value) :=
  match o.op with
  | .alloc e => match P.info? e with
    | some i => match i.zero with
      | some z => bif z.cells.toList.all flat then some (z.cells.toList, e, .pointer (some ⟨m, 0, none⟩)) else none
      | none => none
    | none => none
  | .box e x => match P.info? e, opd ts x with
    | some _, some v => bif isTup v then none else some (v.cells.toList, e, .pointer (some ⟨m, 0, none⟩))
    | _, _ => none
  | .buildSlice t len parts => match P.underlying t with
    | some (.slice e) => match P.info? e, pvals ts parts.toList with
      | some i, some ps => match i.zero with
        | some z => bif Nat.ble (len * i.size) 16777216 && (zerosL z.cells (len * i.size)).all flat then
            (match Instr.fill (fun k => some (k * i.size, i.size)) (zerosL z.cells (len * i.size)).toArray ps with
            | some r => some (r.toList, e, .slice (some ⟨m, 0, none⟩) len len)
            | none => none) else none
        | none => none
      | _, _ => none
    | _ => none
  | .makeSlice t l c => match P.underlying t, opd ts l, opd ts c with
    | some (.slice e), some (.int _ l), some (.int _ c) => match P.info? e with
      | some i => match i.zero with
        | some z => bif decide (0 ≤ l) && decide (l ≤ c) && decide (c ≤ 9223372036854775807) && decide (i.bytes * c ≤ 281474976710656) && z.cells.toList.all flat && Nat.blt 0 z.cells.size then
            some (zerosE z.cells (c.toNat * i.size), e, .slice (some ⟨m, 0, none⟩) l.toNat c.toNat) else none
        | none => none
      | none => none
    | _, _, _ => none
  | .convert s d x => match P.underlying s, P.underlying d, opd ts x with
    | some .string, some (.slice e), some (.string b) => match P.underlying e, P.info? e with
      | some (.int .u8), some i => bif Nat.beq i.size 1 then some (b.data.toList.map (fun x => .int .u8 x.toNat), e, .slice (some ⟨m, 0, none⟩) b.size b.size) else none
      | _, _ => none
    | _, _, _ => none
  | _ => none
/-- what a new block is good for -/
def AOut (P : Program) (N0 : Nat) (ρ : Rho) (w : World) (run : Result Next) (cs : List Value) (e m : Nat) (v : Value) : Prop :=
  ∃ (w' : World) (C : Array Value) (lo hi X sz : Nat) (v' : Value), run = .ok (.value v') w' ∧ Below w.heap.size w w' ∧ w'.heap[w.heap.size]? = some (.cells C e (lo, hi)) ∧ cs.length + X ≤ C.size ∧
    (lo = hi ∨ cs.length + X ≤ lo) ∧ (∀ (j : Nat) (x : Value), cs[j]? = some x → ∃ x', C[j]? = some x' ∧ CR N0 ρ x x') ∧ (P.info? e).map (fun i => i.size) = some sz ∧
    ((v = .pointer (some ⟨m, 0, none⟩) ∧ v' = .pointer (some ⟨w.heap.size, 0, none⟩)) ∨ ∃ l cp cp', v = .slice (some ⟨m, 0, none⟩) l cp ∧ v' = .slice (some ⟨w.heap.size, 0, none⟩) l cp' ∧ (cp' = cp ∨ (cp ≤ cp' ∧ cp' * sz ≤ cs.length + X)))
section
variable {P : Program} {N0 : Nat} {w0 : World} {ρ : Rho} {κ : Kap} {w : World} {ts : Tm} {a : Act} {o : Oper}
theorem below_push (w : World) (o : Obj) : Below w.heap.size w { w with heap := w.heap.push o } :=
  ⟨rfl, rfl, rfl, by simp, fun k hk => by
    show (w.heap.push o)[k]? = _
    rw [Array.getElem?_push, if_neg (by omega)]⟩
theorem aout_push {cs cs' : List Value} {e m sz : Nat} {v v' : Value} (hf : F2 (CR N0 ρ) cs cs') (hs : (P.info? e).map (fun i => i.size) = some sz)
    (hv : (v = .pointer (some ⟨m, 0, none⟩) ∧ v' = .pointer (some ⟨w.heap.size, 0, none⟩)) ∨ ∃ l cp, v = .slice (some ⟨m, 0, none⟩) l cp ∧ v' = .slice (some ⟨w.heap.size, 0, none⟩) l cp) :
    AOut P N0 ρ w (.ok (.value v') { w with heap := w.heap.push (.cells cs'.toArray e) }) cs e m v := by
  refine ⟨_, cs'.toArray, 0, 0, 0, sz, v', rfl, below_push _ _, by simp, by simp [hf.len], .inl rfl, fun j x hj => ?_, hs, ?_⟩
  · obtain ⟨y, h1, h2⟩ := hf.get j x hj
    exact ⟨y, by simpa using h1, h2⟩
  · rcases hv with hv | ⟨l, cp, h1, h2⟩
    · exact .inl hv
    · exact .inr ⟨l, cp, cp, h1, h2, .inl rfl⟩
theorem evA_sim (T : TR N0 ρ ts a.tmps) {m : Nat} {cs : List Value} {e : TypeId} {v : Value} (h : evA P ts m o = some (cs, e, v)) : AOut P N0 ρ w ((execOp a.eval o).run P w) cs e m v := by
  unfold evA at h
  split at h
  · rename_i e1 hop
    split at h
    · rename_i i hi
      split at h
      · rename_i z hz
        cases hf : z.cells.toList.all flat with
        | false => rw [hf] at h; cases h
        | true =>
          rw [hf] at h
          simp only [cond_true, Option.some.injEq, Prod.mk.injEq] at h
          obtain ⟨rfl, rfl, rfl⟩ := h
          have := aout_push (P := P) (N0 := N0) (ρ := ρ) (w := w) (e := e1) (m := m) (sz := i.size) (f2_of_flat hf) (by rw [hi]; rfl) (.inl ⟨rfl, rfl⟩)
          have hzr : (zeroValue e1).run P w = .ok z w := by simp [zeroValue, typeInfo, Sem.run_bind, hi, hz]
          have hr : (execOp a.eval o).run P w = .ok (.value (.pointer (some ⟨w.heap.size, 0, none⟩))) { w with heap := w.heap.push (.cells z.cells.toList.toArray e1) } := by
            unfold execOp; rw [hop]
            simp only [Instr.alloc, Sem.run_bind, hzr, Result.andThen_ok, newVar, newRow, run_newObj, Sem.run_pure]
          rw [hr]
          exact this
      · cases h
    · cases h
  · rename_i e1 x hop
    split at h
    · rename_i i u hi hx
      cases hb : isTup u with
      | true => rw [hb] at h; cases h
      | false =>
        rw [hb] at h
        simp only [cond_false, Option.some.injEq, Prod.mk.injEq] at h
        obtain ⟨rfl, rfl, rfl⟩ := h
        have h1 := opd_one T hx (fun cs hc => by subst hc; cases hb)
        have := aout_push (P := P) (N0 := N0) (ρ := ρ) (w := w) (e := e1) (m := m) (sz := i.size) h1.cells (by rw [hi]; rfl) (.inl ⟨rfl, rfl⟩)
        have hr : (execOp a.eval o).run P w = .ok (.value (.pointer (some ⟨w.heap.size, 0, none⟩))) { w with heap := w.heap.push (.cells (a.eval x).cells.toList.toArray e1) } := by
          unfold execOp; rw [hop]
          simp only [Instr.box, Sem.run_bind, Result.andThen_ok, newVar, newRow, run_newObj, Sem.run_pure]
        rw [hr]
        exact this
    · cases h
  · rename_i t len parts hop
    split at h
    · rename_i e1 hd
      split at h
      · rename_i i ps hi hps
        split at h
        · rename_i z hz
          cases hb : (Nat.ble (len * i.size) 16777216 && (zerosL z.cells (len * i.size)).all flat) with
          | false => rw [hb] at h; cases h
          | true =>
            rw [hb] at h
            simp only [cond_true] at h
            simp only [Bool.and_eq_true] at hb
            have hle := Nat.le_of_ble_eq_true hb.1
            split at h
            · rename_i r hr0
              simp only [Option.some.injEq, Prod.mk.injEq] at h
              obtain ⟨rfl, rfl, rfl⟩ := h
              obtain ⟨r', g1, g2⟩ := fill_sim _ (pvals_sim T _ _ hps) (f2_of_flat (N0 := N0) (ρ := ρ) (xs := (zerosL z.cells (len * i.size)).toArray.toList) (by simpa using hb.2)) hr0
              have := aout_push (P := P) (N0 := N0) (ρ := ρ) (w := w) (e := e1) (m := m) (sz := i.size) g2 (by rw [hi]; rfl) (.inr ⟨len, len, rfl, rfl⟩)
              have hzr : (zeroValue e1).run P w = .ok z w := by simp [zeroValue, typeInfo, Sem.run_bind, hi, hz]
              have e2 : (parts.map fun (x : Nat × Operand) => (x.1, a.eval x.2)).toList = (parts.toList.map fun (x : Nat × Operand) => (x.1, a.eval x.2)) := by simp
              have e3 : ∀ zz : Array Value, (len * i.size = 0 ∨ zz = z.cells) → ((Array.range (len * i.size)).map (fun k => zz[k % zz.size]!)) = (zerosL z.cells (len * i.size)).toArray := by
                intro zz hzz
                apply Array.ext'
                rcases hzz with hzz | rfl
                · simp [zerosL, hzz]
                · simp [zerosL]
              have hr : (execOp a.eval o).run P w = .ok (.value (.slice (some ⟨w.heap.size, 0, none⟩) len len)) { w with heap := w.heap.push (.cells r'.toList.toArray e1) } := by
                unfold execOp; rw [hop]
                simp only [Instr.buildSlice, Sem.run_bind, run_underlying hd, Result.andThen_ok, sizeOf_run hi, Sem.run_ite]
                rw [if_neg (by omega)]
                by_cases hz0 : len * i.size = 0
                · simp only [hz0, if_true, Sem.run_pure, Result.andThen_ok, Sem.run_bind]
                  have e4 := e3 #[] (.inl hz0)
                  rw [hz0] at e4
                  rw [e4, show zerosL z.cells 0 = zerosL z.cells (len * i.size) by rw [hz0], e2]
                  simp only [g1, Sem.run_bind, newRow, run_newObj, Sem.run_pure, Result.andThen_ok]
                · simp only [if_neg hz0, Sem.run_pure, Result.andThen_ok, Sem.run_bind, hzr]
                  rw [e3 z.cells (.inr rfl), e2]
                  simp only [g1, Sem.run_bind, newRow, run_newObj, Sem.run_pure, Result.andThen_ok]
              rw [hr]
              exact this
            · cases h
        · cases h
      · cases h
    · cases h
  · rename_i t l c hop
    split at h
    · rename_i e1 kl lv kc cv hd hl hc
      split at h
      · rename_i i hi
        split at h
        · rename_i z hz
          cases hb : (decide (0 ≤ lv) && decide (lv ≤ cv) && decide (cv ≤ 9223372036854775807) && decide (i.bytes * cv ≤ 281474976710656) && z.cells.toList.all flat && Nat.blt 0 z.cells.size) with
          | false => rw [hb] at h; cases h
          | true =>
            rw [hb] at h
            simp only [cond_true, Option.some.injEq, Prod.mk.injEq] at h
            obtain ⟨rfl, rfl, rfl⟩ := h
            simp only [Bool.and_eq_true, decide_eq_true_eq, Nat.blt_eq] at hb
            obtain ⟨⟨⟨⟨⟨b1, b2⟩, b3⟩, b4⟩, b5⟩, b6⟩ := hb
            have hzr : (zeroValue e1).run P w = .ok z w := by simp [zeroValue, typeInfo, Sem.run_bind, hi, hz]
            have wl : IntKind.i64.wrap lv = lv := IntWalk.i64_in _ (by omega)
            have wc : IntKind.i64.wrap cv = cv := IntWalk.i64_in _ (by omega)
            have hfl : (zerosE z.cells (cv.toNat * i.size)).all flat = true := by
              rw [zerosE_eq, zerosL, List.all_eq_true]
              intro x hx
              obtain ⟨k, hk, rfl⟩ := List.mem_map.1 hx
              have hlt : k % z.cells.size < z.cells.size := Nat.mod_lt _ b6
              rw [getElem!_pos z.cells _ hlt]
              exact List.all_eq_true.1 b5 _ (by simp)
            have := aout_push (P := P) (N0 := N0) (ρ := ρ) (w := w) (e := e1) (m := m) (sz := i.size) (f2_of_flat hfl) (by rw [hi]; rfl) (.inr ⟨lv.toNat, cv.toNat, rfl, rfl⟩)
            have e3 : ∀ zz : Array Value, (cv.toNat * i.size = 0 ∨ zz = z.cells) → ((Array.range (cv.toNat * i.size)).map (fun k => zz[k % zz.size]!)) = (zerosE z.cells (cv.toNat * i.size)).toArray := by
              intro zz hzz
              rw [zerosE_eq]
              apply Array.ext'
              rcases hzz with hzz | rfl
              · simp [zerosL, hzz]
              · simp [zerosL]
            have hr : (execOp a.eval o).run P w = .ok (.value (.slice (some ⟨w.heap.size, 0, none⟩) lv.toNat cv.toNat)) { w with heap := w.heap.push (.cells (zerosE z.cells (cv.toNat * i.size)).toArray e1) } := by
              have c1 : ¬ ((cv < 0 || decide ((i.bytes : Int) * cv > 2 ^ 48)) || decide (lv < 0) || decide (lv > cv)) = true := by
                simp
                omega
              unfold execOp; rw [hop]
              simp only [opd_int T hl, opd_int T hc, Instr.makeSlice, Sem.run_bind, run_underlying hd, Result.andThen_ok, asInt, asIntOf, Sem.run_pure, typeInfo, run_program, hi, wl, wc, Sem.run_ite, if_neg c1, run_askRoom, sizeOf_run hi]
              by_cases hz0 : cv.toNat * i.size = 0
              · simp only [hz0, if_true, Sem.run_pure, Result.andThen_ok, Sem.run_bind]
                have e4 := e3 #[] (.inl hz0)
                rw [hz0] at e4
                rw [e4]
                simp only [newRow, Sem.run_bind, run_newObj, Sem.run_pure, Result.andThen_ok]
              · simp only [if_neg hz0, Sem.run_pure, Result.andThen_ok, Sem.run_bind, hzr]
                rw [e3 z.cells (.inr rfl)]
                simp only [newRow, Sem.run_bind, run_newObj, Sem.run_pure, Result.andThen_ok]
            rw [hr]
            exact this
        · cases h
      · cases h
    · cases h
  · rename_i s d x hop
    split at h
    · rename_i e1 b hs hd hx
      split at h
      · rename_i i he hi
        cases hb : Nat.beq i.size 1 with
        | false => rw [hb] at h; cases h
        | true =>
          rw [hb] at h
          simp only [cond_true, Option.some.injEq, Prod.mk.injEq] at h
          obtain ⟨rfl, rfl, rfl⟩ := h
          have hsz := Nat.eq_of_beq_eq_true hb
          have hge := grownCap_ge w b.size 0 e1
          have hC : (Lib.bytesCells w e1 b).size = grownCap w b.size 0 e1 := by
            have : b.data.size = b.size := rfl
            simp [Lib.bytesCells, this]
            omega
          have hlen : (b.data.toList.map (fun x => Value.int .u8 x.toNat)).length = b.size := by simp
          refine ⟨Lib.bytesWorld w e1 b, Lib.bytesCells w e1 b, _, _, grownCap w b.size 0 e1 - b.size, 1, .slice (some ⟨w.heap.size, 0, none⟩) b.size (grownCap w b.size 0 e1), ?_, ?_, Lib.bytesWorld_at_new w e1 b, ?_, ?_, ?_, ?_, ?_⟩
          · unfold execOp; rw [hop]
            simp only [opd_str T hx, Sem.run_bind, Lib.run_convert_string_bytes w s d e1 b hs hd he, Result.andThen_ok, Sem.run_pure]
          · exact ⟨rfl, rfl, rfl, by rw [Lib.bytesWorld_size]; omega, fun k hk => Lib.bytesWorld_at_old w e1 b k hk⟩
          · rw [hlen, hC]; omega
          · right
            rw [hlen, hC]
            omega
          · intro j y hj
            refine ⟨y, ?_, ?_⟩
            · have hjl : j < b.size := by
                have := (List.getElem?_eq_some_iff.1 hj).1
                rwa [hlen] at this
              unfold Lib.bytesCells
              have hjl' : j < b.data.size := hjl
              rw [Array.getElem?_append_left (by simpa using hjl')]
              simpa using hj
            · obtain ⟨q, _, rfl⟩ := List.mem_map.1 (List.mem_of_getElem? hj)
              exact .int _ _
          · rw [hi]; simp [hsz]
          · exact .inr ⟨b.size, b.size, grownCap w b.size 0 e1, rfl, rfl, .inr ⟨hge, by rw [hlen]; omega⟩⟩
      · cases h
    · cases h
  · cases h
end
end Go.Proofs.Ytbonmmpdpahhfaa.Can
