/- The engine, first part: canonical and real values and worlds, tied by an injection of blocks. No law, no condition. -/
import Derived.Below
import Derived.Laws.Cells
import Derived.KernelRfl
namespace Go.Proofs.Ytbonmmpdpahhfaa.Can
open Go.RowKit
set_option linter.unusedVariables false
set_option linter.unusedSimpArgs false

inductive F2 {α β : Type} (R : α → β → Prop) : List α → List β → Prop
  | nil : F2 R [] []
  | cons {a : α} {b : β} {l : List α} {m : List β} (h : R a b) (t : F2 R l m) : F2 R (a :: l) (b :: m)
theorem F2.len {α β : Type} {R : α → β → Prop} : ∀ {l : List α} {m : List β}, F2 R l m → l.length = m.length
  | _, _, .nil => rfl
  | _, _, .cons _ t => by simp [t.len]
theorem F2.get {α β : Type} {R : α → β → Prop} : ∀ {l : List α} {m : List β}, F2 R l m → ∀ (j : Nat) (x : α), l[j]? = some x → ∃ y, m[j]? = some y ∧ R x y
  | _, _, .nil, j, x, h => by simp at h
  | _, _, .cons h t, 0, x, hx => by simp at hx; subst hx; exact ⟨_, rfl, h⟩
  | _, _, .cons h t, j + 1, x, hx => by simpa using t.get j x (by simpa using hx)
theorem F2.app {α β : Type} {R : α → β → Prop} : ∀ {l : List α} {m : List β} {l' : List α} {m' : List β}, F2 R l m → F2 R l' m' → F2 R (l ++ l') (m ++ m')
  | _, _, _, _, .nil, h => h
  | _, _, _, _, .cons h t, h' => .cons h (t.app h')
/-- where a canonical block lies: nowhere any more, or in block B from cell O on: n cells, X more behind them, sz cells an element -/
inductive Im where
  | dead
  | live (B O n X sz : Nat)
abbrev Rho := Nat → Option Im
def AR (ρ : Rho) (a a' : Addr) : Prop :=
  a.spot = none ∧ a'.spot = none ∧ (ρ a.block = some .dead ∨ ∃ B O n X sz, ρ a.block = some (.live B O n X sz) ∧ a' = ⟨B, O + a.off, none⟩)
/-- addresses of slices: of a slice without room the real one may lie further on -/
def SlR (N0 : Nat) (ρ : Rho) (a : Addr) (l cp : Nat) (a' : Addr) (cp' : Nat) : Prop :=
  a.spot = none ∧ a'.spot = none ∧ (ρ a.block = some .dead ∨ ∃ B O n X sz d, ρ a.block = some (.live B O n X sz) ∧ a' = ⟨B, O + (a.off + d), none⟩ ∧ (d = 0 ∨ (l = 0 ∧ cp = 0)) ∧
    ((cp' = cp ∧ d = 0) ∨ (N0 ≤ a.block ∧ cp ≤ cp' ∧ a.off + d + cp' * sz ≤ n + X)))
def ptrV (a : Addr) : Value := .pointer (some a)
/-- values of one cell -/
inductive CR (N0 : Nat) (ρ : Rho) : Value → Value → Prop
  | bool (b : Bool) : CR N0 ρ (.bool b) (.bool b)
  | int (k : IntKind) (n : Int) : CR N0 ρ (.int k n) (.int k n)
  | str (s : ByteArray) : CR N0 ρ (.string s) (.string s)
  | nilp : CR N0 ρ (.pointer none) (.pointer none)
  | ptr {a a' : Addr} (h : AR ρ a a') : CR N0 ρ (.pointer (some a)) (.pointer (some a'))
  | nils (l cp : Nat) : CR N0 ρ (.slice none l cp) (.slice none l cp)
  | sl {a a' : Addr} {l cp cp' : Nat} (h : SlR N0 ρ a l cp a' cp') : CR N0 ρ (.slice (some a) l cp) (.slice (some a') l cp')
  | nilf : CR N0 ρ .nilFunc .nilFunc
  | fn (f : FuncId) {cs cs' : List Addr} (h : F2 (AR ρ) cs cs') : CR N0 ρ (.func (.func f) #[] (cs.map ptrV).toArray) (.func (.func f) #[] (cs'.map ptrV).toArray)
inductive VR1 (N0 : Nat) (ρ : Rho) : Value → Value → Prop
  | one {v v' : Value} (h : CR N0 ρ v v') : VR1 N0 ρ v v'
  | agg {xs ys : List Value} (h : F2 (CR N0 ρ) xs ys) : VR1 N0 ρ (.agg xs.toArray) (.agg ys.toArray)
inductive VR (N0 : Nat) (ρ : Rho) : Value → Value → Prop
  | one {v v' : Value} (h : VR1 N0 ρ v v') : VR N0 ρ v v'
  | tup {xs ys : List Value} (h : F2 (VR1 N0 ρ) xs ys) : VR N0 ρ (.tuple xs.toArray) (.tuple ys.toArray)

def Ext (ρ ρ' : Rho) : Prop := ∀ b, ρ b ≠ none → ρ' b = ρ b ∨ ρ' b = some .dead
theorem Ext.refl (ρ : Rho) : Ext ρ ρ := fun _ _ => .inl rfl
theorem Ext.trans {ρ ρ1 ρ2 : Rho} (h : Ext ρ ρ1) (k : Ext ρ1 ρ2) : Ext ρ ρ2 := by
  intro b hb
  rcases h b hb with h1 | h1
  · rcases k b (by rw [h1]; exact hb) with h2 | h2
    · exact .inl (h2.trans h1)
    · exact .inr h2
  · rcases k b (by rw [h1]; simp) with h2 | h2
    · exact .inr (h2.trans h1)
    · exact .inr h2
theorem AR.mono {ρ ρ' : Rho} (e : Ext ρ ρ') {a a' : Addr} (h : AR ρ a a') : AR ρ' a a' := by
  obtain ⟨h0, h1, h2⟩ := h
  refine ⟨h0, h1, ?_⟩
  rcases h2 with h2 | ⟨B, O, n, X, sz, h2, h3⟩
  · rcases e a.block (by rw [h2]; simp) with k | k
    · exact .inl (k.trans h2)
    · exact .inl k
  · rcases e a.block (by rw [h2]; simp) with k | k
    · exact .inr ⟨B, O, n, X, sz, k.trans h2, h3⟩
    · exact .inl k
theorem SlR.mono {N0 : Nat} {ρ ρ' : Rho} (e : Ext ρ ρ') {a a' : Addr} {l cp cp' : Nat} (h : SlR N0 ρ a l cp a' cp') : SlR N0 ρ' a l cp a' cp' := by
  obtain ⟨h0, h1, h2⟩ := h
  refine ⟨h0, h1, ?_⟩
  rcases h2 with h2 | ⟨B, O, n, X, sz, d, h2, h3⟩
  · rcases e a.block (by rw [h2]; simp) with k | k
    · exact .inl (k.trans h2)
    · exact .inl k
  · rcases e a.block (by rw [h2]; simp) with k | k
    · exact .inr ⟨B, O, n, X, sz, d, k.trans h2, h3⟩
    · exact .inl k
theorem f2_imp {α β : Type} {R S : α → β → Prop} (h : ∀ a b, R a b → S a b) : ∀ {l : List α} {m : List β}, F2 R l m → F2 S l m
  | _, _, .nil => .nil
  | _, _, .cons a b => .cons (h _ _ a) (f2_imp h b)
theorem CR.mono {N0 : Nat} {ρ ρ' : Rho} (e : Ext ρ ρ') {v v' : Value} (h : CR N0 ρ v v') : CR N0 ρ' v v' := by
  cases h with
  | bool b => exact .bool b
  | int k n => exact .int k n
  | str s => exact .str s
  | nilp => exact .nilp
  | ptr h => exact .ptr (h.mono e)
  | nils l c => exact .nils l c
  | sl h => exact .sl (h.mono e)
  | nilf => exact .nilf
  | fn f h => exact .fn f (f2_imp (fun _ _ k => k.mono e) h)
theorem VR1.mono {N0 : Nat} {ρ ρ' : Rho} (e : Ext ρ ρ') {v v' : Value} (h : VR1 N0 ρ v v') : VR1 N0 ρ' v v' := by
  cases h with
  | one h => exact .one (h.mono e)
  | agg h => exact .agg (f2_imp (fun _ _ k => k.mono e) h)
theorem VR.mono {N0 : Nat} {ρ ρ' : Rho} (e : Ext ρ ρ') {v v' : Value} (h : VR N0 ρ v v') : VR N0 ρ' v v' := by
  cases h with
  | one h => exact .one (h.mono e)
  | tup h => exact .tup (f2_imp (fun _ _ k => k.mono e) h)

/-- a value of one cell without an address -/
def flat : Value → Bool
  | .bool _ | .int _ _ | .string _ | .pointer none | .slice none _ _ | .nilFunc => true
  | _ => false
def closed : Value → Bool
  | .agg cs => cs.toList.all flat
  | v => flat v
theorem CR.of_flat {N0 : Nat} {ρ : Rho} {v : Value} (h : flat v = true) : CR N0 ρ v v := by
  unfold flat at h
  split at h <;> first | constructor | cases h
theorem CR.flat_eq {N0 : Nat} {ρ : Rho} {v v' : Value} (h : CR N0 ρ v v') (hf : flat v = true) : v' = v := by
  cases h <;> first | rfl | simp [flat] at hf
theorem f2_flat {N0 : Nat} {ρ : Rho} : ∀ {xs ys : List Value}, F2 (CR N0 ρ) xs ys → xs.all flat = true → ys = xs
  | _, _, .nil, _ => rfl
  | _, _, .cons a b, h => by
    simp only [List.all_cons, Bool.and_eq_true] at h
    rw [a.flat_eq h.1, f2_flat b h.2]
theorem f2_of_flat {N0 : Nat} {ρ : Rho} : ∀ {xs : List Value}, xs.all flat = true → F2 (CR N0 ρ) xs xs
  | [], _ => .nil
  | x :: xs, h => by
    simp only [List.all_cons, Bool.and_eq_true] at h
    exact .cons (.of_flat h.1) (f2_of_flat h.2)
theorem VR1.of_closed {N0 : Nat} {ρ : Rho} {v : Value} (h : closed v = true) : VR1 N0 ρ v v := by
  cases v <;> first | exact .one (.of_flat h) | (rename_i cs; exact .agg (xs := cs.toList) (ys := cs.toList) (f2_of_flat h))
theorem VR1.closed_eq {N0 : Nat} {ρ : Rho} {v v' : Value} (h : VR1 N0 ρ v v') (hc : closed v = true) : v' = v := by
  cases h with
  | one h =>
    refine h.flat_eq ?_
    cases h <;> first | rfl | simp [closed, flat] at hc
  | agg h => rw [f2_flat h (by simpa [closed] using hc)]
theorem VR.closed_eq {N0 : Nat} {ρ : Rho} {v v' : Value} (h : VR N0 ρ v v') (hc : closed v = true) : v' = v := by
  cases h with
  | one h => exact h.closed_eq hc
  | tup h => simp [closed, flat] at hc
theorem CR.oneCell {N0 : Nat} {ρ : Rho} {v v' : Value} (h : CR N0 ρ v v') : v.oneCell' = true ∧ v'.oneCell' = true := by cases h <;> exact ⟨rfl, rfl⟩
theorem CR.cells {N0 : Nat} {ρ : Rho} {v v' : Value} (h : CR N0 ρ v v') : v.cells = #[v] ∧ v'.cells = #[v'] := by cases h <;> exact ⟨rfl, rfl⟩
theorem VR1.cells {N0 : Nat} {ρ : Rho} {v v' : Value} (h : VR1 N0 ρ v v') : F2 (CR N0 ρ) v.cells.toList v'.cells.toList := by
  cases h with
  | one h => rw [h.cells.1, h.cells.2]; exact .cons h .nil
  | agg h => exact h

/-! ### worlds -/
abbrev Kap := Nat → Option Obj
def ImOk (P : Program) (N0 : Nat) (ρ : Rho) (κ : Kap) (w : World) (b B O n X sz : Nat) : Prop :=
  N0 ≤ B ∧ ∃ (cs : Array Value) (e k : Nat) (C : Array Value) (e' lo hi : Nat), κ b = some (.cells cs e (k, 0)) ∧ cs.size = n ∧ (P.info? e).map (fun i => i.size) = some sz ∧
    w.heap[B]? = some (.cells C e' (lo, hi)) ∧ O + n + X ≤ C.size ∧ (lo = hi ∨ O + n + X ≤ lo) ∧ ∀ (j : Nat) (v : Value), cs[j]? = some v → ∃ v', C[O + j]? = some v' ∧ CR N0 ρ v v'
theorem fz_no {lo hi O n X : Nat} (h : lo = hi ∨ O + n + X ≤ lo) (j : Nat) (hj : j < n + X) : ¬ (lo ≤ O + j ∧ O + j < hi) := by omega
structure RelK (P : Program) (N0 : Nat) (w0 : World) (ρ : Rho) (κ : Kap) (w : World) : Prop where
  n0 : N0 = w0.heap.size
  wb : Below N0 w0 w
  kb : ∀ b, b < N0 → κ b = w0.heap[b]?
  old : ∀ b, b < N0 → ρ b = some (.live b 0 0 0 0)
  new : ∀ b B O n X sz, N0 ≤ b → ρ b = some (.live B O n X sz) → ImOk P N0 ρ κ w b B O n X sz
  dead : ∀ b, ρ b = some .dead → ∃ e k, κ b = some (.cells #[] e (k, 1))
  inj : ∀ b b' B O n X sz O' n' X' sz', N0 ≤ b → N0 ≤ b' → ρ b = some (.live B O n X sz) → ρ b' = some (.live B O' n' X' sz') → b = b'
def Kof (c : World) : Kap := fun b => c.heap[b]?
structure Rel (P : Program) (N0 : Nat) (w0 : World) (ρ : Rho) (c w : World) : Prop where
  k : RelK P N0 w0 ρ (Kof c) w
  dom : ∀ b, ρ b ≠ none → b < c.heap.size
  cz : N0 ≤ c.heap.size
theorem RelK.wz {P : Program} {N0 : Nat} {w0 : World} {ρ : Rho} {κ : Kap} {w : World} (h : RelK P N0 w0 ρ κ w) : N0 ≤ w.heap.size := by have := h.wb.size; have := h.n0; omega
theorem ImOk.lt {P : Program} {N0 : Nat} {ρ : Rho} {κ : Kap} {w : World} {b B O n X sz : Nat} (h : ImOk P N0 ρ κ w b B O n X sz) : B < w.heap.size := by
  obtain ⟨_, _, _, _, _, _, _, _, _, _, _, h, _⟩ := h
  exact (Array.getElem?_eq_some_iff.1 h).1

def cellK (κ : Kap) (a : Addr) : Option Value := match κ a.block with
  | some (.cells c _ _) => if a.spot.isSome then none else c[a.off]?
  | _ => none
theorem cellK_of (c : World) (a : Addr) : cellK (Kof c) a = c.cell? a := rfl
/-- an old value that old blocks hold -/
def okL (N0 b : Nat) (v : Value) : Bool := flat v || Nat.ble N0 b || (match v with
  | .pointer (some a) => a.spot.isNone && Nat.blt a.block N0
  | .slice (some a) _ _ => a.spot.isNone && Nat.blt a.block N0
  | _ => false)
theorem CR.of_old {P : Program} {N0 : Nat} {w0 : World} {ρ : Rho} {κ : Kap} {w : World} (R : RelK P N0 w0 ρ κ w) {b : Nat} {v : Value} (hb : b < N0) (h : okL N0 b v = true) : CR N0 ρ v v := by
  have hnb : Nat.ble N0 b = false := by
    cases hq : Nat.ble N0 b with
    | false => rfl
    | true => have := Nat.le_of_ble_eq_true hq; omega
  unfold okL at h
  by_cases hf : flat v = true
  · exact .of_flat hf
  · simp only [Bool.or_eq_true, hnb, hf, Bool.false_eq_true, false_or, or_false] at h
    split at h
    · rename_i a
      simp only [Bool.and_eq_true, Option.isNone_iff_eq_none, Nat.blt_eq] at h
      refine .ptr ⟨h.1, h.1, .inr ⟨a.block, 0, 0, 0, 0, R.old _ h.2, ?_⟩⟩
      obtain ⟨x, y, z⟩ := a
      obtain ⟨h1, h2⟩ := h
      subst h1
      simp
    · rename_i a l cp
      simp only [Bool.and_eq_true, Option.isNone_iff_eq_none, Nat.blt_eq] at h
      refine .sl ⟨h.1, h.1, .inr ⟨a.block, 0, 0, 0, 0, 0, R.old _ h.2, ?_, .inl rfl, .inl ⟨rfl, rfl⟩⟩⟩
      obtain ⟨x, y, z⟩ := a
      obtain ⟨h1, h2⟩ := h
      subst h1
      simp
    · cases h
theorem cell_sim {P : Program} {N0 : Nat} {w0 : World} {ρ : Rho} {κ : Kap} {w : World} (R : RelK P N0 w0 ρ κ w) {b o : Nat} {a' : Addr} {v : Value} (ha : AR ρ ⟨b, o, none⟩ a') (hc : cellK κ ⟨b, o, none⟩ = some v) (hk : okL N0 b v = true) :
    ∃ v', w.cell? a' = some v' ∧ CR N0 ρ v v' := by
  obtain ⟨_, h1, h2⟩ := ha
  rcases h2 with h2 | ⟨B, O, n, X, sz, h2, rfl⟩
  · obtain ⟨e, k, hd⟩ := R.dead _ h2
    simp only [] at hd
    simp [cellK, hd] at hc
  · simp only [] at h2
    by_cases hb : b < N0
    · have h3 := R.old b hb
      rw [h2] at h3
      simp only [Option.some.injEq, Im.live.injEq] at h3
      obtain ⟨rfl, rfl, rfl, rfl, rfl⟩ := h3
      refine ⟨v, ?_, CR.of_old R hb hk⟩
      have h4 := R.kb _ hb
      simp only [cellK, h4] at hc
      have h5 := R.wb.block _ hb
      simp only [World.cell?, h5, Nat.zero_add]
      revert hc
      cases w0.heap[B]? with
      | none => intro hc; cases hc
      | some x => cases x <;> intro hc <;> first | exact hc | cases hc
    · obtain ⟨_, cs, e, k, C, e', lo, hi, q1, q2, q3, q4, q5, q6, q7⟩ := R.new b B O n X sz (by omega) h2
      simp only [cellK, q1] at hc
      obtain ⟨v', r1, r2⟩ := q7 o v (by simpa using hc)
      exact ⟨v', by simp only [World.cell?, q4]; simpa using r1, r2⟩
end Go.Proofs.Ytbonmmpdpahhfaa.Can
