/- The second engine, merged part A. No law, no condition. -/
import Derived.Below
import Derived.Laws.Cells
import Derived.KernelRfl
import Derived.Orders
import Derived.Laws.BytesString
import Derived.Lib.ConvBytes
import Derived.Laws.AppendOwn
import Derived.IntWalk
namespace Go.Proofs.Ytpjlgjhkdligfaa.Vg
open Go.RowKit
set_option linter.unusedVariables false
set_option linter.unusedSimpArgs false

inductive F2 {α β : Type} (R : α → β → Prop) : List α → List β → Prop
  | nil : F2 R [] []
  | cons {a : α} {b : β} {l : List α} {m : List β} (h : R a b) (t : F2 R l m) : F2 R (a :: l) (b :: m)
theorem F2.len {α β : Type} {R : α → β → Prop} : ∀ {l : List α} {m : List β}, F2 R l m → l.length = m.length
  | _, _, .nil => rfl
  | _, _, .cons _ t => by simp [t.len]
theorem F2.get {α β : Type} {R : α → β → Prop} : ∀ {l : List α} {m : List β}, F2 R l m → ∀ (j : Nat) (x : α), l[j]? = some x → ∃ y, m[j]? = some y ∧ R x y
  | _, _, .nil, j, x, h => by simp at h
  | _, _, .cons h t, 0, x, hx => by simp at hx; subst hx; exact ⟨_, rfl, h⟩
  | _, _, .cons h t, j + 1, x, hx => by simpa using t.get j x (by simpa using hx)
theorem F2.getr {α β : Type} {R : α → β → Prop} : ∀ {l : List α} {m : List β}, F2 R l m → ∀ (j : Nat) (y : β), m[j]? = some y → ∃ x, l[j]? = some x ∧ R x y
  | _, _, .nil, j, x, h => by simp at h
  | _, _, .cons h t, 0, x, hx => by simp at hx; subst hx; exact ⟨_, rfl, h⟩
  | _, _, .cons h t, j + 1, x, hx => by simpa using t.getr j x (by simpa using hx)
theorem F2.app {α β : Type} {R : α → β → Prop} : ∀ {l : List α} {m : List β} {l' : List α} {m' : List β}, F2 R l m → F2 R l' m' → F2 R (l ++ l') (m ++ m')
  | _, _, _, _, .nil, h => h
  | _, _, _, _, .cons h t, h' => .cons h (t.app h')
theorem F2.drop {α β : Type} {R : α → β → Prop} : ∀ {l : List α} {m : List β} (n : Nat), F2 R l m → F2 R (l.drop n) (m.drop n)
  | _, _, 0, h => h
  | _, _, n + 1, .nil => .nil
  | _, _, n + 1, .cons _ t => t.drop n
theorem F2.take {α β : Type} {R : α → β → Prop} : ∀ {l : List α} {m : List β} (n : Nat), F2 R l m → F2 R (l.take n) (m.take n)
  | _, _, 0, h => .nil
  | _, _, n + 1, .nil => .nil
  | _, _, n + 1, .cons h t => .cons h (t.take n)
theorem F2.imp {α β : Type} {R S : α → β → Prop} (h : ∀ a b, R a b → S a b) : ∀ {l : List α} {m : List β}, F2 R l m → F2 S l m
  | _, _, .nil => .nil
  | _, _, .cons a b => .cons (h _ _ a) (b.imp h)
theorem F2.set {α β : Type} {R : α → β → Prop} : ∀ {l : List α} {m : List β} (i : Nat) {x : α} {y : β}, F2 R l m → R x y → F2 R (l.set i x) (m.set i y)
  | _, _, _, _, _, .nil, _ => .nil
  | _, _, 0, _, _, .cons _ t, h => .cons h t
  | _, _, i + 1, _, _, .cons k t, h => .cons k (t.set i h)
theorem F2.map {α β γ : Type} {R : α → β → Prop} {S : γ → β → Prop} (f : α → γ) (h : ∀ a b, R a b → S (f a) b) : ∀ {l : List α} {m : List β}, F2 R l m → F2 S (l.map f) m
  | _, _, .nil => .nil
  | _, _, .cons a b => .cons (h _ _ a) (b.map f h)
/-- from the cells of a list -/
theorem F2.of_get {α β : Type} {R : α → β → Prop} : ∀ {l : List α} {m : List β}, l.length = m.length → (∀ (j : Nat) (x : α), l[j]? = some x → ∃ y, m[j]? = some y ∧ R x y) → F2 R l m
  | [], [], _, _ => .nil
  | [], b :: m, h, _ => by simp at h
  | a :: l, [], h, _ => by simp at h
  | a :: l, b :: m, h, k => by
    obtain ⟨y, h1, h2⟩ := k 0 a rfl
    simp at h1
    subst h1
    exact .cons h2 (F2.of_get (by simpa using h) fun j x hx => by simpa using k (j + 1) x (by simpa using hx))

/-- a value of one cell without an address -/
def flat : Value → Bool
  | .bool _ | .int _ _ | .string _ | .pointer none | .slice none _ _ | .nilFunc => true
  | .func _ a b => a.isEmpty && b.isEmpty
  | _ => false
def closed : Value → Bool
  | .agg cs => cs.toList.all flat
  | v => flat v
def One (v : Value) : Prop := v.oneCell' = true ∧ v.cells = #[v]
theorem One.of_flat {v : Value} (h : flat v = true) : One v := by
  unfold flat at h
  split at h <;> first | exact ⟨rfl, rfl⟩ | cases h
def ptrV (a : Addr) : Value := .pointer (some a)

/-- values of one cell that nobody changes any more -/
inductive FV where
  | v (x : Value)
  | sl (z : Option Bool) (cs : List FV) (n : Nat)
  | pt (cs : List FV) (off : Nat)
/-- values of one cell -/
inductive CV where
  | f (x : FV)
  | z0 (z : Option Bool)
  | rp (o off : Nat)
  | rw (o n : Nat)
  | rs (o off n k sz : Nat)
  | fn (g : FuncId) (cs : List (Nat × Nat))
/-- values -/
inductive T1 where
  | c (x : CV)
  | ag (cs : List CV)
inductive TV where
  | u
  | o (x : T1)
  | tp (vs : List T1)
/-- objects: a variable or row that is changed -/
inductive VO where
  | dead
  | bx (cs : List CV) (ty : TypeId)
  | fx (cs : List FV) (ty : TypeId)
def VO.shape : VO → Option (Nat × TypeId)
  | .dead => none
  | .bx cs ty => some (cs.length, ty)
  | .fx cs ty => some (cs.length, ty)
abbrev Kap := Nat → Option Obj
abbrev Hp := Nat → Option VO
abbrev Bt := Nat → Option (Nat × Nat)
def cellK (κ : Kap) (a : Addr) : Option Value := match κ a.block with
  | some (.cells c _ _) => if a.spot.isSome then none else c[a.off]?
  | _ => none
def nilOk (z : Option Bool) (A : Option Addr) : Prop := ∀ b, z = some b → A.isNone = b
inductive FR (K : Kap) : FV → Value → Prop
  | v {x : Value} (h : flat x = true) : FR K (.v x) x
  | sl0 {z : Option Bool} {A : Option Addr} {c : Nat} (h : nilOk z A) : FR K (.sl z [] 0) (.slice A 0 c)
  | sl {z : Option Bool} {ad : Addr} {n c : Nat} {cs : List FV} (us : Nat → Value) (hz : nilOk z (some ad)) (hn : n ≤ c) (h1 : ∀ i x, cs[i]? = some x → cellK K (ad.add i) = some (us i)) (h2 : ∀ i x, cs[i]? = some x → FR K x (us i)) : FR K (.sl z cs n) (.slice (some ad) n c)
  | pt {ad : Addr} {cs : List FV} (off : Nat) (us : Nat → Value) (h1 : ∀ i x, cs[i]? = some x → cellK K (ad.add i) = some (us i)) (h2 : ∀ i x, cs[i]? = some x → FR K x (us i)) : FR K (.pt cs off) (.pointer (some (ad.add off)))
def live (κ : Hp) (o : Nat) : Prop := ∃ x s, κ o = some x ∧ x.shape = some s
def PR (κ : Hp) (β : Bt) (p : Nat × Nat) (ad : Addr) : Prop := κ p.1 = some .dead ∨ (live κ p.1 ∧ ∃ B X, β p.1 = some (B, X) ∧ ad = ⟨B, p.2, none⟩)
def CV.obj : CV → Option Nat
  | .rp o _ | .rw o _ | .rs o _ _ _ _ => some o
  | _ => none
inductive CR (P : Program) (K : Kap) (κ : Hp) (β : Bt) : CV → Value → Prop
  | f {x : FV} {v : Value} (h : FR K x v) : CR P K κ β (.f x) v
  | z0 {z : Option Bool} {A : Option Addr} (h : nilOk z A) : CR P K κ β (.z0 z) (.slice A 0 0)
  | dead {x : CV} {v : Value} {o : Nat} (hx : x.obj = some o) (hd : κ o = some .dead) (h1 : One v) : CR P K κ β x v
  | rp {o off B X : Nat} (hl : live κ o) (hb : β o = some (B, X)) : CR P K κ β (.rp o off) (.pointer (some ⟨B, off, none⟩))
  | rw {o n B X c L ty sz : Nat} {x : VO} (hx : κ o = some x) (hs : x.shape = some (L, ty)) (hz : (P.info? ty).map (fun i => i.size) = some sz) (hL : n * sz = L) (hn : n ≤ c) (hc : c * sz ≤ L + X) (hb : β o = some (B, X)) : CR P K κ β (.rw o n) (.slice (some ⟨B, 0, none⟩) n c)
  | rw0 {o ty : Nat} {x : VO} {A : Option Addr} (hx : κ o = some x) (hs : x.shape = some (0, ty)) (hb : β o = none) : CR P K κ β (.rw o 0) (.slice A 0 0)
  | rs {o off n k sz B X c : Nat} {ad : Addr} (hl : live κ o) (hn : n ≤ c) (hc : k ≤ c) (hb : β o = some (B, X)) (ha : ad = ⟨B, off, none⟩ ∨ c = 0) : CR P K κ β (.rs o off n k sz) (.slice (some ad) n c)
  | rs0 {o off sz : Nat} {A : Option Addr} (hl : live κ o) (hb : β o = none) : CR P K κ β (.rs o off 0 0 sz) (.slice A 0 0)
  | fn (g : FuncId) {cs : List (Nat × Nat)} {ads : List Addr} (h : F2 (PR κ β) cs ads) : CR P K κ β (.fn g cs) (.func (.func g) #[] (ads.map ptrV).toArray)
inductive R1 (P : Program) (K : Kap) (κ : Hp) (β : Bt) : T1 → Value → Prop
  | c {x : CV} {v : Value} (h : CR P K κ β x v) : R1 P K κ β (.c x) v
  | ag {cs : List CV} {ds : List Value} (h : F2 (CR P K κ β) cs ds) : R1 P K κ β (.ag cs) (.agg ds.toArray)
inductive VR (P : Program) (K : Kap) (κ : Hp) (β : Bt) : TV → Value → Prop
  | u {v : Value} : VR P K κ β .u v
  | o {x : T1} {v : Value} (h : R1 P K κ β x v) : VR P K κ β (.o x) v
  | tp {xs : List T1} {ys : List Value} (h : F2 (R1 P K κ β) xs ys) : VR P K κ β (.tp xs) (.tuple ys.toArray)

/-- how memory may go on -/
structure Le (K : Kap) (κ : Hp) (β : Bt) (K' : Kap) (κ' : Hp) (β' : Bt) : Prop where
  k : ∀ b x, K b = some x → K' b = some x
  o : ∀ o x, κ o = some x → κ' o = some .dead ∨ ∃ x', κ' o = some x' ∧ x'.shape = x.shape ∧ β' o = β o
theorem Le.refl (K : Kap) (κ : Hp) (β : Bt) : Le K κ β K κ β := ⟨fun _ _ h => h, fun o x h => .inr ⟨x, h, rfl, rfl⟩⟩
theorem shape_dead {x : VO} (h : x.shape = none) : x = .dead := by cases x <;> first | rfl | cases h
theorem Le.trans {K K1 K2 : Kap} {κ κ1 κ2 : Hp} {β β1 β2 : Bt} (a : Le K κ β K1 κ1 β1) (b : Le K1 κ1 β1 K2 κ2 β2) : Le K κ β K2 κ2 β2 := by
  refine ⟨fun z x h => b.k z x (a.k z x h), fun o x h => ?_⟩
  rcases a.o o x h with h1 | ⟨x1, h1, h2, h3⟩
  · rcases b.o o _ h1 with h4 | ⟨x2, h4, h5, _⟩
    · exact .inl h4
    · exact .inl (by rw [h4, shape_dead h5])
  · rcases b.o o _ h1 with h4 | ⟨x2, h4, h5, h6⟩
    · exact .inl h4
    · exact .inr ⟨x2, h4, h5.trans h2, h6.trans h3⟩
theorem cellK_mono {K K' : Kap} (h : ∀ b x, K b = some x → K' b = some x) {a : Addr} {v : Value} (hc : cellK K a = some v) : cellK K' a = some v := by
  unfold cellK at hc ⊢
  cases hk : K a.block with
  | none => rw [hk] at hc; cases hc
  | some x => rw [hk] at hc; rw [h _ _ hk]; exact hc
theorem FR.mono {K K' : Kap} (h : ∀ b x, K b = some x → K' b = some x) {x : FV} {v : Value} (r : FR K x v) : FR K' x v := by
  induction r with
  | v h => exact .v h
  | sl0 h => exact .sl0 h
  | sl us hz hn h1 h2 ih => exact .sl us hz hn (fun i x hx => cellK_mono h (h1 i x hx)) ih
  | pt off us h1 h2 ih => exact .pt off us (fun i x hx => cellK_mono h (h1 i x hx)) ih
theorem FR.one {K : Kap} {x : FV} {v : Value} (r : FR K x v) : One v := by
  cases r with
  | v h => exact .of_flat h
  | sl0 h => exact ⟨rfl, rfl⟩
  | sl us hz hn h1 h2 => exact ⟨rfl, rfl⟩
  | pt off us h1 h2 => exact ⟨rfl, rfl⟩
section
variable {P : Program} {K K' : Kap} {κ κ' : Hp} {β β' : Bt}
theorem CR.one {x : CV} {v : Value} (r : CR P K κ β x v) : One v := by
  cases r with
  | f h => exact h.one
  | dead _ _ h => exact h
  | _ => exact ⟨rfl, rfl⟩
theorem live_le (e : Le K κ β K' κ' β') {o : Nat} (h : live κ o) : κ' o = some .dead ∨ (live κ' o ∧ β' o = β o) := by
  obtain ⟨x, s, h1, h2⟩ := h
  rcases e.o o x h1 with h3 | ⟨x', h3, h4, h5⟩
  · exact .inl h3
  · exact .inr ⟨⟨x', s, h3, h4.trans h2⟩, h5⟩
theorem dead_le (e : Le K κ β K' κ' β') {o : Nat} (h : κ o = some .dead) : κ' o = some .dead := by
  rcases e.o o _ h with h3 | ⟨x', h3, h4, _⟩
  · exact h3
  · rw [h3, shape_dead h4]
theorem PR.mono (e : Le K κ β K' κ' β') {p : Nat × Nat} {ad : Addr} (h : PR κ β p ad) : PR κ' β' p ad := by
  rcases h with h | ⟨h, B, X, h1, h2⟩
  · exact .inl (dead_le e h)
  · rcases live_le e h with h3 | ⟨h3, h4⟩
    · exact .inl h3
    · exact .inr ⟨h3, B, X, h4.trans h1, h2⟩
theorem CR.mono (e : Le K κ β K' κ' β') {x : CV} {v : Value} (r : CR P K κ β x v) : CR P K' κ' β' x v := by
  have one := r.one
  cases r with
  | f h => exact .f (h.mono e.k)
  | z0 h => exact .z0 h
  | dead hx hd h1 => exact .dead hx (dead_le e hd) h1
  | rp hl hb =>
    rcases live_le e hl with h3 | ⟨h3, h4⟩
    · exact .dead rfl h3 one
    · exact .rp h3 (h4.trans hb)
  | rw hx hs hz hL hn hc hb =>
    rcases e.o _ _ hx with h3 | ⟨x', h3, h4, h5⟩
    · exact .dead rfl h3 one
    · exact .rw h3 (h4.trans hs) hz hL hn hc (h5.trans hb)
  | rw0 hx hs hb =>
    rcases e.o _ _ hx with h3 | ⟨x', h3, h4, h5⟩
    · exact .dead rfl h3 one
    · exact .rw0 h3 (h4.trans hs) (h5.trans hb)
  | rs hl hn hc hb ha =>
    rcases live_le e hl with h3 | ⟨h3, h4⟩
    · exact .dead rfl h3 one
    · exact .rs h3 hn hc (h4.trans hb) ha
  | rs0 hl hb =>
    rcases live_le e hl with h3 | ⟨h3, h4⟩
    · exact .dead rfl h3 one
    · exact .rs0 h3 (h4.trans hb)
  | fn g h => exact .fn g (h.imp fun _ _ k => k.mono e)
theorem R1.mono (e : Le K κ β K' κ' β') {x : T1} {v : Value} (r : R1 P K κ β x v) : R1 P K' κ' β' x v := by
  cases r with
  | c h => exact .c (h.mono e)
  | ag h => exact .ag (h.imp fun _ _ k => k.mono e)
theorem VR.mono (e : Le K κ β K' κ' β') {x : TV} {v : Value} (r : VR P K κ β x v) : VR P K' κ' β' x v := by
  cases r with
  | u => exact .u
  | o h => exact .o (h.mono e)
  | tp h => exact .tp (h.imp fun _ _ k => k.mono e)
/-- the cells of a value -/
def T1.cells : T1 → List CV
  | .c x => [x]
  | .ag cs => cs
theorem R1.cells {x : T1} {v : Value} (r : R1 P K κ β x v) : F2 (CR P K κ β) x.cells v.cells.toList := by
  cases r with
  | c h => rw [h.one.2]; exact .cons h .nil
  | ag h => exact h
end

/-! ### worlds -/
/-- how an object lies in memory -/
def OO (P : Program) (K : Kap) (κ : Hp) (β : Bt) (w : World) (bt : Option (Nat × Nat)) : VO → Prop
  | .dead => True
  | .bx cs ty => ∃ (B X : Nat) (C : Array Value) (e lo hi : Nat), bt = some (B, X) ∧ w.heap[B]? = some (.cells C e (lo, hi)) ∧ cs.length + X ≤ C.size ∧ (lo = hi ∨ cs.length + X ≤ lo) ∧ ∀ (j : Nat) (x : CV), cs[j]? = some x → ∃ v, C[j]? = some v ∧ CR P K κ β x v
  | .fx cs ty => (bt = none ∧ cs = []) ∨ ∃ (B X : Nat) (C : Array Value) (e lo hi : Nat), bt = some (B, X) ∧ w.heap[B]? = some (.cells C e (lo, hi)) ∧ cs.length + X ≤ C.size ∧ (lo = hi ∨ cs.length + X ≤ lo) ∧ ∀ (j : Nat) (x : FV), cs[j]? = some x → ∃ v, C[j]? = some v ∧ FR K x v
structure VRel (P : Program) (K : Kap) (κ : Hp) (β : Bt) (w : World) : Prop where
  kw : ∀ b x, K b = some x → w.heap[b]? = some x
  ob : ∀ o x, κ o = some x → OO P K κ β w (β o) x
  inj : ∀ o o' B X X', live κ o → live κ o' → β o = some (B, X) → β o' = some (B, X') → o = o'
  sep : ∀ o B X, live κ o → β o = some (B, X) → K B = none
theorem OO.lt {P : Program} {K : Kap} {κ : Hp} {β : Bt} {w : World} {x : VO} {B X : Nat} {s : Nat × TypeId} (h : OO P K κ β w (some (B, X)) x) (hs : x.shape = some s) : B < w.heap.size := by
  cases x with
  | dead => cases hs
  | bx cs ty =>
    obtain ⟨B', X', C, e, lo, hi, h1, h2, _⟩ := h
    cases h1
    exact (Array.getElem?_eq_some_iff.1 h2).1
  | fx cs ty =>
    rcases h with ⟨h, _⟩ | ⟨B', X', C, e, lo, hi, h1, h2, _⟩
    · cases h
    · cases h1
      exact (Array.getElem?_eq_some_iff.1 h2).1
theorem VRel.lt {P : Program} {K : Kap} {κ : Hp} {β : Bt} {w : World} (R : VRel P K κ β w) {o B X : Nat} (hl : live κ o) (hb : β o = some (B, X)) : B < w.heap.size := by
  obtain ⟨x, s, h1, h2⟩ := hl
  have := R.ob o x h1
  rw [hb] at this
  exact this.lt h2
theorem OO.mono {P : Program} {K K' : Kap} {κ κ' : Hp} {β β' : Bt} {w w' : World} {x : VO} {bt : Option (Nat × Nat)} (h : OO P K κ β w bt x) (e : Le K κ β K' κ' β') (hw : ∀ B X, bt = some (B, X) → w'.heap[B]? = w.heap[B]?) : OO P K' κ' β' w' bt x := by
  cases x with
  | dead => trivial
  | bx cs ty =>
    obtain ⟨B, X, C, e1, lo, hi, h1, h2, h3, h4, h5⟩ := h
    exact ⟨B, X, C, e1, lo, hi, h1, (hw B X h1).trans h2, h3, h4, fun j x hx => by obtain ⟨v, k1, k2⟩ := h5 j x hx; exact ⟨v, k1, k2.mono e⟩⟩
  | fx cs ty =>
    rcases h with h | ⟨B, X, C, e1, lo, hi, h1, h2, h3, h4, h5⟩
    · exact .inl h
    · exact .inr ⟨B, X, C, e1, lo, hi, h1, (hw B X h1).trans h2, h3, h4, fun j x hx => by obtain ⟨v, k1, k2⟩ := h5 j x hx; exact ⟨v, k1, k2.mono e.k⟩⟩
theorem cellK_w {K : Kap} {w : World} (h : ∀ b x, K b = some x → w.heap[b]? = some x) {a : Addr} {v : Value} (hc : cellK K a = some v) : w.cell? a = some v := by
  unfold cellK at hc
  cases hk : K a.block with
  | none => rw [hk] at hc; cases hc
  | some x =>
    rw [hk] at hc
    unfold World.cell?
    rw [h _ _ hk]
    exact hc
end Go.Proofs.Ytpjlgjhkdligfaa.Vg

namespace Go.Proofs.Ytpjlgjhkdligfaa.Vg
open Go.RowKit
set_option linter.unusedVariables false
set_option linter.unusedSimpArgs false

/-- what asks nothing of the world -/
def runP (P : Program) {α : Type} : Sem α → Option α
  | .pure a => some a
  | .program k => runP P (k P)
  | .mark _ k => runP P k
  | _ => none
theorem runP_run {P : Program} {α : Type} : ∀ (s : Sem α) (a : α), runP P s = some a → ∀ w, s.run P w = .ok a w := by
  intro s
  induction s with
  | pure a => intro b h w; simp only [runP, Option.some.injEq] at h; subst h; rfl
  | program k ih => intro b h w; simp only [runP] at h; simp only [Sem.run]; exact ih P b h w
  | mark m k ih => intro b h w; simp only [runP] at h; simp only [Sem.run]; exact ih b h w
  | _ => intro b h; simp [runP] at h
def unk : Value := .tuple #[.tuple #[]]
abbrev Tv := List (Nat × TV)
def tget : Tv → Nat → TV
  | [], _ => .u
  | (k, v) :: r, t => bif Nat.beq k t then v else tget r t
def atom (x : Value) : TV := .o (.c (.f (.v x)))
def ofVal (v : Value) : TV := match v with
  | .agg cs => bif cs.toList.all flat then .o (.ag (cs.toList.map fun x => .f (.v x))) else .u
  | v => bif flat v then atom v else .u
def opd (ts : Tv) : Operand → TV
  | .tmp t => tget ts t
  | .const v => ofVal v
  | .func f => atom (.func (.func f) #[] #[])
  | .global _ => .u
def atomC : CV → Option Value
  | .f (.v x) => bif flat x then some x else none
  | _ => none
def atomL : List CV → Option (List Value)
  | [] => some []
  | x :: r => match atomC x with
    | some v => match atomL r with
      | some l => some (v :: l)
      | none => none
    | none => none
def toVal : TV → Option Value
  | .o (.c x) => atomC x
  | .o (.ag cs) => match atomL cs with
    | some l => some (.agg l.toArray)
    | none => none
  | _ => none
def TR (P : Program) (K : Kap) (κ : Hp) (β : Bt) (ts : Tv) (tmps : Array Value) : Prop := ∀ t, VR P K κ β (tget ts t) (tmps.getD t undef)
section
variable {P : Program} {K K' : Kap} {κ κ' : Hp} {β β' : Bt} {ts : Tv} {a : Act} {o : Oper} {w : World}
theorem TR.mono (T : TR P K κ β ts a.tmps) (e : Le K κ β K' κ' β') : TR P K' κ' β' ts a.tmps := fun t => (T t).mono e
theorem f2_flat : ∀ {cs : List Value}, cs.all flat = true → F2 (CR P K κ β) (cs.map fun x => .f (.v x)) cs
  | [], _ => .nil
  | x :: cs, h => by
    simp only [List.all_cons, Bool.and_eq_true] at h
    exact .cons (.f (.v h.1)) (f2_flat h.2)
theorem ofVal_sim (v : Value) : VR P K κ β (ofVal v) v := by
  unfold ofVal
  split
  · rename_i cs
    cases hb : cs.toList.all flat with
    | false => exact .u
    | true => exact .o (.ag (ds := cs.toList) (f2_flat hb))
  · cases hb : flat v with
    | false => exact .u
    | true => exact .o (.c (.f (.v hb)))
theorem opd_sim (T : TR P K κ β ts a.tmps) (x : Operand) : VR P K κ β (opd ts x) (a.eval x) := by
  cases x with
  | tmp t => exact T t
  | const v => exact ofVal_sim v
  | global g => exact .u
  | func f => exact .o (.c (.f (.v rfl)))
theorem FR.atom {x : Value} {v : Value} (h : FR K (.v x) v) : v = x := by cases h; rfl
theorem CR.atomC {x : CV} {v u : Value} (h : CR P K κ β x v) (k : atomC x = some u) : v = u ∧ flat u = true := by
  unfold Vg.atomC at k
  split at k
  · rename_i y
    cases hb : flat y with
    | false => rw [hb] at k; cases k
    | true =>
      rw [hb] at k
      simp only [cond_true, Option.some.injEq] at k
      subst k
      cases h with
      | f h => exact ⟨h.atom, hb⟩
      | dead hx _ _ => cases hx
  · cases k
theorem CR.atomL : ∀ {xs : List CV} {vs us : List Value}, F2 (CR P K κ β) xs vs → atomL xs = some us → vs = us ∧ us.all flat = true
  | _, _, us, .nil, k => by simp only [Vg.atomL, Option.some.injEq] at k; subst k; exact ⟨rfl, rfl⟩
  | _, _, us, .cons h t, k => by
    simp only [Vg.atomL] at k
    split at k
    · rename_i v hv
      split at k
      · rename_i l hl
        simp only [Option.some.injEq] at k
        subst k
        obtain ⟨h1, h2⟩ := h.atomC hv
        obtain ⟨h3, h4⟩ := CR.atomL t hl
        subst h1 h3
        exact ⟨rfl, by simp [h2, h4]⟩
      · cases k
    · cases k
theorem VR.toVal {x : TV} {v u : Value} (h : VR P K κ β x v) (k : toVal x = some u) : v = u := by
  unfold Vg.toVal at k
  split at k
  · cases h with | o h => cases h with | c h => exact (h.atomC k).1
  · split at k
    · rename_i l hl
      simp only [Option.some.injEq] at k
      subst k
      cases h with | o h => cases h with | ag h => rw [(CR.atomL h hl).1]
    · cases k
  · cases k
theorem opd_val (T : TR P K κ β ts a.tmps) {x : Operand} {v : Value} (h : toVal (opd ts x) = some v) : a.eval x = v := (opd_sim T x).toVal h
theorem opd_atom (T : TR P K κ β ts a.tmps) {x : Operand} {v : Value} (h : opd ts x = .o (.c (.f (.v v)))) : a.eval x = v := by
  have := opd_sim T x
  rw [h] at this
  cases this with | o h => cases h with | c h => cases h with
  | f h => exact h.atom
  | dead hx _ _ => cases hx
theorem opd_c (T : TR P K κ β ts a.tmps) {x : Operand} {c : CV} (h : opd ts x = .o (.c c)) : CR P K κ β c (a.eval x) := by
  have := opd_sim T x
  rw [h] at this
  cases this with | o h => cases h with | c h => exact h
theorem opd_ag (T : TR P K κ β ts a.tmps) {x : Operand} {cs : List CV} (h : opd ts x = .o (.ag cs)) : ∃ ds : List Value, a.eval x = .agg ds.toArray ∧ F2 (CR P K κ β) cs ds := by
  have := opd_sim T x
  rw [h] at this
  generalize a.eval x = y at this ⊢
  cases this with | o h => cases h with | ag h => exact ⟨_, rfl, h⟩
theorem opd_1 (T : TR P K κ β ts a.tmps) {x : Operand} {c : T1} (h : opd ts x = .o c) : R1 P K κ β c (a.eval x) := by
  have := opd_sim T x
  rw [h] at this
  cases this with | o h => exact h
/-! ### on closed values -/
def clo (ts : Tv) (x : Operand) : Bool := (toVal (opd ts x)).isSome
def runC (P : Program) (ts : Tv) (o : Oper) : Option TV :=
  bif o.op.operands.toList.all (clo ts) then (match runP P (execOp (fun x => (toVal (opd ts x)).getD unk) o) with
    | some (.value v) => some (ofVal v)
    | _ => none) else none
/-- as runC, the answer told from without -/
def runQ (P : Program) (ts : Tv) (o : Oper) (v : Value) : Prop := runP P (execOp (fun x => (toVal (opd ts x)).getD unk) o) = some (.value v)
theorem exec_clo (T : TR P K κ β ts a.tmps) (hs : ∀ cs b, o.op ≠ .select cs b) (hb : o.op.operands.toList.all (clo ts) = true) : execOp a.eval o = execOp (fun x => (toVal (opd ts x)).getD unk) o := by
  symm
  refine execOp_congr (ρ := fun x => (toVal (opd ts x)).getD unk) (ρ' := a.eval) o hs ?_
  intro x hx
  have hk := List.all_eq_true.1 hb x (by simpa using hx)
  unfold clo at hk
  cases hy : toVal (opd ts x) with
  | none => rw [hy] at hk; cases hk
  | some y => simp [hy, opd_val T hy]
theorem runC_sim (T : TR P K κ β ts a.tmps) {v : TV} (hs : ∀ cs b, o.op ≠ .select cs b) (h : runC P ts o = some v) (w : World) : ∃ v', (execOp a.eval o).run P w = .ok (.value v') w ∧ VR P K κ β v v' := by
  unfold runC at h
  cases hb : o.op.operands.toList.all (clo ts) with
  | false => rw [hb] at h; cases h
  | true =>
    rw [hb] at h
    simp only [cond_true] at h
    split at h
    · rename_i u hu
      simp only [Option.some.injEq] at h
      subst h
      exact ⟨u, by rw [exec_clo T hs hb]; exact runP_run _ _ hu w, ofVal_sim u⟩
    · cases h
theorem runQ_sim (T : TR P K κ β ts a.tmps) {v : Value} (hs : ∀ cs b, o.op ≠ .select cs b) (hb : o.op.operands.toList.all (clo ts) = true) (h : runQ P ts o v) (w : World) : ∃ v', (execOp a.eval o).run P w = .ok (.value v') w ∧ VR P K κ β (ofVal v) v' :=
  ⟨v, by rw [exec_clo T hs hb]; exact runP_run _ _ h w, ofVal_sim v⟩
/-! ### parts of a value -/
def isAggD : TypeDesc → Bool
  | .struct _ | .array _ _ => true
  | _ => false
def partE (P : Program) (t : TypeId) (cs : List CV) (off : Nat) : Option TV :=
  match P.info? t, P.underlying t with
  | some i, some d => bif isAggD d then some (.o (.ag ((cs.drop off).take i.size))) else (match cs[off]? with
    | some x => some (.o (.c x))
    | none => none)
  | _, _ => none
theorem isAgg_run {t : TypeId} {d : TypeDesc} (h : P.underlying t = some d) (w : World) : (isAgg t).run P w = .ok (isAggD d) w := by
  unfold isAgg
  rw [Sem.run_bind, run_underlying h w]
  cases d <;> rfl
theorem sizeOf_run {t : TypeId} {i : TypeInfo} (h : P.info? t = some i) (w : World) : (sizeOf t).run P w = .ok i.size w := by
  simp [sizeOf, typeInfo, Sem.run_bind, h]
theorem part_sim {t : TypeId} {xs : List CV} {ys : List Value} {off : Nat} {v : TV} (hf : F2 (CR P K κ β) xs ys) (h : partE P t xs off = some v) (w : World) : ∃ v', (part t ys.toArray off).run P w = .ok v' w ∧ VR P K κ β v v' := by
  unfold partE at h
  split at h
  · rename_i i d hi hd
    cases hb : isAggD d with
    | true =>
      rw [hb] at h
      simp only [cond_true, Option.some.injEq] at h
      subst h
      refine ⟨.agg ((ys.drop off).take i.size).toArray, ?_, .o (.ag ((hf.drop off).take i.size))⟩
      unfold part
      rw [Sem.run_bind, isAgg_run hd w, hb]
      simp only [Result.andThen_ok, if_true, Sem.run_bind, sizeOf_run hi w, Sem.run_pure]
      congr 2
      apply Array.ext'
      simp
    | false =>
      rw [hb] at h
      simp only [cond_false] at h
      split at h
      · rename_i x hx
        simp only [Option.some.injEq] at h
        subst h
        obtain ⟨v', h1, h2⟩ := hf.get off x hx
        refine ⟨v', ?_, .o (.c h2)⟩
        unfold part
        rw [Sem.run_bind, isAgg_run hd w, hb]
        simp [h1]
      · cases h
  · cases h
def fieldE (P : Program) (t : TypeId) (cs : List CV) (f : Nat) : Option TV :=
  match P.underlying t with
  | some (.struct fields) => match fields[f]? with
    | some fd => partE P fd.type cs fd.offset
    | none => none
  | _ => none
theorem field_sim {t : TypeId} {xs : List CV} {ys : List Value} {f : Nat} {v : TV} (hf : F2 (CR P K κ β) xs ys) (h : fieldE P t xs f = some v) (w : World) : ∃ v', (Instr.field t (.agg ys.toArray) f).run P w = .ok v' w ∧ VR P K κ β v v' := by
  unfold fieldE at h
  split at h
  · rename_i fields hd
    split at h
    · rename_i fd hfd
      obtain ⟨v', h1, h2⟩ := part_sim hf h w
      refine ⟨v', ?_, h2⟩
      unfold Instr.field
      simp only [Sem.run_bind, run_underlying hd, Result.andThen_ok, hfd, asAgg, Sem.run_pure, h1]
    · cases h
  · cases h
def indexE (P : Program) (t : TypeId) (cs : List CV) (i : Int) : Option (TV × Prop) :=
  match P.underlying t with
  | some (.array n e) => match P.info? e with
    | some ie => match partE P e cs (i.toNat * ie.size) with
      | some v => some (v, 0 ≤ i ∧ i < n)
      | none => none
    | none => none
  | _ => none
theorem index_sim {t : TypeId} {xs : List CV} {ys : List Value} {i : Int} {k : IntKind} {v : TV} {q : Prop} (hf : F2 (CR P K κ β) xs ys) (h : indexE P t xs i = some (v, q)) (hq : q) (w : World) : ∃ v', (Instr.index t (.agg ys.toArray) (.int k i)).run P w = .ok v' w ∧ VR P K κ β v v' := by
  unfold indexE at h
  split at h
  · rename_i n e hd
    split at h
    · rename_i ie hie
      split at h
      · rename_i u1 hu
        simp only [Option.some.injEq, Prod.mk.injEq] at h
        obtain ⟨rfl, rfl⟩ := h
        obtain ⟨v', h1, h2⟩ := part_sim hf hu w
        refine ⟨v', ?_, h2⟩
        unfold Instr.index
        simp only [asIntOf, Sem.run_bind, Sem.run_pure, run_underlying hd, Result.andThen_ok, Sem.run_ite]
        rw [if_pos hq]
        simp only [Sem.run_bind, sizeOf_run hie, Result.andThen_ok, h1]
      · cases h
    · cases h
  · cases h
/-! ### structs built -/
def pvals (ts : Tv) : List (Nat × Operand) → Option (List (Nat × T1))
  | [] => some []
  | (i, x) :: r => match opd ts x with
    | .o v => (match pvals ts r with | some l => some ((i, v) :: l) | none => none)
    | _ => none
theorem pvals_sim (T : TR P K κ β ts a.tmps) : ∀ (xs : List (Nat × Operand)) (l : List (Nat × T1)), pvals ts xs = some l → F2 (fun (p : Nat × T1) (q : Nat × Value) => p.1 = q.1 ∧ R1 P K κ β p.2 q.2) l (xs.map fun (i, x) => (i, a.eval x))
  | [], l, h => by simp only [pvals, Option.some.injEq] at h; subst h; exact .nil
  | (i, x) :: xs, l, h => by
    simp only [pvals] at h
    split at h
    · rename_i v hx
      split at h
      · rename_i l1 hl
        simp only [Option.some.injEq] at h
        subst h
        exact .cons ⟨rfl, opd_1 T hx⟩ (pvals_sim T xs l1 hl)
      · cases h
    · cases h
def setL {α : Type} : List α → Nat → List α → List α
  | cs, _, [] => cs
  | cs, o, v :: vs => setL (cs.set o v) (o + 1) vs
def fillV (pl : Nat → Option (Nat × Nat)) : List CV → List (Nat × T1) → Option (List CV)
  | cs, [] => some cs
  | cs, (i, v) :: r => match pl i with
    | some (off, size) => bif Nat.beq v.cells.length size && Nat.ble (off + size) cs.length then fillV pl (setL cs off v.cells) r else none
    | none => none
theorem setL_sim {R : CV → Value → Prop} : ∀ {vs : List CV} {vs' : List Value} (off k : Nat) {cs : List CV} {cs' : Array Value}, F2 R vs vs' → F2 R cs cs'.toList →
    F2 R (setL cs (off + k) vs) ((vs'.zipIdx k).foldl (fun cs (x : Value × Nat) => cs.setIfInBounds (off + x.2) x.1) cs').toList
  | _, _, off, k, cs, cs', .nil, h => h
  | _, _, off, k, cs, cs', .cons h t, hc => by
    simp only [List.zipIdx_cons, List.foldl_cons, setL]
    refine setL_sim off (k + 1) t ?_
    simp only [Array.toList_setIfInBounds]
    exact hc.set _ h
theorem fill_sim (pl : Nat → Option (Nat × Nat)) : ∀ {ps : List (Nat × T1)} {qs : List (Nat × Value)} {cs r : List CV} {cs' : Array Value}, F2 (fun (p : Nat × T1) (q : Nat × Value) => p.1 = q.1 ∧ R1 P K κ β p.2 q.2) ps qs → F2 (CR P K κ β) cs cs'.toList → fillV pl cs ps = some r →
    ∃ r', Instr.fill pl cs' qs = some r' ∧ F2 (CR P K κ β) r r'.toList
  | _, _, cs, r, cs', .nil, hc, h => by
    simp only [fillV, Option.some.injEq] at h
    subst h
    exact ⟨cs', rfl, hc⟩
  | _, _, cs, r, cs', .cons (a := p) (b := q) (l := ps) (m := qs) hp t, hc, h => by
    obtain ⟨i, v⟩ := p
    obtain ⟨j, u⟩ := q
    obtain ⟨h1, h2⟩ := hp
    simp only at h1 h2
    subst h1
    simp only [fillV] at h
    simp only [Instr.fill]
    have hvc := h2.cells
    have hs : v.cells.length = u.cells.size := by have := hvc.len; simpa using this
    have hs2 : cs.length = cs'.size := by have := hc.len; simpa using this
    cases hpl : pl i with
    | none => rw [hpl] at h; cases h
    | some os =>
      obtain ⟨off, size⟩ := os
      rw [hpl] at h
      simp only at h ⊢
      cases hb : (Nat.beq v.cells.length size && Nat.ble (off + size) cs.length) with
      | false => rw [hb] at h; cases h
      | true =>
        rw [hb] at h
        simp only [cond_true] at h
        simp only [Bool.and_eq_true] at hb
        have b1 := Nat.eq_of_beq_eq_true hb.1
        have b2 := Nat.le_of_ble_eq_true hb.2
        rw [if_neg (by simp; omega)]
        refine fill_sim pl t ?_ h
        rw [← Array.foldl_toList, Array.toList_zipIdx]
        exact setL_sim off 0 hvc hc
def placesE (P : Program) (t : TypeId) : Option (List CV × (Nat → Option (Nat × Nat))) :=
  match P.info? t, P.underlying t with
  | some i, some (.struct fields) => match i.zero, runP P (fields.mapM fun f => (do pure (f.offset, ← sizeOf f.type) : Sem (Nat × Nat))) with
    | some z, some places => bif z.cells.toList.all flat then some (z.cells.toList.map (fun x => .f (.v x)), fun j => places[j]?) else none
    | _, _ => none
  | some i, some (.array _ elem) => match i.zero, P.info? elem with
    | some z, some ie => bif z.cells.toList.all flat then some (z.cells.toList.map (fun x => .f (.v x)), fun j => some (j * ie.size, ie.size)) else none
    | _, _ => none
  | _, _ => none
theorem build_sim {t : TypeId} {ps : List (Nat × T1)} {qs : List (Nat × Value)} {z r : List CV} {pl : Nat → Option (Nat × Nat)} (hp : placesE P t = some (z, pl)) (hf : F2 (fun (p : Nat × T1) (q : Nat × Value) => p.1 = q.1 ∧ R1 P K κ β p.2 q.2) ps qs) (h : fillV pl z ps = some r) (w : World) :
    ∃ r' : List Value, (Instr.build t qs.toArray).run P w = .ok (.agg r'.toArray) w ∧ F2 (CR P K κ β) r r' := by
  unfold placesE at hp
  split at hp
  · rename_i i fields hi hd
    split at hp
    · rename_i z0 places hz hpl
      cases hfl : z0.cells.toList.all flat with
      | false => rw [hfl] at hp; cases hp
      | true =>
        rw [hfl] at hp
        simp only [cond_true, Option.some.injEq, Prod.mk.injEq] at hp
        obtain ⟨rfl, rfl⟩ := hp
        obtain ⟨r', h1, h2⟩ := fill_sim _ hf (cs' := z0.cells) (f2_flat hfl) h
        refine ⟨r'.toList, ?_, h2⟩
        have hzr : (zeroValue t).run P w = .ok z0 w := by simp [zeroValue, typeInfo, Sem.run_bind, hi, hz]
        have hmr := runP_run _ _ hpl w
        unfold Instr.build
        simp only [Sem.run_bind, hzr, Result.andThen_ok, run_underlying hd]
        simp only [Sem.run_bind, hmr, Result.andThen_ok, h1]
        rfl
    · cases hp
  · rename_i i n elem hi hd
    split at hp
    · rename_i z0 ie hz hie
      cases hfl : z0.cells.toList.all flat with
      | false => rw [hfl] at hp; cases hp
      | true =>
        rw [hfl] at hp
        simp only [cond_true, Option.some.injEq, Prod.mk.injEq] at hp
        obtain ⟨rfl, rfl⟩ := hp
        obtain ⟨r', h1, h2⟩ := fill_sim _ hf (cs' := z0.cells) (f2_flat hfl) h
        refine ⟨r'.toList, ?_, h2⟩
        have hzr : (zeroValue t).run P w = .ok z0 w := by simp [zeroValue, typeInfo, Sem.run_bind, hi, hz]
        unfold Instr.build
        simp only [Sem.run_bind, hzr, Result.andThen_ok, run_underlying hd, sizeOf_run hie, h1]
        rfl
    · cases hp
  · cases hp
end
end Go.Proofs.Ytpjlgjhkdligfaa.Vg

namespace Go.Proofs.Ytpjlgjhkdligfaa.Vg
open Go.RowKit
set_option linter.unusedVariables false
set_option linter.unusedSimpArgs false

theorem add_add' (a : Addr) (i j : Nat) : (a.add i).add j = a.add (i + j) := by
  obtain ⟨b, o, s⟩ := a
  unfold Addr.add
  by_cases hi : i = 0
  · subst hi; simp
  · by_cases hj : j = 0
    · subst hj; simp [hi]
    · simp only [hi, hj, if_false]
      rw [if_neg (by omega)]
      simp [Nat.add_assoc]
theorem add_eq {a : Addr} (h : a.spot = none) (j : Nat) : a.add j = ⟨a.block, a.off + j, none⟩ := by
  obtain ⟨x, y, z⟩ := a
  simp only at h
  subst h
  unfold Addr.add
  split
  · rename_i h; subst h; rfl
  · rfl
structure Rs where
  v : TV
  rd : List Nat
  q : Prop
def liveB (κ : Hp) (o : Nat) : Bool := match κ o with
  | some (.bx _ _) => true
  | some (.fx _ _) => true
  | _ => false
theorem cond_sm {α : Type} {b : Bool} {x y : α} (h : (bif b then some x else none) = some y) : b = true ∧ x = y := by
  cases b with
  | true => exact ⟨rfl, Option.some.inj h⟩
  | false => cases h
def nilP (κ : Hp) : CV → Option (Bool × List Nat)
  | .rp o _ => bif liveB κ o then some (false, [o]) else none
  | .f (.pt _ _) => some (false, [])
  | _ => none
def nilS (κ : Hp) : CV → Option (Bool × List Nat)
  | .f (.sl (some z) _ _) => some (z, [])
  | .z0 (some z) => some (z, [])
  | .f (.sl none _ n) => bif Nat.ble 1 n then some (false, []) else none
  | .rw o n => bif Nat.ble 1 n && liveB κ o then some (false, [o]) else none
  | .rs o _ n _ _ => bif Nat.ble 1 n && liveB κ o then some (false, [o]) else none
  | _ => none
def nilF : CV → Option (Bool × List Nat)
  | .fn _ _ => some (false, [])
  | _ => none
def opB : BinOp → Bool → Option Bool
  | .eql, z => some z
  | .neq, z => some (!z)
  | _, _ => none
def nilK (P : Program) (κ : Hp) (t : TypeId) (u : Value) (c : CV) : Option (Bool × List Nat) := match P.underlying t, u with
  | some (.pointer _), .pointer none => nilP κ c
  | some (.slice _), .slice none _ _ => nilS κ c
  | some (.func _ _ _), .nilFunc => nilF c
  | _, _ => none
def nilE (P : Program) (κ : Hp) (op : BinOp) (t : TypeId) (x y : TV) : Option (Bool × List Nat) := match x, y with
  | .o (.c c), .o (.c (.f (.v u))) => match nilK P κ t u c with
    | some (z, rd) => (match opB op z with
      | some b => some (b, rd)
      | none => none)
    | none => none
  | _, _ => none
/-- how cells are told: by the row's cells and the place -/
abbrev Tld := List FV → Nat → List FV
/-- size cells from off on -/
def takeF (cs : List FV) (off size : Nat) : Option Tld → Option (List FV × Prop)
  | some f => bif Nat.beq (f cs off).length size then some (f cs off, (cs.drop off).take size = f cs off) else none
  | none => bif Nat.beq ((cs.drop off).take size).length size then some ((cs.drop off).take size, True) else none
def ofCells (agg : Bool) (xs : List CV) : Option TV := bif agg then some (.o (.ag xs)) else (match xs with
  | [x] => some (.o (.c x))
  | _ => none)
def loadE (P : Program) (κ : Hp) (t : TypeId) (p : CV) (xs : Option Tld) : Option Rs := match P.info? t, P.underlying t with
  | some i, some d => match p with
    | .rp o off => match κ o with
      | some (.bx cs _) => bif Nat.beq ((cs.drop off).take i.size).length i.size then (match ofCells (isAggD d) ((cs.drop off).take i.size) with
        | some v => some ⟨v, [o], True⟩
        | none => none) else none
      | some (.fx cs _) => match takeF cs off i.size xs with
        | some (ys, q) => match ofCells (isAggD d) (ys.map .f) with
          | some v => some ⟨v, [o], q⟩
          | none => none
        | none => none
      | _ => none
    | .f (.pt cs off) => match takeF cs off i.size xs with
      | some (ys, q) => match ofCells (isAggD d) (ys.map .f) with
        | some v => some ⟨v, [], q⟩
        | none => none
      | none => none
    | _ => none
  | _, _ => none
def optI (ts : Tv) : Option Operand → Option (Option Int)
  | none => some none
  | some x => match opd ts x with
    | .o (.c (.f (.v (.int _ n)))) => some (some n)
    | _ => none
/-- the bounds of a cut and what is asked of them -/
def bndL (lo : Option Int) : Nat := match lo with | some l => l.toNat | none => 0
def bndH (len : Nat) (hi : Option Int) : Nat := match hi with | some h => h.toNat | none => len
def bndQ (len cap : Nat) (lo hi : Option Int) : Prop :=
  (match hi with | some h => 0 ≤ h ∧ h ≤ cap | none => len ≤ cap) ∧ (match lo with | some l => 0 ≤ l ∧ l ≤ (match hi with | some h => h | none => (len : Int)) | none => True)
def sizeE (P : Program) (t : TypeId) : Option Nat := match P.underlying t with
  | some (.slice e) => match P.info? e with
    | some i => some i.size
    | none => none
  | some (.pointer a) => none
  | _ => none
def cutE (P : Program) (κ : Hp) (t : TypeId) (x : CV) (lo hi : Option Int) : Option Rs := match P.underlying t with
  | some (.slice e) => match P.info? e with
    | some i => match x with
      | .f (.sl z cs n) => some ⟨.o (.c (.f (.sl z ((cs.drop (bndL lo * i.size)).take ((bndH n hi - bndL lo) * i.size)) (bndH n hi - bndL lo)))), [], bndQ n n lo hi⟩
      | .rw o n => bif liveB κ o then some ⟨.o (.c (.rs o (bndL lo * i.size) (bndH n hi - bndL lo) (n - bndL lo) i.size)), [o], bndQ n n lo hi⟩ else none
      | .rs o off n k sz => bif liveB κ o && Nat.beq sz i.size then some ⟨.o (.c (.rs o (off + bndL lo * i.size) (bndH n hi - bndL lo) (k - bndL lo) i.size)), [o], bndQ n k lo hi⟩ else none
      | _ => none
    | none => none
  | some (.array m e) => match P.info? e with
    | some i => match x with
      | .rp o off => bif liveB κ o then some ⟨.o (.c (.rs o (off + bndL lo * i.size) (bndH m hi - bndL lo) (m - bndL lo) i.size)), [o], bndQ m m lo hi⟩ else none
      | _ => none
    | none => none
  | _ => none
/-- a cut without room: s[:0:0] -/
def cut0E (P : Program) (t : TypeId) (x : CV) (lo hi mx : Option Int) : Option Rs := match P.underlying t, lo, hi, mx with
  | some (.slice e), none, some 0, some 0 => match P.info? e, x with
    | some i, .f (.sl z cs n) => some ⟨.o (.c (.z0 z)), [], True⟩
    | _, _ => none
  | _, _, _, _ => none
def u8v (n : Int) : FV := .v (.int .u8 n)
def AllU8 (cs : List FV) : Prop := ∃ ns : List Int, cs = ns.map u8v
def byteF : FV → Int
  | .v (.int _ n) => n
  | _ => 0
def strOf (ns : List Int) : ByteArray := ns.foldl (fun r n => r.push (UInt8.ofNat n.toNat)) ByteArray.empty
def strF (cs : List FV) : ByteArray := strOf (cs.map byteF)
theorem byteF_u8 (ns : List Int) : (ns.map u8v).map byteF = ns := by
  rw [List.map_map]
  conv => rhs; rw [← List.map_id ns]
  rfl
theorem strF_u8 (ns : List Int) : strF (ns.map u8v) = strOf ns := by rw [strF, byteF_u8]
def strE (P : Program) (κ : Hp) (s d : TypeId) (x : CV) : Option Rs := match P.underlying s, P.underlying d with
  | some (.slice e), some .string => match P.underlying e, x with
    | some (.int .u8), .f (.sl z cs n) => some ⟨atom (.string (strF cs)), [], AllU8 cs ∧ cs.length = n⟩
    | some (.int .u8), .rw o n => match κ o with
      | some (.fx cs _) => some ⟨atom (.string (strF cs)), [o], AllU8 cs ∧ cs.length = n⟩
      | _ => none
    | some (.int .u8), .rs o off n k sz => match κ o with
      | some (.fx cs _) => some ⟨atom (.string (strF ((cs.drop off).take n))), [o], AllU8 ((cs.drop off).take n) ∧ ((cs.drop off).take n).length = n⟩
      | _ => none
    | _, _ => none
  | _, _ => none
def lenC : CV → Option Nat
  | .f (.sl _ _ n) => some n
  | .f (.v (.slice none n _)) => some n
  | .z0 _ => some 0
  | .rw _ n => some n
  | .rs _ _ n _ _ => some n
  | _ => none
def lenE (P : Program) (κ : Hp) (t : TypeId) (x : TV) : Option Rs := match P.underlying t, x with
  | some (.slice _), .o (.c c) => match lenC c with
    | some n => (match c.obj with
      | some o => bif liveB κ o then some ⟨atom (.int .i64 n), [o], True⟩ else none
      | none => some ⟨atom (.int .i64 n), [], True⟩)
    | none => none
  | _, _ => none
def fieldAddrE (P : Program) (κ : Hp) (t : TypeId) (p : CV) (f : Nat) : Option Rs := match P.underlying t with
  | some (.struct fields) => match fields[f]? with
    | some fd => match P.info? fd.type with
      | some i => bif Nat.beq i.size 0 then none else (match p with
        | .rp o off => bif liveB κ o then some ⟨.o (.c (.rp o (off + fd.offset))), [o], True⟩ else none
        | .f (.pt cs off) => some ⟨.o (.c (.f (.pt cs (off + fd.offset)))), [], True⟩
        | _ => none)
      | none => none
    | none => none
  | _ => none
def indexAddrE (P : Program) (κ : Hp) (t : TypeId) (x : CV) (i : Int) : Option Rs := match P.underlying t with
  | some (.array n e) => match P.info? e, x with
    | some ie, .rp o off => bif liveB κ o then some ⟨.o (.c (.rp o (off + i.toNat * ie.size))), [o], 0 ≤ i ∧ i < n⟩ else none
    | some ie, .f (.pt cs off) => some ⟨.o (.c (.f (.pt cs (off + i.toNat * ie.size)))), [], 0 ≤ i ∧ i < n⟩
    | _, _ => none
  | some (.slice e) => match P.info? e, x with
    | some ie, .f (.sl z cs n) => some ⟨.o (.c (.f (.pt cs (i.toNat * ie.size)))), [], 0 ≤ i ∧ i < n⟩
    | some ie, .rw o n => bif liveB κ o then some ⟨.o (.c (.rp o (i.toNat * ie.size))), [o], 0 ≤ i ∧ i < n⟩ else none
    | some ie, .rs o off n k sz => bif liveB κ o then some ⟨.o (.c (.rp o (off + i.toNat * ie.size))), [o], 0 ≤ i ∧ i < n⟩ else none
    | _, _ => none
  | _ => none
section
variable {P : Program} {K K' : Kap} {κ κ' : Hp} {β β' : Bt} {ts : Tv} {a : Act} {o : Oper} {w : World}
theorem liveB_live {o : Nat} (h : liveB κ o = true) : live κ o ∧ κ o ≠ some .dead := by
  unfold liveB at h
  split at h
  · rename_i cs ty hk; exact ⟨⟨_, _, hk, rfl⟩, by rw [hk]; simp⟩
  · rename_i cs ty hk; exact ⟨⟨_, _, hk, rfl⟩, by rw [hk]; simp⟩
  · cases h
theorem eqIn_ptr (d : Nat) {t e : TypeId} (hu : P.underlying t = some (.pointer e)) (p : Addr) (w : World) : (Op.equalIn (d + 1) t (.pointer (some p)) (.pointer none)).run P w = .ok false w := by
  simp only [Op.equalIn, Sem.run_bind, run_underlying hu, Result.andThen_ok, Sem.run_pure]
theorem eqIn_sl (d : Nat) {t e : TypeId} (hu : P.underlying t = some (.slice e)) (A : Option Addr) (l c l2 c2 : Nat) (w : World) : (Op.equalIn (d + 1) t (.slice A l c) (.slice none l2 c2)).run P w = .ok A.isNone w := by
  cases A <;> simp only [Op.equalIn, Sem.run_bind, run_underlying hu, Result.andThen_ok, Sem.run_pure] <;> rfl
theorem eqIn_fn (d : Nat) {t : TypeId} {ps rs : Array TypeId} {b : Bool} (hu : P.underlying t = some (.func ps rs b)) (f : Fn) (x y : Array Value) (w : World) : (Op.equalIn (d + 1) t (.func f x y) .nilFunc).run P w = .ok false w := by
  simp only [Op.equalIn, Sem.run_bind, run_underlying hu, Result.andThen_ok, Sem.run_pure]
theorem eq_end {t : TypeId} {op : BinOp} {x y : Value} {b z : Bool} (hop : opB op z = some b) (hq : ∀ w, (Op.equalIn (9999 + 1) t x y).run P w = .ok z w)
    (hb1 : binOp .eql t x y = (do pure (.bool (← Op.equal t x y)))) (hb2 : binOp .neq t x y = (do pure (.bool (!(← Op.equal t x y))))) (ox oy : Operand)
    (hg : ∀ op' w, (eqGuard op' t ox oy x y).run P w = .ok () w) (w : World) :
    (do eqGuard op t ox oy x y; binOp op t x y : Sem Value).run P w = .ok (.bool b) w := by
  have he : ∀ w, (Op.equal t x y).run P w = .ok z w := hq
  rw [Sem.run_bind, hg, Result.andThen_ok]
  cases op <;> simp only [opB, reduceCtorEq, Option.some.injEq] at hop <;> subst hop
  · rw [hb1]
    simp [he]
  · rw [hb2]
    simp [he]
theorem nil_sim {op : BinOp} {t : TypeId} {x y : TV} {x' y' : Value} {b : Bool} {rd : List Nat} (h : nilE P κ op t x y = some (b, rd)) (hx : VR P K κ β x x') (hy : VR P K κ β y y') (ox oy : Operand) (w : World) :
    (do eqGuard op t ox oy x' y'; binOp op t x' y' : Sem Value).run P w = .ok (.bool b) w := by
  unfold nilE at h
  split at h
  · rename_i c u
    have hy' : y' = u := by
      cases hy with | o hy => cases hy with | c hy => cases hy with
      | f hy => exact hy.atom
      | dead hx _ _ => cases hx
    subst hy'
    cases hx with | o hx => cases hx with | c hx =>
    split at h
    · rename_i z rd' hn
      have hop : opB op z = some b := by
        cases hq : opB op z with
        | none => rw [hq] at h; cases h
        | some b' => rw [hq] at h; simp only [Option.some.injEq, Prod.mk.injEq] at h; rw [h.1]
      clear h
      unfold nilK at hn
      split at hn
      · rename_i e hu
        unfold nilP at hn
        split at hn
        · rename_i oo off
          cases hl : liveB κ oo with
          | false => rw [hl] at hn; cases hn
          | true =>
            rw [hl] at hn
            simp only [cond_true, Option.some.injEq, Prod.mk.injEq] at hn
            obtain ⟨rfl, rfl⟩ := hn
            cases hx with
            | rp _ _ => exact eq_end hop (fun w => eqIn_ptr 9999 hu _ w) rfl rfl ox oy (fun op' w => by cases op' <;> rfl) w
            | dead hx hd _ => cases hx; exact absurd hd (liveB_live hl).2
        · simp only [Option.some.injEq, Prod.mk.injEq] at hn
          obtain ⟨rfl, rfl⟩ := hn
          cases hx with
          | f hf => cases hf with | pt off us h1 h2 => exact eq_end hop (fun w => eqIn_ptr 9999 hu _ w) rfl rfl ox oy (fun op' w => by cases op' <;> rfl) w
          | dead hx hd _ => cases hx
        · cases hn
      · rename_i e l2 c2 hu
        unfold nilS at hn
        split at hn
        · simp only [Option.some.injEq, Prod.mk.injEq] at hn
          obtain ⟨rfl, rfl⟩ := hn
          cases hx with
          | f hf =>
            cases hf with
            | sl0 hz =>
              rw [← hz _ rfl] at hop
              exact eq_end hop (fun w => eqIn_sl 9999 hu _ _ _ _ _ w) rfl rfl ox oy (fun op' w => by cases op' <;> rfl) w
            | sl us hz hnc h1 h2 =>
              rw [← hz _ rfl] at hop
              exact eq_end hop (fun w => eqIn_sl 9999 hu _ _ _ _ _ w) rfl rfl ox oy (fun op' w => by cases op' <;> rfl) w
          | dead hx hd _ => cases hx
        · simp only [Option.some.injEq, Prod.mk.injEq] at hn
          obtain ⟨rfl, rfl⟩ := hn
          cases hx with
          | z0 hz =>
            rw [← hz _ rfl] at hop
            exact eq_end hop (fun w => eqIn_sl 9999 hu _ _ _ _ _ w) rfl rfl ox oy (fun op' w => by cases op' <;> rfl) w
          | dead hx hd _ => cases hx
        · rename_i fcs n
          obtain ⟨hb, hn⟩ := cond_sm hn
          simp only [Prod.mk.injEq] at hn
          obtain ⟨rfl, rfl⟩ := hn
          have hb := Nat.le_of_ble_eq_true hb
          cases hx with
          | f hf =>
            cases hf with
            | sl0 hz => omega
            | sl us hz hnc h1 h2 => exact eq_end hop (fun w => eqIn_sl 9999 hu _ _ _ _ _ w) rfl rfl ox oy (fun op' w => by cases op' <;> rfl) w
          | dead hx hd _ => cases hx
        · rename_i oo n
          obtain ⟨hb, hn⟩ := cond_sm hn
          simp only [Prod.mk.injEq] at hn
          obtain ⟨rfl, rfl⟩ := hn
          simp only [Bool.and_eq_true] at hb
          have hbn := Nat.le_of_ble_eq_true hb.1
          cases hx with
          | rw _ _ _ _ _ _ _ => exact eq_end hop (fun w => eqIn_sl 9999 hu _ _ _ _ _ w) rfl rfl ox oy (fun op' w => by cases op' <;> rfl) w
          | rw0 _ _ _ => omega
          | dead hx hd _ => cases hx; exact absurd hd (liveB_live hb.2).2
        · rename_i oo off n k sz
          obtain ⟨hb, hn⟩ := cond_sm hn
          simp only [Prod.mk.injEq] at hn
          obtain ⟨rfl, rfl⟩ := hn
          simp only [Bool.and_eq_true] at hb
          have hbn := Nat.le_of_ble_eq_true hb.1
          cases hx with
          | rs _ _ _ _ _ => exact eq_end hop (fun w => eqIn_sl 9999 hu _ _ _ _ _ w) rfl rfl ox oy (fun op' w => by cases op' <;> rfl) w
          | rs0 _ _ => omega
          | dead hx hd _ => cases hx; exact absurd hd (liveB_live hb.2).2
        · cases hn
      · rename_i hu
        unfold nilF at hn
        split at hn
        · simp only [Option.some.injEq, Prod.mk.injEq] at hn
          obtain ⟨rfl, rfl⟩ := hn
          cases hx with
          | fn g h => exact eq_end hop (fun w => eqIn_fn 9999 hu _ _ _ w) rfl rfl ox oy (fun op' w => by cases op' <;> rfl) w
          | dead hx hd _ => cases hx
        · cases hn
      · cases hn
    · cases h
  · cases h
theorem takeF_spec {cs ys : List FV} {off size : Nat} {xs : Option Tld} {q : Prop} (h : takeF cs off size xs = some (ys, q)) (hq : q) : (cs.drop off).take size = ys ∧ ys.length = size := by
  unfold takeF at h
  cases xs with
  | none =>
    cases hb : Nat.beq ((cs.drop off).take size).length size with
    | false => simp only [hb] at h; cases h
    | true =>
      simp only [hb, cond_true, Option.some.injEq, Prod.mk.injEq] at h
      obtain ⟨rfl, rfl⟩ := h
      exact ⟨rfl, Nat.eq_of_beq_eq_true hb⟩
  | some zs =>
    cases hb : Nat.beq (zs cs off).length size with
    | false => simp only [hb] at h; cases h
    | true =>
      simp only [hb, cond_true, Option.some.injEq, Prod.mk.injEq] at h
      obtain ⟨rfl, rfl⟩ := h
      exact ⟨hq, Nat.eq_of_beq_eq_true hb⟩
theorem run_ldK {w : World} {a' : Addr} {L' : List Value} (h : ∀ (j : Nat) (v : Value), L'[j]? = some v → w.cell? (a'.add j) = some v) : (loadCells a' L'.length).run P w = .ok L'.toArray w := run_loadCells_list (P := P) w a' L' h
/-- cells that stand somewhere, loaded -/
theorem loadVar_sim {t : TypeId} {i : TypeInfo} {d : TypeDesc} {ad : Addr} {xs : List CV} {v : TV} {vs : List Value} (hi : P.info? t = some i) (hd : P.underlying t = some d) (hl : xs.length = i.size) (ho : ofCells (isAggD d) xs = some v)
    (hf : F2 (CR P K κ β) xs vs) (hv : ∀ (j : Nat) (u : Value), vs[j]? = some u → w.cell? (ad.add j) = some u) : ∃ v', (loadVar t ad).run P w = .ok v' w ∧ VR P K κ β v v' := by
  unfold ofCells at ho
  cases hb : isAggD d with
  | true =>
    rw [hb] at ho
    simp only [cond_true, Option.some.injEq] at ho
    subst ho
    refine ⟨.agg vs.toArray, ?_, .o (.ag hf)⟩
    have h4 := run_ldK (P := P) hv
    rw [← hf.len, hl] at h4
    unfold loadVar
    rw [Sem.run_bind, isAgg_run hd w, hb]
    simp only [Result.andThen_ok, if_true, Sem.run_bind, sizeOf_run hi w, h4, Sem.run_pure]
  | false =>
    rw [hb] at ho
    simp only [cond_false] at ho
    split at ho
    · rename_i x
      simp only [Option.some.injEq] at ho
      subst ho
      cases hf with | cons h t => cases t with | nil =>
      rename_i u
      refine ⟨u, ?_, .o (.c h)⟩
      have := hv 0 u rfl
      rw [show ad.add 0 = ad from if_pos rfl] at this
      unfold loadVar
      rw [Sem.run_bind, isAgg_run hd w, hb]
      simp [this]
    · cases ho
theorem cells_take {α : Type} {R : α → Value → Prop} {cs : List α} {C : Array Value} (h : ∀ (j : Nat) (x : α), cs[j]? = some x → ∃ v, C[j]? = some v ∧ R x v) (off size : Nat) (hl : ((cs.drop off).take size).length = size) :
    F2 R ((cs.drop off).take size) ((C.toList.drop off).take size) := by
  have hsz : off + size ≤ C.size ∨ size = 0 := by
    by_cases h0 : size = 0
    · exact .inr h0
    · left
      rw [List.length_take, List.length_drop] at hl
      obtain ⟨v, h1, _⟩ := h (off + size - 1) (cs[off + size - 1]'(by omega)) (by simp)
      have := (Array.getElem?_eq_some_iff.1 h1).1
      omega
  refine F2.of_get ?_ fun j x hx => ?_
  · rw [hl, List.length_take, List.length_drop, Array.length_toList]; omega
  · have hj : j < size := by
      have := (List.getElem?_eq_some_iff.1 hx).1
      omega
    rw [List.getElem?_take, if_pos hj, List.getElem?_drop] at hx
    obtain ⟨v, h1, h2⟩ := h _ _ hx
    exact ⟨v, by rw [List.getElem?_take, if_pos hj, List.getElem?_drop]; simpa using h1, h2⟩
theorem block_cells {C : Array Value} {e lo hi B off size : Nat} (hw : w.heap[B]? = some (.cells C e (lo, hi))) : ∀ (j : Nat) (u : Value), ((C.toList.drop off).take size)[j]? = some u → w.cell? ((⟨B, off, none⟩ : Addr).add j) = some u := by
  intro j u hj
  rw [add_eq rfl]
  have hlt : j < size := by
    have := (List.getElem?_eq_some_iff.1 hj).1
    rw [List.length_take] at this
    omega
  rw [List.getElem?_take, if_pos hlt, List.getElem?_drop] at hj
  simp only [World.cell?, hw]
  simpa using hj
/-- the cells of something frozen -/
theorem frozen_cells (hK : ∀ b x, K b = some x → w.heap[b]? = some x) {cs : List FV} {ad : Addr} {us : Nat → Value} (h1 : ∀ i x, cs[i]? = some x → cellK K (ad.add i) = some (us i)) (h2 : ∀ i x, cs[i]? = some x → FR K x (us i)) (off size : Nat) (hl : ((cs.drop off).take size).length = size) :
    F2 (FR K) ((cs.drop off).take size) ((List.range size).map fun j => us (off + j)) ∧ ∀ (j : Nat) (u : Value), ((List.range size).map fun j => us (off + j))[j]? = some u → w.cell? ((ad.add off).add j) = some u := by
  have hx : ∀ j, j < size → ∃ x, cs[off + j]? = some x := fun j hj => by
    rw [List.length_take, List.length_drop] at hl
    exact ⟨cs[off + j]'(by omega), by simp⟩
  constructor
  · refine F2.of_get (by simp [hl]) fun j x hx => ?_
    have hj : j < size := by
      have := (List.getElem?_eq_some_iff.1 hx).1
      omega
    rw [List.getElem?_take, if_pos hj, List.getElem?_drop] at hx
    exact ⟨us (off + j), by simp [hj], h2 _ _ hx⟩
  · intro j u hj
    have hlt : j < size := by
      have := (List.getElem?_eq_some_iff.1 hj).1
      simpa using this
    obtain ⟨x, hx⟩ := hx j hlt
    rw [add_add']
    have e : us (off + j) = u := by simpa [hlt] using hj
    rw [← e]
    exact cellK_w hK (h1 _ _ hx)
theorem load_sim (R : VRel P K κ β w) {t : TypeId} {p : CV} {p' : Value} {xs : Option Tld} {r : Rs} (hp : CR P K κ β p p') (h : loadE P κ t p xs = some r) (hq : r.q) : ∃ ad v', p' = .pointer (some ad) ∧ (loadVar t ad).run P w = .ok v' w ∧ VR P K κ β r.v v' := by
  unfold loadE at h
  split at h
  · rename_i i d hi hd
    split at h
    · rename_i oo off
      split at h
      · rename_i cs ty hk
        cases hb : Nat.beq ((cs.drop off).take i.size).length i.size with
        | false => rw [hb] at h; cases h
        | true =>
          rw [hb] at h
          simp only [cond_true] at h
          split at h
          · rename_i v hv
            simp only [Option.some.injEq] at h
            subst h
            have hl := Nat.eq_of_beq_eq_true hb
            cases hp with
            | dead hx hd' _ => cases hx; rw [hk] at hd'; cases hd'
            | rp hlv hbt =>
              have := R.ob oo _ hk
              rw [hbt] at this
              obtain ⟨B', X', C, e, lo, hi', q1, q2, q3, q4, q5⟩ := this
              cases q1
              obtain ⟨v', g1, g2⟩ := loadVar_sim hi hd hl hv (cells_take q5 off i.size hl) (block_cells q2)
              exact ⟨_, v', rfl, g1, g2⟩
          · cases h
      · rename_i cs ty hk
        split at h
        · rename_i ys q hy
          split at h
          · rename_i v hv
            simp only [Option.some.injEq] at h
            subst h
            obtain ⟨t1, t2⟩ := takeF_spec hy hq
            cases hp with
            | dead hx hd' _ => cases hx; rw [hk] at hd'; cases hd'
            | rp hlv hbt =>
              have := R.ob oo _ hk
              rw [hbt] at this
              rcases this with ⟨q0, _⟩ | ⟨B', X', C, e, lo, hi', q1, q2, q3, q4, q5⟩
              · cases q0
              · cases q1
                have hf := cells_take q5 off i.size (by rw [t1]; exact t2)
                rw [t1] at hf
                obtain ⟨v', g1, g2⟩ := loadVar_sim (K := K) (κ := κ) (β := β) hi hd (by simpa using t2) hv (hf.map (S := CR P K κ β) CV.f fun _ _ k => CR.f k) (block_cells q2)
                exact ⟨_, v', rfl, g1, g2⟩
          · cases h
        · cases h
      · cases h
    · rename_i cs off
      split at h
      · rename_i ys q hy
        split at h
        · rename_i v hv
          simp only [Option.some.injEq] at h
          subst h
          obtain ⟨t1, t2⟩ := takeF_spec hy hq
          cases hp with
          | dead hx hd' _ => cases hx
          | f hf =>
            cases hf with
            | pt off us h1 h2 =>
              obtain ⟨f1, f2⟩ := frozen_cells R.kw h1 h2 off i.size (by rw [t1]; exact t2)
              rw [t1] at f1
              obtain ⟨v', g1, g2⟩ := loadVar_sim (K := K) (κ := κ) (β := β) hi hd (by simpa using t2) hv (f1.map (S := CR P K κ β) CV.f fun _ _ k => CR.f k) f2
              exact ⟨_, v', rfl, g1, g2⟩
        · cases h
      · cases h
    · cases h
  · cases h
end
end Go.Proofs.Ytpjlgjhkdligfaa.Vg

namespace Go.Proofs.Ytpjlgjhkdligfaa.Vg
open Go.RowKit
set_option linter.unusedVariables false
set_option linter.unusedSimpArgs false
section
variable {P : Program} {K K' : Kap} {κ κ' : Hp} {β β' : Bt} {ts : Tv} {a : Act} {o : Oper} {w : World}
theorem optI_sim (T : TR P K κ β ts a.tmps) {x : Option Operand} {r : Option Int} (h : optI ts x = some r) : (r = none ∧ x.map a.eval = none) ∨ ∃ n k, r = some n ∧ x.map a.eval = some (.int k n) := by
  cases x with
  | none => simp only [optI, Option.some.injEq] at h; exact .inl ⟨h.symm, rfl⟩
  | some y =>
    simp only [optI] at h
    split at h
    · rename_i k n hy
      simp only [Option.some.injEq] at h
      exact .inr ⟨n, k, h.symm, by simp [opd_atom T hy]⟩
    · cases h
theorem bnd_le {len cap : Nat} {lo hi : Option Int} (q : bndQ len cap lo hi) : bndL lo ≤ bndH len hi ∧ bndH len hi ≤ cap := by
  obtain ⟨q1, q2⟩ := q
  unfold bndL bndH
  cases hi with
  | none =>
    simp only at q1 q2 ⊢
    cases lo with
    | none => exact ⟨by simp, q1⟩
    | some l => simp only at q2 ⊢; omega
  | some h =>
    simp only at q1 q2 ⊢
    cases lo with
    | none => simp only; omega
    | some l => simp only at q2 ⊢; omega
theorem sliceBounds_run {isS : Bool} {len cap cap' : Nat} {lo hi : Option Int} {lo' hi' : Option Value} (q : bndQ len cap lo hi) (hc : cap ≤ cap')
    (hlo : (lo = none ∧ lo' = none) ∨ ∃ n k, lo = some n ∧ lo' = some (.int k n)) (hhi : (hi = none ∧ hi' = none) ∨ ∃ n k, hi = some n ∧ hi' = some (.int k n)) (w : World) :
    (Instr.sliceBounds isS len cap' lo' hi' none).run P w = .ok (bndL lo, bndH len hi, cap') w := by
  obtain ⟨h1, h2⟩ := q
  unfold Instr.sliceBounds
  simp only [Sem.run_bind, Sem.run_pure, Result.andThen_ok]
  rcases hhi with ⟨rfl, rfl⟩ | ⟨n, k, rfl, rfl⟩
  · simp only [Sem.run_pure, Result.andThen_ok]
    rcases hlo with ⟨rfl, rfl⟩ | ⟨n2, k2, rfl, rfl⟩
    · rfl
    · simp only at h2
      simp only [Instr.sliceBound, asIntOf, Sem.run_bind, Sem.run_pure, Result.andThen_ok, Sem.run_ite]
      rw [if_pos ⟨h2.1, h2.2⟩]
      rfl
  · simp only at h1
    simp only [Instr.sliceBound, asIntOf, Sem.run_bind, Sem.run_pure, Result.andThen_ok, Sem.run_ite]
    rw [if_pos ⟨h1.1, by omega⟩]
    simp only [Sem.run_pure, Result.andThen_ok]
    rcases hlo with ⟨rfl, rfl⟩ | ⟨n2, k2, rfl, rfl⟩
    · rfl
    · simp only at h2
      simp only [Instr.sliceBound, asIntOf, Sem.run_bind, Sem.run_pure, Result.andThen_ok, Sem.run_ite]
      have : (0 : Int) ≤ n2 ∧ n2 ≤ (n.toNat : Int) := by omega
      rw [if_pos this]
      rfl
theorem cutV_run {t e : TypeId} {i : TypeInfo} {A : Option Addr} {len cap cap' : Nat} {lo hi : Option Int} {lo' hi' : Option Value} (hd : P.underlying t = some (.slice e)) (hi0 : P.info? e = some i) (q : bndQ len cap lo hi) (hc : cap ≤ cap')
    (hlo : (lo = none ∧ lo' = none) ∨ ∃ n k, lo = some n ∧ lo' = some (.int k n)) (hhi : (hi = none ∧ hi' = none) ∨ ∃ n k, hi = some n ∧ hi' = some (.int k n)) (w : World) :
    (Instr.sliceAt t (.slice A len cap') lo' hi' none).run P w = .ok (.slice (A.map fun ad => if cap' = bndL lo then ad else ad.add (bndL lo * i.size)) (bndH len hi - bndL lo) (cap' - bndL lo)) w := by
  unfold Instr.sliceAt Instr.slice
  simp only [Sem.run_bind, run_underlying hd, Result.andThen_ok, sliceBounds_run q hc hlo hhi w, sizeOf_run hi0, Sem.run_pure]
  cases A with
  | none => simp
  | some ad => simp only [Option.map_some]; congr 2; split <;> rfl
theorem cut_sim (R : VRel P K κ β w) {t : TypeId} {x : CV} {x' : Value} {r : Rs} {lo hi : Option Int} {lo' hi' : Option Value} (hx : CR P K κ β x x') (h : cutE P κ t x lo hi = some r) (hq : r.q)
    (hlo : (lo = none ∧ lo' = none) ∨ ∃ n k, lo = some n ∧ lo' = some (.int k n)) (hhi : (hi = none ∧ hi' = none) ∨ ∃ n k, hi = some n ∧ hi' = some (.int k n)) :
    ∃ v', (Instr.sliceAt t x' lo' hi' none).run P w = .ok v' w ∧ VR P K κ β r.v v' := by
  unfold cutE at h
  split at h
  · rename_i e hd
    split at h
    · rename_i i hi0
      split at h
      · rename_i z cs n
        simp only [Option.some.injEq] at h
        subst h
        obtain ⟨b1, b2⟩ := bnd_le hq
        cases hx with
        | dead hx _ _ => cases hx
        | f hf =>
        cases hf with
        | sl0 hz =>
          rename_i A c
          refine ⟨_, cutV_run hd hi0 hq (by omega) hlo hhi w, .o (.c (.f ?_))⟩
          have e0 : bndH 0 hi - bndL lo = 0 := by omega
          rw [e0]
          simp only [Nat.zero_mul, List.take_zero]
          exact .sl0 (fun b hb => by rw [← hz b hb]; cases A <;> rfl)
        | sl us hz hn h1 h2 =>
          rename_i ad c
          refine ⟨_, cutV_run hd hi0 hq hn hlo hhi w, .o (.c (.f ?_))⟩
          simp only [Option.map_some]
          by_cases hcl : c = bndL lo
          · have e0 : bndH n hi - bndL lo = 0 := by omega
            rw [e0]
            simp only [Nat.zero_mul, List.take_zero]
            exact .sl0 (fun b hb => by rw [← hz b hb]; rfl)
          · rw [if_neg hcl]
            refine .sl (fun j => us (bndL lo * i.size + j)) (fun b hb => by rw [← hz b hb]; rfl) (by omega) ?_ ?_
            · intro j u hj
              have hlt : j < (bndH n hi - bndL lo) * i.size := by
                have := (List.getElem?_eq_some_iff.1 hj).1
                rw [List.length_take] at this
                omega
              rw [List.getElem?_take, if_pos hlt, List.getElem?_drop] at hj
              rw [add_add']
              exact h1 _ _ hj
            · intro j u hj
              have hlt : j < (bndH n hi - bndL lo) * i.size := by
                have := (List.getElem?_eq_some_iff.1 hj).1
                rw [List.length_take] at this
                omega
              rw [List.getElem?_take, if_pos hlt, List.getElem?_drop] at hj
              exact h2 _ _ hj
      · rename_i oo n
        cases hl : liveB κ oo with
        | false => rw [hl] at h; cases h
        | true =>
          rw [hl] at h
          simp only [cond_true, Option.some.injEq] at h
          subst h
          obtain ⟨b1, b2⟩ := bnd_le hq
          obtain ⟨l1, l2⟩ := liveB_live hl
          cases hx with
          | dead hx hd' _ => cases hx; exact absurd hd' l2
          | rw hx hs hz hL hn hc hb =>
            rename_i B X c L ty sz x1
            refine ⟨_, cutV_run hd hi0 hq hn hlo hhi w, .o (.c (.rs l1 (by omega) (by omega) hb ?_))⟩
            by_cases hcl : c = bndL lo
            · right; omega
            · left; show (if c = bndL lo then _ else _) = _; rw [if_neg hcl, add_eq rfl]; simp
          | rw0 hx hs hb =>
            have e0 : bndH 0 hi - bndL lo = 0 := by omega
            have e1 : 0 - bndL lo = 0 := by omega
            refine ⟨_, cutV_run hd hi0 hq (Nat.le_refl _) hlo hhi w, .o (.c ?_)⟩
            rw [e0, e1]
            exact .rs0 l1 hb
      · rename_i oo off n k sz
        cases hl : (liveB κ oo && Nat.beq sz i.size) with
        | false => rw [hl] at h; cases h
        | true =>
          rw [hl] at h
          simp only [cond_true, Option.some.injEq] at h
          subst h
          simp only [Bool.and_eq_true] at hl
          obtain ⟨b1, b2⟩ := bnd_le hq
          obtain ⟨l1, l2⟩ := liveB_live hl.1
          have hsz := Nat.eq_of_beq_eq_true hl.2
          subst hsz
          cases hx with
          | dead hx hd' _ => cases hx; exact absurd hd' l2
          | rs hl' hn hc hb ha =>
            rename_i B X c ad
            refine ⟨_, cutV_run hd hi0 hq hc hlo hhi w, .o (.c (.rs l1 (by omega) (by omega) hb ?_))⟩
            rcases ha with rfl | rfl
            · by_cases hcl : c = bndL lo
              · right; omega
              · left; show (if c = bndL lo then _ else _) = _; rw [if_neg hcl, add_eq rfl]
            · right; omega
          | rs0 hl' hb =>
            have e0 : bndH 0 hi - bndL lo = 0 := by omega
            have e1 : 0 - bndL lo = 0 := by omega
            refine ⟨_, cutV_run hd hi0 hq (Nat.le_refl _) hlo hhi w, .o (.c ?_)⟩
            rw [e0, e1]
            exact .rs0 l1 hb
      · cases h
    · cases h
  · rename_i m e hd
    split at h
    · rename_i i hi0
      split at h
      · rename_i oo off
        cases hl : liveB κ oo with
        | false => rw [hl] at h; cases h
        | true =>
          rw [hl] at h
          simp only [cond_true, Option.some.injEq] at h
          subst h
          obtain ⟨b1, b2⟩ := bnd_le hq
          obtain ⟨l1, l2⟩ := liveB_live hl
          cases hx with
          | dead hx hd' _ => cases hx; exact absurd hd' l2
          | rp hl' hb =>
            rename_i B X
            refine ⟨.slice (some (if m = bndL lo then ⟨B, off, none⟩ else Addr.add ⟨B, off, none⟩ (bndL lo * i.size))) (bndH m hi - bndL lo) (m - bndL lo), ?_, .o (.c (.rs l1 (by omega) (Nat.le_refl _) hb ?_))⟩
            · unfold Instr.sliceAt
              simp only [Sem.run_bind, run_underlying hd, Result.andThen_ok, Instr.sureAddr, sliceBounds_run hq (Nat.le_refl _) hlo hhi w, sizeOf_run hi0, Sem.run_pure]
            · by_cases hcl : m = bndL lo
              · right; omega
              · left; rw [if_neg hcl, add_eq rfl]
      · cases h
    · cases h
  · cases h
theorem cut0_sim {t : TypeId} {x : CV} {x' : Value} {r : Rs} {k1 k2 : IntKind} (hx : CR P K κ β x x') (h : cut0E P t x none (some 0) (some 0) = some r) : ∃ v', (Instr.sliceAt t x' none (some (.int k1 0)) (some (.int k2 0))).run P w = .ok v' w ∧ VR P K κ β r.v v' := by
  unfold cut0E at h
  split at h
  · rename_i e hd _ _ _
    split at h
    · rename_i i z cs n hi0
      simp only [Option.some.injEq] at h
      subst h
      have key : ∀ (A : Option Addr) (c : Nat), nilOk z A → ∃ v', (Instr.sliceAt t (.slice A n c) none (some (.int k1 0)) (some (.int k2 0))).run P w = .ok v' w ∧ VR P K κ β (.o (.c (.z0 z))) v' := by
        intro A c hz
        refine ⟨.slice (A.map fun ad => if (0 : Nat) = 0 then ad else ad) 0 0, ?_, .o (.c (.z0 fun b hb => by rw [← hz b hb]; cases A <;> rfl))⟩
        unfold Instr.sliceAt Instr.slice Instr.sliceBounds
        simp only [Instr.sliceBound, asIntOf, Sem.run_bind, Sem.run_pure, run_underlying hd, Result.andThen_ok, Sem.run_ite, sizeOf_run hi0]
        cases A <;> simp
      cases hx with
      | dead hx _ _ => cases hx
      | f hf =>
        cases hf with
        | sl0 hz => exact key _ _ hz
        | sl us hz hn h1 h2 => exact key _ _ hz
    · cases h
  · cases h
theorem f2_u8 {L : List FV} {L' : List Value} (h : F2 (FR K) L L') {ns : List Int} (hu : L = ns.map u8v) : L' = ns.map (Value.int .u8) := by
  subst hu
  induction ns generalizing L' with
  | nil => cases h; rfl
  | cons n ns ih =>
    cases h with | cons h t =>
    rw [List.map_cons, h.atom, ih t]
theorem str_run {s d e : TypeId} {ad : Addr} {n c : Nat} {ns : List Int} (hs : P.underlying s = some (.slice e)) (he : P.underlying e = some (.int .u8)) (hd : P.underlying d = some .string) (hl : (loadCells ad n).run P w = .ok (ns.map (Value.int .u8)).toArray w) :
    (convert s d (.slice (some ad) n c)).run P w = .ok (.string (strOf ns)) w := by
  rw [run_convert_bytes_string w s d e _ _ _ hs he hd, run_bytesToString w ad n c ns hl]
  rfl
theorem str_sim (R : VRel P K κ β w) {s d : TypeId} {x : CV} {x' : Value} {r : Rs} (hx : CR P K κ β x x') (h : strE P κ s d x = some r) (hq : r.q) : ∃ v', (convert s d x').run P w = .ok v' w ∧ VR P K κ β r.v v' := by
  unfold strE at h
  split at h
  · rename_i e hs hd
    have nilrun : ∀ A : Option Addr, ∀ c, P.underlying e = some (.int .u8) → (convert s d (.slice A 0 c)).run P w = .ok (.string (strOf [])) w := fun A c he => by
      cases A with
      | none =>
        rw [run_convert_bytes_string w s d e none 0 c hs he hd]
        rfl
      | some ad => exact str_run hs he hd (ns := []) rfl
    split at h
    · rename_i z cs n he
      simp only [Option.some.injEq] at h
      subst h
      obtain ⟨⟨ns, q1⟩, q2⟩ := hq
      have e2 : cs.map byteF = ns := by rw [q1, byteF_u8]
      refine ⟨.string (strF cs), ?_, .o (.c (.f (.v rfl)))⟩
      rw [strF, e2]
      cases hx with
      | dead hx _ _ => cases hx
      | f hf =>
        cases hf with
        | sl0 hz =>
          have : ns = [] := by simpa using e2.symm
          subst this
          exact nilrun _ _ he
        | sl us hz hn h1 h2 =>
          obtain ⟨f1, f2⟩ := frozen_cells R.kw h1 h2 0 n (by rw [List.drop_zero, List.length_take]; omega)
          have e3 : (cs.drop 0).take n = cs := by rw [List.drop_zero, List.take_of_length_le (by omega)]
          rw [e3] at f1
          have e4 := f2_u8 f1 q1
          have := run_ldK (P := P) f2
          rw [List.length_map, List.length_range, e4, show Addr.add _ 0 = _ from if_pos rfl] at this
          exact str_run hs he hd this
    · rename_i oo n he
      split at h
      · rename_i cs ty hk
        simp only [Option.some.injEq] at h
        subst h
        obtain ⟨⟨ns, q1⟩, q2⟩ := hq
        have e2 : cs.map byteF = ns := by rw [q1, byteF_u8]
        refine ⟨.string (strF cs), ?_, .o (.c (.f (.v rfl)))⟩
        rw [strF, e2]
        have hO := R.ob oo _ hk
        cases hx with
        | dead hx hd' _ => cases hx; rw [hk] at hd'; cases hd'
        | rw hx hs' hz hL hn hc hb =>
          rw [hb] at hO
          rcases hO with ⟨q0, _⟩ | ⟨B', X', C, e', lo, hi, p1, p2, p3, p4, p5⟩
          · cases q0
          · cases p1
            have hf := cells_take p5 0 n (by rw [List.drop_zero, List.length_take]; omega)
            rw [List.drop_zero, List.take_of_length_le (by omega)] at hf
            have e4 := f2_u8 hf q1
            have hl := run_ldK (P := P) (block_cells (off := 0) (size := n) p2)
            rw [List.drop_zero] at hl e4
            have hlen : (C.toList.take n).length = n := by rw [← List.drop_zero (l := C.toList), ← hf.len]; exact q2
            rw [hlen, e4] at hl
            exact str_run hs he hd hl
        | rw0 hx hs' hb =>
          have : ns = [] := by
            have := q2
            rw [q1, List.length_map] at this
            exact List.eq_nil_of_length_eq_zero this
          subst this
          exact nilrun _ _ he
      · cases h
    · rename_i oo off n k sz he
      split at h
      · rename_i cs ty hk
        simp only [Option.some.injEq] at h
        subst h
        obtain ⟨⟨ns, q1⟩, q2⟩ := hq
        have e2 : ((cs.drop off).take n).map byteF = ns := by rw [q1, byteF_u8]
        refine ⟨.string (strF ((cs.drop off).take n)), ?_, .o (.c (.f (.v rfl)))⟩
        rw [strF, e2]
        have hO := R.ob oo _ hk
        cases hx with
        | dead hx hd' _ => cases hx; rw [hk] at hd'; cases hd'
        | rs hl' hn hc hb ha =>
          by_cases hn0 : n = 0
          · subst hn0
            have : ns = [] := by
              rw [q1, List.length_map] at q2
              exact List.eq_nil_of_length_eq_zero q2
            subst this
            exact nilrun _ _ he
          · rw [hb] at hO
            rcases hO with ⟨q0, _⟩ | ⟨B', X', C, e', lo, hi, p1, p2, p3, p4, p5⟩
            · cases q0
            · cases p1
              rcases ha with rfl | rfl
              · have hf := cells_take p5 off n q2
                have e4 := f2_u8 hf q1
                have hl := run_ldK (P := P) (block_cells (off := off) (size := n) p2)
                have hlen : ((C.toList.drop off).take n).length = n := by rw [← hf.len]; exact q2
                rw [hlen, e4] at hl
                exact str_run hs he hd hl
              · omega
        | rs0 hl' hb =>
          have : ns = [] := by
            rw [q1, List.length_map] at q2
            exact List.eq_nil_of_length_eq_zero q2
          subst this
          exact nilrun _ _ he
      · cases h
    · cases h
  · cases h
theorem lenC_sim {c : CV} {v : Value} {n : Nat} (hx : CR P K κ β c v) (h : lenC c = some n) (hd : ∀ o, c.obj = some o → κ o ≠ some .dead) : ∃ A cp, v = .slice A n cp := by
  unfold lenC at h
  split at h <;> simp only [Option.some.injEq, reduceCtorEq] at h <;> subst h
  · cases hx with
    | dead hx _ _ => cases hx
    | f hf => cases hf <;> exact ⟨_, _, rfl⟩
  · cases hx with
    | dead hx _ _ => cases hx
    | f hf => cases hf; exact ⟨_, _, rfl⟩
  · cases hx with
    | dead hx _ _ => cases hx
    | z0 h => exact ⟨_, _, rfl⟩
  · cases hx with
    | dead hx hdd _ => exact absurd hdd (hd _ hx)
    | rw => exact ⟨_, _, rfl⟩
    | rw0 => exact ⟨_, _, rfl⟩
  · cases hx with
    | dead hx hdd _ => exact absurd hdd (hd _ hx)
    | rs => exact ⟨_, _, rfl⟩
    | rs0 => exact ⟨_, _, rfl⟩
theorem len_sim {t : TypeId} {x : TV} {x' : Value} {r : Rs} (hx : VR P K κ β x x') (h : lenE P κ t x = some r) : ∃ A n cp, x' = .slice A n cp ∧ r.v = atom (.int .i64 n) := by
  unfold lenE at h
  split at h
  · rename_i e c hd
    cases hx with | o hx => cases hx with | c hx =>
    split at h
    · rename_i n hn
      split at h
      · rename_i oo hoo
        cases hl : liveB κ oo with
        | false => rw [hl] at h; cases h
        | true =>
          rw [hl] at h
          simp only [cond_true, Option.some.injEq] at h
          subst h
          obtain ⟨A, cp, h1⟩ := lenC_sim hx hn (fun o ho => by rw [hoo] at ho; cases ho; exact (liveB_live hl).2)
          exact ⟨A, n, cp, h1, rfl⟩
      · rename_i hoo
        simp only [Option.some.injEq] at h
        subst h
        obtain ⟨A, cp, h1⟩ := lenC_sim hx hn (fun o ho => by rw [hoo] at ho; cases ho)
        exact ⟨A, n, cp, h1, rfl⟩
    · cases h
  · cases h
theorem fieldAddr_sim {t : TypeId} {p : CV} {p' : Value} {f : Nat} {r : Rs} (hp : CR P K κ β p p') (h : fieldAddrE P κ t p f = some r) (w : World) : ∃ v', (Instr.fieldAt t p' f).run P w = .ok v' w ∧ VR P K κ β r.v v' := by
  unfold fieldAddrE at h
  split at h
  · rename_i fields hd
    split at h
    · rename_i fd hfd
      split at h
      · rename_i i hi
        cases hb : Nat.beq i.size 0 with
        | true => rw [hb] at h; cases h
        | false =>
          rw [hb] at h
          simp only [cond_false] at h
          have hne : i.size ≠ 0 := fun e => by rw [e] at hb; cases hb
          have run : ∀ ad : Addr, (Instr.fieldAt t (.pointer (some ad)) f).run P w = .ok (.pointer (some (ad.add fd.offset))) w := fun ad => by
            unfold Instr.fieldAt fieldPlace
            simp only [Sem.run_bind, run_underlying hd, Result.andThen_ok, hfd, Instr.sureAddr, Sem.run_pure, sizeOf_run hi, Sem.run_ite, if_neg hne]
          split at h
          · rename_i oo off
            cases hl : liveB κ oo with
            | false => rw [hl] at h; cases h
            | true =>
              rw [hl] at h
              simp only [cond_true, Option.some.injEq] at h
              subst h
              cases hp with
              | dead hx hd' _ => cases hx; exact absurd hd' (liveB_live hl).2
              | rp hl' hb => exact ⟨_, run _, .o (.c (by rw [add_eq rfl]; exact .rp hl' hb))⟩
          · rename_i cs off
            simp only [Option.some.injEq] at h
            subst h
            cases hp with
            | dead hx _ _ => cases hx
            | f hf =>
              cases hf with
              | pt off us h1 h2 => exact ⟨_, run _, .o (.c (.f (by rw [add_add']; exact .pt _ us h1 h2)))⟩
          · cases h
      · cases h
    · cases h
  · cases h
theorem indexAddr_sim {t : TypeId} {x : CV} {x' : Value} {i : Int} {k : IntKind} {r : Rs} (hx : CR P K κ β x x') (h : indexAddrE P κ t x i = some r) (hq : r.q) (w : World) : ∃ v', (Instr.indexAt t x' (.int k i)).run P w = .ok v' w ∧ VR P K κ β r.v v' := by
  unfold indexAddrE at h
  split at h
  · rename_i n e hd
    have run : ∀ (ad : Addr) (ie : TypeInfo), P.info? e = some ie → (0 ≤ i ∧ i < n) → (Instr.indexAt t (.pointer (some ad)) (.int k i)).run P w = .ok (.pointer (some (ad.add (i.toNat * ie.size)))) w := fun ad ie hie hb => by
      unfold Instr.indexAt
      simp only [asIntOf, Sem.run_bind, Sem.run_pure, run_underlying hd, Result.andThen_ok, Instr.sureAddr, Sem.run_ite]
      rw [if_pos hb]
      simp only [Sem.run_bind, sizeOf_run hie, Result.andThen_ok, Sem.run_pure]
    split at h
    · rename_i ie oo off hie
      cases hl : liveB κ oo with
      | false => rw [hl] at h; cases h
      | true =>
        rw [hl] at h
        simp only [cond_true, Option.some.injEq] at h
        subst h
        cases hx with
        | dead hx hd' _ => cases hx; exact absurd hd' (liveB_live hl).2
        | rp hl' hb => exact ⟨_, run _ ie hie hq, .o (.c (by rw [add_eq rfl]; exact .rp hl' hb))⟩
    · rename_i ie cs off hie
      simp only [Option.some.injEq] at h
      subst h
      cases hx with
      | dead hx _ _ => cases hx
      | f hf =>
        cases hf with
        | pt off us h1 h2 => exact ⟨_, run _ ie hie hq, .o (.c (.f (by rw [add_add']; exact .pt _ us h1 h2)))⟩
    · cases h
  · rename_i e hd
    have run : ∀ (ad : Addr) (n c : Nat) (ie : TypeInfo), P.info? e = some ie → (0 ≤ i ∧ i < n) → (Instr.indexAt t (.slice (some ad) n c) (.int k i)).run P w = .ok (.pointer (some (ad.add (i.toNat * ie.size)))) w := fun ad n c ie hie hb => by
      unfold Instr.indexAt
      simp only [asIntOf, Sem.run_bind, Sem.run_pure, run_underlying hd, Result.andThen_ok, Sem.run_ite]
      rw [if_pos hb]
      simp only [Sem.run_bind, sizeOf_run hie, Result.andThen_ok, Sem.run_pure]
    split at h
    · rename_i ie z cs n hie
      simp only [Option.some.injEq] at h
      subst h
      cases hx with
      | dead hx _ _ => cases hx
      | f hf =>
        cases hf with
        | sl0 hz => simp only at hq; omega
        | sl us hz hn h1 h2 => exact ⟨_, run _ _ _ ie hie hq, .o (.c (.f (.pt _ us h1 h2)))⟩
    · rename_i ie oo n hie
      cases hl : liveB κ oo with
      | false => rw [hl] at h; cases h
      | true =>
        rw [hl] at h
        simp only [cond_true, Option.some.injEq] at h
        subst h
        cases hx with
        | dead hx hd' _ => cases hx; exact absurd hd' (liveB_live hl).2
        | rw hx hs hz hL hn hc hb => exact ⟨_, run _ _ _ ie hie hq, .o (.c (by rw [add_eq rfl, Nat.zero_add]; exact .rp (liveB_live hl).1 hb))⟩
        | rw0 hx hs hb => simp only at hq; omega
    · rename_i ie oo off n k2 sz hie
      cases hl : liveB κ oo with
      | false => rw [hl] at h; cases h
      | true =>
        rw [hl] at h
        simp only [cond_true, Option.some.injEq] at h
        subst h
        cases hx with
        | dead hx hd' _ => cases hx; exact absurd hd' (liveB_live hl).2
        | rs hl' hn hc hb ha =>
          rcases ha with rfl | rfl
          · exact ⟨_, run _ _ _ ie hie hq, .o (.c (by rw [add_eq rfl]; exact .rp (liveB_live hl).1 hb))⟩
          · simp only at hq; omega
        | rs0 hl' hb => simp only at hq; omega
    · cases h
  · cases h
end
end Go.Proofs.Ytpjlgjhkdligfaa.Vg

namespace Go.Proofs.Ytpjlgjhkdligfaa.Vg
open Go.RowKit
set_option linter.unusedVariables false
set_option linter.unusedSimpArgs false

def prC (κ : Hp) : List Operand → Tv → Option (List (Nat × Nat) × List Nat)
  | [], _ => some ([], [])
  | x :: xs, ts => match opd ts x with
    | .o (.c (.rp o off)) => bif liveB κ o then (match prC κ xs ts with
      | some (l, rd) => some ((o, off) :: l, o :: rd)
      | none => none) else none
    | _ => none
/-- what a call answers, with its cases -/
inductive Alt where
  | one (r : TV) (H : List VO)
  | br (t : Bool) (a b : Alt)
def Alt.pick : Alt → List Bool → Option (TV × List VO)
  | .one r H, [] => some (r, H)
  | .br _ a b, x :: l => bif x then a.pick l else b.pick l
  | _, _ => none
/-- what is told from without of one operation -/
inductive Cmd where
  | no
  | ld (xs : List FV)
  | eq (v : TV)
  | raw (v : Value)
  | call (sel : List Nat) (r : TV) (H : List VO)
  | fn (G : Tv → Cmd)
  | nw
  | sx
  | fg
  | sh
  | lh (f : Tld)
  | tb (T : FuncId → List TV → List VO → Option Alt) (pth : List Bool) (w : Option TV)
def Cmd.xs : Cmd → Option Tld
  | .ld xs => some fun _ _ => xs
  | .lh f => some f
  | _ => none
def evR (P : Program) (κ : Hp) (ts : Tv) (c : Cmd) (o : Oper) : Option Rs :=
  match o.op with
  | .move x => some ⟨opd ts x, [], True⟩
  | .assign x => some ⟨opd ts x, [], True⟩
  | .pick b x y => match opd ts b with
    | .o (.c (.f (.v (.bool t)))) => some ⟨bif t then opd ts x else opd ts y, [], True⟩
    | _ => none
  | .nilCheck x => match opd ts x with
    | .o (.c (.rp o off)) => bif liveB κ o then some ⟨.o (.c (.rp o off)), [o], True⟩ else none
    | .o (.c (.f (.pt cs off))) => some ⟨.o (.c (.f (.pt cs off))), [], True⟩
    | .o (.c (.fn g cs)) => some ⟨.o (.c (.fn g cs)), [], True⟩
    | .o (.c (.f (.v (.func (.func g) p q)))) => bif flat (.func (.func g) p q) then some ⟨atom (.func (.func g) p q), [], True⟩ else none
    | _ => none
  | .binOp op t x y _ => bif clo ts x && clo ts y then (match runC P ts o with
    | some v => some ⟨v, [], True⟩
    | none => none) else (match nilE P κ op t (opd ts x) (opd ts y) with
    | some (b, rd) => some ⟨atom (.bool b), rd, True⟩
    | none => none)
  | .unOp _ _ _ => match runC P ts o with
    | some v => some ⟨v, [], True⟩
    | none => none
  | .convert s d x => bif clo ts x then (match runC P ts o with
    | some v => some ⟨v, [], True⟩
    | none => none) else (match opd ts x with
    | .o (.c cv) => strE P κ s d cv
    | _ => none)
  | .makeFunc (.func f) first captured => match first.toList with
    | [] => match prC κ captured.toList ts with
      | some (cs, rd) => some ⟨.o (.c (.fn f cs)), rd, True⟩
      | none => none
    | _ => none
  | .extract x i => match opd ts x with
    | .tp vs => (match vs[i]? with
      | some v => some ⟨.o v, [], True⟩
      | none => none)
    | _ => none
  | .field t x f => match opd ts x with
    | .o (.ag cs) => (match fieldE P t cs f with
      | some v => some ⟨v, [], True⟩
      | none => none)
    | _ => none
  | .index t x i => match opd ts x, opd ts i with
    | .o (.ag cs), .o (.c (.f (.v (.int _ n)))) => (match indexE P t cs n with
      | some (v, q) => some ⟨v, [], q⟩
      | none => none)
    | _, _ => match runC P ts o with
      | some v => some ⟨v, [], True⟩
      | none => none
  | .build t parts => match placesE P t, pvals ts parts.toList with
    | some (z, pl), some ps => match fillV pl z ps with
      | some r => some ⟨.o (.ag r), [], True⟩
      | none => none
    | _, _ => none
  | .fieldAddr t x f => match opd ts x with
    | .o (.c p) => fieldAddrE P κ t p f
    | _ => none
  | .indexAddr t x i => match opd ts x, opd ts i with
    | .o (.c p), .o (.c (.f (.v (.int _ n)))) => indexAddrE P κ t p n
    | _, _ => none
  | .load t x => match opd ts x with
    | .o (.c p) => loadE P κ t p c.xs
    | _ => none
  | .slice t x lo hi none => match opd ts x, optI ts lo, optI ts hi with
    | .o (.c (.f (.v (.string s)))), _, _ => (match runC P ts o with
      | some v => some ⟨v, [], True⟩
      | none => none)
    | .o (.c cv), some l, some h => cutE P κ t cv l h
    | _, _, _ => none
  | .slice t x lo hi (some mx) => match opd ts x, optI ts lo, optI ts hi, optI ts (some mx) with
    | .o (.c cv), some none, some (some 0), some (some 0) => cut0E P t cv none (some 0) (some 0)
    | _, _, _, _ => none
  | .call cl => match cl.callee, cl.args.toList, cl.argTypes.toList with
    | .builtin .len, [x], [t] => bif clo ts x then (match runC P ts o with
      | some v => some ⟨v, [], True⟩
      | none => none) else lenE P κ t (opd ts x)
    | .builtin .min, _, _ => (match runC P ts o with
      | some v => some ⟨v, [], True⟩
      | none => none)
    | .builtin .max, _, _ => (match runC P ts o with
      | some v => some ⟨v, [], True⟩
      | none => none)
    | _, _, _ => none
  | _ => none
section
variable {P : Program} {K K' : Kap} {κ κ' : Hp} {β β' : Bt} {ts : Tv} {a : Act} {o : Oper} {w : World}
theorem prC_sim (T : TR P K κ β ts a.tmps) : ∀ (xs : List Operand) (l : List (Nat × Nat)) (rd : List Nat), prC κ xs ts = some (l, rd) → ∃ l' : List Addr, xs.map a.eval = l'.map ptrV ∧ F2 (PR κ β) l l'
  | [], l, rd, h => by simp only [prC, Option.some.injEq, Prod.mk.injEq] at h; obtain ⟨rfl, rfl⟩ := h; exact ⟨[], rfl, .nil⟩
  | x :: xs, l, rd, h => by
    simp only [prC] at h
    split at h
    · rename_i oo off hx
      cases hlb : liveB κ oo with
      | false => rw [hlb] at h; cases h
      | true =>
        rw [hlb] at h
        simp only [cond_true] at h
        split at h
        · rename_i l1 rd1 hl
          simp only [Option.some.injEq, Prod.mk.injEq] at h
          obtain ⟨rfl, rfl⟩ := h
          have h1 := opd_c T hx
          generalize hy : a.eval x = y at h1
          obtain ⟨l', h3, h4⟩ := prC_sim T xs l1 rd1 hl
          cases h1 with
          | dead hx hd _ => cases hx; exact absurd hd (liveB_live hlb).2
          | rp hl hb => exact ⟨_ :: l', by simp [hy, h3, ptrV], .cons (.inr ⟨hl, _, _, hb, rfl⟩) h4⟩
        · cases h
    · cases h
theorem rc_sim (T : TR P K κ β ts a.tmps) {r : Rs} (hs : ∀ cs b, o.op ≠ .select cs b) (h : (match runC P ts o with | some v => some (⟨v, [], True⟩ : Rs) | none => none) = some r) (w : World) : ∃ v', (execOp a.eval o).run P w = .ok (.value v') w ∧ VR P K κ β r.v v' := by
  split at h
  · rename_i v hv
    simp only [Option.some.injEq] at h
    subst h
    exact runC_sim T hs hv w
  · cases h
theorem evR_sim (R : VRel P K κ β w) (T : TR P K κ β ts a.tmps) {c : Cmd} {r : Rs} (h : evR P κ ts c o = some r) (hq : r.q) : ∃ v', (execOp a.eval o).run P w = .ok (.value v') w ∧ VR P K κ β r.v v' := by
  unfold evR at h
  split at h
  · rename_i x hop
    simp only [Option.some.injEq] at h
    subst h
    exact ⟨a.eval x, by unfold execOp; rw [hop]; rfl, opd_sim T x⟩
  · rename_i x hop
    simp only [Option.some.injEq] at h
    subst h
    exact ⟨a.eval x, by unfold execOp; rw [hop]; rfl, opd_sim T x⟩
  · rename_i b x y hop
    split at h
    · rename_i t hc
      simp only [Option.some.injEq] at h
      subst h
      have hcv := opd_atom T hc
      cases t with
      | true => exact ⟨a.eval x, by unfold execOp; rw [hop]; simp [hcv, asBool], opd_sim T x⟩
      | false => exact ⟨a.eval y, by unfold execOp; rw [hop]; simp [hcv, asBool], opd_sim T y⟩
    · cases h
  · rename_i x hop
    split at h
    · rename_i oo off hx
      cases hl : liveB κ oo with
      | false => rw [hl] at h; cases h
      | true =>
        rw [hl] at h
        simp only [cond_true, Option.some.injEq] at h
        subst h
        have h1 := opd_c T hx
        have h2 := opd_sim T x
        rw [hx] at h2
        refine ⟨a.eval x, ?_, h2⟩
        generalize hy : a.eval x = y at h1 ⊢
        cases h1 with
        | dead hx hd _ => cases hx; exact absurd hd (liveB_live hl).2
        | rp _ _ => unfold execOp; rw [hop]; simp only [hy]; rfl
    · rename_i cs off hx
      simp only [Option.some.injEq] at h
      subst h
      have h1 := opd_c T hx
      have h2 := opd_sim T x
      rw [hx] at h2
      refine ⟨a.eval x, ?_, h2⟩
      generalize hy : a.eval x = y at h1 ⊢
      cases h1 with
      | dead hx _ _ => cases hx
      | f hf => cases hf; unfold execOp; rw [hop]; simp only [hy]; rfl
    · rename_i g cs hx
      simp only [Option.some.injEq] at h
      subst h
      have h1 := opd_c T hx
      have h2 := opd_sim T x
      rw [hx] at h2
      refine ⟨a.eval x, ?_, h2⟩
      generalize hy : a.eval x = y at h1 ⊢
      cases h1 with
      | dead hx _ _ => cases hx
      | fn _ _ => unfold execOp; rw [hop]; simp only [hy]; rfl
    · rename_i g p q hx
      cases hfl : flat (.func (.func g) p q) with
      | false => rw [hfl] at h; cases h
      | true =>
        rw [hfl] at h
        simp only [cond_true, Option.some.injEq] at h
        subst h
        have h1 := opd_atom T hx
        refine ⟨a.eval x, ?_, .o (.c (.f (by rw [h1]; exact .v hfl)))⟩
        unfold execOp; rw [hop]; simp only [h1]; rfl
    · cases h
  · rename_i op t x y ty hop
    cases hcl : (clo ts x && clo ts y) with
    | true => rw [hcl] at h; exact rc_sim T (by intro cs b; rw [hop]; simp) h w
    | false =>
      rw [hcl] at h
      simp only [cond_false] at h
      split at h
      · rename_i b rd hn
        simp only [Option.some.injEq] at h
        subst h
        refine ⟨.bool b, ?_, .o (.c (.f (.v rfl)))⟩
        have := nil_sim hn (opd_sim T x) (opd_sim T y) x y w
        unfold execOp; rw [hop]
        simp only [Sem.run_bind] at this ⊢
        simp only [this, Result.andThen_ok, Sem.run_pure]
      · cases h
  · rename_i hop
    exact rc_sim T (by intro cs b; rw [hop]; simp) h w
  · rename_i s d x hop
    cases hcl : clo ts x with
    | true => rw [hcl] at h; exact rc_sim T (by intro cs b; rw [hop]; simp) h w
    | false =>
      rw [hcl] at h
      simp only [cond_false] at h
      split at h
      · rename_i cv hx
        obtain ⟨v', h1, h2⟩ := str_sim R (opd_c T hx) h hq
        refine ⟨v', ?_, h2⟩
        unfold execOp; rw [hop]
        simp only [Sem.run_bind, h1, Result.andThen_ok, Sem.run_pure]
      · cases h
  · rename_i f first captured hop
    split at h
    · rename_i hfi
      split at h
      · rename_i cs rd hcs
        simp only [Option.some.injEq] at h
        subst h
        obtain ⟨cs', h1, h2⟩ := prC_sim T _ _ _ hcs
        refine ⟨.func (.func f) #[] (cs'.map ptrV).toArray, ?_, .o (.c (.fn f h2))⟩
        have e1 : first.map a.eval = #[] := by
          have : first = #[] := by simpa using hfi
          simp [this]
        have e2 : captured.map a.eval = (cs'.map ptrV).toArray := by
          apply Array.ext'
          simpa using h1
        unfold execOp; rw [hop]
        simp only [e1, e2, Instr.makeFunc, Sem.run_bind, Sem.run_pure, Result.andThen_ok]
      · cases h
    · cases h
  · rename_i x i hop
    split at h
    · rename_i vs hx
      split at h
      · rename_i v hv
        simp only [Option.some.injEq] at h
        subst h
        have := opd_sim T x
        rw [hx] at this
        generalize hy : a.eval x = y at this
        cases this with | tp ht =>
        obtain ⟨v', h3, h4⟩ := ht.get i v hv
        refine ⟨v', ?_, .o h4⟩
        unfold execOp; rw [hop]
        simp [hy, Instr.extract, h3]
      · cases h
    · cases h
  · rename_i t x f hop
    split at h
    · rename_i cs hx
      split at h
      · rename_i v hv
        simp only [Option.some.injEq] at h
        subst h
        obtain ⟨ds, h1, h2⟩ := opd_ag T hx
        obtain ⟨v', h3, h4⟩ := field_sim h2 hv w
        refine ⟨v', ?_, h4⟩
        unfold execOp; rw [hop]
        simp only [h1, Sem.run_bind, h3, Result.andThen_ok, Sem.run_pure]
      · cases h
    · cases h
  · rename_i t x i hop
    split at h
    · rename_i cs k n hx hi
      split at h
      · rename_i v q hv
        simp only [Option.some.injEq] at h
        subst h
        obtain ⟨ds, h1, h2⟩ := opd_ag T hx
        obtain ⟨v', h3, h4⟩ := index_sim (k := k) h2 hv hq w
        refine ⟨v', ?_, h4⟩
        unfold execOp; rw [hop]
        simp only [h1, opd_atom T hi, Sem.run_bind, h3, Result.andThen_ok, Sem.run_pure]
      · cases h
    · exact rc_sim T (by intro cs b; rw [hop]; simp) h w
  · rename_i t parts hop
    split at h
    · rename_i z pl ps hp hps
      split at h
      · rename_i r' hr
        simp only [Option.some.injEq] at h
        subst h
        obtain ⟨r2, h1, h2⟩ := build_sim hp (pvals_sim T _ _ hps) hr w
        refine ⟨.agg r2.toArray, ?_, .o (.ag h2)⟩
        have e2 : (parts.map fun (x : Nat × Operand) => (x.1, a.eval x.2)) = (parts.toList.map fun (x : Nat × Operand) => (x.1, a.eval x.2)).toArray := by
          apply Array.ext'; simp
        unfold execOp; rw [hop]
        simp only [e2, Sem.run_bind, h1, Result.andThen_ok, Sem.run_pure]
      · cases h
    · cases h
  · rename_i t x f hop
    split at h
    · rename_i p hx
      obtain ⟨v', h1, h2⟩ := fieldAddr_sim (opd_c T hx) h w
      refine ⟨v', ?_, h2⟩
      unfold execOp; rw [hop]
      simp only [Sem.run_bind, h1, Result.andThen_ok, Sem.run_pure]
    · cases h
  · rename_i t x i hop
    split at h
    · rename_i p k n hx hi
      obtain ⟨v', h1, h2⟩ := indexAddr_sim (k := k) (opd_c T hx) h hq w
      refine ⟨v', ?_, h2⟩
      unfold execOp; rw [hop]
      simp only [opd_atom T hi, Sem.run_bind, h1, Result.andThen_ok, Sem.run_pure]
    · cases h
  · rename_i t x hop
    split at h
    · rename_i p hx
      obtain ⟨ad, v', h1, h2, h3⟩ := load_sim R (opd_c T hx) h hq
      refine ⟨v', ?_, h3⟩
      unfold execOp; rw [hop]
      simp only [h1, Instr.loadAt, Instr.sureAddr, Sem.run_bind, Sem.run_pure, Result.andThen_ok, h2]
    · cases h
  · rename_i t x lo hi hop
    split at h
    · exact rc_sim T (by intro cs b; rw [hop]; simp) h w
    · rename_i cv l hh hno hx hl hh'
      obtain ⟨v', h1, h2⟩ := cut_sim R (opd_c T hx) h hq (optI_sim T hl) (optI_sim T hh')
      refine ⟨v', ?_, h2⟩
      unfold execOp; rw [hop]
      simp only [Sem.run_bind, Option.map_none, h1, Result.andThen_ok, Sem.run_pure]
    · cases h
  · rename_i t x lo hi mx hop
    split at h
    · rename_i cv hx hl hh' hm
      rcases optI_sim T hl with ⟨_, e1⟩ | ⟨n, k, e0, _⟩
      · rcases optI_sim T hh' with ⟨e0, _⟩ | ⟨n, k, e0, e2⟩
        · cases e0
        · cases e0
          rcases optI_sim T hm with ⟨e0, _⟩ | ⟨n, k2, e0, e3⟩
          · cases e0
          · cases e0
            obtain ⟨v', h1, h2⟩ := cut0_sim (k1 := k) (k2 := k2) (w := w) (opd_c T hx) h
            refine ⟨v', ?_, h2⟩
            unfold execOp; rw [hop]
            simp only [Sem.run_bind, e1, e2, e3, h1, Result.andThen_ok, Sem.run_pure]
      · cases e0
    · cases h
  · rename_i cl hop
    split at h
    · rename_i x t hcal hargs htys
      cases hcl : clo ts x with
      | true => rw [hcl] at h; exact rc_sim T (by intro cs b; rw [hop]; simp) h w
      | false =>
        rw [hcl] at h
        simp only [cond_false] at h
        obtain ⟨A, n, cp, h1, h2⟩ := len_sim (opd_sim T x) h
        refine ⟨.int .i64 n, ?_, by rw [h2]; exact .o (.c (.f (.v rfl)))⟩
        have e1 : cl.args = #[x] := Array.ext' hargs
        have e2 : cl.argTypes = #[t] := Array.ext' htys
        have hu : ∃ e, P.underlying t = some (.slice e) := by
          unfold lenE at h
          split at h
          · exact ⟨_, by assumption⟩
          · cases h
        obtain ⟨e, hu⟩ := hu
        unfold execOp; rw [hop]
        simp [resolve, hcal, e1, e2, h1, invoke, builtin, Builtin.len_, run_underlying hu, goInt]
    · exact rc_sim T (by intro cs b; rw [hop]; simp) h w
    · exact rc_sim T (by intro cs b; rw [hop]; simp) h w
    · cases h
  · cases h
end
end Go.Proofs.Ytpjlgjhkdligfaa.Vg

namespace Go.Proofs.Ytpjlgjhkdligfaa.Vg
open Go.RowKit
set_option linter.unusedVariables false
set_option linter.unusedSimpArgs false

/-! ### written -/
def splice (cs : Array Value) : Nat → List Value → Array Value
  | _, [] => cs
  | o, v :: vs => splice (cs.setIfInBounds o v) (o + 1) vs
theorem splice_size : ∀ (vs : List Value) (cs : Array Value) (o : Nat), (splice cs o vs).size = cs.size
  | [], cs, o => rfl
  | v :: vs, cs, o => by rw [splice, splice_size vs]; simp
theorem splice_get : ∀ (vs : List Value) (cs : Array Value) (o j : Nat), o + vs.length ≤ cs.size → (splice cs o vs)[j]? = if o ≤ j ∧ j < o + vs.length then vs[j - o]? else cs[j]?
  | [], cs, o, j, h => by rw [splice, if_neg (by rw [List.length_nil]; omega)]
  | v :: vs, cs, o, j, h => by
    simp only [List.length_cons] at h
    rw [splice, splice_get vs _ _ _ (by simp; omega)]
    simp only [List.length_cons]
    by_cases hj : j = o
    · subst hj
      rw [if_neg (by omega), if_pos (by omega)]
      have : j < cs.size := by omega
      simp [this]
    · by_cases h1 : o ≤ j ∧ j < o + (vs.length + 1)
      · rw [if_pos (by omega), if_pos h1]
        obtain ⟨d, rfl⟩ : ∃ d, j = o + 1 + d := ⟨j - (o + 1), by omega⟩
        rw [show o + 1 + d - (o + 1) = d by omega, show o + 1 + d - o = d + 1 by omega]
        rfl
      · rw [if_neg (by omega), if_neg h1]
        simp [Ne.symm hj]
theorem run_storeCells (P : Program) : ∀ (vs : List Value) (w : World) (B o i : Nat) (C : Array Value) (e lo hi : Nat), w.heap[B]? = some (.cells C e (lo, hi)) → o + i + vs.length ≤ C.size →
    (∀ j, j < vs.length → ¬ (lo ≤ o + i + j ∧ o + i + j < hi)) → (∀ v ∈ vs, v.oneCell' = true) →
    ∃ w', (storeCells ⟨B, o, none⟩ vs i).run P w = .ok () w' ∧ w'.heap[B]? = some (.cells (splice C (o + i) vs) e (lo, hi)) ∧ (∀ B', B' ≠ B → w'.heap[B']? = w.heap[B']?) ∧ w'.heap.size = w.heap.size ∧ w'.os = w.os ∧ w'.tape = w.tape ∧ w'.output = w.output
  | [], w, B, o, i, C, e, lo, hi, h, _, _, _ => ⟨w, rfl, h, fun _ _ => rfl, rfl, rfl, rfl, rfl⟩
  | v :: vs, w, B, o, i, C, e, lo, hi, h, hs, hf, h1 => by
    simp only [List.length_cons] at hs hf
    have ha : (⟨B, o, none⟩ : Addr).add i = ⟨B, o + i, none⟩ := add_eq rfl i
    have hc : w.cell? ⟨B, o + i, none⟩ = some C[o + i] := by
      simp only [World.cell?, h]
      simp
    have hfr : w.frozen? ⟨B, o + i, none⟩ = false := by
      simp only [World.frozen?, h]
      have := hf 0 (by omega)
      simp only [Nat.add_zero] at this
      simpa using this
    have hh : (w.setCell ⟨B, o + i, none⟩ v).heap[B]? = some (.cells (C.setIfInBounds (o + i) v) e (lo, hi)) := by
      simp [World.setCell, Array.getElem?_modify, h]
    obtain ⟨w', r1, r2, r3, r4, r5, r6, r7⟩ := run_storeCells P vs (w.setCell ⟨B, o + i, none⟩ v) B o (i + 1) (C.setIfInBounds (o + i) v) e lo hi hh (by simp; omega)
      (fun j hj => by have := hf (j + 1) (by omega); rwa [show o + i + (j + 1) = o + (i + 1) + j by omega] at this) (fun u hu => h1 u (by simp [hu]))
    refine ⟨w', ?_, ?_, ?_, ?_, r5, r6, r7⟩
    · simp only [storeCells, Sem.run_bind, ha]
      rw [run_store P w _ v .plain (h1 v (by simp)), hc, hfr]
      simpa using r1
    · rw [r2]
      rfl
    · intro B' hB'
      rw [r3 B' hB']
      exact Below.heap_setCell w _ _ _ hB'
    · rw [r4]
      simp [World.setCell]
def upd {β : Type} (f : Nat → β) (x : Nat) (y : β) : Nat → β := fun z => if z = x then y else f z
theorem upd_same {β : Type} {f : Nat → β} {x : Nat} {y : β} : upd f x y x = y := if_pos rfl
theorem upd_ne {β : Type} {f : Nat → β} {x z : Nat} {y : β} (h : z ≠ x) : upd f x y z = f z := if_neg h

def isSlD : TypeDesc → Bool
  | .slice _ => true
  | .string => true
  | _ => false
/-- what an operation does -/
structure Dl where
  v : TV
  sets : List (Nat × VO)
  news : List VO
  rd : List Nat
  q : Prop
def updL (κ : Hp) : List (Nat × VO) → Hp
  | [] => κ
  | (o, x) :: r => updL (upd κ o (some x)) r
def newL (κ : Hp) (m : Nat) : List VO → Hp
  | [] => κ
  | x :: r => newL (upd κ m (some x)) (m + 1) r
def kapD (κ : Hp) (m : Nat) (d : Dl) : Hp := newL (updL κ d.sets) m d.news
structure Post (P : Program) (K : Kap) (κ : Hp) (β : Bt) (w : World) (m : Nat) (d : Dl) (v' : Value) (w' : World) (β' : Bt) : Prop where
  rel : VRel P K (kapD κ m d) β' w'
  val : VR P K (kapD κ m d) β' d.v v'
  le : Le K κ β K (kapD κ m d) β'
  bel : Below 0 w w'
  blk : ∀ B, B < w.heap.size → w'.heap[B]? = w.heap[B]? ∨ ∃ o x X, (o, x) ∈ d.sets ∧ live κ o ∧ β o = some (B, X)
  bt : ∀ o, o ≠ m → β' o = β o
  nb : ∀ B X, d.news ≠ [] → β' m = some (B, X) → w.heap.size ≤ B ∨ ∃ o x X', (o, x) ∈ d.sets ∧ live κ o ∧ β o = some (B, X')
  lv : ∀ o, live (kapD κ m d) o → (o = m ∧ d.news ≠ []) ∨ live κ o
section
variable {P : Program} {K K' : Kap} {κ κ' : Hp} {β β' : Bt} {ts : Tv} {a : Act} {o : Oper} {w w' : World}
theorem OO.mono' {x : VO} {bt : Option (Nat × Nat)} (h : OO P K κ β w bt x) (e : Le K κ β K' κ' β') (hw : ∀ B X, x.shape ≠ none → bt = some (B, X) → w'.heap[B]? = w.heap[B]?) : OO P K' κ' β' w' bt x := by
  by_cases hs : x.shape = none
  · rw [shape_dead hs]; trivial
  · exact h.mono e fun B X hb => hw B X hs hb
theorem live_of {o : Nat} {x : VO} (h : κ o = some x) (hs : x.shape ≠ none) : live κ o := by
  cases hq : x.shape with
  | none => exact absurd hq hs
  | some s => exact ⟨x, s, h, hq⟩
theorem live_upd {m o : Nat} {x : VO} (h : live (upd κ m (some x)) o) : (o = m ∧ x.shape ≠ none) ∨ (o ≠ m ∧ live κ o) := by
  obtain ⟨y, s, h1, h2⟩ := h
  by_cases he : o = m
  · subst he
    rw [upd_same] at h1
    cases h1
    exact .inl ⟨rfl, by rw [h2]; simp⟩
  · rw [upd_ne he] at h1
    exact .inr ⟨he, y, s, h1, h2⟩
theorem K_lt (R : VRel P K κ β w) {b : Nat} (h : K b ≠ none) : b < w.heap.size := by
  cases hq : K b with
  | none => exact absurd hq h
  | some x => exact (Array.getElem?_eq_some_iff.1 (R.kw b x hq)).1
theorem le_new {m : Nat} {x : VO} {bt : Option (Nat × Nat)} (hm : κ m = none) : Le K κ β K (upd κ m (some x)) (upd β m bt) := by
  refine ⟨fun _ _ h => h, fun o y h => ?_⟩
  have hne : o ≠ m := fun e => by subst e; rw [hm] at h; cases h
  exact .inr ⟨y, (upd_ne hne).trans h, rfl, upd_ne hne⟩
/-- a new object in a new block (or in none) -/
theorem rel_new (R : VRel P K κ β w) {m : Nat} {x : VO} {bt : Option (Nat × Nat)} (hm : κ m = none) (hw : Below w.heap.size w w') (hbt : ∀ B X, bt = some (B, X) → w.heap.size ≤ B) (hx : OO P K (upd κ m (some x)) (upd β m bt) w' bt x) :
    VRel P K (upd κ m (some x)) (upd β m bt) w' := by
  have le : Le K κ β K (upd κ m (some x)) (upd β m bt) := le_new hm
  refine ⟨fun b y h => (hw.block b (K_lt R (by rw [h]; simp))).trans (R.kw b y h), fun o y h => ?_, fun o o' B X X' h1 h2 h3 h4 => ?_, fun o B X h1 h3 => ?_⟩
  · by_cases he : o = m
    · subst he
      rw [upd_same] at h ⊢
      cases h
      exact hx
    · rw [upd_ne he] at h ⊢
      exact (R.ob o y h).mono' le fun B X hs hb => hw.block B (R.lt (live_of h hs) hb)
  · rcases live_upd h1 with ⟨e1, _⟩ | ⟨e1, l1⟩ <;> rcases live_upd h2 with ⟨e2, _⟩ | ⟨e2, l2⟩
    · rw [e1, e2]
    · subst e1
      rw [upd_same] at h3
      rw [upd_ne e2] at h4
      have := hbt _ _ h3
      have := R.lt l2 h4
      omega
    · subst e2
      rw [upd_same] at h4
      rw [upd_ne e1] at h3
      have := hbt _ _ h4
      have := R.lt l1 h3
      omega
    · rw [upd_ne e1] at h3
      rw [upd_ne e2] at h4
      exact R.inj o o' B X X' l1 l2 h3 h4
  · rcases live_upd h1 with ⟨e1, _⟩ | ⟨e1, l1⟩
    · subst e1
      rw [upd_same] at h3
      have := hbt _ _ h3
      cases hq : K B with
      | none => rfl
      | some y => have := K_lt R (b := B) (by rw [hq]; simp); omega
    · rw [upd_ne e1] at h3
      exact R.sep o B X l1 h3
theorem below0 {B : Nat} (h : Below B w w') : Below 0 w w' := h.mono (Nat.zero_le _)
theorem post_new (R : VRel P K κ β w) {m : Nat} {x : VO} {bt : Option (Nat × Nat)} {v : TV} {v' : Value} {rd : List Nat} {q : Prop} (hm : κ m = none) (hw : Below w.heap.size w w') (hbt : ∀ B X, bt = some (B, X) → w.heap.size ≤ B) (hx : OO P K (upd κ m (some x)) (upd β m bt) w' bt x)
    (hv : VR P K (upd κ m (some x)) (upd β m bt) v v') : Post P K κ β w m ⟨v, [], [x], rd, q⟩ v' w' (upd β m bt) :=
  ⟨rel_new R hm hw hbt hx, hv, le_new hm, below0 hw, fun B hB => .inl (hw.block B hB), fun o ho => upd_ne ho, fun B X _ hb => .inl (by rw [upd_same] at hb; exact hbt B X hb), fun o ho => (live_upd ho).imp (fun h => ⟨h.1, by simp⟩) (fun h => h.2)⟩
theorem kd_new (κ : Hp) (m : Nat) (v : TV) (x : VO) (rd : List Nat) (q : Prop) : kapD κ m ⟨v, [], [x], rd, q⟩ = upd κ m (some x) := rfl
theorem post_same (R : VRel P K κ β w) {m : Nat} {v : TV} {v' : Value} {rd : List Nat} {q : Prop} (hv : VR P K κ β v v') : Post P K κ β w m ⟨v, [], [], rd, q⟩ v' w β :=
  ⟨R, hv, Le.refl _ _ _, Below.refl _ _, fun B _ => .inl rfl, fun _ _ => rfl, fun _ _ h => absurd rfl h, fun _ h => .inr h⟩
/-- an object written in place -/
theorem rel_set (R : VRel P K κ β w) {o B X : Nat} {x y : VO} (ho : κ o = some y) (hs : x.shape = y.shape) (hl : y.shape ≠ none) (hb : β o = some (B, X)) (hw : ∀ B', B' ≠ B → w'.heap[B']? = w.heap[B']?)
    (hx : OO P K (upd κ o (some x)) β w' (some (B, X)) x) : VRel P K (upd κ o (some x)) β w' ∧ Le K κ β K (upd κ o (some x)) β := by
  have le : Le K κ β K (upd κ o (some x)) β := by
    refine ⟨fun _ _ h => h, fun z u h => ?_⟩
    by_cases he : z = o
    · subst he
      rw [ho] at h
      cases h
      exact .inr ⟨x, upd_same, hs, rfl⟩
    · exact .inr ⟨u, (upd_ne he).trans h, rfl, rfl⟩
  have lv : ∀ z, live (upd κ o (some x)) z → live κ z := fun z hz => by
    rcases live_upd hz with ⟨e, _⟩ | ⟨_, l⟩
    · subst e; exact live_of ho hl
    · exact l
  have lo := live_of ho hl
  refine ⟨⟨fun b u h => (hw b (fun e => ?_)).trans (R.kw b u h), fun z u h => ?_, fun z z' B' X1 X2 h1 h2 h3 h4 => R.inj z z' B' X1 X2 (lv z h1) (lv z' h2) h3 h4, fun z B' X1 h1 h3 => R.sep z B' X1 (lv z h1) h3⟩, le⟩
  · subst e
    rw [R.sep o b X lo hb] at h
    cases h
  · by_cases he : z = o
    · subst he
      rw [upd_same] at h
      cases h
      rw [hb]
      exact hx
    · rw [upd_ne he] at h
      exact (R.ob z u h).mono' le fun B' X' hsu hb' => hw B' fun e => he (R.inj z o B' X' X (live_of h hsu) lo hb' (by rw [e]; exact hb))
theorem post_set (R : VRel P K κ β w) {m o B X : Nat} {x y : VO} {v : TV} {v' : Value} {rd : List Nat} {q : Prop} (ho : κ o = some y) (hs : x.shape = y.shape) (hl : y.shape ≠ none) (hb : β o = some (B, X)) (hw : ∀ B', B' ≠ B → w'.heap[B']? = w.heap[B']?) (hbel : Below 0 w w')
    (hx : OO P K (upd κ o (some x)) β w' (some (B, X)) x) (hv : VR P K (upd κ o (some x)) β v v') : Post P K κ β w m ⟨v, [(o, x)], [], rd, q⟩ v' w' β := by
  obtain ⟨r1, r2⟩ := rel_set R ho hs hl hb hw hx
  refine ⟨r1, hv, r2, hbel, fun B' hB => ?_, fun _ _ => rfl, fun _ _ h => absurd rfl h, fun z hz => ?_⟩
  rotate_left
  · rcases live_upd hz with ⟨e, _⟩ | ⟨_, l⟩
    · exact .inr (e ▸ live_of ho hl)
    · exact .inr l
  by_cases he : B' = B
  · subst he; exact .inr ⟨o, x, X, by simp, live_of ho hl, hb⟩
  · exact .inl (hw B' he)
theorem run_append_room {t u ty e : TypeId} {i : TypeInfo} {du : TypeDesc} (ht : P.underlying t = some (.slice e)) (hu : P.underlying u = some du) (hdu : isSlD du = true) (hi : P.info? e = some i)
    {base : Option Addr} {sLen sCap n : Nat} {x : Value} (hx : Builtin.lenOf x = pure n) {news : List Value} (hfn : (Builtin.firstCells i.size n x).run P w = .ok news.toArray w) (hr : sLen + n ≤ sCap) :
    (Builtin.append_ #[t, u] ty #[.slice base sLen sCap, x]).run P w = match base with
      | none => .ok (.slice none (sLen + n) sCap) w
      | some ad => ((storeCells (ad.add (sLen * i.size)) news).run P w).andThen fun _ w' => .ok (.slice (some ad) (sLen + n) sCap) w' := by
  cases du <;> simp only [isSlD, Bool.false_eq_true] at hdu <;> cases base <;> simp [Builtin.append_, run_underlying ht, run_underlying hu, sizeOf, typeInfo, hi, hx, hr, hfn]
theorem run_append_grow {t u ty e : TypeId} {i : TypeInfo} {z : Value} {du : TypeDesc} (ht : P.underlying t = some (.slice e)) (hu : P.underlying u = some du) (hdu : isSlD du = true) (hi : P.info? e = some i) (hz : i.zero = some z)
    {base : Option Addr} {sLen sCap n : Nat} {x : Value} (hx : Builtin.lenOf x = pure n) {olds news : List Value} (hfo : ∀ W : World, W.heap = w.heap → (Builtin.firstCells i.size sLen (.slice base sLen sCap)).run P W = .ok olds.toArray W)
    (hfn : ∀ W : World, W.heap = w.heap → (Builtin.firstCells i.size n x).run P W = .ok news.toArray W) (hb0 : 0 < i.bytes) (hg : sCap < sLen + n) (hl : (sLen + n) * i.bytes ≤ 140737488355328) :
    (Builtin.append_ #[t, u] ty #[.slice base sLen sCap, x]).run P w = .ok (.slice (some ⟨w.heap.size, 0, none⟩) (sLen + n) (grownCap w (sLen + n) sCap e))
        (w.drew.alloc (.cells (olds.toArray ++ news.toArray ++ Builtin.zeroCells z.cells (grownCap w (sLen + n) sCap e - (sLen + n))) e)) := by
  have h1 : sLen + n ≤ 140737488355328 := Nat.le_trans (Nat.le_mul_of_pos_right _ hb0) hl
  have hn : ¬ (sLen + n ≤ sCap) := by omega
  have h63' : ¬ (9223372036854775807 < ((sLen : Int) + (n : Int))) := by omega
  have hnx : Builtin.nextslicecap (sLen + n) sCap * i.bytes ≤ 281474976710656 := by
    have := nextslicecap_le hg
    have := Nat.mul_le_mul_right i.bytes this
    rw [Nat.mul_assoc] at this
    omega
  have h48' : ¬ (281474976710656 < Builtin.nextslicecap (sLen + n) sCap * i.bytes) := by omega
  have hf := hfn w.drew rfl
  have hfo' := hfo w.drew rfl
  have hb0' : i.bytes ≠ 0 := by omega
  cases du <;> simp only [isSlD, Bool.false_eq_true] at hdu <;> simp [Builtin.append_, run_underlying ht, run_underlying hu, sizeOf, typeInfo, zeroValue, hi, hz, hx, hn, h63', h48', hb0', Question.forced, hf, hfo', newRow, grownCap] <;> (congr 2; apply Array.ext'; simp)
end
end Go.Proofs.Ytpjlgjhkdligfaa.Vg

namespace Go.Proofs.Ytpjlgjhkdligfaa.Vg
open Go.RowKit
set_option linter.unusedVariables false
set_option linter.unusedSimpArgs false

def cvF : CV → Option FV
  | .f x => some x
  | _ => none
def cvsF : List CV → Option (List FV)
  | [] => some []
  | x :: r => match cvF x, cvsF r with
    | some y, some l => some (y :: l)
    | _, _ => none
/-- n times the cells of a zero value -/
def repF (z : List FV) : Nat → List FV
  | 0 => []
  | n + 1 => z ++ repF z n
def zerosL (z : Array Value) (n : Nat) : List Value := (List.range n).map fun k => z[k % z.size]!
def repV (z : List Value) : Nat → List Value
  | 0 => []
  | n + 1 => z ++ repV z n
theorem repV_len (z : List Value) : ∀ n, (repV z n).length = n * z.length
  | 0 => by simp [repV]
  | n + 1 => by rw [repV, List.length_append, repV_len z n, Nat.succ_mul]; omega
theorem repV_get (z : List Value) (n : Nat) : ∀ (k : Nat), k < n * z.length → (repV z n)[k]? = z[k % z.length]? := by
  induction n with
  | zero => intro k h; simp at h
  | succ n ih =>
    intro k h
    rw [repV]
    by_cases hk : k < z.length
    · rw [List.getElem?_append_left hk, Nat.mod_eq_of_lt hk]
    · rw [List.getElem?_append_right (by omega), ih _ (by rw [Nat.succ_mul] at h; omega)]
      congr 1
      rw [← Nat.mod_eq_sub_mod (by omega)]
theorem zerosL_rep (z : Array Value) (n : Nat) : zerosL z (n * z.size) = repV z.toList n := by
  have hz : z.toList.length = z.size := by simp
  apply List.ext_getElem?
  intro k
  by_cases hk : k < n * z.size
  · rw [repV_get _ _ _ (by rw [hz]; exact hk), hz]
    have hlt : k % z.size < z.size := Nat.mod_lt _ (by
      rcases Nat.eq_zero_or_pos z.size with h | h
      · rw [h] at hk; simp at hk
      · exact h)
    have hb : z[k % z.size]! = z[k % z.size] := getElem!_pos z _ hlt
    simp [zerosL, hk, hb, hlt]
  · rw [List.getElem?_eq_none (by simp [zerosL]; omega), List.getElem?_eq_none (by rw [repV_len, hz]; omega)]
def flatsE (z : List Value) : Option (List FV) := bif z.all flat then some (z.map .v) else none
def evA (P : Program) (ts : Tv) (m : Nat) (o : Oper) : Option Dl :=
  match o.op with
  | .alloc e => match P.info? e with
    | some i => match i.zero with
      | some z => bif z.cells.toList.all flat then some ⟨.o (.c (.rp m 0)), [], [.bx (z.cells.toList.map fun x => .f (.v x)) e], [], True⟩ else none
      | none => none
    | none => none
  | .box e x => match P.info? e, opd ts x with
    | some _, .o v => some ⟨.o (.c (.rp m 0)), [], [.bx v.cells e], [], True⟩
    | _, _ => none
  | .buildSlice t len parts => match P.underlying t with
    | some (.slice e) => match P.info? e, pvals ts parts.toList with
      | some i, some ps => match i.zero with
        | some z => bif Nat.beq len 0 then (match ps with
          | [] => some ⟨.o (.c (.z0 (some false))), [], [], [], True⟩
          | _ => none) else bif Nat.ble (len * i.size) 16777216 && Nat.beq z.cells.size i.size && z.cells.toList.all flat then
            (match fillV (fun k => some (k * i.size, i.size)) ((repV z.cells.toList len).map fun x => .f (.v x)) ps with
            | some r => match cvsF r with
              | some fs => some ⟨.o (.c (.rw m len)), [], [.fx fs e], [], True⟩
              | none => none
            | none => none) else none
        | none => none
      | _, _ => none
    | _ => none
  | .makeSlice t l c => match P.underlying t, opd ts l, opd ts c with
    | some (.slice e), .o (.c (.f (.v (.int _ l)))), .o (.c (.f (.v (.int _ c)))) => match P.info? e with
      | some i => match i.zero with
        | some z => bif z.cells.toList.all flat && Nat.beq z.cells.size i.size && Nat.blt 0 i.size then
            some ⟨.o (.c (.rw m l.toNat)), [], [.fx (repF (z.cells.toList.map .v) l.toNat) e], [], 0 ≤ l ∧ l ≤ c ∧ c ≤ 9223372036854775807 ∧ i.bytes * c ≤ 281474976710656⟩ else none
        | none => none
      | none => none
    | _, _, _ => none
  | .convert s d x => match P.underlying s, P.underlying d, opd ts x with
    | some .string, some (.slice e), .o (.c (.f (.v (.string b)))) => match P.underlying e, P.info? e with
      | some (.int .u8), some i => bif Nat.beq i.size 1 then some ⟨.o (.c (.rw m b.size)), [], [.fx (b.data.toList.map fun x => u8v x.toNat) e], [], True⟩ else none
      | _, _ => none
    | _, _, _ => none
  | _ => none
section
variable {P : Program} {K K' : Kap} {κ κ' : Hp} {β β' : Bt} {ts : Tv} {a : Act} {o : Oper} {w w' : World}
theorem below_push (w : World) (o : Obj) : Below w.heap.size w { w with heap := w.heap.push o } :=
  ⟨rfl, rfl, rfl, by simp, fun k hk => by
    show (w.heap.push o)[k]? = _
    rw [Array.getElem?_push, if_neg (by omega)]⟩
theorem cvsF_spec : ∀ {r : List CV} {fs : List FV}, cvsF r = some fs → r = fs.map .f
  | [], fs, h => by simp only [cvsF, Option.some.injEq] at h; subst h; rfl
  | x :: r, fs, h => by
    simp only [cvsF] at h
    split at h
    · rename_i y l hy hl
      simp only [Option.some.injEq] at h
      subst h
      unfold cvF at hy
      split at hy
      · simp only [Option.some.injEq] at hy
        subst hy
        rw [cvsF_spec hl]
        rfl
      · cases hy
    · cases h
theorem f2_cells {R : CV → Value → Prop} {cs : List CV} {ds : List Value} (h : F2 R cs ds) : ∀ (j : Nat) (x : CV), cs[j]? = some x → ∃ v, ds.toArray[j]? = some v ∧ R x v := fun j x hx => by
  obtain ⟨y, h1, h2⟩ := h.get j x hx
  exact ⟨y, by simpa using h1, h2⟩
/-- a variable made -/
theorem made_bx (R : VRel P K κ β w) {m : Nat} {cs : List CV} {ds : List Value} {e : TypeId} {rd : List Nat} {q : Prop} (hm : κ m = none) (hf : F2 (CR P K κ β) cs ds) :
    ∃ β', Post P K κ β w m ⟨.o (.c (.rp m 0)), [], [.bx cs e], rd, q⟩ (.pointer (some ⟨w.heap.size, 0, none⟩)) { w with heap := w.heap.push (.cells ds.toArray e) } β' := by
  have le : Le K κ β K (upd κ m (some (.bx cs e))) (upd β m (some (w.heap.size, 0))) := le_new hm
  refine ⟨_, post_new R hm (below_push w _) (bt := some (w.heap.size, 0)) (fun B X h => by cases h; exact Nat.le_refl _) ?_ (.o (.c (.rp ⟨_, _, upd_same, rfl⟩ upd_same)))⟩
  exact ⟨w.heap.size, 0, ds.toArray, e, 0, 0, rfl, by simp, by simp [hf.len], .inl rfl, fun j x hx => by
    obtain ⟨v, h1, h2⟩ := f2_cells hf j x hx
    exact ⟨v, h1, h2.mono le⟩⟩
/-- a row made -/
theorem made_fx (R : VRel P K κ β w) {m n c X e lo hi sz : Nat} {fs : List FV} {C : Array Value} {rd : List Nat} {q : Prop} (hm : κ m = none) (hw : Below w.heap.size w w') (hC : w'.heap[w.heap.size]? = some (.cells C e (lo, hi))) (hX : fs.length + X ≤ C.size) (hlo : lo = hi ∨ fs.length + X ≤ lo)
    (hf : ∀ (j : Nat) (x : FV), fs[j]? = some x → ∃ v, C[j]? = some v ∧ FR K x v) (hsz : (P.info? e).map (fun i => i.size) = some sz) (hn : n * sz = fs.length) (hnc : n ≤ c) (hcX : c * sz ≤ fs.length + X) :
    ∃ β', Post P K κ β w m ⟨.o (.c (.rw m n)), [], [.fx fs e], rd, q⟩ (.slice (some ⟨w.heap.size, 0, none⟩) n c) w' β' := by
  refine ⟨_, post_new R hm hw (bt := some (w.heap.size, X)) (fun B X h => by cases h; exact Nat.le_refl _) ?_ (.o (.c (.rw upd_same rfl hsz hn hnc hcX upd_same)))⟩
  exact .inr ⟨w.heap.size, X, C, e, lo, hi, rfl, hC, hX, hlo, hf⟩
theorem repF_v (z : List Value) : ∀ n, repF (z.map .v) n = (repV z n).map .v
  | 0 => rfl
  | n + 1 => by rw [repF, repV, List.map_append, repF_v z n]
theorem all_rep {z : List Value} (h : z.all flat = true) : ∀ n, (repV z n).all flat = true
  | 0 => rfl
  | n + 1 => by rw [repV, List.all_append, h, all_rep h n]; rfl
theorem fv_cells {K : Kap} {L : List Value} (h : L.all flat = true) (C : Array Value) (hC : ∀ (j : Nat) (v : Value), L[j]? = some v → C[j]? = some v) : ∀ (j : Nat) (x : FV), (L.map .v)[j]? = some x → ∃ v, C[j]? = some v ∧ FR K x v := by
  intro j x hx
  rw [List.getElem?_map] at hx
  cases hq : L[j]? with
  | none => rw [hq] at hx; cases hx
  | some v =>
    rw [hq] at hx
    simp only [Option.map_some, Option.some.injEq] at hx
    subst hx
    exact ⟨v, hC j v hq, .v (List.all_eq_true.1 h v (List.mem_of_getElem? hq))⟩
theorem VRel.below (R : VRel P K κ β w) (h : Below w.heap.size w w') : VRel P K κ β w' :=
  ⟨fun b y hk => (h.block b (K_lt R (by rw [hk]; simp))).trans (R.kw b y hk), fun o y hk => (R.ob o y hk).mono' (Le.refl _ _ _) fun B X hs hb => h.block B (R.lt (live_of hk hs) hb), R.inj, R.sep⟩
theorem evA_sim (R : VRel P K κ β w) (T : TR P K κ β ts a.tmps) {m : Nat} {d : Dl} (hm : d.news ≠ [] → κ m = none) (h : evA P ts m o = some d) (hq : d.q) : ∃ v' w' β', (execOp a.eval o).run P w = .ok (.value v') w' ∧ Post P K κ β w m d v' w' β' := by
  unfold evA at h
  split at h
  · rename_i e1 hop
    split at h
    · rename_i i hi
      split at h
      · rename_i z hz
        cases hf : z.cells.toList.all flat with
        | false => rw [hf] at h; cases h
        | true =>
          rw [hf] at h
          simp only [cond_true, Option.some.injEq] at h
          subst h
          obtain ⟨β', hp⟩ := made_bx R (e := e1) (rd := []) (q := True) (hm (by simp)) (f2_flat (P := P) (K := K) (κ := κ) (β := β) hf)
          refine ⟨_, _, β', ?_, hp⟩
          have hzr : (zeroValue e1).run P w = .ok z w := by simp [zeroValue, typeInfo, Sem.run_bind, hi, hz]
          unfold execOp; rw [hop]
          simp only [Instr.alloc, Sem.run_bind, hzr, Result.andThen_ok, newVar, newRow, run_newObj, Sem.run_pure]
      · cases h
    · cases h
  · rename_i e1 x hop
    split at h
    · rename_i i u hi hx
      simp only [Option.some.injEq] at h
      subst h
      obtain ⟨β', hp⟩ := made_bx R (e := e1) (rd := []) (q := True) (hm (by simp)) (opd_1 T hx).cells
      refine ⟨_, _, β', ?_, hp⟩
      unfold execOp; rw [hop]
      simp only [Instr.box, Sem.run_bind, Result.andThen_ok, newVar, newRow, run_newObj, Sem.run_pure]
    · cases h
  · rename_i t len parts hop
    split at h
    · rename_i e1 hd
      split at h
      · rename_i i ps hi hps
        split at h
        · rename_i z hz
          cases hl0 : Nat.beq len 0 with
          | true =>
            rw [hl0] at h
            simp only [cond_true] at h
            split at h
            · simp only [Option.some.injEq] at h
              subst h
              have hlen0 := Nat.eq_of_beq_eq_true hl0
              subst hlen0
              have hp0 : parts = #[] := by
                have := (pvals_sim T _ _ hps).len
                exact Array.eq_empty_of_size_eq_zero (by simpa using this.symm)
              refine ⟨.slice (some ⟨w.heap.size, 0, none⟩) 0 0, { w with heap := w.heap.push (.cells #[] e1) }, β, ?_, ?_⟩
              · unfold execOp; rw [hop]
                simp [Instr.buildSlice, Sem.run_bind, run_underlying hd, Result.andThen_ok, sizeOf_run hi, hp0, Instr.fill, newRow, run_newObj]
                congr 1
                congr 1
                exact Array.eq_empty_of_size_eq_zero (by simp)
              · exact ⟨R.below (below_push w _), .o (.c (.z0 fun b hb => by cases hb; rfl)), Le.refl _ _ _, below0 (below_push w _), fun B hB => .inl ((below_push w _).block B hB), fun _ _ => rfl, fun _ _ h => absurd rfl h, fun _ h => .inr h⟩
            · cases h
          | false =>
          rw [hl0] at h
          simp only [cond_false] at h
          cases hb : (Nat.ble (len * i.size) 16777216 && Nat.beq z.cells.size i.size && z.cells.toList.all flat) with
          | false => rw [hb] at h; cases h
          | true =>
            rw [hb] at h
            simp only [cond_true] at h
            simp only [Bool.and_eq_true] at hb
            obtain ⟨⟨hle, hzs⟩, hfl⟩ := hb
            have hle := Nat.le_of_ble_eq_true hle
            have hzs := Nat.eq_of_beq_eq_true hzs
            split at h
            · rename_i r hr0
              split at h
              · rename_i fs hfs
                simp only [Option.some.injEq] at h
                subst h
                have hrep := all_rep hfl len
                obtain ⟨r', g1, g2⟩ := fill_sim _ (cs' := (repV z.cells.toList len).toArray) (pvals_sim T _ _ hps) (f2_flat (P := P) (K := K) (κ := κ) (β := β) hrep) hr0
                rw [cvsF_spec hfs] at g2
                have hlen : fs.length = len * i.size := by
                  have e1 : ∀ (pl : Nat → Option (Nat × Nat)) (ps : List (Nat × T1)) (cs r : List CV), fillV pl cs ps = some r → r.length = cs.length := by
                    intro pl ps
                    induction ps with
                    | nil => intro cs r h; simp only [fillV, Option.some.injEq] at h; rw [h]
                    | cons p ps ih =>
                      intro cs r h
                      obtain ⟨j, v⟩ := p
                      simp only [fillV] at h
                      split at h
                      · rename_i off size hpl
                        cases hb : (Nat.beq v.cells.length size && Nat.ble (off + size) cs.length) with
                        | false => rw [hb] at h; cases h
                        | true =>
                          rw [hb] at h
                          have := ih _ _ h
                          rw [this]
                          have sl : ∀ (vs cs : List CV) (o : Nat), (setL cs o vs).length = cs.length := by
                            intro vs
                            induction vs with
                            | nil => intro cs o; rfl
                            | cons v vs ih => intro cs o; rw [setL, ih]; simp
                          exact sl _ _ _
                      · cases h
                  have := e1 _ _ _ _ hr0
                  rw [cvsF_spec hfs, List.length_map, List.length_map, repV_len] at this
                  rw [this]
                  simp [hzs]
                have hget : ∀ (j : Nat) (x : FV), fs[j]? = some x → ∃ v, r'.toList.toArray[j]? = some v ∧ FR K x v := fun j x hx => by
                  obtain ⟨v, k1, k2⟩ := g2.get j (.f x) (by rw [List.getElem?_map, hx]; rfl)
                  refine ⟨v, by simpa using k1, ?_⟩
                  cases k2 with
                  | f k => exact k
                  | dead hx _ _ => cases hx
                have hrl : r'.toList.length = fs.length := by have := g2.len; simpa using this.symm
                have e2 : (parts.map fun (x : Nat × Operand) => (x.1, a.eval x.2)).toList = (parts.toList.map fun (x : Nat × Operand) => (x.1, a.eval x.2)) := by simp
                have e3 : ∀ zz : Array Value, (len * i.size = 0 ∨ zz = z.cells) → ((Array.range (len * i.size)).map (fun k => zz[k % zz.size]!)) = (repV z.cells.toList len).toArray := by
                  intro zz hzz
                  apply Array.ext'
                  rcases hzz with hzz | rfl
                  · have : repV z.cells.toList len = [] := List.eq_nil_of_length_eq_zero (by rw [repV_len]; simp [hzs, hzz])
                    simp [this, hzz]
                  · rw [← zerosL_rep, hzs]
                    simp [zerosL, hzs]
                have hzr : (zeroValue e1).run P w = .ok z w := by simp [zeroValue, typeInfo, Sem.run_bind, hi, hz]
                obtain ⟨β', hp⟩ := made_fx (w' := { w with heap := w.heap.push (.cells r'.toList.toArray e1) }) (C := r'.toList.toArray) (e := e1) (lo := 0) (hi := 0) (n := len) (c := len) (X := 0) (rd := []) (q := True) R (hm (by simp)) (below_push w _) (by simp) (by simp only [Nat.add_zero, List.size_toArray]; omega) (.inl rfl) hget (by rw [hi]; rfl) (by rw [hlen]) (Nat.le_refl _) (by rw [hlen]; exact Nat.le_refl _)
                refine ⟨_, _, β', ?_, hp⟩
                unfold execOp; rw [hop]
                simp only [Instr.buildSlice, Sem.run_bind, run_underlying hd, Result.andThen_ok, sizeOf_run hi, Sem.run_ite]
                rw [if_neg (by omega)]
                by_cases hz0 : len * i.size = 0
                · simp only [hz0, if_true, Sem.run_pure, Result.andThen_ok, Sem.run_bind]
                  have e4 := e3 #[] (.inl hz0)
                  rw [hz0] at e4
                  rw [e4, e2]
                  simp only [g1, Sem.run_bind, newRow, run_newObj, Sem.run_pure, Result.andThen_ok]
                · simp only [if_neg hz0, Sem.run_pure, Result.andThen_ok, Sem.run_bind, hzr]
                  rw [e3 z.cells (.inr rfl), e2]
                  simp only [g1, Sem.run_bind, newRow, run_newObj, Sem.run_pure, Result.andThen_ok]
              · cases h
            · cases h
        · cases h
      · cases h
    · cases h
  · rename_i t l c hop
    split at h
    · rename_i e1 kl lv kc cv hd hl hc
      split at h
      · rename_i i hi
        split at h
        · rename_i z hz
          cases hb : (z.cells.toList.all flat && Nat.beq z.cells.size i.size && Nat.blt 0 i.size) with
          | false => rw [hb] at h; cases h
          | true =>
            rw [hb] at h
            simp only [cond_true, Option.some.injEq] at h
            subst h
            simp only [Bool.and_eq_true, Nat.blt_eq] at hb
            obtain ⟨⟨b5, b6⟩, b7⟩ := hb
            have b6 := Nat.eq_of_beq_eq_true b6
            obtain ⟨b1, b2, b3, b4⟩ := hq
            have hzr : (zeroValue e1).run P w = .ok z w := by simp [zeroValue, typeInfo, Sem.run_bind, hi, hz]
            have wl : IntKind.i64.wrap lv = lv := IntWalk.i64_in _ (by omega)
            have wc : IntKind.i64.wrap cv = cv := IntWalk.i64_in _ (by omega)
            have e3 : ∀ zz : Array Value, (cv.toNat * i.size = 0 ∨ zz = z.cells) → ((Array.range (cv.toNat * i.size)).map (fun k => zz[k % zz.size]!)) = (repV z.cells.toList cv.toNat).toArray := by
              intro zz hzz
              apply Array.ext'
              rcases hzz with hzz | rfl
              · have : repV z.cells.toList cv.toNat = [] := List.eq_nil_of_length_eq_zero (by rw [repV_len]; simp [b6, hzz])
                simp [this, hzz]
              · rw [← zerosL_rep, b6]
                simp [zerosL, b6]
            have hlz : z.cells.toList.length = i.size := by simpa using b6
            have hfl : (repF (z.cells.toList.map .v) lv.toNat).length = lv.toNat * i.size := by rw [repF_v, List.length_map, repV_len, hlz]
            have hmono : lv.toNat * i.size ≤ cv.toNat * i.size := Nat.mul_le_mul_right _ (by omega)
            obtain ⟨β', hp⟩ := made_fx (w' := { w with heap := w.heap.push (.cells (repV z.cells.toList cv.toNat).toArray e1) }) (C := (repV z.cells.toList cv.toNat).toArray) (e := e1) (lo := 0) (hi := 0) (sz := i.size) (n := lv.toNat) (c := cv.toNat) (X := cv.toNat * i.size - lv.toNat * i.size) (fs := repF (z.cells.toList.map .v) lv.toNat) (rd := []) (q := 0 ≤ lv ∧ lv ≤ cv ∧ cv ≤ 9223372036854775807 ∧ i.bytes * cv ≤ 281474976710656) R (hm (by simp)) (below_push w _) (by simp)
              (by rw [hfl]; simp only [List.size_toArray]; rw [repV_len, hlz]; omega) (.inl rfl)
              (by
                rw [repF_v]
                refine fv_cells (all_rep b5 _) _ fun j v hj => ?_
                have hjl : j < lv.toNat * i.size := by
                  have := (List.getElem?_eq_some_iff.1 hj).1
                  rwa [repV_len, hlz] at this
                rw [repV_get _ _ _ (by rw [hlz]; exact hjl)] at hj
                simp only [List.getElem?_toArray]
                rw [repV_get _ _ _ (by rw [hlz]; omega)]
                exact hj)
              (by rw [hi]; rfl) (by rw [hfl]) (by omega) (by rw [hfl]; omega)
            refine ⟨_, _, β', ?_, hp⟩
            have c1 : ¬ ((cv < 0 || decide ((i.bytes : Int) * cv > 2 ^ 48)) || decide (lv < 0) || decide (lv > cv)) = true := by
              simp
              omega
            unfold execOp; rw [hop]
            simp only [opd_atom T hl, opd_atom T hc, Instr.makeSlice, Sem.run_bind, run_underlying hd, Result.andThen_ok, asInt, asIntOf, Sem.run_pure, typeInfo, run_program, hi, wl, wc, Sem.run_ite, if_neg c1, run_askRoom, sizeOf_run hi]
            by_cases hz0 : cv.toNat * i.size = 0
            · simp only [hz0, if_true, Sem.run_pure, Result.andThen_ok, Sem.run_bind]
              have e4 := e3 #[] (.inl hz0)
              rw [hz0] at e4
              rw [e4]
              simp only [newRow, Sem.run_bind, run_newObj, Sem.run_pure, Result.andThen_ok]
            · simp only [if_neg hz0, Sem.run_pure, Result.andThen_ok, Sem.run_bind, hzr]
              rw [e3 z.cells (.inr rfl)]
              simp only [newRow, Sem.run_bind, run_newObj, Sem.run_pure, Result.andThen_ok]
        · cases h
      · cases h
    · cases h
  · rename_i s d x hop
    split at h
    · rename_i e1 b hs hd hx
      split at h
      · rename_i i he hi
        cases hb : Nat.beq i.size 1 with
        | false => rw [hb] at h; cases h
        | true =>
          rw [hb] at h
          simp only [cond_true, Option.some.injEq] at h
          subst h
          have hsz := Nat.eq_of_beq_eq_true hb
          have hge := grownCap_ge w b.size 0 e1
          have hC : (Lib.bytesCells w e1 b).size = grownCap w b.size 0 e1 := by
            have : b.data.size = b.size := rfl
            simp [Lib.bytesCells, this]
            omega
          have hlen : (b.data.toList.map (fun x => u8v x.toNat)).length = b.size := by simp
          obtain ⟨β', hp⟩ := made_fx (w' := Lib.bytesWorld w e1 b) (C := Lib.bytesCells w e1 b) (n := b.size) (c := grownCap w b.size 0 e1) (X := grownCap w b.size 0 e1 - b.size) (sz := 1) (rd := []) (q := True) (fs := b.data.toList.map fun x => u8v x.toNat) R (hm (by simp)) ⟨rfl, rfl, rfl, by rw [Lib.bytesWorld_size]; omega, fun k hk => Lib.bytesWorld_at_old w e1 b k hk⟩ (Lib.bytesWorld_at_new w e1 b)
            (by rw [hlen, hC]; omega) (.inr (by rw [hlen, hC]; omega))
            (by
              intro j y hj
              have hjl : j < b.size := by
                have := (List.getElem?_eq_some_iff.1 hj).1
                rwa [hlen] at this
              rw [List.getElem?_map] at hj
              cases hq : b.data.toList[j]? with
              | none => rw [hq] at hj; cases hj
              | some u =>
                rw [hq] at hj
                simp only [Option.map_some, Option.some.injEq] at hj
                subst hj
                refine ⟨.int .u8 u.toNat, ?_, .v rfl⟩
                unfold Lib.bytesCells
                have hjl' : j < b.data.size := hjl
                rw [Array.getElem?_append_left (by simpa using hjl')]
                have hq' : b.data[j]? = some u := by simpa using hq
                simp [hq'])
            (by rw [hi]; simp [hsz]) (by rw [hlen]; omega) hge (by rw [hlen]; omega)
          refine ⟨_, _, β', ?_, hp⟩
          unfold execOp; rw [hop]
          simp only [opd_atom T hx, Sem.run_bind, Lib.run_convert_string_bytes w s d e1 b hs hd he, Result.andThen_ok, Sem.run_pure]
      · cases h
    · cases h
  · cases h
end
end Go.Proofs.Ytpjlgjhkdligfaa.Vg

namespace Go.Proofs.Ytpjlgjhkdligfaa.Vg
open Go.RowKit
set_option linter.unusedVariables false
set_option linter.unusedSimpArgs false

structure Nw where
  cs : List FV
  n : Nat
  rd : List Nat
  q : Prop
/-- the cells of what is appended or copied -/
def newsF (κ : Hp) (size : Nat) : TV → Option Nw
  | .o (.c (.f (.sl z cs n))) => some ⟨cs, n, [], cs.length = n * size⟩
  | .o (.c (.f (.v (.slice none 0 _)))) => some ⟨[], 0, [], True⟩
  | .o (.c (.f (.v (.string s)))) => bif Nat.beq size 1 then some ⟨s.data.toList.map fun x => u8v x.toNat, s.size, [], True⟩ else none
  | .o (.c (.z0 _)) => some ⟨[], 0, [], True⟩
  | .o (.c (.rw o n)) => match κ o with
    | some (.fx cs _) => some ⟨cs, n, [o], cs.length = n * size⟩
    | _ => none
  | .o (.c (.rs o off n k sz)) => match κ o with
    | some (.fx cs _) => some ⟨(cs.drop off).take (n * size), n, [o], ((cs.drop off).take (n * size)).length = n * size⟩
    | some (.bx cs _) => match cvsF ((cs.drop off).take (n * size)) with
      | some fs => some ⟨fs, n, [o], fs.length = n * size⟩
      | none => none
    | _ => none
  | _ => none
def baseE (κ : Hp) (e : TypeId) : TV → Option (List FV × Nat × Option Nat)
  | .o (.c (.f (.v (.slice none 0 0)))) => some ([], 0, none)
  | .o (.c (.z0 _)) => some ([], 0, none)
  | .o (.c (.rw o n)) => match κ o with
    | some (.fx cs ty) => bif Nat.beq ty e then some (cs, n, some o) else none
    | _ => none
  | _ => none
def destE (κ : Hp) (size : Nat) : TV → Option (Nat × Nat × Nat)
  | .o (.c (.rw o n)) => some (o, 0, n)
  | .o (.c (.rs o off n k sz)) => some (o, off, n)
  | _ => none
def evW (P : Program) (κ : Hp) (ts : Tv) (m : Nat) (o : Oper) : Option Dl :=
  match o.op with
  | .store t x y => match P.info? t, opd ts x, opd ts y with
    | some i, .o (.c (.rp b off)), .o v => bif Nat.beq v.cells.length i.size then (match κ b with
      | some (.bx cs ty) => bif Nat.ble (off + i.size) cs.length then some ⟨.u, [(b, .bx (setL cs off v.cells) ty)], [], [b], True⟩ else none
      | some (.fx cs ty) => (match cvsF v.cells with
        | some fs => some ⟨.u, [(b, .fx (setL cs off fs) ty)], [], [b], off + i.size ≤ cs.length⟩
        | none => none)
      | _ => none) else none
    | _, _, _ => none
  | .call c => match c.callee, c.args.toList, c.argTypes.toList with
    | .builtin .append, [s, x], [t, u] => match P.underlying t, P.underlying u with
      | some (.slice e), some du => match P.info? e with
        | some i => match i.zero, baseE κ e (opd ts s), newsF κ i.size (opd ts x) with
          | some z, some (olds, l, ob), some nw => bif isSlD du && Nat.beq z.cells.size i.size && Nat.blt 0 i.bytes && Nat.blt 0 i.size then
            (match ob with
              | some b => some ⟨.o (.c (.rw m (l + nw.n))), [(b, .dead)], [.fx (olds ++ nw.cs) e], b :: nw.rd, nw.q ∧ (l + nw.n) * i.bytes ≤ 140737488355328⟩
              | none => some ⟨.o (.c (.rw m nw.n)), [], [.fx nw.cs e], nw.rd, nw.q ∧ nw.n * i.bytes ≤ 140737488355328⟩) else none
          | _, _, _ => none
        | none => none
      | _, _ => none
    | .builtin .copy, [d, x], [t, u] => match P.underlying t with
      | some (.slice e) => match P.info? e with
        | some i => match destE κ i.size (opd ts d), newsF κ i.size (opd ts x) with
          | some (b, off, n), some nw => (match κ b with
            | some (.fx cs ty) => some ⟨atom (.int .i64 (Nat.min nw.n n)), [(b, .fx (setL cs off (nw.cs.take (Nat.min nw.n n * i.size))) ty)], [], b :: nw.rd, nw.q ∧ off + Nat.min nw.n n * i.size ≤ cs.length ∧ Nat.min nw.n n * i.size ≠ 0⟩
            | some (.bx cs ty) => some ⟨atom (.int .i64 (Nat.min nw.n n)), [(b, .bx (setL cs off ((nw.cs.take (Nat.min nw.n n * i.size)).map .f)) ty)], [], b :: nw.rd, nw.q ∧ off + Nat.min nw.n n * i.size ≤ cs.length ∧ Nat.min nw.n n * i.size ≠ 0⟩
            | _ => none)
          | _, _ => none
        | none => none
      | _ => none
    | _, _, _ => none
  | .convert s d x => match P.underlying s, P.underlying d with
    | some (.slice _), some (.slice e) => bif Nat.beq s d then (match P.underlying e, opd ts x with
      | some (.int .u8), .o (.c (.rw b n)) => (match κ b with
        | some (.fx cs ty) => some ⟨.o (.c (.rw b n)), [(b, .fx cs ty)], [], [b], cs ≠ []⟩
        | _ => none)
      | _, _ => none) else none
    | _, _ => none
  | _ => none
section
variable {P : Program} {K K' : Kap} {κ κ' : Hp} {β β' : Bt} {ts : Tv} {a : Act} {o : Oper} {w w' : World}
theorem setL_len {α : Type} : ∀ (vs cs : List α) (o : Nat), (setL cs o vs).length = cs.length
  | [], cs, o => rfl
  | v :: vs, cs, o => by rw [setL, setL_len vs]; simp
theorem setL_get {α : Type} : ∀ (vs cs : List α) (o j : Nat), o + vs.length ≤ cs.length → (setL cs o vs)[j]? = if o ≤ j ∧ j < o + vs.length then vs[j - o]? else cs[j]?
  | [], cs, o, j, h => by rw [setL, if_neg (by rw [List.length_nil]; omega)]
  | v :: vs, cs, o, j, h => by
    simp only [List.length_cons] at h
    rw [setL, setL_get vs _ _ _ (by simp; omega)]
    simp only [List.length_cons]
    by_cases hj : j = o
    · subst hj
      rw [if_neg (by omega), if_pos (by omega)]
      have : j < cs.length := by omega
      simp [this]
    · by_cases h1 : o ≤ j ∧ j < o + (vs.length + 1)
      · rw [if_pos (by omega), if_pos h1]
        obtain ⟨d, rfl⟩ : ∃ d, j = o + 1 + d := ⟨j - (o + 1), by omega⟩
        rw [show o + 1 + d - (o + 1) = d by omega, show o + 1 + d - o = d + 1 by omega]
        rfl
      · rw [if_neg (by omega), if_neg h1]
        simp [Ne.symm hj]
theorem splice_rel {α : Type} {R : α → Value → Prop} {cs vs : List α} {C : Array Value} {vs' : List Value} {off : Nat} (h : ∀ (j : Nat) (x : α), cs[j]? = some x → ∃ v, C[j]? = some v ∧ R x v) (hv : F2 R vs vs') (hl : off + vs.length ≤ cs.length) (hC : off + vs.length ≤ C.size) :
    ∀ (j : Nat) (x : α), (setL cs off vs)[j]? = some x → ∃ v, (splice C off vs')[j]? = some v ∧ R x v := by
  intro j x hj
  have hlen := hv.len
  rw [setL_get _ _ _ _ hl] at hj
  rw [splice_get _ _ _ _ (by omega)]
  by_cases hc : off ≤ j ∧ j < off + vs.length
  · rw [if_pos hc] at hj
    rw [if_pos (by omega)]
    exact hv.get _ _ hj
  · rw [if_neg hc] at hj
    rw [if_neg (by omega)]
    exact h j x hj
theorem fz_no {lo hi n : Nat} (h : lo = hi ∨ n ≤ lo) (j : Nat) (hj : j < n) : ¬ (lo ≤ j ∧ j < hi) := by omega
/-- cells written into a live object's block -/
theorem write_run {B off L X : Nat} {C : Array Value} {e lo hi : Nat} {vs' : List Value} (hw : w.heap[B]? = some (.cells C e (lo, hi))) (h3 : L + X ≤ C.size) (h4 : lo = hi ∨ L + X ≤ lo) (hl : off + vs'.length ≤ L + X) (h1 : ∀ v ∈ vs', One v) :
    ∃ w', (storeCells ⟨B, off, none⟩ vs').run P w = .ok () w' ∧ w'.heap[B]? = some (.cells (splice C off vs') e (lo, hi)) ∧ (∀ B', B' ≠ B → w'.heap[B']? = w.heap[B']?) ∧ w'.heap.size = w.heap.size ∧ Below 0 w w' := by
  obtain ⟨w', r1, r2, r3, r4, r5, r6, r7⟩ := run_storeCells P vs' w B off 0 C e lo hi hw (by omega) (fun j hj => fz_no h4 (off + 0 + j) (by omega)) (fun v hv => (h1 v hv).1)
  exact ⟨w', r1, r2, r3, r4, ⟨r5, r6, r7, by omega, fun k hk => absurd hk (Nat.not_lt_zero _)⟩⟩
theorem f2_one {cs : List CV} {ds : List Value} (h : F2 (CR P K κ β) cs ds) : ∀ v ∈ ds, One v := fun v hv => by
  obtain ⟨j, hj⟩ := List.getElem?_of_mem hv
  obtain ⟨x, _, h2⟩ := h.getr j v hj
  exact h2.one
theorem f2_onef {cs : List FV} {ds : List Value} (h : F2 (FR K) cs ds) : ∀ v ∈ ds, One v := fun v hv => by
  obtain ⟨j, hj⟩ := List.getElem?_of_mem hv
  obtain ⟨x, _, h2⟩ := h.getr j v hj
  exact h2.one
theorem f2_unf : ∀ {fs : List FV} {ds : List Value}, F2 (CR P K κ β) (fs.map .f) ds → F2 (FR K) fs ds
  | [], _, .nil => .nil
  | x :: fs, _, .cons h t => .cons (by cases h with | f h => exact h | dead hx _ _ => cases hx) (f2_unf t)
theorem store_sim (R : VRel P K κ β w) {m b off : Nat} {vs : List CV} {vs' : List Value} {v' : Value} {ad : Addr} {x : VO} (hp : CR P K κ β (.rp b off) (.pointer (some ad))) (hlv : κ b ≠ some .dead) (hf : F2 (CR P K κ β) vs vs') {rd : List Nat} {q : Prop}
    (hx : (∃ cs ty, κ b = some (.bx cs ty) ∧ x = .bx (setL cs off vs) ty ∧ off + vs.length ≤ cs.length) ∨ (∃ cs fs ty, κ b = some (.fx cs ty) ∧ x = .fx (setL cs off fs) ty ∧ vs = fs.map .f ∧ off + vs.length ≤ cs.length ∧ vs ≠ [])) :
    ∃ w', (storeCells ad vs').run P w = .ok () w' ∧ Post P K κ β w m ⟨.u, [(b, x)], [], rd, q⟩ v' w' β := by
  cases hp with
  | dead hx hd _ => cases hx; exact absurd hd hlv
  | rp hl hb =>
    rename_i B X
    rcases hx with ⟨cs, ty, hk, rfl, hle⟩ | ⟨cs, fs, ty, hk, rfl, rfl, hle, hne⟩
    · have := R.ob b _ hk
      rw [hb] at this
      obtain ⟨B', X', C, e, lo, hi, p1, p2, p3, p4, p5⟩ := this
      cases p1
      have hlen := hf.len
      obtain ⟨w', r1, r2, r3, r4, r5⟩ := write_run (P := P) p2 p3 p4 (off := off) (vs' := vs') (by omega) (f2_one hf)
      have le : Le K κ β K (upd κ b (some (.bx (setL cs off vs) ty))) β := by
        refine ⟨fun _ _ h => h, fun z u h => ?_⟩
        by_cases he : z = b
        · subst he; rw [hk] at h; cases h
          exact .inr ⟨_, upd_same, by simp [VO.shape, setL_len], rfl⟩
        · exact .inr ⟨u, (upd_ne he).trans h, rfl, rfl⟩
      refine ⟨w', r1, post_set R hk (by simp [VO.shape, setL_len]) (by simp [VO.shape]) hb r3 r5 ?_ .u⟩
      refine ⟨B, X, splice C off vs', e, lo, hi, rfl, r2, by rw [setL_len, splice_size]; exact p3, by rw [setL_len]; exact p4, fun j y hj => ?_⟩
      obtain ⟨v, k1, k2⟩ := splice_rel p5 hf hle (by omega) j y hj
      exact ⟨v, k1, k2.mono le⟩
    · have := R.ob b _ hk
      rw [hb] at this
      rcases this with ⟨q0, _⟩ | ⟨B', X', C, e, lo, hi, p1, p2, p3, p4, p5⟩
      · cases q0
      · cases p1
        have hlen := hf.len
        have hf2 := f2_unf hf
        have hle2 : off + fs.length ≤ cs.length := by simpa using hle
        have hfl := hf2.len
        obtain ⟨w', r1, r2, r3, r4, r5⟩ := write_run (P := P) p2 p3 p4 (off := off) (vs' := vs') (by omega) (f2_one hf)
        refine ⟨w', r1, post_set R hk (by simp [VO.shape, setL_len]) (by simp [VO.shape]) hb r3 r5 ?_ .u⟩
        refine .inr ⟨B, X, splice C off vs', e, lo, hi, rfl, r2, by rw [setL_len, splice_size]; exact p3, by rw [setL_len]; exact p4, fun j y hj => ?_⟩
        exact splice_rel p5 hf2 hle2 (by omega) j y hj
/-! ### what is appended -/
theorem take_cells {vs : List Value} {ad : Addr} (h : ∀ (j : Nat) (u : Value), vs[j]? = some u → w.cell? (ad.add j) = some u) {k : Nat} (hk : k ≤ vs.length) {W : World} (hW : W.heap = w.heap) : (loadCells ad k).run P W = .ok (vs.take k).toArray W := by
  have := run_ldK (P := P) (w := W) (a' := ad) (L' := vs.take k) (fun j u hj => by
    have hlt : j < k := by
      have := (List.getElem?_eq_some_iff.1 hj).1
      rw [List.length_take] at this
      omega
    rw [List.getElem?_take, if_pos hlt] at hj
    have := h j u hj
    simpa only [World.cell?, hW] using this)
  rwa [List.length_take, Nat.min_eq_left hk] at this
theorem fc_slice {vs : List Value} {ad : Addr} {n c size : Nat} (h : ∀ (j : Nat) (u : Value), vs[j]? = some u → w.cell? (ad.add j) = some u) (hl : vs.length = n * size) : ∀ W : World, W.heap = w.heap → ∀ j, j ≤ n → (Builtin.firstCells size j (.slice (some ad) n c)).run P W = .ok (vs.take (j * size)).toArray W := by
  intro W hW j hj
  exact take_cells h (by rw [hl]; exact Nat.mul_le_mul_right _ hj) hW
theorem fc_nil {A : Option Addr} {c size : Nat} : ∀ W : World, ∀ j, j ≤ 0 → (Builtin.firstCells size j (.slice A 0 c)).run P W = .ok (([] : List Value).take (j * size)).toArray W := by
  intro W j hj
  have : j = 0 := by omega
  subst this
  cases A with
  | none => simp [Builtin.firstCells]
  | some ad =>
    show (loadCells ad (0 * size)).run P W = _
    rw [Nat.zero_mul]
    rfl
theorem news_sim (R : VRel P K κ β w) {x : TV} {x' : Value} {size : Nat} {nw : Nw} (hx : VR P K κ β x x') (h : newsF κ size x = some nw) (hq : nw.q) :
    ∃ vs : List Value, F2 (FR K) nw.cs vs ∧ nw.cs.length = nw.n * size ∧ Builtin.lenOf x' = pure nw.n ∧ ∀ W : World, W.heap = w.heap → ∀ j, j ≤ nw.n → (Builtin.firstCells size j x').run P W = .ok (vs.take (j * size)).toArray W := by
  unfold newsF at h
  split at h
  · rename_i z cs n
    simp only [Option.some.injEq] at h
    subst h
    cases hx with | o hx => cases hx with | c hx => cases hx with
    | dead hx _ _ => cases hx
    | f hf =>
      cases hf with
      | sl0 hz => exact ⟨[], .nil, by simp, rfl, fun W _ j hj => fc_nil W j hj⟩
      | sl us hz hn h1 h2 =>
        simp only at hq
        obtain ⟨f1, f2⟩ := frozen_cells R.kw h1 h2 0 (n * size) (by rw [List.drop_zero, List.length_take]; omega)
        have e3 : (cs.drop 0).take (n * size) = cs := by rw [List.drop_zero, List.take_of_length_le (by omega)]
        rw [e3] at f1
        refine ⟨_, f1, hq, rfl, ?_⟩
        rw [show Addr.add _ 0 = _ from if_pos rfl] at f2
        exact fc_slice f2 (by simp)
  · simp only [Option.some.injEq] at h
    subst h
    cases hx with | o hx => cases hx with | c hx => cases hx with
    | dead hx _ _ => cases hx
    | f hf => cases hf; exact ⟨[], .nil, by simp, rfl, fun W _ j hj => fc_nil W j hj⟩
  · rename_i s
    cases hb : Nat.beq size 1 with
    | false => rw [hb] at h; cases h
    | true =>
      rw [hb] at h
      simp only [cond_true, Option.some.injEq] at h
      subst h
      have hs := Nat.eq_of_beq_eq_true hb
      subst hs
      cases hx with | o hx => cases hx with | c hx => cases hx with
      | dead hx _ _ => cases hx
      | f hf =>
        cases hf
        refine ⟨s.data.toList.map fun x => .int .u8 x.toNat, F2.of_get (by simp) fun j x hj => ?_, by simp, rfl, fun W _ j hj => ?_⟩
        · rw [List.getElem?_map] at hj ⊢
          cases hq : s.data.toList[j]? with
          | none => rw [hq] at hj; cases hj
          | some u =>
            rw [hq] at hj
            simp only [Option.map_some, Option.some.injEq] at hj
            subst hj
            exact ⟨_, rfl, .v rfl⟩
        · simp only [Builtin.firstCells, Sem.run_pure, Nat.mul_one]
          congr 1
          apply Array.ext'
          simp only at hj
          simp [ByteArray.data_extract, List.map_take]
  · simp only [Option.some.injEq] at h
    subst h
    cases hx with | o hx => cases hx with | c hx => cases hx with
    | dead hx _ _ => cases hx
    | z0 hz => exact ⟨[], .nil, by simp, rfl, fun W _ j hj => fc_nil W j hj⟩
  · rename_i oo n
    split at h
    · rename_i cs ty hk
      simp only [Option.some.injEq] at h
      subst h
      have hO := R.ob oo _ hk
      cases hx with | o hx => cases hx with | c hx => cases hx with
      | dead hx hd _ => cases hx; rw [hk] at hd; cases hd
      | rw hx hs' hz hL hn hc hb =>
        rw [hb] at hO
        rcases hO with ⟨q0, _⟩ | ⟨B', X', C, e', lo, hi, p1, p2, p3, p4, p5⟩
        · cases q0
        · cases p1
          simp only at hq
          have hf := cells_take p5 0 (n * size) (by rw [List.drop_zero, List.length_take]; omega)
          have bc := block_cells (off := 0) (size := n * size) p2
          have e3 : (cs.drop 0).take (n * size) = cs := by rw [List.drop_zero, List.take_of_length_le (by omega)]
          rw [e3] at hf
          exact ⟨_, hf, hq, rfl, fc_slice bc (by rw [← hf.len]; exact hq)⟩
      | rw0 hx hs' hb =>
        simp only at hq
        have : cs = [] := List.eq_nil_of_length_eq_zero (by omega)
        subst this
        exact ⟨[], .nil, by simp, rfl, fun W _ j hj => fc_nil W j hj⟩
    · cases h
  · rename_i oo off n k sz
    split at h
    · rename_i cs ty hk
      simp only [Option.some.injEq] at h
      subst h
      have hO := R.ob oo _ hk
      cases hx with | o hx => cases hx with | c hx => cases hx with
      | dead hx hd _ => cases hx; rw [hk] at hd; cases hd
      | rs hl' hn hc hb ha =>
        simp only at hq
        rw [hb] at hO
        rcases hO with ⟨q0, q1⟩ | ⟨B', X', C, e', lo, hi, p1, p2, p3, p4, p5⟩
        · cases q0
        · cases p1
          have hf := cells_take p5 off (n * size) hq
          rcases ha with rfl | rfl
          · exact ⟨_, hf, hq, rfl, fc_slice (block_cells p2) (by rw [← hf.len]; exact hq)⟩
          · have hn0 : n = 0 := by omega
            subst hn0
            simp only [Nat.zero_mul, List.take_zero] at hf ⊢
            exact ⟨[], .nil, by simp, rfl, fun W _ j hj => fc_nil W j hj⟩
      | rs0 hl' hb =>
        simp only [Nat.zero_mul, List.take_zero]
        exact ⟨[], .nil, by simp, rfl, fun W _ j hj => fc_nil W j hj⟩
    · rename_i cs ty hk
      split at h
      · rename_i fs hfs
        simp only [Option.some.injEq] at h
        subst h
        have hO := R.ob oo _ hk
        cases hx with | o hx => cases hx with | c hx => cases hx with
        | dead hx hd _ => cases hx; rw [hk] at hd; cases hd
        | rs hl' hn hc hb ha =>
          simp only at hq
          rw [hb] at hO
          obtain ⟨B', X', C, e', lo, hi, p1, p2, p3, p4, p5⟩ := hO
          cases p1
          have hsp := cvsF_spec hfs
          have hlc : ((cs.drop off).take (n * size)).length = n * size := by rw [hsp, List.length_map]; exact hq
          have hf0 := cells_take p5 off (n * size) hlc
          rw [hsp] at hf0
          have hf : F2 (FR K) fs ((C.toList.drop off).take (n * size)) := F2.of_get (by have := hf0.len; rw [List.length_map] at this; exact this) fun j x hj => by
            obtain ⟨v, g1, g2⟩ := hf0.get j (.f x) (by rw [List.getElem?_map, hj]; rfl)
            refine ⟨v, g1, ?_⟩
            cases g2 with
            | f h => exact h
            | dead hx _ _ => cases hx
          rcases ha with rfl | rfl
          · exact ⟨_, hf, hq, rfl, fc_slice (block_cells p2) (by rw [← hf.len]; exact hq)⟩
          · have hn0 : n = 0 := by omega
            subst hn0
            simp only [Nat.zero_mul, List.take_zero] at hf ⊢
            have : fs = [] := List.eq_nil_of_length_eq_zero (by rw [hq, Nat.zero_mul])
            subst this
            exact ⟨[], .nil, by simp, rfl, fun W _ j hj => fc_nil W j hj⟩
        | rs0 hl' hb =>
          simp only [Nat.zero_mul, List.take_zero] at hfs hq ⊢
          have : fs = [] := List.eq_nil_of_length_eq_zero hq
          subst this
          exact ⟨[], .nil, by simp, rfl, fun W _ j hj => fc_nil W j hj⟩
      · cases h
    · cases h
  · cases h
end
end Go.Proofs.Ytpjlgjhkdligfaa.Vg
