/- What a row's readings give, as values of the second engine. No law, no condition. -/
import Derived.Test.YtpjlgjhkdligfaaVgD
import Derived.Test.YtpjlgjhkdligfaaOpenW
namespace Go.Proofs.Ytpjlgjhkdligfaa.Vg
open Go.RowKit Go.Proofs.YtpjlgjhkdligfaaW.PrintWords
set_option linter.unusedVariables false
theorem cellK_of {w : World} {a : Addr} {v : Value} (h : w.cell? a = some v) : cellK (Kw w) a = some v := by
  unfold World.cell? at h
  unfold cellK Kw
  split at h
  · rename_i hq
    rw [hq]
    exact h
  · cases h
/-- what is read by d is f of it -/
def FK {α : Type} (d : Kd α) (f : α → List FV) : Prop := ∀ (w : World) (x : α) (cs : List Value), d.K w x cs → F2 (FR (Kw w)) (f x) cs
theorem FK.int {k : IntKind} : FK (Kd.int k) (fun x => [.v (.int k x)]) := fun w x cs h => by
  obtain rfl : cs = [.int k x] := h
  exact .cons (.v rfl) .nil
theorem FK.bool : FK Kd.bool (fun x => [.v (.bool x)]) := fun w x cs h => by
  obtain rfl : cs = [.bool x] := h
  exact .cons (.v rfl) .nil
theorem f2_apk {α β : Type} {R : α → β → Prop} : ∀ {a : List α} {b : List β} {c : List α} {d : List β}, F2 R a b → F2 R c d → F2 R (a ++ c) (b ++ d)
  | [], [], _, _, .nil, h => h
  | _ :: _, _ :: _, _, _, .cons x y, h => .cons x (f2_apk y h)
theorem FK.pair {α β : Type} {a : Kd α} {b : Kd β} {f : α → List FV} {g : β → List FV} (ha : FK a f) (hb : FK b g) : FK (Kd.pair a b) (fun x => f x.1 ++ g x.2) := fun w x cs h => by
  obtain ⟨c0, c1, rfl, h0, h1⟩ := h
  exact f2_apk (ha w _ _ h0) (hb w _ _ h1)
theorem FK.iso {α β : Type} {d : Kd α} {f : α → List FV} (h : FK d f) (g : β → α) : FK (Kd.iso d g) (fun y => f (g y)) := fun w x cs hk => h w _ _ hk
theorem flat_read {α : Type} {w : World} {f : α → List FV} {s : Nat} {ad : Addr} : ∀ (xs : List α) (off : Nat), (∀ (j : Nat) (p : α), xs[j]? = some p → ∃ c : List Value, c.length = s ∧ F2 (FR (Kw w)) (f p) c ∧ ∀ (i : Nat) (u : Value), c[i]? = some u → w.cell? (ad.add (off + (j * s + i))) = some u) →
    ∀ (i : Nat) (x : FV), (xs.flatMap f)[i]? = some x → ∃ u, w.cell? (ad.add (off + i)) = some u ∧ FR (Kw w) x u
  | [], off, _, i, x, h => by simp at h
  | p :: xs, off, hh, i, x, h => by
    obtain ⟨c, hc, h2, h3⟩ := hh 0 p rfl
    have hl := h2.len
    rw [List.flatMap_cons] at h
    by_cases hi : i < s
    · rw [List.getElem?_append_left (by omega)] at h
      obtain ⟨u, g1, g2⟩ := h2.get i x h
      have := h3 i u g1
      rw [Nat.zero_mul, Nat.zero_add] at this
      exact ⟨u, this, g2⟩
    · rw [List.getElem?_append_right (by omega)] at h
      have := flat_read xs (off + s) (fun j q hq => by
        obtain ⟨c', k1, k2, k3⟩ := hh (j + 1) q (by simpa using hq)
        refine ⟨c', k1, k2, fun i u hu => ?_⟩
        have := k3 i u hu
        rw [Nat.add_mul, Nat.one_mul] at this
        rw [show off + s + (j * s + i) = off + (j * s + s + i) by omega]
        exact this) (i - (f p).length) x h
      rw [show off + s + (i - (f p).length) = off + i by omega] at this
      exact this
theorem FK.slice {α : Type} {e : Nat} {d : Kd α} {f : α → List FV} (h : FK d f) : FK (Kd.slice e d) (fun xs => [.sl none (xs.flatMap f) xs.length]) := fun w xs cs hk => by
  obtain ⟨A, c, rfl, hle, hC⟩ := hk
  refine .cons ?_ .nil
  cases xs with
  | nil => exact .sl0 fun b hb => by cases hb
  | cons p xs =>
    obtain ⟨hn, _, hr⟩ := hC
    obtain ⟨ad, rfl, hcell⟩ := hr (by simp)
    have hfr := flat_read (w := w) (f := f) (s := d.sz) (ad := ad) (p :: xs) 0 (fun j q hq => by
      obtain ⟨c, k1, k2, k3⟩ := hcell j q hq
      exact ⟨c, k1, h w _ _ k2, fun i u hu => by rw [Nat.zero_add]; exact k3 i u hu⟩)
    refine .sl (fun i => (w.cell? (ad.add i)).getD undef) (fun b hb => by cases hb) hle (fun i x hx => ?_) (fun i x hx => ?_)
    · obtain ⟨u, g1, g2⟩ := hfr i x hx
      rw [Nat.zero_add] at g1
      simp only [g1, Option.getD_some]
      exact cellK_of g1
    · obtain ⟨u, g1, g2⟩ := hfr i x hx
      rw [Nat.zero_add] at g1
      simp only [g1, Option.getD_some]
      exact g2
theorem reps_f2 {α : Type} {w : World} {d : Kd α} {f : α → List FV} (h : FK d f) : ∀ (xs : List α) (cs : List Value), Reps (d.K w) d.sz xs cs → F2 (FR (Kw w)) (xs.flatMap f) cs
  | [], cs, hr => by
    have : cs = [] := List.eq_nil_of_length_eq_zero (by simpa using hr.1)
    subst this
    exact .nil
  | p :: xs, cs, hr => by
    have h0 := hr.2 0 p rfl
    rw [Nat.zero_mul, List.drop_zero] at h0
    have hl := hr.1
    rw [List.length_cons, Nat.add_mul, Nat.one_mul] at hl
    have ht := reps_f2 h xs (cs.drop d.sz) ⟨by rw [List.length_drop]; omega, fun j q hq => by
      have := hr.2 (j + 1) q (by simpa using hq)
      rw [Nat.add_mul, Nat.one_mul, Nat.add_comm] at this
      rw [List.drop_drop]
      exact this⟩
    have := f2_apk (h w _ _ h0) ht
    rw [List.take_append_drop] at this
    exact this
theorem FK.arr {α : Type} {n : Nat} {d : Kd α} {hs : 0 < d.sz} {f : α → List FV} (h : FK d f) : FK (Kd.arr n d hs) (fun xs => xs.flatMap f) := fun w xs cs hk => reps_f2 h xs cs hk.2
theorem cr_map {P : Program} {K : Kap} {κ : Hp} {β : Bt} : ∀ {xs : List FV} {vs : List Value}, F2 (FR K) xs vs → F2 (CR P K κ β) (xs.map .f) vs
  | [], _, .nil => .nil
  | _ :: _, _, .cons a b => .cons (.f a) (cr_map b)
end Go.Proofs.Ytpjlgjhkdligfaa.Vg
