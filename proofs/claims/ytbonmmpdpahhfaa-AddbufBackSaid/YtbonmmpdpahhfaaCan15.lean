/- The engine, fifteenth part: code, loops, functions. No law, no condition. -/
import Derived.Test.YtbonmmpdpahhfaaCanI
import Derived.LoopN
import Derived.Scope
namespace Go.Proofs.Ytbonmmpdpahhfaa.Can
open Go.RowKit
set_option linter.unusedVariables false
set_option linter.unusedSimpArgs false

inductive Ex where
  | normal
  | exit (id : Nat)
  | ret
def Ex.toExit : Ex → Exit
  | .normal => .normal
  | .exit id => .exit id
  | .ret => .ret
def firstId : Code → Nat
  | .region id _ _ => id
  | .seq a _ => firstId a
  | .cond _ a _ => firstId a
  | .block _ b => firstId b
  | .loop b => firstId b
  | .scope b => firstId b
  | _ => 0
structure Cx where
  P : Program
  N0 : Nat
  C : CallE
  L : Nat
  nt : Nat
  keep : Nat → List Nat
def evLoop (ks : List Nat) (f : Tm → World → Option (Ex × Tm × World)) : Nat → Tm → World → Option (Ex × Tm × World)
  | 0, _, _ => none
  | n + 1, ts, c => match f (prune ks ts) c with
    | some (.normal, ts', c') => evLoop ks f n ts' c'
    | r => r
def evCode (X : Cx) : Code → Tm → World → Option (Ex × Tm × World)
  | .skip, ts, c => some (.normal, ts, c)
  | .label _, ts, c => some (.normal, ts, c)
  | .region _ ops false, ts, c => match evOps X.P X.N0 X.C X.nt ops ops.toList ts c with
    | some (ts', c') => some (.normal, ts', c')
    | none => none
  | .region _ ops true, ts, c => match evDrawn X.P X.N0 X.C X.nt ops ts c with
    | some (ts', c') => some (.normal, ts', c')
    | none => none
  | .seq x y, ts, c => match evCode X x ts c with
    | some (.normal, ts', c') => evCode X y ts' c'
    | r => r
  | .cond x t e, ts, c => match opd ts x with
    | some (.bool b) => match b with
      | true => evCode X t ts c
      | false => evCode X e ts c
    | _ => none
  | .block id b, ts, c => match evCode X b ts c with
    | some (.exit i, ts', c') => bif Nat.beq i id then some (.normal, ts', c') else some (.exit i, ts', c')
    | r => r
  | .scope b, ts, c => evCode X b ts c
  | .loop b, ts, c => evLoop (X.keep (firstId b)) (evCode X b) X.L ts c
  | .exit id, ts, c => some (.exit id, ts, c)
  | .ret, ts, c => some (.ret, ts, c)
  | _, _, _ => none
section
variable {P : Program} {N0 : Nat} {w0 : World} {ρ : Rho} {c c' w : World} {ts ts' : Tm} {a : Act} {Q : Exit → Act → World → Prop} {X : Cx}
/-- what follows a piece of code -/
def Aft (P : Program) (N0 : Nat) (w0 : World) (nt : Nat) (ρ : Rho) (a : Act) (c w : World) (e : Ex) (ts' : Tm) (c' : World) (Q : Exit → Act → World → Prop) : Prop :=
  ∀ (a' : Act) (w' : World) (ρ' : Rho), Rel P N0 w0 ρ' c' w' → TR N0 ρ' ts' a'.tmps → a'.tmps.size = nt → a'.defers = a.defers → St ρ c w ρ' c' w' → Q e.toExit a' w'
def SoundK (X : Cx) (w0 : World) (f : Tm → World → Option (Ex × Tm × World)) (code : Code) : Prop :=
  ∀ ts c e ts' c', f ts c = some (e, ts', c') → ∀ ρ a w, Rel X.P X.N0 w0 ρ c w → TR X.N0 ρ ts a.tmps → a.tmps.size = X.nt → ∀ Q, Aft X.P X.N0 w0 X.nt ρ a c w e ts' c' Q → code.wp X.P Q a w
theorem loop_sim {ks : List Nat} {f : Tm → World → Option (Ex × Tm × World)} {b : Code} (hf : SoundK X w0 f b) : ∀ (n : Nat) (ts : Tm) (c : World) (e : Ex) (ts' : Tm) (c' : World), evLoop ks f n ts c = some (e, ts', c') →
    ∀ ρ a w, Rel X.P X.N0 w0 ρ c w → TR X.N0 ρ ts a.tmps → a.tmps.size = X.nt → ∀ Q, Aft X.P X.N0 w0 X.nt ρ a c w e ts' c' Q → Code.rounds X.P b Q n a w
  | 0, ts, c, e, ts', c', h, _, _, _, _, _, _, _, _ => by cases h
  | n + 1, ts, c, e, ts', c', h, ρ, a, w, R, T, hs, Q, hQ => by
    simp only [evLoop] at h
    rw [rounds_succ]
    split at h
    · rename_i ts1 c1 h1
      refine hf _ _ _ _ _ h1 ρ a w R (T.prune ks) hs _ ?_
      intro a1 w1 ρ1 R1 T1 hs1 hd1 st1
      exact loop_sim hf n ts1 c1 e ts' c' h ρ1 a1 w1 R1 T1 hs1 Q fun a2 w2 ρ2 R2 T2 hs2 hd2 st2 => hQ a2 w2 ρ2 R2 T2 hs2 (hd2.trans hd1) (st1.trans st2)
    · rename_i hno
      refine hf _ _ _ _ _ h ρ a w R (T.prune ks) hs _ ?_
      intro a1 w1 ρ1 R1 T1 hs1 hd1 st1
      have := hQ a1 w1 ρ1 R1 T1 hs1 hd1 st1
      cases e with
      | normal => exact absurd h (hno _ _)
      | exit i => exact this
      | ret => exact this
theorem evCode_sim (hm : X.P.follows .mixedOrders = true) (hC : SoundC X.P X.N0 w0 X.C) : ∀ code : Code, SoundK X w0 (evCode X code) code := by
  intro code
  induction code with
  | skip =>
    intro ts c e ts' c' h ρ a w R T hs Q hQ
    simp only [evCode, Option.some.injEq, Prod.mk.injEq] at h
    obtain ⟨rfl, rfl, rfl⟩ := h
    exact wp_skip (hQ a w ρ R T hs rfl (St.refl R.dom))
  | label l =>
    intro ts c e ts' c' h ρ a w R T hs Q hQ
    simp only [evCode, Option.some.injEq, Prod.mk.injEq] at h
    obtain ⟨rfl, rfl, rfl⟩ := h
    exact wp_label (hQ a w ρ R T hs rfl (St.refl R.dom))
  | exit id =>
    intro ts c e ts' c' h ρ a w R T hs Q hQ
    simp only [evCode, Option.some.injEq, Prod.mk.injEq] at h
    obtain ⟨rfl, rfl, rfl⟩ := h
    exact wp_exit (hQ a w ρ R T hs rfl (St.refl R.dom))
  | ret =>
    intro ts c e ts' c' h ρ a w R T hs Q hQ
    simp only [evCode, Option.some.injEq, Prod.mk.injEq] at h
    obtain ⟨rfl, rfl, rfl⟩ := h
    exact wp_ret (hQ a w ρ R T hs rfl (St.refl R.dom))
  | region id ops draw =>
    intro ts c e ts' c' h ρ a w R T hs Q hQ
    cases draw with
    | false =>
      simp only [evCode] at h
      split at h
      · rename_i ts1 c1 h1
        simp only [Option.some.injEq, Prod.mk.injEq] at h
        obtain ⟨rfl, rfl, rfl⟩ := h
        exact wp_region_list (evOps_sim hC _ _ _ _ _ h1 ρ a w R T hs hQ)
      · cases h
    | true =>
      simp only [evCode] at h
      split at h
      · rename_i ts1 c1 h1
        simp only [Option.some.injEq, Prod.mk.injEq] at h
        obtain ⟨rfl, rfl, rfl⟩ := h
        exact evDrawn_sim hm hC h1 R T hs hQ
      · cases h
  | seq x y ihx ihy =>
    intro ts c e ts' c' h ρ a w R T hs Q hQ
    simp only [evCode] at h
    refine wp_seq ?_
    split at h
    · rename_i ts1 c1 h1
      refine ihx _ _ _ _ _ h1 ρ a w R T hs _ ?_
      intro a1 w1 ρ1 R1 T1 hs1 hd1 st1
      exact ihy _ _ _ _ _ h ρ1 a1 w1 R1 T1 hs1 Q fun a2 w2 ρ2 R2 T2 hs2 hd2 st2 => hQ a2 w2 ρ2 R2 T2 hs2 (hd2.trans hd1) (st1.trans st2)
    · rename_i hno
      refine ihx _ _ _ _ _ h ρ a w R T hs _ ?_
      intro a1 w1 ρ1 R1 T1 hs1 hd1 st1
      have := hQ a1 w1 ρ1 R1 T1 hs1 hd1 st1
      cases e with
      | normal => exact absurd h (hno _ _)
      | exit i => exact this
      | ret => exact this
  | cond x t f iht ihf =>
    intro ts c e ts' c' h ρ a w R T hs Q hQ
    simp only [evCode] at h
    split at h
    · rename_i b hb
      have hbv := opd_bool T hb
      cases b with
      | true => exact wp_cond_true hbv (iht _ _ _ _ _ h ρ a w R T hs Q hQ)
      | false => exact wp_cond_false hbv (ihf _ _ _ _ _ h ρ a w R T hs Q hQ)
    · cases h
  | block id b ih =>
    intro ts c e ts' c' h ρ a w R T hs Q hQ
    simp only [evCode] at h
    refine wp_block ?_
    split at h
    · rename_i i ts1 c1 h1
      refine ih _ _ _ _ _ h1 ρ a w R T hs _ ?_
      intro a1 w1 ρ1 R1 T1 hs1 hd1 st1
      show (if i = id then Q .normal a1 w1 else Q (.exit i) a1 w1)
      cases hq : Nat.beq i id with
      | true =>
        rw [hq] at h
        simp only [cond_true, Option.some.injEq, Prod.mk.injEq] at h
        obtain ⟨rfl, rfl, rfl⟩ := h
        rw [if_pos (Nat.eq_of_beq_eq_true hq)]
        exact hQ a1 w1 ρ1 R1 T1 hs1 hd1 st1
      | false =>
        rw [hq] at h
        simp only [cond_false, Option.some.injEq, Prod.mk.injEq] at h
        obtain ⟨rfl, rfl, rfl⟩ := h
        rw [if_neg (fun e => by rw [e] at hq; simp at hq)]
        exact hQ a1 w1 ρ1 R1 T1 hs1 hd1 st1
    · rename_i hno
      refine ih _ _ _ _ _ h ρ a w R T hs _ ?_
      intro a1 w1 ρ1 R1 T1 hs1 hd1 st1
      have := hQ a1 w1 ρ1 R1 T1 hs1 hd1 st1
      cases e with
      | normal => exact this
      | exit i => exact absurd h (hno _ _ _)
      | ret => exact this
  | loop b ih =>
    intro ts c e ts' c' h ρ a w R T hs Q hQ
    simp only [evCode] at h
    exact wp_loop_rounds X.L (loop_sim ih X.L ts c e ts' c' h ρ a w R T hs Q hQ)
  | scope b ih =>
    intro ts c e ts' c' h ρ a w R T hs Q hQ
    simp only [evCode] at h
    refine wp_scope_straight (ih _ _ _ _ _ h ρ a w R T hs _ ?_)
    intro a1 w1 ρ1 R1 T1 hs1 hd1 st1
    have := hQ a1 w1 ρ1 R1 T1 hs1 hd1 st1
    cases e <;> exact this
  | _ => intro ts c e ts' c' h; simp [evCode] at h
end
end Go.Proofs.Ytbonmmpdpahhfaa.Can
