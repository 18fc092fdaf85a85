/- The law AddbufNil: Lines with a nil buffer. No law, no condition. -/
import Derived.Test.YtbonmmpdpahhfaaCount
namespace Go.Proofs.Ytbonmmpdpahhfaa.Can
open Go.RowKit Go.Proofs.YtbonmmpdpahhfaaW.PrintWords
set_option linter.unusedVariables false
set_option maxRecDepth 100000
def countM (args : List Value) (c : World) : Option Value := match args with
  | [.slice none 0 c0, .slice (some ⟨b, o, none⟩) 1 c1] => match cellK (Kof c) ⟨b, o, none⟩ with
    | some (.int .u8 _) => some (.int .i64 0)
    | _ => none
  | _ => none
theorem count_M : SoundM Try.prog 28 countM := by
  refine ⟨enters (by kernel_rfl), fun args c v h N0 w0 ρ w args' R ha => ?_⟩
  unfold countM at h
  split at h
  · rename_i c0 b o c1
    split at h
    · rename_i x hx
      simp only [Option.some.injEq] at h
      subst h
      cases ha with | cons h1 h2 => cases h2 with | cons h3 h4 => cases h4 with | nil =>
      have h1 := h1.closed_eq rfl
      subst h1
      cases h3 with | one h3 => cases h3 with | one h3 => cases h3 with | sl h3 =>
      rename_i a' c1'
      obtain ⟨v', g1, g2⟩ := cell_sim R.k (h3.ar (by omega)) hx (by rfl)
      have g2 := g2.flat_eq rfl
      subst g2
      obtain ⟨b', o', s'⟩ := a'
      have hs : s' = none := h3.2.1
      subst hs
      refine (count_nil b' o' c0 c1' x w g1).mono ?_
      rintro e w' ⟨rfl, hd⟩
      exact ⟨rfl, hd.below⟩
    · cases h
  · cases h
def readF : List Value → Option Value
  | [.pointer none, .agg cs] => match cs.toList with
    | [.int .i64 a, .int .i64 b, .int .i64 c] => some (.tuple #[.slice none 0 0, .int .i64 (if decide (Emp a b c) then 0 else 10)])
    | _ => none
  | _ => none
theorem readF_calls (args : List Value) (v : Value) (h : readF args = some v) (w : World) : Calls Try.prog 15 args.toArray w fun e w' => e = .returned v ∧ Below w.heap.size w w' := by
  unfold readF at h
  split at h
  · rename_i cs
    split at h
    · rename_i a b c hcs
      simp only [Option.some.injEq] at h
      subst h
      obtain rfl : cs = #[.int .i64 a, .int .i64 b, .int .i64 c] := Array.ext' hcs
      exact read_nil a b c w
    · cases h
  · cases h
def awakeF : List Value → Option Value
  | [] => some (.bool true)
  | _ => none
theorem awakeF_calls (args : List Value) (v : Value) (h : awakeF args = some v) (w : World) : Calls Try.prog 12 args.toArray w fun e w' => e = .returned v ∧ Below w.heap.size w w' := by
  unfold awakeF at h
  split at h
  · simp only [Option.some.injEq] at h
    subst h
    exact awake_calls w
  · cases h
def msL (f : FuncId) : Option (List Value → World → Option Value) := match f with
  | 28 => some countM
  | 15 => some fun args _ => bif args.all closed then readF args else none
  | 17 => some fun args _ => bif args.all closed then holdsF args else none
  | 12 => some fun args _ => bif args.all closed then awakeF args else none
  | _ => none
noncomputable def glL : Glob := globM Try.prog (fun _ => List.range 300) msL
theorem gokL (N0 : Nat) (w0 : World) : GOk Try.prog N0 w0 glL := by
  refine gok_extM (by kernel_rfl) noNum_prog _ msL (fun f F hF => ?_) N0 w0
  unfold msL at hF
  split at hF
  · simp only [Option.some.injEq] at hF
    subst hF
    exact count_M
  · simp only [Option.some.injEq] at hF
    subst hF
    exact soundM_closed (enters (by kernel_rfl)) readF_calls
  · simp only [Option.some.injEq] at hF
    subst hF
    exact soundM_closed (enters (by kernel_rfl)) fun args v h w => holdsF_calls h w
  · simp only [Option.some.injEq] at hF
    subst hF
    exact soundM_closed (enters (by kernel_rfl)) awakeF_calls
  · cases hF
theorem lines_K (a b c : Int) (n : Nat) (E : Bool) (h : decide (Emp a b c) = E) : evFunK (R := Value) Try.prog 0 glL (n + 2) 16 [.pointer none, .agg #[.int .i64 a, .int .i64 b, .int .i64 c]] W0 (fun v _ => some v) = some (.tuple #[.int .i64 0, .int .i64 (if E then 0 else 10)]) := by
  cases E with
  | true => kwalk [h]
  | false => kwalk [h]
theorem nil_no (A : Option Addr) (a b c : Int) (l cp n : Nat) (x y z u : Bool) (h : decide (Emp a b c) = false) (hx : (a == 0) = x) (hy : (a == 1) = y) (hz : (b == 0) = z) (hu : (c == 0) = u) (hn : ((x || y) && (z && u)) = false) :
    evFunK (R := Value) Try.prog 0 glL (n + 4) 5 [.slice A l cp, .agg #[.int .i64 a, .int .i64 b, .int .i64 c]] W1 (fun v _ => some v) = some (.bool true) := by
  cases x <;> cases y <;> cases z <;> cases u <;> first | (exact absurd hn (by decide)) | kwalk [h, hx, hy, hz, hu]
theorem nil_yes (A : Option Addr) (a : Int) (l cp n : Nat) (ha : a = 0 ∨ a = 1) : evFunK (R := Value) Try.prog 0 glL (n + 4) 5 [.slice A l cp, .agg #[.int .i64 a, .int .i64 0, .int .i64 0]] W1 (fun v _ => some v) = some (.bool true) := by
  rcases ha with rfl | rfl <;> kwalk []
end Go.Proofs.Ytbonmmpdpahhfaa.Can
