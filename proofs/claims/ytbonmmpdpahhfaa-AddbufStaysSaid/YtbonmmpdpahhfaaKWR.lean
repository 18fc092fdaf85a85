/- The law AddbufStays over what a row reads. No condition. -/
import Derived.Test.YtbonmmpdpahhfaaKVK
import Derived.Test.YtbonmmpdpahhfaaKWE
namespace Go.Proofs.Ytbonmmpdpahhfaa.Vg
open Go.RowKit Go.Proofs.YtbonmmpdpahhfaaW.PrintWords
set_option linter.unusedVariables false
set_option maxRecDepth 100000
theorem flat_u8 : ∀ l : List Int, (l.flatMap fun n => [FV.v (.int .u8 n)]) = l.map u8v
  | [] => rfl
  | n :: l => by rw [List.flatMap_cons, flat_u8 l]; rfl
theorem fr_byt {W : World} {y : List Int} {v : Value} (h : (Kd.slice 5 (Kd.int .u8)).K W y [v]) : FR (Kw W) (byt none y) v := by
  have := (FK.slice (e := 5) (FK.int (k := .u8))) W y _ h
  simp only [flat_u8] at this
  cases this with | cons h1 h2 => exact h1
theorem byt_wf {y : List Int} (h : ∀ z ∈ y, (Lit.int .u8 z).wf = true) : Byt y := fun z hz => by
  have := h z hz
  unfold Lit.wf at this
  have h2 : 0 ≤ z ∧ z ≤ 255 := by simpa [IntKind.min, IntKind.max, IntKind.bits, IntKind.signed] using this
  omega
theorem bytes5 : Try.prog.bytesOf 5 = 1 := by kernel_rfl
theorem reach_le : reachBytes + 24 ≤ 140737488355328 := by decide
theorem stays_row (A0 : Option Addr) (c0 : Nat) (y0 : List Int) (A1 : Option Addr) (c1 : Nat) (y1 : List (List Int)) (W : World) (h0 : (Kd.slice 5 (Kd.int .u8)).K W y0 [.slice A0 y0.length c0]) (h1 : (Kd.slice 33 (Kd.slice 5 (Kd.int .u8))).K W y1 [.slice A1 y1.length c1])
    (g0 : y0.length * Try.prog.bytesOf 5 ≤ reachBytes ∧ ∀ z ∈ y0, (Lit.int .u8 z).wf = true) (g1 : y1.length * Try.prog.bytesOf 33 ≤ reachBytes ∧ ∀ z ∈ y1, (z.length * Try.prog.bytesOf 5 ≤ reachBytes ∧ ∀ u ∈ z, (Lit.int .u8 u).wf = true)) :
    Calls Try.prog 7 #[.slice A0 y0.length c0, .slice A1 y1.length c1] W fun e w' => e = .returned (.bool true) ∧ Below W.heap.size W w' := by
  have hr := reach_le
  have b33 : Try.prog.bytesOf 33 = 24 := by kernel_rfl
  rw [bytes5, Nat.mul_one] at g0
  rw [b33] at g1
  have f1 : FR (Kw W) (tx y1) (.slice A1 y1.length c1) := by
    have := (FK.slice (e := 33) (FK.slice (e := 5) (FK.int (k := .u8)))) W y1 _ h1
    have e : (y1.flatMap fun xs => [FV.sl none (xs.flatMap fun x => [FV.v (.int .u8 x)]) xs.length]) = y1.map (byt none) := by
      simp only [flat_u8]
      clear h1 g1 this
      induction y1 with
      | nil => rfl
      | cons a l ih => rw [List.flatMap_cons, ih]; rfl
    simp only [e] at this
    cases this with | cons h1 h2 => exact h1
  refine calls_of_vc (args := [.slice A0 y0.length c0, .slice A1 y1.length c1]) (stays_all y0 y1 (byt_wf g0.2) (fun t ht => byt_wf (g1.2 t ht).2) (by omega) (fun t ht => ?_) (by omega)) rfl (.cons (.o (.c (.f (fr_byt h0)))) (.cons (.o (.c (.f f1))) .nil))
  have := (g1.2 t ht).1
  rw [bytes5, Nat.mul_one] at this
  omega
end Go.Proofs.Ytbonmmpdpahhfaa.Vg
