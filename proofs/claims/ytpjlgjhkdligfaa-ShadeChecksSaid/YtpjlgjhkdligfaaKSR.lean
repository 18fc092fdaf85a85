/- The law ShadeChecks over what a row reads. No condition. -/
import Derived.Test.YtpjlgjhkdligfaaKVK
import Derived.Test.YtpjlgjhkdligfaaKSP
namespace Go.Proofs.Ytpjlgjhkdligfaa.Vg
open Go.RowKit Go.Proofs.YtpjlgjhkdligfaaW.PrintWords
set_option linter.unusedVariables false
set_option maxRecDepth 100000
abbrev RwY : Type := ((Int × Int × Int) × Int) × Bool × Bool × Bool × Int × Int × Int
def rwOf (y : RwY) : Rw := ⟨⟨y.1.1.1, y.1.1.2.1, y.1.1.2.2, y.1.2⟩, y.2.1, y.2.2.1, y.2.2.2.1, y.2.2.2.2.1, y.2.2.2.2.2.1, y.2.2.2.2.2.2⟩
abbrev kdRw : Kd RwY := Kd.pair (Kd.pair (Kd.pair (Kd.int .i64) (Kd.pair (Kd.int .i64) (Kd.int .i64))) (Kd.int .i64)) (Kd.pair Kd.bool (Kd.pair Kd.bool (Kd.pair Kd.bool (Kd.pair (Kd.int .i64) (Kd.pair (Kd.int .i64) (Kd.int .i64))))))
theorem fk_rw : FK kdRw (fun y => (rwOf y).fs) := FK.pair (FK.pair (FK.pair FK.int (FK.pair FK.int FK.int)) FK.int) (FK.pair FK.bool (FK.pair FK.bool (FK.pair FK.bool (FK.pair FK.int (FK.pair FK.int FK.int)))))
theorem checks_row (A0 : Option Addr) (c0 : Nat) (y0 : List RwY) (W : World) (h0 : (Kd.slice 40 kdRw).K W y0 [.slice A0 y0.length c0]) (g0 : (y0.length * Try.prog.bytesOf 40 ≤ reachBytes ∧ ∀ z ∈ y0, (((((Lit.int .i64 z.1.1.1).wf = true) ∧ ((Lit.int .i64 z.1.1.2.1).wf = true) ∧ ((Lit.int .i64 z.1.1.2.2).wf = true)) ∧ ((Lit.int .i64 z.1.2).wf = true)) ∧ True ∧ True ∧ True ∧ ((Lit.int .i64 z.2.2.2.2.1).wf = true) ∧ ((Lit.int .i64 z.2.2.2.2.2.1).wf = true) ∧ ((Lit.int .i64 z.2.2.2.2.2.2).wf = true)))) :
    Calls Try.prog 3 #[.slice A0 y0.length c0] W fun e w' => e = .returned (.bool true) ∧ Below W.heap.size W w' := by
  have f0 : FR (Kw W) (.sl none (rowsC (y0.map rwOf)) (y0.map rwOf).length) (.slice A0 y0.length c0) := by
    have := (FK.slice (e := 40) fk_rw) W y0 _ h0
    have e : (y0.flatMap fun y => (rwOf y).fs) = rowsC (y0.map rwOf) := by
      unfold rowsC
      rw [List.flatMap_map]
    simp only [e] at this
    rw [List.length_map]
    cases this with | cons h1 h2 => exact h1
  exact calls_of_vc (args := [.slice A0 y0.length c0]) (checks_all none (y0.map rwOf)) rfl (.cons (.o (.c (.f f0))) .nil)
end Go.Proofs.Ytpjlgjhkdligfaa.Vg
