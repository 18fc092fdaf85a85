/- The law PinsFollow, at any text, place and list. No condition. -/
import Derived.Test.YtjmpmcgdfgfmfaaFollow
namespace Go.Proofs.Ytjmpmcgdfgfmfaa.Hand
open Go.RowKit Go.Proofs.Ytjmpmcgdfgfmfaa.Aggs Go.Proofs.YtjmpmcgdfgfmfaaW.PrintWords
set_option linter.unusedVariables false
theorem follow_calls (T : Option Addr) (ct : Nat) (ts : List Int) (at' : Int) (es : List S42) (A : Option Addr) (c : Nat) (w : World) (hr : k42.C w A es.length es) (hd : ∀ e ∈ es, goodE e) (hrt : (Kd.int .u8).C w T ts.length ts) (hc : ts.length ≤ ct) :
    Calls Try.prog 6 #[.slice T ts.length ct, .int .i64 at', .slice A es.length c] w fun e w' => e = .returned (.bool true) ∧ Below w.heap.size w w' := by
  by_cases hg : greatB es = true
  · exact follow_out1 T ct ts at' es A c w hr hd hg
  · replace hg := eq_false_of_ne_true hg
    by_cases h1 : 65536 < ts.length
    · exact follow_out2 T ct ts at' es A c w hr hd hg h1
    · by_cases h2 : 256 < es.length
      · exact follow_out3 T ct ts at' es A c w hr hd hg (by omega) h2
      · by_cases h3 : at' < 0
        · exact follow_out4 T ct ts at' es A c w hr hd hg (by omega) (by omega) h3
        · by_cases h4 : (ts.length : Int) < at'
          · exact follow_out5 T ct ts at' es A c w hr hd hg (by omega) (by omega) (by omega) h4
          · obtain ⟨q, rfl⟩ := Int.eq_ofNat_of_zero_le (show 0 ≤ at' by omega)
            refine follow_core (fun y => allOff.set 16 (y : Int)) T ct ts q es A c w hr hd hg hrt hc (by omega) (by omega) (by have : (Int.ofNat q : Int) = (q : Int) := rfl; omega) (fun y => off_len y) (set_q q) (fun p lo ln y a1 a2 a3 a4 => ?_) (fun y => get_q y) (fun y s h => fits_q y s h)
            rw [off_set_map _ (behindI_off _ _ _), behindI_nat p lo ln y a1 a2 a3 a4]
theorem follow_row (T : Option Addr) (ct : Nat) (ts : List Int) (at' : Int) (A : Option Addr) (c : Nat) (es : List S42) (w : World) (hrt : (Kd.int .u8).C w T ts.length ts) (hct : ts.length ≤ ct) (hr : k42.C w A es.length es) (hc : es.length ≤ c)
    (g0 : ts.length * Try.prog.bytesOf 5 ≤ reachBytes ∧ ∀ x ∈ ts, (Lit.int .u8 x).wf = true) (g1 : (Lit.int .i64 at').wf = true) (g2 : es.length * Try.prog.bytesOf 42 ≤ reachBytes ∧ ∀ x ∈ es, (Lit.int .i64 x.f0).wf = true ∧ (x.f1.length * Try.prog.bytesOf 5 ≤ reachBytes ∧ ∀ y ∈ x.f1, (Lit.int .u8 y).wf = true) ∧ (x.f2.length * Try.prog.bytesOf 5 ≤ reachBytes ∧ ∀ y ∈ x.f2, (Lit.int .u8 y).wf = true)) :
    Calls Try.prog 6 #[.slice T ts.length ct, .int .i64 at', .slice A es.length c] w fun e w' => e = .returned (.bool true) ∧ Below w.heap.size w w' := follow_calls T ct ts at' es A c w hr (good_edits1 es g2.2) hrt hct
end Go.Proofs.Ytjmpmcgdfgfmfaa.Hand
