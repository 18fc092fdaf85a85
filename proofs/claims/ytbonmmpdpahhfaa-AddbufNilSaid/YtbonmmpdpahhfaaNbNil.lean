/- A nil buffer. No law, no condition. -/
import Derived.Test.YtbonmmpdpahhfaaVgC
import Derived.Test.YtbonmmpdpahhfaaProg
namespace Go.Proofs.Ytbonmmpdpahhfaa.Vg
open Go.RowKit
set_option maxRecDepth 100000
set_option linter.unusedVariables false
theorem mixed : Try.prog.follows .mixedOrders = true := by kernel_rfl
theorem nonum : noNum Try.prog = true := by kernel_rfl
def spn (a b c : Int) : List CV := [cI a, cI b, cI c]
def Snd (a b c : Int) : Prop := (a = 0 ∨ a = 1) ∧ 0 ≤ b ∧ 0 ≤ c ∧ b ≤ 4611686018427387904 ∧ c ≤ 4611686018427387904 - b
instance (a b c : Int) : Decidable (Snd a b c) := by unfold Snd; infer_instance
theorem wrap_i64 {x : Int} (h0 : 0 ≤ x) (h1 : x ≤ 4611686018427387904) : IntKind.i64.wrap x = x := by
  unfold IntKind.wrap
  have e : x % (2 ^ IntKind.i64.bits : Int) = x := by
    show x % (2 ^ 64 : Int) = x
    omega
  simp only [e]
  split
  · rename_i h
    have h2 : (2 : Int) ^ (IntKind.i64.bits - 1) = 9223372036854775808 := rfl
    simp only [h2, Bool.and_eq_true, decide_eq_true_eq] at h
    omega
  · rfl
theorem size_nil (s : Int) : VC Try.prog 14 ([tC cNP, tI s]) ([]) (tI 0) ([]) :=
  vc_q mixed nonum (orc []) ([]) ([]) 5656608184328 [] (trivial) (by kernel_rfl)
theorem add_nil (p : TV) : VC Try.prog 13 ([tC cNP, p]) ([]) (tA (spn 0 0 0)) ([]) :=
  vc_q mixed nonum (orc []) ([]) ([]) 5656455129320 [] (trivial) (by kernel_rfl)
theorem sound_01 (a b c : Int) (h2 : (a == 0) = true) (h11 : (decide (b ≥ 0)) = false) : VC Try.prog 25 ([tA (spn a b c)]) ([]) (tB false) ([]) :=
  vc_q mixed nonum (orc [(1, [(2, eB true), (11, eB false)])]) ([]) ([]) 26642541501935852677726250059230690106460 [tB (a == 0) = tB true, tB (decide (b ≥ 0)) = tB false] (⟨congrArg tB h2, congrArg tB h11⟩) (by kernel_rfl)
theorem sound_02 (a b c : Int) (h2 : (a == 0) = true) (h11 : (decide (b ≥ 0)) = true) (h16 : (decide (c ≥ 0)) = false) : VC Try.prog 25 ([tA (spn a b c)]) ([]) (tB false) ([]) :=
  vc_q mixed nonum (orc [(1, [(2, eB true), (11, eB true), (16, eB false)])]) ([]) ([]) 239782873517422675296014885329923053197517 [tB (a == 0) = tB true, tB (decide (b ≥ 0)) = tB true, tB (decide (c ≥ 0)) = tB false] (⟨congrArg tB h2, congrArg tB h11, congrArg tB h16⟩) (by kernel_rfl)
theorem sound_03 (a b c : Int) (h2 : (a == 0) = true) (h11 : (decide (b ≥ 0)) = true) (h16 : (decide (c ≥ 0)) = true) (h21 : (decide (b ≤ 4611686018427387904)) = false) : VC Try.prog 25 ([tA (spn a b c)]) ([]) (tB false) ([]) :=
  vc_q mixed nonum (orc [(1, [(2, eB true), (11, eB true), (16, eB true), (21, eB false)])]) ([]) ([]) 2158045861657439935466271030441079905961310 [tB (a == 0) = tB true, tB (decide (b ≥ 0)) = tB true, tB (decide (c ≥ 0)) = tB true, tB (decide (b ≤ 4611686018427387904)) = tB false] (⟨congrArg tB h2, congrArg tB h11, congrArg tB h16, congrArg tB h21⟩) (by kernel_rfl)
theorem sound_04 (a b c : Int) (h2 : (a == 0) = true) (h11 : (decide (b ≥ 0)) = true) (h16 : (decide (c ≥ 0)) = true) (h21 : (decide (b ≤ 4611686018427387904)) = true) (h29 : (decide (c ≤ IntKind.i64.wrap (4611686018427387904 - b))) = false) : VC Try.prog 25 ([tA (spn a b c)]) ([]) (tB false) ([]) :=
  vc_q mixed nonum (orc [(1, [(2, eB true), (11, eB true), (16, eB true), (21, eB true), (29, eB false)])]) ([]) ([]) 19422659102960896380503615620984072471182647 [tB (a == 0) = tB true, tB (decide (b ≥ 0)) = tB true, tB (decide (c ≥ 0)) = tB true, tB (decide (b ≤ 4611686018427387904)) = tB true, tB (decide (c ≤ IntKind.i64.wrap (4611686018427387904 - b))) = tB false] (⟨congrArg tB h2, congrArg tB h11, congrArg tB h16, congrArg tB h21, congrArg tB h29⟩) (by kernel_rfl)
theorem sound_05 (a b c : Int) (h2 : (a == 0) = true) (h11 : (decide (b ≥ 0)) = true) (h16 : (decide (c ≥ 0)) = true) (h21 : (decide (b ≤ 4611686018427387904)) = true) (h29 : (decide (c ≤ IntKind.i64.wrap (4611686018427387904 - b))) = true) : VC Try.prog 25 ([tA (spn a b c)]) ([]) (tB true) ([]) :=
  vc_q mixed nonum (orc [(1, [(2, eB true), (11, eB true), (16, eB true), (21, eB true), (29, eB true)])]) ([]) ([]) 19422659102960896380503615620984072471182647 [tB (a == 0) = tB true, tB (decide (b ≥ 0)) = tB true, tB (decide (c ≥ 0)) = tB true, tB (decide (b ≤ 4611686018427387904)) = tB true, tB (decide (c ≤ IntKind.i64.wrap (4611686018427387904 - b))) = tB true] (⟨congrArg tB h2, congrArg tB h11, congrArg tB h16, congrArg tB h21, congrArg tB h29⟩) (by kernel_rfl)
theorem sound_11 (a b c : Int) (h2 : (a == 0) = false) (h6 : (a == 1) = true) (h11 : (decide (b ≥ 0)) = false) : VC Try.prog 25 ([tA (spn a b c)]) ([]) (tB false) ([]) :=
  vc_q mixed nonum (orc [(1, [(2, eB false), (6, eB true), (11, eB false)])]) ([]) ([]) 239782873517422674099536250571199032566557 [tB (a == 0) = tB false, tB (a == 1) = tB true, tB (decide (b ≥ 0)) = tB false] (⟨congrArg tB h2, congrArg tB h6, congrArg tB h11⟩) (by kernel_rfl)
theorem sound_12 (a b c : Int) (h2 : (a == 0) = false) (h6 : (a == 1) = true) (h11 : (decide (b ≥ 0)) = true) (h16 : (decide (c ≥ 0)) = false) : VC Try.prog 25 ([tA (spn a b c)]) ([]) (tB false) ([]) :=
  vc_q mixed nonum (orc [(1, [(2, eB false), (6, eB true), (11, eB true), (16, eB false)])]) ([]) ([]) 2158045861656804077664133968007430300386070 [tB (a == 0) = tB false, tB (a == 1) = tB true, tB (decide (b ≥ 0)) = tB true, tB (decide (c ≥ 0)) = tB false] (⟨congrArg tB h2, congrArg tB h6, congrArg tB h11, congrArg tB h16⟩) (by kernel_rfl)
theorem sound_13 (a b c : Int) (h2 : (a == 0) = false) (h6 : (a == 1) = true) (h11 : (decide (b ≥ 0)) = true) (h16 : (decide (c ≥ 0)) = true) (h21 : (decide (b ≤ 4611686018427387904)) = false) : VC Try.prog 25 ([tA (spn a b c)]) ([]) (tB false) ([]) :=
  vc_q mixed nonum (orc [(1, [(2, eB false), (6, eB true), (11, eB true), (16, eB true), (21, eB false)])]) ([]) ([]) 19422412754916959419196439274007841975260207 [tB (a == 0) = tB false, tB (a == 1) = tB true, tB (decide (b ≥ 0)) = tB true, tB (decide (c ≥ 0)) = tB true, tB (decide (b ≤ 4611686018427387904)) = tB false] (⟨congrArg tB h2, congrArg tB h6, congrArg tB h11, congrArg tB h16, congrArg tB h21⟩) (by kernel_rfl)
theorem sound_14 (a b c : Int) (h2 : (a == 0) = false) (h6 : (a == 1) = true) (h11 : (decide (b ≥ 0)) = true) (h16 : (decide (c ≥ 0)) = true) (h21 : (decide (b ≤ 4611686018427387904)) = true) (h29 : (decide (c ≤ IntKind.i64.wrap (4611686018427387904 - b))) = false) : VC Try.prog 25 ([tA (spn a b c)]) ([]) (tB false) ([]) :=
  vc_q mixed nonum (orc [(1, [(2, eB false), (6, eB true), (11, eB true), (16, eB true), (21, eB true), (29, eB false)])]) ([]) ([]) 174803931926648067424532540588894775062252240 [tB (a == 0) = tB false, tB (a == 1) = tB true, tB (decide (b ≥ 0)) = tB true, tB (decide (c ≥ 0)) = tB true, tB (decide (b ≤ 4611686018427387904)) = tB true, tB (decide (c ≤ IntKind.i64.wrap (4611686018427387904 - b))) = tB false] (⟨congrArg tB h2, congrArg tB h6, congrArg tB h11, congrArg tB h16, congrArg tB h21, congrArg tB h29⟩) (by kernel_rfl)
theorem sound_15 (a b c : Int) (h2 : (a == 0) = false) (h6 : (a == 1) = true) (h11 : (decide (b ≥ 0)) = true) (h16 : (decide (c ≥ 0)) = true) (h21 : (decide (b ≤ 4611686018427387904)) = true) (h29 : (decide (c ≤ IntKind.i64.wrap (4611686018427387904 - b))) = true) : VC Try.prog 25 ([tA (spn a b c)]) ([]) (tB true) ([]) :=
  vc_q mixed nonum (orc [(1, [(2, eB false), (6, eB true), (11, eB true), (16, eB true), (21, eB true), (29, eB true)])]) ([]) ([]) 174803931926648067424532540588894775062252240 [tB (a == 0) = tB false, tB (a == 1) = tB true, tB (decide (b ≥ 0)) = tB true, tB (decide (c ≥ 0)) = tB true, tB (decide (b ≤ 4611686018427387904)) = tB true, tB (decide (c ≤ IntKind.i64.wrap (4611686018427387904 - b))) = tB true] (⟨congrArg tB h2, congrArg tB h6, congrArg tB h11, congrArg tB h16, congrArg tB h21, congrArg tB h29⟩) (by kernel_rfl)
theorem sound_n0 (a b c : Int) (h2 : (a == 0) = false) (h6 : (a == 1) = false) : VC Try.prog 25 ([tA (spn a b c)]) ([]) (tB false) ([]) :=
  vc_q mixed nonum (orc [(1, [(2, eB false), (6, eB false)])]) ([]) ([]) 26642541501935852677723998677829222544580 [tB (a == 0) = tB false, tB (a == 1) = tB false] (⟨congrArg tB h2, congrArg tB h6⟩) (by kernel_rfl)
theorem snd_dec (a b c : Int) : decide (Snd a b c) = ((a == 0 || a == 1) && (decide (b ≥ 0) && (decide (c ≥ 0) && (decide (b ≤ 4611686018427387904) && decide (c ≤ IntKind.i64.wrap (4611686018427387904 - b)))))) := by
  unfold Snd
  by_cases h1 : 0 ≤ b
  · by_cases h2 : b ≤ 4611686018427387904
    · rw [wrap_i64 (x := 4611686018427387904 - b) (by omega) (by omega)]
      by_cases h0 : a = 0 <;> by_cases h00 : a = 1 <;> by_cases h3 : 0 ≤ c <;> by_cases h4 : c ≤ 4611686018427387904 - b <;> simp_all
    · simp [h2]
  · simp [h1]
theorem sound (a b c : Int) : VC Try.prog 25 [tA (spn a b c)] [] (tB (decide (Snd a b c))) [] := by
  rw [snd_dec]
  cases h2 : (a == 0) with
  | true =>
    cases h11 : (decide (b ≥ 0)) with
    | false => exact sound_01 a b c h2 h11
    | true =>
      cases h16 : (decide (c ≥ 0)) with
      | false => exact sound_02 a b c h2 h11 h16
      | true =>
        cases h21 : (decide (b ≤ 4611686018427387904)) with
        | false => exact sound_03 a b c h2 h11 h16 h21
        | true =>
          cases h29 : (decide (c ≤ IntKind.i64.wrap (4611686018427387904 - b))) with
          | false => exact sound_04 a b c h2 h11 h16 h21 h29
          | true =>
            exact sound_05 a b c h2 h11 h16 h21 h29
  | false =>
    cases h6 : (a == 1) with
    | true =>
      cases h11 : (decide (b ≥ 0)) with
      | false => exact sound_11 a b c h2 h6 h11
      | true =>
        cases h16 : (decide (c ≥ 0)) with
        | false => exact sound_12 a b c h2 h6 h11 h16
        | true =>
          cases h21 : (decide (b ≤ 4611686018427387904)) with
          | false => exact sound_13 a b c h2 h6 h11 h16 h21
          | true =>
            cases h29 : (decide (c ≤ IntKind.i64.wrap (4611686018427387904 - b))) with
            | false => exact sound_14 a b c h2 h6 h11 h16 h21 h29
            | true =>
              exact sound_15 a b c h2 h6 h11 h16 h21 h29
    | false => exact sound_n0 a b c h2 h6
theorem holds_no (a b c : Int) (h : decide (Snd a b c) = false) : VC Try.prog 17 ([tC cNP, tA (spn a b c)]) ([]) (tB false) ([]) :=
  vc_q mixed nonum (orc [(1, [(1, .call [] (tB (decide (Snd a b c))) []), (2, eB false)])]) ([]) ([]) 177504955118596584802772 [VC Try.prog 25 [tA (spn a b c)] [] (tB (decide (Snd a b c))) [], tB (decide (Snd a b c)) = tB false] (⟨sound a b c, congrArg tB h⟩) (by kernel_rfl)
theorem holds_yes (a b c : Int) (h : decide (Snd a b c) = true) : VC Try.prog 17 ([tC cNP, tA (spn a b c)]) ([]) (tB (decide (IntKind.i64.wrap (b + c) ≤ 0))) ([]) :=
  vc_q mixed nonum (orc [(1, [(1, .call [] (tB (decide (Snd a b c))) []), (2, eB true), (11, .call [] (tI 0) [])])]) ([]) ([]) 177505405402502475800135 [VC Try.prog 25 [tA (spn a b c)] [] (tB (decide (Snd a b c))) [], tB (decide (Snd a b c)) = tB true, VC Try.prog 14 [tC cNP, tI a] [] (tI 0) []] (⟨sound a b c, congrArg tB h, size_nil a⟩) (by kernel_rfl)
def Emp (a b c : Int) : Prop := (a = 0 ∨ a = 1) ∧ b = 0 ∧ c = 0
instance (a b c : Int) : Decidable (Emp a b c) := by unfold Emp; infer_instance
theorem holds_nil (a b c : Int) : VC Try.prog 17 [tC cNP, tA (spn a b c)] [] (tB (decide (Emp a b c))) [] := by
  cases h : decide (Snd a b c) with
  | false =>
    have e : decide (Emp a b c) = false := by
      simp only [decide_eq_false_iff_not] at h ⊢
      unfold Snd at h
      unfold Emp
      omega
    rw [e]
    exact holds_no a b c h
  | true =>
    have e : decide (Emp a b c) = decide (IntKind.i64.wrap (b + c) ≤ 0) := by
      simp only [decide_eq_true_eq] at h
      unfold Snd at h
      rw [wrap_i64 (by omega) (by omega)]
      refine decide_eq_decide.2 ?_
      unfold Emp
      omega
    rw [e]
    exact holds_yes a b c h
theorem read_no (a b c : Int) (h : decide (Emp a b c) = false) : VC Try.prog 15 ([tC cNP, tA (spn a b c)]) ([]) (.tp [.c cNS, .c (cI 10)]) ([]) :=
  vc_q mixed nonum (orc [(1, [(2, .call [] (tB (decide (Emp a b c))) []), (3, eB true)])]) ([]) ([]) 3035711507568938126 [VC Try.prog 17 [tC cNP, tA (spn a b c)] [] (tB (decide (Emp a b c))) [], tB (!decide (Emp a b c)) = tB true] (⟨holds_nil a b c, congrArg (fun x => tB !x) h⟩) (by kernel_rfl)
theorem read_yes (a b c : Int) (h : decide (Emp a b c) = true) : VC Try.prog 15 ([tC cNP, tA (spn a b c)]) ([]) (.tp [.c cNS, .c (cI 0)]) ([]) :=
  vc_q mixed nonum (orc [(1, [(2, .call [] (tB (decide (Emp a b c))) []), (3, eB false)])]) ([]) ([]) 179255725663331133264824 [VC Try.prog 17 [tC cNP, tA (spn a b c)] [] (tB (decide (Emp a b c))) [], tB (!decide (Emp a b c)) = tB false] (⟨holds_nil a b c, congrArg (fun x => tB !x) h⟩) (by kernel_rfl)
theorem read_nil (a b c : Int) : VC Try.prog 15 [tC cNP, tA (spn a b c)] [] (.tp [.c cNS, .c (cI (bif decide (Emp a b c) then 0 else 10))]) [] := by
  cases h : decide (Emp a b c) with
  | false => exact read_no a b c h
  | true => exact read_yes a b c h
theorem count_nil  : VC Try.prog 28 ([tC cNS, tC (.rw 0 1)]) ([.fx [.v (.int .u8 10)] 5]) (tI 0) ([.fx [.v (.int .u8 10)] 5]) :=
  vc_q mixed nonum (orc [(4, [(3, .ld [.v (.int .u8 10)]), (4, .raw (.int .i64 0))])]) ([]) ([0]) 1597912928393890813328618 [(0 : Int) ≤ 0, (0 : Int) < 1, [FV.v (.int .u8 10)] = [FV.v (.int .u8 10)], some (Next.value (.int .i64 0)) = some (Next.value (.int .i64 0))] (⟨by decide, by decide, rfl, rfl⟩) (by kernel_rfl)
theorem lines_nil (a b c x : Int) (h : (bif decide (Emp a b c) then 0 else 10) = x) : VC Try.prog 16 ([tC cNP, tA (spn a b c)]) ([]) (.tp [.c (cI 0), .c (cI x)]) ([]) :=
  vc_q mixed nonum (orc [(1, [(2, .call [] (.tp [.c cNS, .c (cI (bif decide (Emp a b c) then 0 else 10))]) []), (5, eI x)]), (2, [(2, .call [1] (tI 0) [.fx [.v (.int .u8 10)] 5])])]) ([]) ([]) 130677411851099084815389809 [VC Try.prog 15 [tC cNP, tA (spn a b c)] [] (.tp [.c cNS, .c (cI (bif decide (Emp a b c) then 0 else 10))]) [], tI (bif decide (Emp a b c) then 0 else 10) = tI x, VC Try.prog 28 [tC cNS, tC (.rw 0 1)] [.fx [.v (.int .u8 10)] 5] (tI 0) [.fx [.v (.int .u8 10)] 5]] (⟨read_nil a b c, congrArg tI h, count_nil⟩) (by kernel_rfl)
end Go.Proofs.Ytbonmmpdpahhfaa.Vg
