/- pins' laws: great. No condition. -/
import Derived.Test.YtjmpmcgdfgfmfaaMove2
namespace Go.Proofs.Ytjmpmcgdfgfmfaa.Hand
open Go.RowKit Go.Proofs.Ytjmpmcgdfgfmfaa.Aggs Go.Proofs.YtjmpmcgdfgfmfaaW.PrintWords Go.Proofs.YtjmpmcgdfgfmfaaW.PrintLast Go.Proofs.YtjmpmcgdfgfmfaaW.PrintMore
set_option linter.unusedVariables false
set_option linter.unusedSimpArgs false
def sumE : List S42 → Nat
  | [] => 0
  | e :: es => e.f1.length + e.f2.length + 1 + sumE es
def greatB (es : List S42) : Bool := decide (1048576 < sumE es)
def goodE (e : S42) : Prop := e.f1.length ≤ 140737488351232 ∧ e.f2.length ≤ 140737488351232
theorem sumE_app : ∀ (a b : List S42), sumE (a ++ b) = sumE a + sumE b
  | [], b => by simp [sumE]
  | e :: a, b => by
    show e.f1.length + e.f2.length + 1 + sumE (a ++ b) = e.f1.length + e.f2.length + 1 + sumE a + sumE b
    rw [sumE_app a b]
    omega
theorem sumE_len : ∀ (a : List S42), a.length ≤ sumE a
  | [] => Nat.le_refl _
  | e :: a => by
    have := sumE_len a
    show a.length + 1 ≤ e.f1.length + e.f2.length + 1 + sumE a
    omega
theorem sumE_take (es : List S42) (i : Nat) (h : i < es.length) : sumE (es.take (i + 1)) = sumE (es.take i) + (es[i].f1.length + es[i].f2.length + 1) := by
  rw [List.take_add_one, List.getElem?_eq_getElem h, sumE_app]
  rfl
theorem sumE_take_le (es : List S42) (i : Nat) : sumE (es.take i) ≤ sumE es := by
  have h := sumE_app (es.take i) (es.drop i)
  rw [List.take_append_drop] at h
  omega
set_option maxHeartbeats 1000000 in
set_option maxRecDepth 100000 in
theorem great_calls (es : List S42) (A : Option Addr) (c : Nat) (w : World) (hr : k42.C w A es.length es) (hg : ∀ e ∈ es, goodE e) :
    Calls Try.prog 17 #[.slice A es.length c] w fun e w' => e = .returned (.bool (greatB es)) ∧ Below w.heap.size w w' := by
  have HC := Aside0.mk hr
  have HG := Aside0.mk hg
  have hbig : es.length ≤ 9223372036854775807 := hr.2.1
  clear hr hg
  go_enter Try.func17, Try.ntmps17
  go_wp2
  go_loopw [8, 3, 5] (fun v m _ wr => ∃ i : Nat, i ≤ es.length ∧ v = .int .i64 i ∧ m = .int .i64 (sumE (es.take i) : Nat) ∧ sumE (es.take i) ≤ 1048576 ∧ Aside0 (Below w.heap.size w wr)) (fun v _ _ _ => es.length - (intOf v).toNat)
  case atStart => exact ⟨0, by omega, rfl, rfl, by simp [sumE], ⟨Below.refl _ _⟩⟩
  case round =>
    obtain ⟨i, hi, rfl, rfl, hm, HWr⟩ := hrel
    by_cases hlt : i < es.length
    · have hlt' : ((i : Int) < es.length) = True := eq_true (by omega)
      obtain ⟨ad, Ao, o, Bo, n, rfl, hcell⟩ := edit_at (Kd.C_below HC.out HWr.out) i hlt
      have hs := sumE_take es i hlt
      have hgi := HG.out es[i] (List.getElem_mem hlt)
      obtain ⟨g1, g2⟩ := hgi
      go_upto_region 5 with (refine wpList_load_agg rfl 42 (.tmp 10) rfl (ad.add (i * 3)) ?a1 [Value.int .i64 es[i].f0, Value.slice Ao es[i].f1.length o, Value.slice Bo es[i].f2.length n] _ ?a2 Try.underlying42 rfl ?a3 ?a4)
      case a1 => rfl
      case a2 => exact hcell
      case a3 => kernel_rfl
      have k3 := blk_new wr (Obj.cells #[Value.int .i64 es[i].f0, Value.slice Ao es[i].f1.length o, Value.slice Bo es[i].f2.length n] 42)
      have k4 := HWr.out.alloc HWr.out.size (Obj.cells #[Value.int .i64 es[i].f0, Value.slice Ao es[i].f1.length o, Value.slice Bo es[i].f2.length n] 42)
      generalize (wr.alloc (Obj.cells #[Value.int .i64 es[i].f0, Value.slice Ao es[i].f1.length o, Value.slice Bo es[i].f2.length n] 42)) = V at k3 k4 ⊢
      have c1 := (blk_cell k3 1).trans (show _ = some (Value.slice Ao es[i].f1.length o) from rfl)
      have c2 := (blk_cell k3 2).trans (show _ = some (Value.slice Bo es[i].f2.length n) from rfl)
      have K4 := Aside0.mk k4
      have HS := Aside0.mk hs
      clear k3 k4 HWr hcell hs
      generalize es[i].f1.length = p at c1 g1 HS ⊢
      generalize es[i].f2.length = q at c2 g2 HS ⊢
      have HT := Aside0.mk (sumE_take_le es (i + 1))
      generalize hu : sumE (es.take i) = u at hm HS ⊢
      have w1 : wrap64 ((p : Int) + q) = p + q := by unfold wrap64; omega
      have w2 : wrap64 ((p : Int) + q + 1) = p + q + 1 := by unfold wrap64; omega
      have w3 : wrap64 ((u : Int) + (p + q + 1)) = u + (p + q + 1) := by unfold wrap64; omega
      by_cases hbig2 : 1048576 < u + (p + q + 1)
      · have hgb : greatB es = true := decide_eq_true (by have := HT.out; have := HS.out; omega)
        have hb2 : (1048576 : Int) < u + (p + q + 1) := by omega
        have hb3 := decide_eq_true hb2
        go_wp2
        go_ret
        exact ⟨by rw [hgb]; rfl, K4.out⟩
      · have hb2 : ¬ (1048576 : Int) < u + (p + q + 1) := by omega
        have hb3 := decide_eq_false hb2
        go_wp2
        go_roundw
        case measure => simp [intOf]; omega
        case rel => exact ⟨i + 1, by omega, by go_num, by rw [HS.out]; simp, by rw [HS.out]; omega, K4⟩
    · have hge : ((i : Int) < es.length) = False := eq_false (by omega)
      obtain rfl : i = es.length := by omega
      clear hge
      rw [List.take_length] at hm
      have hgb : greatB es = false := decide_eq_false (by omega)
      go_wp2
      go_ret
      exact ⟨by rw [hgb]; rfl, HWr.out⟩

end Go.Proofs.Ytjmpmcgdfgfmfaa.Hand
