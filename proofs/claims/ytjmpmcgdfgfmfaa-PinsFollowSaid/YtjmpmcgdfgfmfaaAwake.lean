/- pins' laws: awake answers true. No condition. -/
import Derived.Test.YtjmpmcgdfgfmfaaHand5
import Derived.Outline
import Derived.Lib.SlBytesConst
namespace Go.Proofs.Ytjmpmcgdfgfmfaa.Hand
open Go.RowKit Go.Proofs.Ytjmpmcgdfgfmfaa.Aggs Go.Proofs.YtjmpmcgdfgfmfaaW.PrintWords Go.Proofs.YtjmpmcgdfgfmfaaW.PrintLast Go.Proofs.YtjmpmcgdfgfmfaaW.PrintMore
set_option linter.unusedVariables false
set_option linter.unusedSimpArgs false
def aw : List Int := allOff.set 1 5
theorem aw_set : setR allOff 98 5 = (aw, 0) := by decide
theorem aw_get : getR (aw.map (behindI 5 0 2)) 98 = (7, 0) := by decide +kernel
set_option maxHeartbeats 1000000 in
set_option maxRecDepth 100000 in
theorem awake_core (L : List Int) (hL : L.length = 27) (hs : setR allOff 98 5 = (L, 0)) (hg : getR (L.map (behindI 5 0 2)) 98 = (7, 0)) (hb : L[26]?.getD 0 = -1) (hn : L[1]?.getD 0 = 5) (w : World) : Calls Try.prog 10 #[] w fun e w' => e = .returned (.bool true) ∧ Below w.heap.size w w' := by
  have HL := Aside0.mk hL
  have kc := fun (w : World) (C : Array Value) (n c : Nat) => Lib.run_convert_bytes_const (P := Try.prog) w 40 5 C n c Try.underlying40 Try.underlying5
  have HS := Aside0.mk (fun W => hs ▸ set_calls allOff rfl 98 5 (by omega) (by omega) W)
  have HG := Aside0.mk (fun W => hg ▸ get_calls (L.map (behindI 5 0 2)) (by simpa using hL) 98 (by omega) (by omega) W)
  have HC := Aside0.mk (nums_get L 26 (by omega))
  have HD := Aside0.mk (nums_get L 1 (by omega))
  rw [hb] at HC
  rw [hn] at HD
  clear hL hs hg hb hn
  go_enter Try.func10, Try.ntmps10
  go_wp2_with fail
  refine (none_calls _).mono ?_
  rintro e w1 ⟨rfl, hB1⟩
  have HB1 := Aside0.mk hB1
  clear hB1
  go_wp2_with fail
  refine (HS.out _).mono ?_
  rintro e w2 ⟨rfl, hB2⟩
  have HB2 := Aside0.mk (below_step HB1.out hB2)
  clear hB2 HB1 HS
  go_upto_region 2 with (refine wpList_store_agg rfl 24 (.tmp 1) (.tmp 8) rfl w2.heap.size 0 ?e1 (nums .i64 L) ?e2 _ 24 (blk_new w2 (Obj.cells #[.int .i64 0, .int .i64 0, .int .i64 0, .int .i64 0, .int .i64 0, .int .i64 0, .int .i64 0, .int .i64 0, .int .i64 0, .int .i64 0, .int .i64 0, .int .i64 0, .int .i64 0, .int .i64 0, .int .i64 0, .int .i64 0, .int .i64 0, .int .i64 0, .int .i64 0, .int .i64 0, .int .i64 0, .int .i64 0, .int .i64 0, .int .i64 0, .int .i64 0, .int .i64 0, .int .i64 0] 24)) ?e3 (nums_one _) ?e5 ?e4)
  case e1 => rfl
  case e2 => rfl
  case e3 => rw [nums_length, HL.out]; exact Nat.le_refl _
  case e5 =>
    rw [nums_length, HL.out]
    exact info24
  have h1 := putCells_block (nums .i64 L) (w2.alloc (Obj.cells #[.int .i64 0, .int .i64 0, .int .i64 0, .int .i64 0, .int .i64 0, .int .i64 0, .int .i64 0, .int .i64 0, .int .i64 0, .int .i64 0, .int .i64 0, .int .i64 0, .int .i64 0, .int .i64 0, .int .i64 0, .int .i64 0, .int .i64 0, .int .i64 0, .int .i64 0, .int .i64 0, .int .i64 0, .int .i64 0, .int .i64 0, .int .i64 0, .int .i64 0, .int .i64 0, .int .i64 0] 24)) w2.heap.size 0 _ 24 (blk_new w2 (Obj.cells #[.int .i64 0, .int .i64 0, .int .i64 0, .int .i64 0, .int .i64 0, .int .i64 0, .int .i64 0, .int .i64 0, .int .i64 0, .int .i64 0, .int .i64 0, .int .i64 0, .int .i64 0, .int .i64 0, .int .i64 0, .int .i64 0, .int .i64 0, .int .i64 0, .int .i64 0, .int .i64 0, .int .i64 0, .int .i64 0, .int .i64 0, .int .i64 0, .int .i64 0, .int .i64 0, .int .i64 0] 24))
  rw [splice_whole _ (nums .i64 L) (by rw [nums_length, HL.out]; rfl)] at h1
  have h3 := putCells_below (nums .i64 L) w (w2.alloc (Obj.cells #[.int .i64 0, .int .i64 0, .int .i64 0, .int .i64 0, .int .i64 0, .int .i64 0, .int .i64 0, .int .i64 0, .int .i64 0, .int .i64 0, .int .i64 0, .int .i64 0, .int .i64 0, .int .i64 0, .int .i64 0, .int .i64 0, .int .i64 0, .int .i64 0, .int .i64 0, .int .i64 0, .int .i64 0, .int .i64 0, .int .i64 0, .int .i64 0, .int .i64 0, .int .i64 0, .int .i64 0] 24)) w.heap.size w2.heap.size 0 HB2.out.size (HB2.out.alloc HB2.out.size (Obj.cells #[.int .i64 0, .int .i64 0, .int .i64 0, .int .i64 0, .int .i64 0, .int .i64 0, .int .i64 0, .int .i64 0, .int .i64 0, .int .i64 0, .int .i64 0, .int .i64 0, .int .i64 0, .int .i64 0, .int .i64 0, .int .i64 0, .int .i64 0, .int .i64 0, .int .i64 0, .int .i64 0, .int .i64 0, .int .i64 0, .int .i64 0, .int .i64 0, .int .i64 0, .int .i64 0, .int .i64 0] 24))
  generalize (putCells (w2.alloc (Obj.cells #[.int .i64 0, .int .i64 0, .int .i64 0, .int .i64 0, .int .i64 0, .int .i64 0, .int .i64 0, .int .i64 0, .int .i64 0, .int .i64 0, .int .i64 0, .int .i64 0, .int .i64 0, .int .i64 0, .int .i64 0, .int .i64 0, .int .i64 0, .int .i64 0, .int .i64 0, .int .i64 0, .int .i64 0, .int .i64 0, .int .i64 0, .int .i64 0, .int .i64 0, .int .i64 0, .int .i64 0] 24)) w2.heap.size 0 (nums .i64 L)) = U at h1 h3 ⊢
  have H1 := Aside0.mk h1
  have H3 := Aside0.mk h3
  clear h1 h3 HB2
  go_wp2_with (refine wpList_load_agg rfl 24 (.tmp 1) rfl ⟨w2.heap.size, 0, none⟩ ?f1 (nums .i64 L) _ ?f2 Try.underlying24 rfl ?f3 ?f4)
  case f1 => rfl
  case f2 =>
    intro j v hj
    rw [add_plain', Nat.zero_add, blk_cell H1.out]
    simpa using hj
  case f3 =>
    rw [nums_length, HL.out]
    exact info24
  refine (shift_calls L HL.out 5 none (some ⟨U.heap.size, 0, none⟩) 0 0 2 2 _).mono ?_
  rintro e w3 ⟨rfl, hB3⟩
  have HB3 := Aside0.mk (blk_below (blk_alloc H1.out _) hB3)
  have HB4 := Aside0.mk (below_step (H3.out.alloc H3.out.size _) hB3)
  clear hB3
  go_wp2_with fail
  refine (HG.out _).mono ?_
  rintro e w4 ⟨rfl, hB4⟩
  have hx1 : w4.cell? ⟨w2.heap.size, 26, none⟩ = some (.int .i64 (-1)) := (blk_cell (blk_below HB3.out hB4) 26).trans HC.out
  have hx2 : w4.cell? ⟨w2.heap.size, 1, none⟩ = some (.int .i64 5) := (blk_cell (blk_below HB3.out hB4) 1).trans HD.out
  have HB5 := Aside0.mk (below_step HB4.out hB4)
  clear hB4
  go_wp2
  go_ret
  exact ⟨rfl, HB5.out⟩
theorem awake_calls (w : World) : Calls Try.prog 10 #[] w fun e w' => e = .returned (.bool true) ∧ Below w.heap.size w w' :=
  awake_core aw rfl aw_set aw_get (by decide) (by decide) w
end Go.Proofs.Ytjmpmcgdfgfmfaa.Hand
