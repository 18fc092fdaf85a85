/- The law ShadeFinds, over all lists; over what a row reads. No condition. -/
import Derived.Test.YtpjlgjhkdligfaaKVK
import Derived.Test.YtpjlgjhkdligfaaKSU
namespace Go.Proofs.Ytpjlgjhkdligfaa.Vg
open Go.RowKit Go.Proofs.YtpjlgjhkdligfaaW.PrintWords
set_option linter.unusedVariables false
set_option maxRecDepth 100000
theorem get_vc (T : Tr) (hT : T.Ok) (hn : T.num ≤ 1073741824) (j : Int) (h0 : 0 ≤ j) (h1 : j < cntF (enc T)) : VC Try.prog 17 [tT (enc T), tI j] [] (.tp [.ag (getS T j).cs, .c (cI 0)]) [] := by
  cases T with
  | nil => have : cntF (enc .nil) = 0 := rfl; omega
  | nd p c x y => exact tgetp c x y p j _ ⟨hT, hn, h0, h1, rfl⟩
theorem bef_vc (T : Tr) (hT : T.Ok) (hn : T.num ≤ 1073741824) (j : Int) (h0 : 0 ≤ j) (h1 : j ≤ cntF (enc T)) : VC Try.prog 24 [tT (enc T), tI j] [] (.tp [.c (cI (befS T j 0 0).1), .c (cI (befS T j 0 0).2), .c (cI 0)]) [] := by
  have hb := (isT_of hT hn).bd
  exact tbef T j _ ⟨hT, hn, h0, h1, by omega, by omega, by omega, by omega, rfl⟩
theorem find_any (T : Tr) (hT : T.Ok) (hn : T.num ≤ 1073741824) (n : Int) : ∃ (k i : Int) (ok : Bool) (p : Pc) (b l : Int), VC Try.prog 20 [tT (enc T), tI n] [] (.tp [.c (cI k), .c (cI i), .c (cB ok)]) [] ∧ ok = (decide (n ≥ 0) && decide (n < sizF (enc T))) ∧ (ok = false → k = 0 ∧ i = 0) ∧ (ok = true → VC Try.prog 17 [tT (enc T), tI k] [] (.tp [.ag p.cs, .c (cI 0)]) []) ∧ (ok = true → VC Try.prog 24 [tT (enc T), tI k] [] (.tp [.c (cI b), .c (cI l), .c (cI 0)]) []) ∧ (ok = true → b + i = n ∧ 0 ≤ i ∧ i < p.n) := by
  by_cases h : n ≥ 0 ∧ n < sizF (enc T)
  · obtain ⟨h0, h1⟩ := h
    obtain ⟨j, i, J⟩ := sr_bef (F := sizF) (g := Pc.n) (pr := Prod.fst) rfl (fun _ _ _ _ => rfl) (fun _ _ _ _ => rfl) (fun _ _ _ => rfl) T hT n 0 h0 h1
    have e := J.eq
    rw [Int.zero_add] at e
    have hj := J.j1
    have hs : VC Try.prog 20 [tT (enc T), tI n] [] (.tp [.c (cI j), .c (cI i), .c (cB true)]) [] := by
      cases T with
      | nil => have : sizF (enc .nil) = 0 := rfl; omega
      | nd p c x y => exact tfind _ n (j, i) (isT_of hT hn) h0 h1 (search_s c x y p n (j, i) ⟨hT, h0, h1, by omega, by omega, e⟩)
    have hb := J.b 0 0
    have hb : (befS T j 0 0).1 = 0 + (n - i) := hb
    exact ⟨j, i, true, getS T j, (befS T j 0 0).1, (befS T j 0 0).2, hs, by rw [decide_eq_true h0, decide_eq_true h1]; rfl, (fun h => nomatch h), fun _ => get_vc T hT hn j J.j0 J.j1, fun _ => bef_vc T hT hn j J.j0 (by omega), fun _ => ⟨by omega, J.i0, J.i1⟩⟩
  · refine ⟨0, 0, false, ⟨0, 0, 0, 0⟩, 0, 0, tfind_o _ n (isT_of hT hn) (by omega), ?_, fun _ => ⟨rfl, rfl⟩, (fun h => nomatch h), (fun h => nomatch h), (fun h => nomatch h)⟩
    symm
    rw [Bool.and_eq_false_iff]
    by_cases h0 : n ≥ 0
    · exact .inr (decide_eq_false (by omega))
    · exact .inl (decide_eq_false h0)
theorem fline_any (T : Tr) (hT : T.Ok) (hn : T.num ≤ 1073741824) (n : Int) : ∃ (k i : Int) (ok : Bool) (p : Pc) (b l : Int), VC Try.prog 21 [tT (enc T), tI n] [] (.tp [.c (cI k), .c (cI i), .c (cB ok)]) [] ∧ ok = (decide (n ≥ 0) && decide (n < lnsF (enc T))) ∧ (ok = false → k = 0 ∧ i = 0) ∧ (ok = true → VC Try.prog 17 [tT (enc T), tI k] [] (.tp [.ag p.cs, .c (cI 0)]) []) ∧ (ok = true → VC Try.prog 24 [tT (enc T), tI k] [] (.tp [.c (cI b), .c (cI l), .c (cI 0)]) []) ∧ (ok = true → l + i = n ∧ 0 ≤ i ∧ i < p.k) := by
  by_cases h : n ≥ 0 ∧ n < lnsF (enc T)
  · obtain ⟨h0, h1⟩ := h
    obtain ⟨j, i, J⟩ := sr_bef (F := lnsF) (g := Pc.k) (pr := Prod.snd) rfl (fun _ _ _ _ => rfl) (fun _ _ _ _ => rfl) (fun _ _ _ => rfl) T hT n 0 h0 h1
    have e := J.eq
    rw [Int.zero_add] at e
    have hj := J.j1
    have hs : VC Try.prog 21 [tT (enc T), tI n] [] (.tp [.c (cI j), .c (cI i), .c (cB true)]) [] := by
      cases T with
      | nil => have : lnsF (enc .nil) = 0 := rfl; omega
      | nd p c x y => exact tfline _ n (j, i) (isT_of hT hn) h0 h1 (search_l c x y p n (j, i) ⟨hT, h0, h1, by omega, by omega, e⟩)
    have hb := J.b 0 0
    have hb : (befS T j 0 0).2 = 0 + (n - i) := hb
    exact ⟨j, i, true, getS T j, (befS T j 0 0).1, (befS T j 0 0).2, hs, by rw [decide_eq_true h0, decide_eq_true h1]; rfl, (fun h => nomatch h), fun _ => get_vc T hT hn j J.j0 J.j1, fun _ => bef_vc T hT hn j J.j0 (by omega), fun _ => ⟨by omega, J.i0, J.i1⟩⟩
  · refine ⟨0, 0, false, ⟨0, 0, 0, 0⟩, 0, 0, tfline_o _ n (isT_of hT hn) (by omega), ?_, fun _ => ⟨rfl, rfl⟩, (fun h => nomatch h), (fun h => nomatch h), (fun h => nomatch h)⟩
    symm
    rw [Bool.and_eq_false_iff]
    by_cases h0 : n ≥ 0
    · exact .inr (decide_eq_false (by omega))
    · exact .inl (decide_eq_false h0)
theorem fits_all (l : List Pc) : ∀ p ∈ fits l l.length, Fit p := fun p hp => by
  unfold fits at hp
  exact of_decide_eq_true (List.mem_filter.1 hp).2
theorem build_any (z : Option Bool) (l : List Pc) (hl : l.length ≤ 1073741824) : ∃ T : Tr, VC Try.prog 12 [tF (.sl z (rowP l) l.length)] [] (tT (enc T)) [] ∧ Whole T ∧ T.num ≤ l.length := by
  have hf := fits_len l l.length
  have h := fun z => bld_ok z (fits l l.length).length (fits l l.length) (Nat.le_refl _) (fits_all l) (by omega)
  exact ⟨bldT (fits l l.length).length (fits l l.length), tbuild z l _ hl fun z => (h z).1, (h none).2.1, by rw [(h none).2.2]; exact hf⟩
theorem finds_all (z : Option Bool) (l : List Pc) (n : Int) : VC Try.prog 6 [tF (.sl z (rowP l) l.length), tI n] [] (tB true) [] := by
  by_cases hl : l.length ≤ 5000
  · obtain ⟨T, h12, hw, hn⟩ := build_any z l (by omega)
    obtain ⟨k, i, ok, p, b, l1, a1, a2, a3, a4, a5, a6⟩ := find_any T hw.ok (by omega) n
    obtain ⟨k2, i2, ok2, q, b2, l2, c1, c2, c3, c4, c5, c6⟩ := fline_any T hw.ok (by omega) n
    exact finds_law z _ l.length n (enc T) k i ok k2 i2 ok2 p q b l1 b2 l2 (isT_of hw.ok (by omega)) (fun _ => h12) a1 c1 a2 c2 a3 c3 a4 a5 a6 c4 c5 c6
  · obtain ⟨k, i, ok, p, b, l1, a1, a2, a3, a4, a5, a6⟩ := find_any .nil trivial (Nat.zero_le _) n
    obtain ⟨k2, i2, ok2, q, b2, l2, c1, c2, c3, c4, c5, c6⟩ := fline_any .nil trivial (Nat.zero_le _) n
    exact finds_law z _ l.length n (enc .nil) k i ok k2 i2 ok2 p q b l1 b2 l2 isT_nil (fun h => absurd h hl) a1 c1 a2 c2 a3 c3 a4 a5 a6 c4 c5 c6
abbrev PcY : Type := (Int × Int × Int) × Int
def pcOf (y : PcY) : Pc := ⟨y.1.1, y.1.2.1, y.1.2.2, y.2⟩
abbrev kdPc : Kd PcY := Kd.pair (Kd.pair (Kd.int .i64) (Kd.pair (Kd.int .i64) (Kd.int .i64))) (Kd.int .i64)
theorem fk_pc : FK kdPc (fun y => [fI (pcOf y).s, fI (pcOf y).o, fI (pcOf y).n, fI (pcOf y).k]) := FK.pair (FK.pair FK.int (FK.pair FK.int FK.int)) FK.int
theorem rowP_map : ∀ y0 : List PcY, (y0.flatMap fun y => [fI (pcOf y).s, fI (pcOf y).o, fI (pcOf y).n, fI (pcOf y).k]) = rowP (y0.map pcOf) := fun y0 => by
  unfold rowP
  rw [List.flatMap_map]; rfl
theorem fr_pcs {W : World} {A0 : Option Addr} {c0 : Nat} {y0 : List PcY} (h0 : (Kd.slice 32 kdPc).K W y0 [.slice A0 y0.length c0]) : FR (Kw W) (.sl none (rowP (y0.map pcOf)) (y0.map pcOf).length) (.slice A0 y0.length c0) := by
  have := (FK.slice (e := 32) fk_pc) W y0 _ h0
  simp only [rowP_map] at this
  rw [List.length_map]
  cases this with | cons h1 h2 => exact h1
theorem finds_row (A0 : Option Addr) (c0 : Nat) (y0 : List PcY) (y1 : Int) (W : World) (h0 : (Kd.slice 32 kdPc).K W y0 [.slice A0 y0.length c0]) (h1 : (Kd.int .i64).K W y1 [.int .i64 y1])
    (g0 : (y0.length * Try.prog.bytesOf 32 ≤ reachBytes ∧ ∀ z ∈ y0, ((((Lit.int .i64 z.1.1).wf = true) ∧ ((Lit.int .i64 z.1.2.1).wf = true) ∧ ((Lit.int .i64 z.1.2.2).wf = true)) ∧ ((Lit.int .i64 z.2).wf = true)))) (g1 : (Lit.int .i64 y1).wf = true) :
    Calls Try.prog 6 #[.slice A0 y0.length c0, .int .i64 y1] W fun e w' => e = .returned (.bool true) ∧ Below W.heap.size W w' :=
  calls_of_vc (args := [.slice A0 y0.length c0, .int .i64 y1]) (finds_all none (y0.map pcOf) y1) rfl (.cons (.o (.c (.f (fr_pcs h0)))) (.cons (.o (.c (.f (.v rfl)))) .nil))
end Go.Proofs.Ytpjlgjhkdligfaa.Vg
