/- The engine, eleventh part: an append that makes a new block canonically; writes; all operations but calls. No law, no condition. -/
import Derived.Test.YtbonmmpdpahhfaaCan10
namespace Go.Proofs.Ytbonmmpdpahhfaa.Can
open Go.RowKit
set_option linter.unusedVariables false
set_option linter.unusedSimpArgs false
section
variable {P : Program} {N0 : Nat} {w0 : World} {ρ : Rho} {κ : Kap} {w : World} {ts : Tm} {a : Act} {o : Oper}
theorem zeroCells_size (z : Array Value) (n : Nat) : (Builtin.zeroCells z n).size = n * z.size := by simp [Builtin.zeroCells]
/-- the real append makes a block, too -/
theorem grow_made (R : RelK P N0 w0 ρ κ w) {m : Nat} (hm : ρ m = none) (hN : N0 ≤ m) {e : TypeId} {i : TypeInfo} {z : Value} (hi : P.info? e = some i) (hzs : z.cells.size = i.size) {need cap : Nat} (hcap : need ≤ cap)
    {cs cs' : List Value} (hf : F2 (CR N0 ρ) cs cs') (hl : cs.length = need * i.size) :
    ∃ ρ', RelK P N0 w0 ρ' (upd κ m (some (.cells cs.toArray e (0, 0)))) (w.drew.alloc (.cells (cs'.toArray ++ Builtin.zeroCells z.cells (cap - need)) e)) ∧
      VR N0 ρ' (.slice (some ⟨m, 0, none⟩) need need) (.slice (some ⟨w.heap.size, 0, none⟩) need cap) ∧ ρ' = upd ρ m (some (.live w.heap.size 0 cs.length ((cap - need) * i.size) i.size)) := by
  refine ⟨_, made_sim R hm hN (w' := w.drew.alloc (.cells (cs'.toArray ++ Builtin.zeroCells z.cells (cap - need)) e)) (C := cs'.toArray ++ Builtin.zeroCells z.cells (cap - need)) (lo := 0) (hi := 0) (X := (cap - need) * i.size) (sz := i.size) ?_ ?_ ?_ ?_ ?_ (by rw [hi]; rfl), ?_, rfl⟩
  · have := below_push w.drew (.cells (cs'.toArray ++ Builtin.zeroCells z.cells (cap - need)) e)
    exact ⟨this.os, this.tape, this.output, this.size, this.block⟩
  · show (w.drew.heap.push _)[w.heap.size]? = _
    have : w.drew.heap = w.heap := rfl
    rw [this]
    simp
  · rw [Array.size_append, zeroCells_size, hzs]
    simp [hf.len]
  · exact .inl rfl
  · intro j x hj
    obtain ⟨y, h1, h2⟩ := hf.get j x hj
    refine ⟨y, ?_, h2⟩
    have : j < cs'.length := (List.getElem?_eq_some_iff.1 h1).1
    rw [Array.getElem?_append_left (by simpa using this)]
    simpa using h1
  · refine .one (.one (.sl ⟨rfl, rfl, .inr ⟨w.heap.size, 0, cs.length, (cap - need) * i.size, i.size, 0, upd_same, rfl, .inl rfl, .inr ⟨hN, hcap, ?_⟩⟩⟩))
    rw [hl, ← Nat.add_mul]
    simp only [Nat.zero_add]
    exact Nat.mul_le_mul_right _ (by omega)
theorem grow_sim (R : RelK P N0 w0 ρ κ w) {m : Nat} (hm : ρ m = none) (hN : N0 ≤ m) (hκ : κ m = none) {t u ty e : TypeId} {i : TypeInfo} {z : Value} {du : TypeDesc} (ht : P.underlying t = some (.slice e)) (hu : P.underlying u = some du) (hdu : isSlD du = true)
    (hi : P.info? e = some i) (hz : i.zero = some z) (hzs : z.cells.size = i.size) (hb0 : 0 < i.bytes) (hs0 : 0 < i.size) {A : Option Addr} {l cp n : Nat} {news : List Value} {rd : List Nat} {d : Dl}
    (h : growE N0 κ e i.size m A l cp n news rd = some d) (hnl : news.length = n * i.size) (hg : cp < l + n) (hl : (l + n) * i.bytes ≤ 140737488355328) {s' x' : Value} (hs : VR N0 ρ (.slice A l cp) s')
    (hx : Builtin.lenOf x' = pure n) (hnw : ∃ news', F2 (CR N0 ρ) news news' ∧ ∀ W : World, W.heap = w.heap → (Builtin.firstCells i.size n x').run P W = .ok news'.toArray W) :
    ∃ v' w' ρ', OpPost P N0 w0 ρ κ w m d (((Builtin.append_ #[t, u] ty #[s', x']).run P w).andThen fun v w' => .ok (.value v) w') v' w' ρ' := by
  obtain ⟨news', hn, hfn⟩ := hnw
  unfold growE at h
  split at h
  · cases hq : Nat.beq l 0 with
    | false => rw [hq] at h; cases h
    | true =>
      rw [hq] at h
      simp only [cond_true, Option.some.injEq] at h
      subst h
      have hl0 := Nat.eq_of_beq_eq_true hq
      subst hl0
      have := hs.closed_eq rfl
      subst this
      have hrun := run_append_grow (P := P) (w := w) (ty := ty) ht hu hdu hi hz (base := none) (sLen := 0) (sCap := cp) hx (olds := []) (fun W _ => rfl) hfn hb0 hg hl
      have hap : (([] : List Value).toArray ++ news'.toArray : Array Value) = news'.toArray := by apply Array.ext'; simp
      rw [hap] at hrun
      obtain ⟨ρ', g1, g2, g3⟩ := grow_made R hm hN hi hzs (grownCap_ge w (0 + n) cp e) hn (by rw [hnl, Nat.zero_add])
      refine ⟨_, _, ρ', .inl (by rw [hrun]; rfl), g1, g2, g3 ▸ ext_new hm, fun y hy _ => by rw [g3]; exact upd_ne hy, (fun h => by cases h), fun _ => ⟨w.heap.size, 0, _, _, _, by rw [g3]; exact upd_same, .inl (Nat.le_refl _)⟩, fun B hB => .inl ?_, ?_, fun _ _ h => (by cases h)⟩
      · exact (below_push w.drew _).block B hB
      · exact (below_push w.drew _).size
  · rename_i b of
    cases hr : rowOk N0 κ b e with
    | false => rw [hr] at h; cases h
    | true =>
      rw [hr] at h
      simp only [cond_true] at h
      split at h
      · rename_i olds hol
        have holl := ldK_len hol
        obtain ⟨hnd, hszr⟩ := rowOk_live R hr
        cases hs with | one h1 => cases h1 with | one h2 => cases h2 with | sl h3 =>
        rename_i ad' cp'
        obtain ⟨_, hsp, h4⟩ := h3
        rcases h4 with h4 | ⟨B, O, nn, X, sz, dd, h4, rfl, h6, h7⟩
        · exact absurd h4 hnd
        · -- the old cells
          have holds : ∃ olds', F2 (CR N0 ρ) olds olds' ∧ (∀ (j : Nat) (v : Value), olds'[j]? = some v → w.cell? ⟨B, O + (of + dd) + j, none⟩ = some v) ∧ ∀ W : World, W.heap = w.heap → (Builtin.firstCells i.size l (.slice (some ⟨B, O + (of + dd), none⟩) l cp')).run P W = .ok olds'.toArray W := by
            by_cases hl0 : l * i.size = 0
            · rw [hl0] at hol
              simp only [ldK, Option.some.injEq] at hol
              subst hol
              refine ⟨[], .nil, fun j v h => by simp at h, fun W _ => ?_⟩
              simp only [Builtin.firstCells, hl0]
              rfl
            · have hd0 : dd = 0 := by
                rcases h6 with h6 | h6
                · exact h6
                · rw [h6.1, Nat.zero_mul] at hl0; exact absurd rfl hl0
              subst hd0
              have hAR : AR ρ ⟨b, of, none⟩ ⟨B, O + (of + 0), none⟩ := ⟨rfl, rfl, .inr ⟨B, O, nn, X, sz, h4, rfl⟩⟩
              obtain ⟨L', q1, q2, q3⟩ := ldK_sim R _ _ _ _ hAR hol
              refine ⟨L', q1, fun j v hj => by have := q3 j v hj; rwa [add_eq rfl] at this, fun W hW => ?_⟩
              have q4 : ∀ (j : Nat) (v : Value), L'[j]? = some v → W.cell? (Addr.add _ j) = some v := fun j v hj => by
                have := q3 j v hj
                simpa only [World.cell?, hW] using this
              have := run_ldK (P := P) q4
              rw [← q1.len, q2] at this
              exact this
          obtain ⟨olds', o1, o2, o3⟩ := holds
          have hcat : F2 (CR N0 ρ) (olds ++ news) (olds' ++ news') := o1.app hn
          have hcl : (olds ++ news).length = (l + n) * i.size := by rw [List.length_append, holl, hnl, Nat.add_mul]
          have hap : (olds'.toArray ++ news'.toArray : Array Value) = (olds' ++ news').toArray := by apply Array.ext'; simp
          cases hbN : Nat.blt b N0 with
          | true =>
            rw [hbN] at h
            simp only [cond_true, Option.some.injEq] at h
            subst h
            have hb : b < N0 := by simpa [Nat.blt_eq] using hbN
            have hex : cp' = cp := by
              rcases h7 with h7 | h7
              · exact h7.1
              · have := h7.1; simp only at this; omega
            have hrun := run_append_grow (P := P) (w := w) (ty := ty) ht hu hdu hi hz hx o3 hfn hb0 (by omega) hl
            rw [hap] at hrun
            obtain ⟨ρ', g1, g2, g3⟩ := grow_made R hm hN hi hzs (grownCap_ge w (l + n) cp' e) hcat hcl
            refine ⟨_, _, ρ', .inl (by rw [hrun]; rfl), g1, g2, g3 ▸ ext_new hm, fun y hy _ => by rw [g3]; exact upd_ne hy, (fun h => by cases h), fun _ => ⟨w.heap.size, 0, _, _, _, by rw [g3]; exact upd_same, .inl (Nat.le_refl _)⟩, fun B hB => .inl ?_, ?_, fun _ _ h => (by cases h)⟩
            · exact (below_push w.drew _).block B hB
            · exact (below_push w.drew _).size
          | false =>
            rw [hbN] at h
            simp only [cond_false] at h
            split at h
            · rename_i cs e' k hrow
              simp only [Option.some.injEq] at h
              subst h
              obtain ⟨hb, hk⟩ := rowAt_spec hrow
              have hbm : b ≠ m := fun e => by rw [e, hκ] at hk; cases hk
              have hmb : m ≠ b := Ne.symm hbm
              have R1 := kill_sim R hb (e := e') (k := k + 1)
              have hm1 : upd ρ b (some Im.dead) m = none := by rw [upd_ne hmb]; exact hm
              have hext1 : Ext ρ (upd ρ b (some Im.dead)) := ext_dead
              by_cases hroom : l + n ≤ cp'
              · -- really there is room
                have hslk : of + dd + cp' * sz ≤ nn + X := by
                  rcases h7 with h7 | h7
                  · omega
                  · have := h7.2.2; simp only at this; omega
                have hsz : i.size = sz := by
                  have := hszr hb B O nn X sz h4
                  rw [hi] at this
                  simpa using this
                obtain ⟨q0, cs2, e2, k2, C, e3, lo, hi2, q1, q2, q3, q4, q5, q6, q7⟩ := R.new b B O nn X sz hb h4
                have hlen2 : news'.length = n * i.size := by rw [← hn.len, hnl]
                have hmul : (l + n) * i.size ≤ cp' * sz := by rw [hsz]; exact Nat.mul_le_mul_right _ hroom
                rw [Nat.add_mul] at hmul
                obtain ⟨w', r1, r2, r3, r4, r5, r6, r7⟩ := run_storeCells P news' w B (O + (of + dd) + l * i.size) 0 C e3 lo hi2 q4 (by omega) (fun j hj => by have := fz_no q6 (of + dd + l * i.size + j) (by omega); rwa [show O + (of + dd) + l * i.size + 0 + j = O + (of + dd + l * i.size + j) by omega]) (fun y hy => by
                  obtain ⟨j, hj, rfl⟩ := List.mem_iff_getElem.1 hy
                  have hj' : j < news.length := by rw [hn.len]; exact hj
                  obtain ⟨x, hx1, hx2⟩ := hn.get j news[j] (by simp [hj'])
                  have : x = news'[j] := by simpa [hj] using hx1.symm
                  exact this ▸ hx2.oneCell.2)
                have hnoB : ∀ y O' n' X' sz', N0 ≤ y → upd ρ b (some Im.dead) y ≠ some (.live B O' n' X' sz') := fun y O' n' X' sz' hy hl' => by
                  by_cases hyb : y = b
                  · subst hyb; rw [upd_same] at hl'; simp at hl'
                  · rw [upd_ne hyb] at hl'
                    exact hyb (R.inj y b B O' n' X' sz' O nn X sz hy hb hl' h4)
                have R2 := R1.other q0 hnoB r3 r4 r5 r6 r7
                have hrun := run_append_room (P := P) (w := w) (ty := ty) ht hu hdu hi (base := some ⟨B, O + (of + dd), none⟩) hx (hfn w rfl) hroom
                simp only [add_eq (a := (⟨B, O + (of + dd), none⟩ : Addr)) rfl, r1, Result.andThen_ok] at hrun
                have R3 := new_sim2 R2 (m := m) (B := B) (O := O + (of + dd)) (n := (olds ++ news).length) (X := nn + X - (of + dd) - (l + n) * i.size) (sz := sz) (cs := (olds ++ news).toArray) (e := e) (k := 0) hm1 hN hnoB
                  ⟨q0, (olds ++ news).toArray, e, 0, splice C (O + (of + dd) + l * i.size + 0) news', e3, lo, hi2, upd_same, by simp, by rw [hi]; simp [hsz], r2, by rw [splice_size, hcl, Nat.add_mul]; omega, (by rw [hcl, Nat.add_mul]; omega), fun j v hj => by
                    rw [splice_get _ _ _ _ (by omega)]
                    have hext3 : Ext ρ (upd (upd ρ b (some Im.dead)) m (some (.live B (O + (of + dd)) (olds ++ news).length (nn + X - (of + dd) - (l + n) * i.size) sz))) := hext1.trans (ext_new hm1)
                    simp only [List.getElem?_toArray] at hj
                    by_cases hjl : j < l * i.size
                    · rw [if_neg (by omega)]
                      rw [List.getElem?_append_left (by rw [holl]; exact hjl)] at hj
                      obtain ⟨y, y1, y2⟩ := o1.get j v hj
                      have hc := o2 j y y1
                      simp only [World.cell?, q4] at hc
                      exact ⟨y, by simpa using hc, y2.mono hext3⟩
                    · rw [List.getElem?_append_right (by rw [holl]; omega), holl] at hj
                      obtain ⟨y, y1, y2⟩ := hn.get _ v hj
                      have hlt : j - l * i.size < news'.length := (List.getElem?_eq_some_iff.1 y1).1
                      rw [if_pos (by omega), show O + (of + dd) + j - (O + (of + dd) + l * i.size + 0) = j - l * i.size by omega]
                      exact ⟨y, y1, y2.mono hext3⟩⟩
                refine ⟨.slice (some ⟨B, O + (of + dd), none⟩) (l + n) cp', w', _, .inl (by rw [hrun]; rfl), R3, ?_, hext1.trans (ext_new hm1), ?_, fun h => (by cases h), fun _ => ⟨B, _, _, _, _, upd_same, .inr ⟨b, _, List.mem_singleton.2 rfl, O, nn, X, sz, h4⟩⟩, ?_, by omega, fun y ob hy => .inr (by have e1 := List.mem_singleton.1 hy; simp only [Prod.mk.injEq] at e1; rw [e1.1, upd_ne hbm]; exact upd_same)⟩
                · refine .one (.one (.sl ⟨rfl, rfl, .inr ⟨B, O + (of + dd), _, _, sz, 0, upd_same, rfl, .inl rfl, .inr ⟨hN, hroom, ?_⟩⟩⟩))
                  rw [hcl, Nat.add_mul]
                  simp only [Nat.zero_add]
                  omega
                · intro y hy hno
                  rw [upd_ne hy]
                  have : y ≠ b := fun e => hno _ (by rw [e]; exact List.mem_singleton.2 rfl)
                  exact upd_ne this
                · intro B' hB'
                  by_cases heB : B' = B
                  · subst heB; exact .inr ⟨b, _, List.mem_singleton.2 rfl, O, nn, X, sz, h4⟩
                  · exact .inl (r3 B' heB)
              · have hrun := run_append_grow (P := P) (w := w) (ty := ty) ht hu hdu hi hz hx o3 hfn hb0 (by omega) hl
                rw [hap] at hrun
                obtain ⟨ρ', g1, g2, g3⟩ := grow_made R1 hm1 hN hi hzs (grownCap_ge w (l + n) cp' e) (f2_imp (fun _ _ h => h.mono hext1) hcat) hcl
                refine ⟨_, _, ρ', .inl (by rw [hrun]; rfl), g1, g2, hext1.trans (g3 ▸ ext_new hm1), fun y hy hno => ?_, fun h => (by cases h), fun _ => ⟨w.heap.size, 0, _, _, _, by rw [g3]; exact upd_same, .inl (Nat.le_refl _)⟩, fun B hB => .inl ?_, ?_, fun y ob hy => .inr (by have e1 := List.mem_singleton.1 hy; simp only [Prod.mk.injEq] at e1; rw [e1.1, g3, upd_ne hbm]; exact upd_same)⟩
                · rw [g3, upd_ne hy]
                  have : y ≠ b := fun e => hno _ (by rw [e]; exact List.mem_singleton.2 rfl)
                  exact upd_ne this
                · exact (below_push w.drew _).block B hB
                · exact (below_push w.drew _).size
            · cases h
      · cases h
  · cases h
end
end Go.Proofs.Ytbonmmpdpahhfaa.Can
