/- The engine, seventh part: cuts; all reading operations in one. No law, no condition. -/
import Derived.Test.YtbonmmpdpahhfaaCan6
namespace Go.Proofs.Ytbonmmpdpahhfaa.Can
open Go.RowKit
set_option linter.unusedVariables false
set_option linter.unusedSimpArgs false
section
variable {P : Program} {N0 : Nat} {w0 : World} {ρ : Rho} {κ : Kap} {w : World} {ts : Tm} {a : Act} {o : Oper}
theorem rowOk_live (R : RelK P N0 w0 ρ κ w) {b : Nat} {e : TypeId} (h : rowOk N0 κ b e = true) : ρ b ≠ some .dead ∧ (N0 ≤ b → ∀ B O n X sz, ρ b = some (.live B O n X sz) → (P.info? e).map (fun i => i.size) = some sz) := by
  unfold rowOk at h
  simp only [Bool.or_eq_true, Nat.blt_eq] at h
  rcases h with h | h
  · refine ⟨fun hd => ?_, fun hb => by omega⟩
    have := R.old b h
    rw [hd] at this
    cases this
  · split at h
    · rename_i cs e' k hk
      have he : e' = e := Nat.eq_of_beq_eq_true h
      subst he
      refine ⟨fun hd => ?_, fun hb B O n X sz hl => ?_⟩
      · obtain ⟨e2, k2, h2⟩ := R.dead b hd
        rw [hk] at h2
        simp at h2
      · obtain ⟨_, cs2, e2, k2, C, e3, lo, hi, q1, q2, q3, _⟩ := R.new b B O n X sz hb hl
        rw [hk] at q1
        simp only [Option.some.injEq, Obj.cells.injEq, Prod.mk.injEq] at q1
        rw [q1.2.1]
        exact q3
    · cases h
theorem cut_slR (R : RelK P N0 w0 ρ κ w) {b o : Nat} {e : TypeId} {i : TypeInfo} {len cap cap' l h : Nat} {ad' : Addr} (hi : P.info? e = some i) (hr : rowOk N0 κ b e = true) (hs : SlR N0 ρ ⟨b, o, none⟩ len cap ad' cap')
    (hlh : l ≤ h) (hhc : h ≤ cap) :
    cap ≤ cap' ∧ SlR N0 ρ (bif Nat.beq cap l then ⟨b, o, none⟩ else ⟨b, o + l * i.size, none⟩) (h - l) (cap - l) (if cap' = l then ad' else ad'.add (l * i.size)) (cap' - l) := by
  obtain ⟨h1, h2⟩ := rowOk_live R hr
  obtain ⟨_, s1, s2⟩ := hs
  rcases s2 with s2 | ⟨B, O, n, X, sz, d, s2, rfl, s4, s5⟩
  · exact absurd s2 h1
  · have hsp : (bif Nat.beq cap l then (⟨b, o, none⟩ : Addr) else ⟨b, o + l * i.size, none⟩).spot = none := by cases Nat.beq cap l <;> rfl
    have hblk : (bif Nat.beq cap l then (⟨b, o, none⟩ : Addr) else ⟨b, o + l * i.size, none⟩).block = b := by cases Nat.beq cap l <;> rfl
    have hsp' : (if cap' = l then (⟨B, O + (o + d), none⟩ : Addr) else (⟨B, O + (o + d), none⟩ : Addr).add (l * i.size)).spot = none := by
      split
      · rfl
      · rw [add_eq rfl]
    rcases s5 with ⟨rfl, rfl⟩ | ⟨s5, s6, s7⟩
    · refine ⟨Nat.le_refl _, hsp, hsp', .inr ⟨B, O, n, X, sz, 0, by rw [hblk]; exact s2, ?_, .inl rfl, .inl ⟨rfl, rfl⟩⟩⟩
      cases hq : Nat.beq cap' l with
      | true =>
        have := Nat.eq_of_beq_eq_true hq
        rw [if_pos this]
        simp
      | false =>
        have : cap' ≠ l := fun e => by rw [e] at hq; simp at hq
        rw [if_neg this, add_eq rfl]
        simp [Nat.add_assoc]
    · have hsz : i.size = sz := by
        have := h2 s5 B O n X sz s2
        rw [hi] at this
        simpa using this
      subst hsz
      simp only at s5 s7
      refine ⟨s6, hsp, hsp', ?_⟩
      cases hq : Nat.beq cap l with
      | true =>
        have hcl := Nat.eq_of_beq_eq_true hq
        by_cases hc : cap' = l
        · refine .inr ⟨B, O, n, X, i.size, d, s2, ?_, .inr ⟨by omega, by omega⟩, .inr ⟨s5, by omega, ?_⟩⟩
          · rw [if_pos hc]; rfl
          · simp only [cond_true]
            have : cap' - l = 0 := by omega
            rw [this]
            simp
            omega
        · refine .inr ⟨B, O, n, X, i.size, d + l * i.size, s2, ?_, .inr ⟨by omega, by omega⟩, .inr ⟨s5, by omega, ?_⟩⟩
          · rw [if_neg hc, add_eq rfl]
            simp [Nat.add_assoc]
          · simp only [cond_true]
            have e1 : l * i.size + (cap' - l) * i.size = cap' * i.size := by
              rw [← Nat.add_mul]
              congr 1
              omega
            omega
      | false =>
        have hcl : cap ≠ l := fun e => by rw [e] at hq; simp at hq
        have hd : d = 0 := by
          rcases s4 with s4 | s4
          · exact s4
          · have := s4.2; omega
        subst hd
        have hc : cap' ≠ l := by omega
        refine .inr ⟨B, O, n, X, i.size, 0, s2, ?_, .inl rfl, .inr ⟨s5, by omega, ?_⟩⟩
        · rw [if_neg hc, add_eq rfl]
          simp [Nat.add_assoc]
        · simp only [cond_false]
          have e1 : l * i.size + (cap' - l) * i.size = cap' * i.size := by
            rw [← Nat.add_mul]
            congr 1
            omega
          omega
theorem cut_sim (R : RelK P N0 w0 ρ κ w) {t : TypeId} {x x' v : Value} {rd : List Nat} {lo hi : Option Int} {lo' hi' : Option Value} (hx : VR N0 ρ x x') (h : cutE P N0 κ t x lo hi = some (v, rd))
    (hlo : (lo = none ∧ lo' = none) ∨ ∃ n k, lo = some n ∧ lo' = some (.int k n)) (hhi : (hi = none ∧ hi' = none) ∨ ∃ n k, hi = some n ∧ hi' = some (.int k n)) :
    ∃ v', (Instr.sliceAt t x' lo' hi' none).run P w = .ok v' w ∧ CR N0 ρ v v' := by
  unfold cutE at h
  split at h
  · rename_i e len cap hd
    split at h
    · rename_i i l hh hi' hb
      simp only [Option.some.injEq, Prod.mk.injEq] at h
      obtain ⟨rfl, rfl⟩ := h
      have hx' := hx.closed_eq rfl
      subst hx'
      refine ⟨.slice none (hh - l) (cap - l), ?_, .nils _ _⟩
      unfold Instr.sliceAt Instr.slice
      simp only [Sem.run_bind, run_underlying hd, Result.andThen_ok, sliceBounds_run hb (Nat.le_refl _) hlo hhi w, sizeOf_run hi', Sem.run_pure, Option.map_none, ite_self]
    · cases h
  · rename_i e b of len cap hd
    split at h
    · rename_i i l hh hi' hb
      cases hr : (rowOk N0 κ b e && Nat.ble len cap) with
      | false => rw [hr] at h; cases h
      | true =>
        rw [hr] at h
        simp only [cond_true, Option.some.injEq, Prod.mk.injEq] at h
        obtain ⟨rfl, rfl⟩ := h
        simp only [Bool.and_eq_true] at hr
        have hlc := Nat.le_of_ble_eq_true hr.2
        cases hx with | one h1 => cases h1 with | one h2 => cases h2 with | sl h3 =>
        rename_i ad' cap'
        obtain ⟨g1, g2, g3⟩ := bounds_spec hb
        have hhc : hh ≤ cap := by
          cases hi with
          | none => simp only at g1; omega
          | some y => simp only at g1; omega
        obtain ⟨h4, h5⟩ := cut_slR R hi' hr.1 h3 g3 hhc
        refine ⟨.slice (some (if cap' = l then ad' else ad'.add (l * i.size))) (hh - l) (cap' - l), ?_, .sl h5⟩
        unfold Instr.sliceAt Instr.slice
        simp only [Sem.run_bind, run_underlying hd, Result.andThen_ok, sliceBounds_run hb h4 hlo hhi w, sizeOf_run hi', Sem.run_pure, Option.map_some]
        congr 2
        split <;> rfl
    · cases h
  · rename_i n e b of hd
    split at h
    · rename_i i l hh hi' hb
      simp only [Option.some.injEq, Prod.mk.injEq] at h
      obtain ⟨rfl, rfl⟩ := h
      cases hx with | one h1 => cases h1 with | one h2 => cases h2 with | ptr h3 =>
      rename_i ad'
      refine ⟨.slice (some (if n = l then ad' else ad'.add (l * i.size))) (hh - l) (n - l), ?_, ?_⟩
      · unfold Instr.sliceAt
        simp only [Sem.run_bind, run_underlying hd, Result.andThen_ok, Instr.sureAddr, sliceBounds_run hb (Nat.le_refl _) hlo hhi w, sizeOf_run hi', Sem.run_pure]
      · refine .sl ?_
        cases hq : Nat.beq n l with
        | true =>
          rw [if_pos (Nat.eq_of_beq_eq_true hq)]
          obtain ⟨_, r1, r2⟩ := h3
          refine ⟨rfl, r1, ?_⟩
          rcases r2 with r2 | ⟨B, O, n', X, sz, r2, r3⟩
          · exact .inl r2
          · exact .inr ⟨B, O, n', X, sz, 0, r2, r3, .inl rfl, .inl ⟨rfl, rfl⟩⟩
        | false =>
          have : n ≠ l := fun e => by rw [e] at hq; simp at hq
          rw [if_neg this]
          obtain ⟨_, r1, r2⟩ := h3.add (l * i.size)
          refine ⟨rfl, r1, ?_⟩
          rcases r2 with r2 | ⟨B, O, n', X, sz, r2, r3⟩
          · exact .inl r2
          · exact .inr ⟨B, O, n', X, sz, 0, r2, r3, .inl rfl, .inl ⟨rfl, rfl⟩⟩
    · cases h
  · cases h
theorem f2_u8 {L L' : List Value} {ns : List Int} (h : F2 (CR N0 ρ) L L') (hu : u8s L = some ns) : L' = ns.map (Value.int .u8) := by
  have e := u8s_eq hu
  have hf : L.all flat = true := by
    rw [e, List.all_eq_true]
    intro x hx
    obtain ⟨n, _, rfl⟩ := List.mem_map.1 hx
    rfl
  rw [f2_flat h hf, e]
theorem evL_sim (R : RelK P N0 w0 ρ κ w) (T : TR N0 ρ ts a.tmps) {v : Value} {rd : List Nat} (h : evL P N0 κ ts o = some (v, rd)) : ∃ v', (execOp a.eval o).run P w = .ok (.value v') w ∧ VR N0 ρ v v' := by
  unfold evL at h
  split at h
  · rename_i t x hop
    split at h
    · rename_i b of hx
      split at h
      · rename_i u hu
        simp only [Option.some.injEq, Prod.mk.injEq] at h
        obtain ⟨rfl, rfl⟩ := h
        obtain ⟨ad', h1, h2⟩ := opd_ptr T hx
        obtain ⟨v', h3, h4⟩ := load_sim R h2 hu
        refine ⟨v', ?_, .one h4⟩
        unfold execOp; rw [hop]
        simp only [h1, Instr.loadAt, Instr.sureAddr, Sem.run_bind, Sem.run_pure, Result.andThen_ok, h3]
      · cases h
    · cases h
  · rename_i s d x hop
    split at h
    · rename_i e b of l cp hs hd hx
      split at h
      · rename_i he
        split at h
        · rename_i L hL
          split at h
          · rename_i ns hns
            simp only [Option.some.injEq, Prod.mk.injEq] at h
            obtain ⟨rfl, rfl⟩ := h
            rcases opd_slice T hx with ⟨h0, _⟩ | ⟨ad, ad', cp', h0, h1, h2⟩
            · cases h0
            · simp only [Option.some.injEq] at h0
              subst h0
              refine ⟨.string (strOf ns), ?_, .one (.one (.str _))⟩
              have hl : (loadCells ad' l).run P w = .ok (ns.map (Value.int .u8)).toArray w := by
                by_cases hz : l = 0
                · subst hz
                  simp only [ldK, Option.some.injEq] at hL
                  subst hL
                  simp only [u8s, Option.some.injEq] at hns
                  subst hns
                  rfl
                · obtain ⟨L', g1, g2, g3⟩ := ldK_sim R _ _ _ _ (h2.ar hz) hL
                  have g4 := run_ldK (P := P) g3
                  rw [← g1.len, g2, f2_u8 g1 hns] at g4
                  exact g4
              unfold execOp; rw [hop]
              simp only [h1, Sem.run_bind, run_convert_bytes_string w s d e _ _ _ hs he hd, run_bytesToString w ad' l cp' ns hl, Result.andThen_ok, Sem.run_pure]
              rfl
          · cases h
        · cases h
      · cases h
    · cases h
  · rename_i t x lo hi hop
    split at h
    · rename_i u l hh hx hl hh'
      obtain ⟨v', h1, h2⟩ := cut_sim R (opd_sim T hx) h (optI_sim T hl) (optI_sim T hh')
      refine ⟨v', ?_, .one (.one h2)⟩
      unfold execOp; rw [hop]
      simp only [Sem.run_bind, Option.map_none, h1, Result.andThen_ok, Sem.run_pure]
    · cases h
  · cases h
end
end Go.Proofs.Ytbonmmpdpahhfaa.Can
