/- The engine: an operation looks at no more blocks than it says. No law, no condition. -/
import Derived.Test.YtbonmmpdpahhfaaCan14
namespace Go.Proofs.Ytbonmmpdpahhfaa.Can
open Go.RowKit
set_option linter.unusedVariables false
set_option linter.unusedSimpArgs false
section
variable {P : Program} {N0 : Nat} {ρ : Rho} {κ κ1 κ2 : Kap} {ts : Tm} {a : Act} {o : Oper}
def Fits (κ1 κ2 : Kap) (b : Nat) : Prop := ∀ x, κ1 b = some x → κ2 b = some x
theorem cellK_mono {b : Nat} (hb : Fits κ1 κ2 b) {of : Nat} {v : Value} (h : cellK κ1 ⟨b, of, none⟩ = some v) : cellK κ2 ⟨b, of, none⟩ = some v := by
  unfold cellK at h ⊢
  simp only at h ⊢
  cases hq : κ1 b with
  | none => rw [hq] at h; cases h
  | some x => rw [hq] at h; rw [hb x hq]; exact h
theorem ldK_mono {b : Nat} (hb : Fits κ1 κ2 b) : ∀ {n of : Nat} {L : List Value}, ldK N0 κ1 b n of = some L → ldK N0 κ2 b n of = some L
  | 0, of, L, h => h
  | n + 1, of, L, h => by
    simp only [ldK] at h ⊢
    split at h
    · rename_i v hv
      rw [cellK_mono hb hv]
      simp only
      cases hk : okL N0 b v with
      | false => rw [hk] at h; cases h
      | true =>
        rw [hk] at h
        simp only [cond_true] at h ⊢
        split at h
        · rename_i l hl
          rw [ldK_mono hb hl]
          exact h
        · cases h
    · cases h
theorem loadE_mono {b : Nat} (hb : Fits κ1 κ2 b) {t : TypeId} {of : Nat} {v : Value} (h : loadE P N0 κ1 t b of = some v) : loadE P N0 κ2 t b of = some v := by
  unfold loadE at h ⊢
  cases hd : P.underlying t with
  | none => rw [hd] at h; cases h
  | some d =>
    rw [hd] at h
    simp only at h ⊢
    cases hg : isAggD d with
    | true =>
      rw [hg] at h
      simp only [cond_true] at h ⊢
      cases hi : P.info? t with
      | none => rw [hi] at h; cases h
      | some i =>
        rw [hi] at h
        simp only at h ⊢
        cases hl : ldK N0 κ1 b i.size of with
        | none => rw [hl] at h; cases h
        | some L => rw [hl] at h; rw [ldK_mono hb hl]; exact h
    | false =>
      rw [hg] at h
      simp only [cond_false] at h ⊢
      cases hc : cellK κ1 ⟨b, of, none⟩ with
      | none => rw [hc] at h; cases h
      | some u => rw [hc] at h; rw [cellK_mono hb hc]; exact h
theorem rowOk_mono {b : Nat} (hb : Fits κ1 κ2 b) {e : TypeId} (h : rowOk N0 κ1 b e = true) : rowOk N0 κ2 b e = true := by
  unfold rowOk at h ⊢
  simp only [Bool.or_eq_true] at h ⊢
  rcases h with h | h
  · exact .inl h
  · right
    cases hq : κ1 b with
    | none => rw [hq] at h; cases h
    | some x => rw [hq] at h; rw [hb x hq]; exact h
theorem rowAt_mono {b : Nat} (hb : Fits κ1 κ2 b) {r : Array Value × TypeId × Nat} (h : rowAt N0 κ1 b = some r) : rowAt N0 κ2 b = some r := by
  unfold rowAt at h ⊢
  obtain ⟨h1, h⟩ := cond_some h
  rw [h1]
  simp only [cond_true]
  cases hq : κ1 b with
  | none => rw [hq] at h; cases h
  | some x => rw [hq] at h; rw [hb x hq]; exact h
theorem putE_mono {b of : Nat} (hb : Fits κ1 κ2 b) {vs : List Value} {ups : List (Nat × Obj)} (h : putE N0 κ1 b of vs = some ups) : putE N0 κ2 b of vs = some ups := by
  cases vs with
  | nil => exact h
  | cons v vs =>
    simp only [putE] at h ⊢
    cases hr : rowAt N0 κ1 b with
    | none => rw [hr] at h; cases h
    | some r => rw [hr] at h; rw [rowAt_mono hb hr]; exact h
theorem newsE_mono {size n : Nat} {x : Value} {news : List Value} {rd : List Nat} (h : newsE N0 κ1 size x n = some (news, rd)) (hb : ∀ b ∈ rd, Fits κ1 κ2 b) : newsE N0 κ2 size x n = some (news, rd) := by
  unfold newsE at h ⊢
  split at h
  · exact h
  · obtain ⟨h1, h⟩ := cond_some h
    rw [h1]
    simp only [cond_true]
    split at h
    · rename_i L hL
      simp only [Option.some.injEq, Prod.mk.injEq] at h
      obtain ⟨rfl, rfl⟩ := h
      rw [ldK_mono (hb _ (by simp)) hL]
    · cases h
  · exact h
  · cases h
theorem cutE_mono {t : TypeId} {x v : Value} {lo hi : Option Int} {rd : List Nat} (h : cutE P N0 κ1 t x lo hi = some (v, rd)) (hb : ∀ b ∈ rd, Fits κ1 κ2 b) : cutE P N0 κ2 t x lo hi = some (v, rd) := by
  unfold cutE at h ⊢
  split at h
  · exact h
  · split at h
    · obtain ⟨h1, h⟩ := cond_some h
      simp only [Option.some.injEq, Prod.mk.injEq] at h
      obtain ⟨rfl, rfl⟩ := h
      simp only [Bool.and_eq_true] at h1
      rw [rowOk_mono (hb _ (by simp)) h1.1, h1.2]
      rfl
    · cases h
  · exact h
  · cases h
theorem evL_mono {v : Value} {rd : List Nat} (h : evL P N0 κ1 ts o = some (v, rd)) (hb : ∀ b ∈ rd, Fits κ1 κ2 b) : evL P N0 κ2 ts o = some (v, rd) := by
  unfold evL at h ⊢
  split at h
  · split at h
    · split at h
      · rename_i u hu
        simp only [Option.some.injEq, Prod.mk.injEq] at h
        obtain ⟨rfl, rfl⟩ := h
        rw [loadE_mono (hb _ (by simp)) hu]
      · cases h
    · cases h
  · split at h
    · split at h
      · split at h
        · rename_i L hL
          split at h
          · rename_i ns hns
            simp only [Option.some.injEq, Prod.mk.injEq] at h
            obtain ⟨rfl, rfl⟩ := h
            rw [ldK_mono (hb _ (by simp)) hL]
            simp only [hns]
          · cases h
        · cases h
      · cases h
    · cases h
  · split at h
    · exact cutE_mono h hb
    · cases h
  · cases h
theorem roomE_mono {e size : Nat} {A : Option Addr} {l cp n : Nat} {news : List Value} {rd : List Nat} {d : Dl} (h : roomE N0 κ1 e size A l cp n news rd = some d) (hb : ∀ b ∈ d.rd, Fits κ1 κ2 b) : roomE N0 κ2 e size A l cp n news rd = some d := by
  unfold roomE at h ⊢
  split at h
  · exact h
  · obtain ⟨h1, h⟩ := cond_some h
    split at h
    · rename_i ups hups
      simp only [Option.some.injEq] at h
      subst h
      rw [rowOk_mono (hb _ (by simp)) h1, putE_mono (hb _ (by simp)) hups]
      rfl
    · cases h
  · cases h
theorem growE_mono {e size m : Nat} {A : Option Addr} {l cp n : Nat} {news : List Value} {rd : List Nat} {d : Dl} (h : growE N0 κ1 e size m A l cp n news rd = some d) (hb : ∀ b ∈ d.rd, Fits κ1 κ2 b) : growE N0 κ2 e size m A l cp n news rd = some d := by
  unfold growE at h ⊢
  split at h
  · exact h
  · rename_i b of
    obtain ⟨h1, h⟩ := cond_some h
    split at h
    · rename_i olds hol
      have hbb : Fits κ1 κ2 b := by
        rcases cond_or h with ⟨_, h⟩ | ⟨_, h⟩
        · simp only [Option.some.injEq] at h; subst h; exact hb _ (by simp)
        · split at h
          · simp only [Option.some.injEq] at h; subst h; exact hb _ (by simp)
          · cases h
      rw [rowOk_mono hbb h1, ldK_mono hbb hol]
      simp only [cond_true]
      rcases cond_or h with ⟨h2, h⟩ | ⟨h2, h⟩
      · rw [h2]; exact h
      · rw [h2]
        simp only [cond_false]
        split at h
        · rename_i cs e' k hr
          rw [rowAt_mono hbb hr]
          exact h
        · cases h
    · cases h
  · cases h
theorem roomE_rd {e size : Nat} {A : Option Addr} {l cp n : Nat} {news : List Value} {rd : List Nat} {d : Dl} (h : roomE N0 κ e size A l cp n news rd = some d) : ∀ b ∈ rd, b ∈ d.rd := by
  unfold roomE at h
  split at h
  · split at h
    · simp only [Option.some.injEq] at h; subst h; exact fun b hb => hb
    · cases h
  · obtain ⟨h1, h⟩ := cond_some h
    split at h
    · simp only [Option.some.injEq] at h; subst h; exact fun b hb => List.mem_cons_of_mem _ hb
    · cases h
  · cases h
theorem growE_rd {e size m : Nat} {A : Option Addr} {l cp n : Nat} {news : List Value} {rd : List Nat} {d : Dl} (h : growE N0 κ e size m A l cp n news rd = some d) : ∀ b ∈ rd, b ∈ d.rd := by
  unfold growE at h
  split at h
  · obtain ⟨h1, h⟩ := cond_some h
    simp only [Option.some.injEq] at h; subst h; exact fun b hb => hb
  · obtain ⟨h1, h⟩ := cond_some h
    split at h
    · rcases cond_or h with ⟨_, h⟩ | ⟨_, h⟩
      · simp only [Option.some.injEq] at h; subst h; exact fun b hb => List.mem_cons_of_mem _ hb
      · split at h
        · simp only [Option.some.injEq] at h; subst h; exact fun b hb => List.mem_cons_of_mem _ hb
        · cases h
    · cases h
  · cases h
theorem evW_mono {m : Nat} {d : Dl} (h : evW P N0 κ1 ts m o = some d) (hb : ∀ b ∈ d.rd, Fits κ1 κ2 b) : evW P N0 κ2 ts m o = some d := by
  unfold evW at h ⊢
  split at h
  · split at h
    · obtain ⟨h1, h⟩ := cond_none h
      rw [h1]
      simp only [cond_false]
      split at h
      · rename_i ups hups
        simp only [Option.some.injEq] at h
        subst h
        rw [putE_mono (hb _ (by simp)) hups]
      · cases h
    · cases h
  · split at h
    · split at h
      · split at h
        · split at h
          · rename_i z news rd hz hnews
            obtain ⟨h1, h⟩ := cond_some h
            have hrd : ∀ b ∈ rd, Fits κ1 κ2 b := by
              rcases cond_or h with ⟨_, h⟩ | ⟨_, h⟩
              · exact fun b hm => hb b (roomE_rd h b hm)
              · exact fun b hm => hb b (growE_rd h b hm)
            rw [newsE_mono hnews hrd, hz]
            simp only [h1, cond_true]
            rcases cond_or h with ⟨h2, h⟩ | ⟨h2, h⟩
            · rw [h2]; exact roomE_mono h hb
            · rw [h2]; exact growE_mono h hb
          · cases h
        · cases h
      · cases h
    · split at h
      · split at h
        · split at h
          · rename_i news rd hnews
            have hrd : ∀ b ∈ rd, Fits κ1 κ2 b := by
              split at h
              · simp only [Option.some.injEq] at h; subst h; exact hb
              · split at h
                · simp only [Option.some.injEq] at h; subst h; exact fun b hm => hb b (List.mem_cons_of_mem _ hm)
                · cases h
              · cases h
            rw [newsE_mono hnews hrd]
            simp only
            split at h
            · exact h
            · split at h
              · rename_i ups hups
                simp only [Option.some.injEq] at h
                subst h
                rw [putE_mono (hb _ (by simp)) hups]
              · cases h
            · cases h
          · cases h
        · cases h
      · cases h
    · cases h
  · split at h
    · obtain ⟨h1, h⟩ := cond_some h
      rw [h1]
      simp only [cond_true]
      split at h
      · rename_i cs e' k hr
        simp only [Option.some.injEq] at h
        subst h
        rw [rowAt_mono (hb _ (by simp)) hr]
      · cases h
    · cases h
  · cases h
theorem evA_evL {m : Nat} {r : List Value × TypeId × Value} (h : evA P ts m o = some r) : evL P N0 κ ts o = none := by
  unfold evA at h
  split at h
  · rename_i hop; unfold evL; rw [hop]
  · rename_i hop; unfold evL; rw [hop]
  · rename_i hop; unfold evL; rw [hop]
  · rename_i hop; unfold evL; rw [hop]
  · rename_i hop
    unfold evL; rw [hop]
    split at h
    · rename_i e b hs hd hx
      simp only [hs, hd]
    · cases h
  · cases h
theorem evW_evL {m : Nat} {d : Dl} (h : evW P N0 κ1 ts m o = some d) : evL P N0 κ2 ts o = none := by
  unfold evW at h
  split at h
  · rename_i hop; unfold evL; rw [hop]
  · rename_i hop; unfold evL; rw [hop]
  · rename_i s d1 x hop
    split at h
    · rename_i hs hd hx
      unfold evL; rw [hop]
      simp only [hs, hd]
    · cases h
  · cases h
theorem evD_mono {m : Nat} {d : Dl} (h : evD P N0 κ1 ts m o = some d) (hb : ∀ b ∈ d.rd, Fits κ1 κ2 b) : evD P N0 κ2 ts m o = some d := by
  unfold evD at h ⊢
  split at h
  · exact h
  · split at h
    · rename_i v rd hv
      simp only [Option.some.injEq] at h
      subst h
      rw [evL_mono hv hb]
    · split at h
      · rename_i hA
        rw [evA_evL hA]
        exact h
      · rename_i hA
        rw [evW_evL h]
        simp only
        exact evW_mono h hb
/-! ### the blocks that are looked at lie somewhere -/
theorem ar_dom {ad ad' : Addr} (h : AR ρ ad ad') : ρ ad.block ≠ none := by
  obtain ⟨_, _, h⟩ := h
  rcases h with h | ⟨_, _, _, _, _, h, _⟩ <;> rw [h] <;> simp
theorem slr_dom {ad ad' : Addr} {l cp cp' : Nat} (h : SlR N0 ρ ad l cp ad' cp') : ρ ad.block ≠ none := by
  obtain ⟨_, _, h⟩ := h
  rcases h with h | ⟨_, _, _, _, _, _, h, _⟩ <;> rw [h] <;> simp
theorem opd_sl_dom (T : TR N0 ρ ts a.tmps) {x : Operand} {b of l cp : Nat} (h : opd ts x = some (.slice (some ⟨b, of, none⟩) l cp)) : ρ b ≠ none := by
  rcases opd_slice T h with ⟨h0, _⟩ | ⟨ad, ad', cp', h0, _, h2⟩
  · cases h0
  · simp only [Option.some.injEq] at h0
    subst h0
    exact slr_dom h2
theorem opd_pt_dom (T : TR N0 ρ ts a.tmps) {x : Operand} {b of : Nat} (h : opd ts x = some (.pointer (some ⟨b, of, none⟩))) : ρ b ≠ none := by
  obtain ⟨_, _, h2⟩ := opd_ptr T h
  exact ar_dom h2
theorem newsE_dom (T : TR N0 ρ ts a.tmps) {size n : Nat} {y : Operand} {x : Value} {news : List Value} {rd : List Nat} (hx : opd ts y = some x) (h : newsE N0 κ size x n = some (news, rd)) : ∀ b ∈ rd, ρ b ≠ none := by
  unfold newsE at h
  split at h
  · obtain ⟨h1, h⟩ := cond_some h
    simp only [Option.some.injEq, Prod.mk.injEq] at h
    obtain ⟨_, rfl⟩ := h
    exact fun b hb => by cases hb
  · obtain ⟨h1, h⟩ := cond_some h
    split at h
    · simp only [Option.some.injEq, Prod.mk.injEq] at h
      obtain ⟨_, rfl⟩ := h
      intro b hb
      rw [List.mem_singleton.1 hb]
      exact opd_sl_dom T hx
    · cases h
  · obtain ⟨h1, h⟩ := cond_some h
    simp only [Option.some.injEq, Prod.mk.injEq] at h
    obtain ⟨_, rfl⟩ := h
    exact fun b hb => by cases hb
  · cases h
theorem evL_dom (T : TR N0 ρ ts a.tmps) {v : Value} {rd : List Nat} (h : evL P N0 κ ts o = some (v, rd)) : ∀ b ∈ rd, ρ b ≠ none := by
  unfold evL at h
  split at h
  · split at h
    · rename_i hx
      split at h
      · simp only [Option.some.injEq, Prod.mk.injEq] at h
        obtain ⟨_, rfl⟩ := h
        intro b hb
        rw [List.mem_singleton.1 hb]
        exact opd_pt_dom T hx
      · cases h
    · cases h
  · split at h
    · rename_i hx
      split at h
      · split at h
        · split at h
          · simp only [Option.some.injEq, Prod.mk.injEq] at h
            obtain ⟨_, rfl⟩ := h
            intro b hb
            rw [List.mem_singleton.1 hb]
            exact opd_sl_dom T hx
          · cases h
        · cases h
      · cases h
    · cases h
  · split at h
    · rename_i u l hh hx hl hh'
      unfold cutE at h
      split at h
      · split at h
        · simp only [Option.some.injEq, Prod.mk.injEq] at h
          obtain ⟨_, rfl⟩ := h
          exact fun b hb => by cases hb
        · cases h
      · split at h
        · obtain ⟨h1, h⟩ := cond_some h
          simp only [Option.some.injEq, Prod.mk.injEq] at h
          obtain ⟨_, rfl⟩ := h
          intro b hb
          rw [List.mem_singleton.1 hb]
          exact opd_sl_dom T hx
        · cases h
      · split at h
        · simp only [Option.some.injEq, Prod.mk.injEq] at h
          obtain ⟨_, rfl⟩ := h
          exact fun b hb => by cases hb
        · cases h
      · cases h
    · cases h
  · cases h
theorem putE_in {b of : Nat} {vs : List Value} {ups : List (Nat × Obj)} (h : putE N0 κ b of vs = some ups) : ∀ z ob, (z, ob) ∈ ups → z = b := by
  unfold putE at h
  split at h
  · simp only [Option.some.injEq] at h; subst h; exact fun z ob hz => by cases hz
  · split at h
    · obtain ⟨_, h⟩ := cond_some h
      simp only [Option.some.injEq] at h; subst h
      intro z ob hz
      have := List.mem_singleton.1 hz
      simp only [Prod.mk.injEq] at this
      exact this.1
    · cases h
theorem evW_dom (T : TR N0 ρ ts a.tmps) {m : Nat} {d : Dl} (h : evW P N0 κ ts m o = some d) : (∀ b ∈ d.rd, ρ b ≠ none) ∧ ∀ z ob, (z, ob) ∈ d.ups → z ∈ d.rd := by
  unfold evW at h
  split at h
  · split at h
    · rename_i hx hy
      obtain ⟨h1, h⟩ := cond_none h
      split at h
      · rename_i ups hups
        simp only [Option.some.injEq] at h
        subst h
        refine ⟨fun b hb => ?_, fun z ob hz => ?_⟩
        · rw [List.mem_singleton.1 hb]
          exact opd_pt_dom T hx
        · rw [putE_in hups z ob hz]; simp
      · cases h
    · cases h
  · split at h
    · split at h
      · rename_i ht hu hs hx
        split at h
        · split at h
          · rename_i z news rd hz hnews
            obtain ⟨h1, h⟩ := cond_some h
            have hrd := newsE_dom T hx hnews
            rcases cond_or h with ⟨h2, h⟩ | ⟨h2, h⟩
            · unfold roomE at h
              split at h
              · split at h
                · simp only [Option.some.injEq] at h; subst h
                  exact ⟨hrd, fun z ob hz => by cases hz⟩
                · cases h
              · obtain ⟨_, h⟩ := cond_some h
                split at h
                · rename_i ups hups
                  simp only [Option.some.injEq] at h; subst h
                  refine ⟨fun b hb => ?_, fun z ob hz => by rw [putE_in hups z ob hz]; simp⟩
                  rcases List.mem_cons.1 hb with rfl | hb
                  · exact opd_sl_dom T hs
                  · exact hrd b hb
                · cases h
              · cases h
            · unfold growE at h
              split at h
              · obtain ⟨_, h⟩ := cond_some h
                simp only [Option.some.injEq] at h; subst h
                exact ⟨hrd, fun z ob hz => by cases hz⟩
              · obtain ⟨_, h⟩ := cond_some h
                split at h
                · rcases cond_or h with ⟨_, h⟩ | ⟨_, h⟩
                  · simp only [Option.some.injEq] at h; subst h
                    refine ⟨fun b1 hb => ?_, fun z ob hz => by cases hz⟩
                    rcases List.mem_cons.1 hb with e | hb
                    · rw [e]; exact opd_sl_dom T hs
                    · exact hrd b1 hb
                  · split at h
                    · simp only [Option.some.injEq] at h; subst h
                      refine ⟨fun b1 hb => ?_, fun z ob hz => ?_⟩
                      · rcases List.mem_cons.1 hb with e | hb
                        · rw [e]; exact opd_sl_dom T hs
                        · exact hrd b1 hb
                      have := List.mem_singleton.1 hz
                      simp only [Prod.mk.injEq] at this
                      rw [this.1]; simp
                    · cases h
                · cases h
              · cases h
          · cases h
        · cases h
      · cases h
    · split at h
      · rename_i ht hs hx
        split at h
        · split at h
          · rename_i news rd hnews
            have hrd := newsE_dom T hx hnews
            split at h
            · simp only [Option.some.injEq] at h; subst h
              exact ⟨hrd, fun z ob hz => by cases hz⟩
            · split at h
              · rename_i ups hups
                simp only [Option.some.injEq] at h; subst h
                refine ⟨fun b hb => ?_, fun z ob hz => by rw [putE_in hups z ob hz]; simp⟩
                rcases List.mem_cons.1 hb with rfl | hb
                · exact opd_sl_dom T hs
                · exact hrd b hb
              · cases h
            · cases h
          · cases h
        · cases h
      · cases h
    · cases h
  · split at h
    · rename_i hs hd hx
      obtain ⟨h1, h⟩ := cond_some h
      split at h
      · rename_i cs e' k hr
        simp only [Option.some.injEq] at h; subst h
        refine ⟨fun b hb => ?_, fun z ob hz => ?_⟩
        · rw [List.mem_singleton.1 hb]
          exact opd_sl_dom T hx
        · have := List.mem_singleton.1 hz
          simp only [Prod.mk.injEq] at this
          simp [this.1]
      · cases h
    · cases h
  · cases h
theorem evD_dom (T : TR N0 ρ ts a.tmps) {m : Nat} {d : Dl} (h : evD P N0 κ ts m o = some d) : (∀ b ∈ d.rd, ρ b ≠ none) ∧ ∀ z ob, (z, ob) ∈ d.ups → z ∈ d.rd := by
  unfold evD at h
  split at h
  · simp only [Option.some.injEq] at h; subst h; exact ⟨(fun b hb => by cases hb), fun z ob hz => by cases hz⟩
  · split at h
    · rename_i hv
      simp only [Option.some.injEq] at h; subst h
      exact ⟨evL_dom T hv, fun z ob hz => by cases hz⟩
    · split at h
      · simp only [Option.some.injEq] at h; subst h; exact ⟨(fun b hb => by cases hb), fun z ob hz => by cases hz⟩
      · exact evW_dom T h
end
end Go.Proofs.Ytbonmmpdpahhfaa.Can
