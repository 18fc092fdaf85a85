/- The engine: regions that draw their order: an operation that is no call. No law, no condition. -/
import Derived.Test.YtbonmmpdpahhfaaCanF
namespace Go.Proofs.Ytbonmmpdpahhfaa.Can
open Go.RowKit
set_option linter.unusedVariables false
set_option linter.unusedSimpArgs false
section
variable {P : Program} {N0 : Nat} {w0 : World} {C : CallE} {nt : Nat} {ops : Array Oper} {T : Nat → Tm} {Cw : Nat → World} {V : Nat → Value} {F : Nat → FP} {ρ ρ0 ρ' : Rho} {ws w w' : World} {df : List Deferred} {D : Nat → Bool} {a : Act} {i : Nat} {o : Oper}
theorem step_off (h : Nx P N0 w0 C nt ops T Cw V F D i o) (I : Inv P N0 w0 nt ops T Cw V F ρ0 ws df D ρ a w) (h1 : V i = undef) (h2 : Cw (i + 1) = Cw i) (h3 : F i = fp0) :
    Inv P N0 w0 nt ops T Cw V F ρ0 ws df (add1 D i) ρ (a.put o.dst undef) w := by
  have hov : ov Cw (add1 D i) ops.size = ov Cw D ops.size := funext fun b => ov_far h (by rw [h2])
  refine ⟨by rw [hov]; exact I.rel, fun b hb => (I.dom b hb).up, fun b hb => by rw [hov] at hb; exact (I.kdom b hb).up, ?_, tmp_out h I (Ext.refl ρ) (by rw [h1]; exact undef_VR), put_size.trans I.sz, put_defers.trans I.df, clo_out h, ?_, by rw [hov]; exact I.e0, by rw [hov]; exact I.e1, by rw [hov]; exact I.e2, by rw [hov]; exact I.e3, I.wsz⟩
  · intro k hk hD z hz
    by_cases hki : k = i
    · subst hki; rw [h3] at hz; cases hz
    · rw [add1_ne hki] at hD; exact (I.wrd k hk hD z hz).up
  · intro k hk hD b g1 g2
    by_cases hki : k = i
    · subst hki; rw [h2] at g2; omega
    · rw [add1_ne hki] at hD; exact I.tot k hk hD b g1 g2
theorem kapD_or {κ0 : Kap} {d : Dl} (g : GoodUps N0 κ0 d.ups) (m z : Nat) : (∀ κ, kapD κ m d z = κ z) ∧ (z = m → d.nw = none) ∧ (∀ ob, (z, ob) ∈ d.ups → False) ∨ ∃ x, (∀ κ, kapD κ m d z = some x) ∧ ((d.nw = some x ∧ z = m) ∨ ((z, x) ∈ d.ups ∧ ¬ (z = m ∧ d.nw ≠ none))) := by
  by_cases hm : z = m ∧ d.nw ≠ none
  · obtain ⟨rfl, hn⟩ := hm
    cases hq : d.nw with
    | none => exact absurd hq hn
    | some x =>
      refine .inr ⟨x, fun κ => ?_, .inl ⟨rfl, rfl⟩⟩
      unfold kapD; rw [hq]; exact upd_same
  · have hk : ∀ κ, kapD κ m d z = upsK κ d.ups z := fun κ => by
      unfold kapD
      cases hq : d.nw with
      | none => rfl
      | some x => exact upd_ne (fun e => hm ⟨e, by rw [hq]; simp⟩)
    rcases g with g | ⟨b, ob, cs, e, k, cs', e', f, g, _⟩
    · refine .inl ⟨fun κ => by rw [hk, g]; rfl, fun e => Classical.byContradiction fun hn => hm ⟨e, hn⟩, fun ob hz => by rw [g] at hz; cases hz⟩
    · by_cases hz : z = b
      · subst hz
        refine .inr ⟨ob, fun κ => ?_, .inr ⟨by rw [g]; simp, hm⟩⟩
        rw [hk, g]
        exact upd_same
      · refine .inl ⟨fun κ => ?_, fun e => Classical.byContradiction fun hn => hm ⟨e, hn⟩, fun ob' hh => ?_⟩
        · rw [hk, g]
          exact upd_ne hz
        · rw [g] at hh
          have := List.mem_singleton.1 hh
          simp only [Prod.mk.injEq] at this
          exact hz this.1
theorem step_D (h : Nx P N0 w0 C nt ops T Cw V F D i o) (I : Inv P N0 w0 nt ops T Cw V F ρ0 ws df D ρ a w) (hN : N0 ≤ (Cw 0).heap.size) {d : Dl} (hd : evD P N0 (Kof (Cw i)) (prune (o.looksAt ops) (T i)) (Cw i).heap.size o = some d)
    (hv : V i = d.v) (hcw : Cw (i + 1) = apC (Cw i) d) (hf : F i = ⟨d.rd, d.ups.map (fun x => x.1), false⟩) :
    ∃ v' w' ρ', ((execOp a.eval o).run P w = .ok (.value v') w' ∨ ((execOp a.eval o).run P w = .ok .skip w' ∧ v' = undef)) ∧ Inv P N0 w0 nt ops T Cw V F ρ0 ws df (add1 D i) ρ' (a.put o.dst v') w' := by
  have hi := h.lt
  have TRi := tr_in h I
  obtain ⟨hdom, hupin⟩ := evD_dom TRi hd
  have hDm : ∀ b ∈ d.rd, Dm Cw ops.size D b := fun b hb => I.dom b (hdom b hb)
  have hfit : ∀ b ∈ d.rd, Fits (Kof (Cw i)) (ov Cw D ops.size) b := fun b hb x hx => by
    rw [(ov_in h (hDm b hb) (kof_some_lt hx) (.inr (.inl (by rw [hf]; exact hb)))).1]
    exact hx
  have hd2 := evD_mono hd hfit
  have g0 := evD_good hd
  have g1 := evD_good hd2
  obtain ⟨hkap, hsz0⟩ := kof_ap (N0 := N0) g0
  have hsz : (d.nw = none → (Cw (i + 1)).heap.size = (Cw i).heap.size) ∧ (d.nw ≠ none → (Cw (i + 1)).heap.size = (Cw i).heap.size + 1) := by
    rw [hcw]
    unfold apC
    cases d.nw with
    | none => exact ⟨fun _ => hsz0, fun h => absurd rfl h⟩
    | some ob => exact ⟨(fun h => by cases h), fun _ => by simp [hsz0]⟩
  have hNi : N0 ≤ (Cw i).heap.size := Nat.le_trans hN (sz_mono h.hc (k := i) (by omega) 0 (by omega))
  have hc0 : (Cw 0).heap.size ≤ (Cw i).heap.size := sz_mono h.hc (k := i) (by omega) 0 (by omega)
  have hnewm : d.nw ≠ none → ¬ Dm Cw ops.size D (Cw i).heap.size := fun hn => (ov_new h I (Nat.le_refl _) (by rw [hsz.2 hn]; omega)).2
  have hm1 : d.nw ≠ none → ρ (Cw i).heap.size = none := fun hn => Classical.byContradiction fun hh => hnewm hn (I.dom _ hh)
  have hm2 : d.nw ≠ none → ov Cw D ops.size (Cw i).heap.size = none := fun hn => Classical.byContradiction fun hh => hnewm hn (I.kdom _ hh)
  obtain ⟨v', w', ρ', hp⟩ := evD_sim I.rel TRi hNi hm1 hm2 hd2
  have hupD : ∀ z ob, (z, ob) ∈ d.ups → Dm Cw ops.size D z := fun z ob hz => hDm z (hupin z ob hz)
  have huplt : ∀ z ob, (z, ob) ∈ d.ups → z < (Cw i).heap.size := fun z ob hz => by
    rcases g0 with g | ⟨b, ob1, cs, e, k, cs', e', f, g, q1, q2, q3⟩
    · rw [g] at hz; cases hz
    · rw [g] at hz
      have := List.mem_singleton.1 hz
      simp only [Prod.mk.injEq] at this
      rw [this.1]
      exact kof_some_lt q2
  have hov : ov Cw (add1 D i) ops.size = kapD (ov Cw D ops.size) (Cw i).heap.size d := by
    funext z
    rcases kapD_or g0 (Cw i).heap.size z with ⟨q1, _⟩ | ⟨x, q1, q2⟩
    · rw [q1]
      exact ov_far h (by rw [hcw, hkap, q1])
    · rw [q1]
      rcases q2 with ⟨q2, rfl⟩ | ⟨q2, q3⟩
      · rw [(ov_new h I (Nat.le_refl _) (by rw [hsz.2 (by rw [q2]; simp)]; omega)).1, hcw, hkap, q1]
      · rw [(ov_in h (hupD z x q2) (huplt z x q2) (.inr (.inl (by rw [hf]; exact hupin z x q2)))).2, hcw, hkap, q1]
  have hst : ∀ b, b < (Cw 0).heap.size → (ov Cw (add1 D i) ops.size b = ov Cw D ops.size b ∧ ∀ ob, (b, ob) ∉ d.ups) ∨ stamp (ov Cw D ops.size b) < stamp (ov Cw (add1 D i) ops.size b) := fun b hb => by
    rcases kapD_or g1 (Cw i).heap.size b with ⟨q1, _, q3⟩ | ⟨x, q1, q2⟩
    · left
      exact ⟨by rw [hov, q1], q3⟩
    · right
      rw [hov, q1]
      rcases q2 with ⟨_, rfl⟩ | ⟨q2, _⟩
      · omega
      · rcases g1 with g | ⟨b1, ob1, cs, e, k, cs', e', f, g, p1, p2, p3⟩
        · rw [g] at q2; cases q2
        · rw [g] at q2
          have := List.mem_singleton.1 q2
          simp only [Prod.mk.injEq] at this
          obtain ⟨rfl, rfl⟩ := this
          rw [p2, p3]
          simp only [stamp]
          omega
  have hstle : ∀ b, b < (Cw 0).heap.size → stamp (ov Cw D ops.size b) ≤ stamp (ov Cw (add1 D i) ops.size b) := fun b hb => by
    rcases hst b hb with ⟨q, _⟩ | q
    · rw [q]; exact Nat.le_refl _
    · omega
  have hst0 : ∀ b, b < (Cw 0).heap.size → stamp (Kof (Cw 0) b) ≤ stamp (ov Cw D ops.size b) := fun b hb => by
    rcases I.e0 b hb with q | q
    · rw [q]; exact Nat.le_refl _
    · omega
  have hups : ∀ z ob, (z, ob) ∈ d.ups → z < (Cw 0).heap.size → stamp (Kof (Cw 0) z) < stamp (ov Cw (add1 D i) ops.size z) := fun z ob hz hlt => by
    rcases hst z hlt with ⟨_, q⟩ | q
    · exact absurd hz (q ob)
    · exact Nat.lt_of_le_of_lt (hst0 z hlt) q
  have hlive : ∀ z ob B, (z, ob) ∈ d.ups → LiveAt ρ z B → ws.heap.size ≤ B ∨ ∃ b0, b0 < (Cw 0).heap.size ∧ LiveAt ρ0 b0 B ∧ stamp (Kof (Cw 0) b0) < stamp (ov Cw (add1 D i) ops.size b0) := fun z ob B hz hl => by
    by_cases hlt : z < (Cw 0).heap.size
    · right
      refine ⟨z, hlt, ?_, hups z ob hz hlt⟩
      rcases I.e1 z hlt with q | ⟨_, q⟩
      · obtain ⟨O, n, X, sz, q1⟩ := hl
        exact ⟨O, n, X, sz, q ▸ q1⟩
      · obtain ⟨O, n, X, sz, q1⟩ := hl
        rw [q] at q1; cases q1
    · rcases I.e3 z B (by omega) hl with q | ⟨b0, q1, q2, q3⟩
      · exact .inl q
      · exact .inr ⟨b0, q1, q2, Nat.lt_of_lt_of_le q3 (hstle b0 q1)⟩
  refine ⟨v', w', ρ', hp.run, by rw [hov]; exact hp.rel, ?_, ?_, ?_, tmp_out h I hp.ext (by rw [hv]; exact hp.val), put_size.trans I.sz, put_defers.trans I.df, clo_out h, ?_, ?_, ?_, ?_, ?_, Nat.le_trans I.wsz hp.size⟩
  · intro b hb
    by_cases hbm : b = (Cw i).heap.size
    · by_cases hn : d.nw = none
      · rw [hbm, hp.newN hn] at hb
        rw [hbm]; exact (I.dom _ hb).up
      · exact .inr ⟨i, hi, add1_same, by omega, by rw [hsz.2 hn]; omega⟩
    · by_cases hu : ∀ ob, (b, ob) ∉ d.ups
      · rw [hp.same b hbm hu] at hb; exact (I.dom _ hb).up
      · obtain ⟨ob, hob⟩ : ∃ ob, (b, ob) ∈ d.ups := Classical.byContradiction fun hc => hu fun ob hm => hc ⟨ob, hm⟩
        exact (hupD b ob hob).up
  · intro b hb
    rw [hov] at hb
    rcases kapD_or g1 (Cw i).heap.size b with ⟨q1, _⟩ | ⟨x, q1, q2⟩
    · rw [q1] at hb; exact (I.kdom _ hb).up
    · rcases q2 with ⟨q2, rfl⟩ | ⟨q2, _⟩
      · exact .inr ⟨i, hi, add1_same, by omega, by rw [hsz.2 (by rw [q2]; simp)]; omega⟩
      · exact (hupD b x q2).up
  · intro k hk hD z hz
    by_cases hki : k = i
    · subst hki
      rw [hf] at hz
      obtain ⟨⟨z', ob⟩, hz1, rfl⟩ := List.mem_map.1 hz
      exact (hupD z' ob hz1).up
    · rw [add1_ne hki] at hD; exact (I.wrd k hk hD z hz).up
  · intro k hk hD b q1 q2
    by_cases hki : k = i
    · subst hki
      by_cases hn : d.nw = none
      · rw [hsz.1 hn] at q2; omega
      · rw [hsz.2 hn] at q2
        obtain ⟨B, O, n, X, sz, q3, _⟩ := hp.newS hn
        have : b = (Cw k).heap.size := by omega
        rw [this, q3]; simp
    · rw [add1_ne hki] at hD
      have q3 := I.tot k hk hD b q1 q2
      rcases hp.ext b q3 with q4 | q4
      · rw [q4]; exact q3
      · rw [q4]; simp
  · intro b hb
    rcases hst b hb with ⟨q, _⟩ | q
    · rw [q]; exact I.e0 b hb
    · exact .inr (Nat.lt_of_le_of_lt (hst0 b hb) q)
  · intro b hb
    have hkeep : ρ' b = ρ b → ρ' b = ρ0 b ∨ (stamp (Kof (Cw 0) b) < stamp (ov Cw (add1 D i) ops.size b) ∧ ρ' b = some .dead) := fun q => by
      rcases I.e1 b hb with q1 | ⟨q1, q2⟩
      · exact .inl (q.trans q1)
      · exact .inr ⟨Nat.lt_of_lt_of_le q1 (hstle b hb), q.trans q2⟩
    by_cases hu : ∀ ob, (b, ob) ∉ d.ups
    · by_cases hbm : b = (Cw i).heap.size
      · omega
      · exact hkeep (hp.same b hbm hu)
    · obtain ⟨ob, hob⟩ : ∃ ob, (b, ob) ∈ d.ups := Classical.byContradiction fun hc => hu fun ob hm => hc ⟨ob, hm⟩
      rcases hp.chg b ob hob with q | q
      · exact hkeep q
      · exact .inr ⟨hups b ob hob hb, q⟩
  · intro B hB
    rcases hp.frame B (Nat.lt_of_lt_of_le hB I.wsz) with q | ⟨z, ob, q1, q2⟩
    · rcases I.e2 B hB with q1 | ⟨b, q1, q2, q3⟩
      · exact .inl (q.trans q1)
      · exact .inr ⟨b, q1, q2, Nat.lt_of_lt_of_le q3 (hstle b q1)⟩
    · rcases hlive z ob B q1 q2 with q3 | q3
      · omega
      · exact .inr q3
  · intro b B hb hl
    have hold : LiveAt ρ b B → ws.heap.size ≤ B ∨ ∃ b0, b0 < (Cw 0).heap.size ∧ LiveAt ρ0 b0 B ∧ stamp (Kof (Cw 0) b0) < stamp (ov Cw (add1 D i) ops.size b0) := fun q => by
      rcases I.e3 b B hb q with q1 | ⟨b0, q1, q2, q3⟩
      · exact .inl q1
      · exact .inr ⟨b0, q1, q2, Nat.lt_of_lt_of_le q3 (hstle b0 q1)⟩
    have hrw : ρ' b = ρ b → LiveAt ρ b B := fun q => by
      obtain ⟨O, n, X, sz, q1⟩ := hl
      exact ⟨O, n, X, sz, q ▸ q1⟩
    by_cases hbm : b = (Cw i).heap.size
    · by_cases hn : d.nw = none
      · exact hold (hrw (by rw [hbm]; exact hp.newN hn))
      · obtain ⟨B1, O, n, X, sz, q1, q2⟩ := hp.newS hn
        obtain ⟨O2, n2, X2, sz2, q3⟩ := hl
        rw [hbm, q1] at q3
        simp only [Option.some.injEq, Im.live.injEq] at q3
        obtain ⟨rfl, _⟩ := q3
        rcases q2 with q2 | ⟨z, ob, q2, q4⟩
        · exact .inl (Nat.le_trans I.wsz q2)
        · exact hlive z ob B1 q2 q4
    · by_cases hu : ∀ ob, (b, ob) ∉ d.ups
      · exact hold (hrw (hp.same b hbm hu))
      · obtain ⟨ob, hob⟩ : ∃ ob, (b, ob) ∈ d.ups := Classical.byContradiction fun hc => hu fun ob hm => hc ⟨ob, hm⟩
        rcases hp.chg b ob hob with q | q
        · exact hold (hrw q)
        · obtain ⟨O2, n2, X2, sz2, q3⟩ := hl
          rw [q] at q3; cases q3
end
end Go.Proofs.Ytbonmmpdpahhfaa.Can
