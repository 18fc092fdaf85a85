/- The engine: regions that draw their order: the run in the order of the text. No law, no condition. -/
import Derived.Test.YtbonmmpdpahhfaaCanD
namespace Go.Proofs.Ytbonmmpdpahhfaa.Can
open Go.RowKit
set_option linter.unusedVariables false
set_option linter.unusedSimpArgs false
section
variable {P : Program} {N0 : Nat} {w0 : World} {C : CallE} {nt : Nat} {ops : Array Oper} {T : Nat → Tm} {Cw : Nat → World} {V : Nat → Value} {F : Nat → FP} {ρ ρ0 : Rho} {ts : Tm} {c c' w : World} {o : Oper}
theorem evOpD_cases {v : Value} {fp : FP} (h : evOpD P N0 ts c o = some (v, c', fp)) : ∃ d, evD P N0 (Kof c) ts c.heap.size o = some d ∧ v = d.v ∧ c' = apC c d ∧ fp = ⟨d.rd, d.ups.map (fun x => x.1), false⟩ := by
  unfold evOpD at h
  split at h
  · rename_i d hd
    simp only [Option.some.injEq, Prod.mk.injEq] at h
    obtain ⟨rfl, rfl, rfl⟩ := h
    exact ⟨d, hd, rfl, rfl, rfl⟩
  · cases h
theorem evOp_cases {v : Value} {fp : FP} (h : evOp P N0 C ts c o = some (v, c', fp)) : (∃ d, evD P N0 (Kof c) ts c.heap.size o = some d ∧ v = d.v ∧ c' = apC c d ∧ fp = ⟨d.rd, d.ups.map (fun x => x.1), false⟩ ∧ ∀ c1, evOp P N0 C ts c1 o = evOpD P N0 ts c1 o) ∨
    ∃ cl f g captured xs, o.op = .call cl ∧ cl.callee = .value f ∧ opd ts f = some (.func (.func g) #[] captured) ∧ vals ts cl.args.toList = some xs ∧ C g (xs ++ captured.toList) c = some (v, c') ∧ fp = ⟨[], [], true⟩ := by
  unfold evOp at h
  split at h
  · rename_i cl hop
    split at h
    · rename_i f hcal
      split at h
      · rename_i g first captured xs hf hxs
        obtain ⟨hfi, h⟩ := cond_some h
        split at h
        · rename_i v1 c1 hc
          simp only [Option.some.injEq, Prod.mk.injEq] at h
          obtain ⟨rfl, rfl, rfl⟩ := h
          have hfirst : first = #[] := by simpa using hfi
          subst hfirst
          exact .inr ⟨cl, f, g, captured, xs, hop, hcal, hf, hxs, hc, rfl⟩
        · cases h
      · cases h
    · rename_i hno
      obtain ⟨d, h1, h2, h3, h4⟩ := evOpD_cases h
      refine .inl ⟨d, h1, h2, h3, h4, fun c1 => ?_⟩
      unfold evOp
      rw [hop]
      simp only
  · rename_i hno
    obtain ⟨d, h1, h2, h3, h4⟩ := evOpD_cases h
    refine .inl ⟨d, h1, h2, h3, h4, fun c1 => ?_⟩
    unfold evOp
    split
    · rename_i cl hcl; exact absurd hcl (hno cl)
    · rfl
theorem wp_exists {a : Act} {next : Act → World → Prop} (h : o.wp P a w next (fun _ _ _ => False)) : ∃ a' w', next a' w' := by
  unfold Oper.wp at h
  cases hr : (execOp a.eval o).run P w with
  | halt x w1 => rw [hr] at h; cases x <;> exact h.elim
  | ok n w1 =>
    rw [hr] at h
    cases n <;> first | exact ⟨_, _, h⟩ | exact h.elim | skip
    · rename_i f args
      rw [Oper.upon_enter] at h
      obtain ⟨e, w', fr, h1, _⟩ := h []
      cases e with
      | returned v => exact ⟨_, _, h1⟩
      | panicked ch => exact h1.elim
      | outgrown => obtain ⟨_, _, h2⟩ := h1; exact h2.elim
    · rename_i row args
      rw [Oper.upon_row] at h
      obtain ⟨v, w', h1, _⟩ := h default []
      exact ⟨_, _, h1⟩
theorem clean_of {ρ' : Rho} {w w' : World} (S : St ρ c w ρ' c' w') (h : cleanB c c' = true) : Clean c c' := by
  intro b hb
  rcases S.ch b hb with q | q
  · exact q
  · have := Nat.eq_of_beq_eq_true (List.all_eq_true.1 h b (List.mem_range.2 hb))
    omega
/-- what an operation changes canonically -/
def Chg (c c' : World) (fp : FP) : Prop := c.heap.size ≤ c'.heap.size ∧ ∀ b, ¬ (Kof c' b = Kof c b) → (b ∈ fp.wr ∧ b < c.heap.size) ∨ (c.heap.size ≤ b ∧ b < c'.heap.size)
theorem kof_some_lt {b : Nat} {x : Obj} (h : Kof c b = some x) : b < c.heap.size := (Array.getElem?_eq_some_iff.1 h).1
theorem chg_of_D {d : Dl} (g : GoodUps N0 (Kof c) d.ups) : Chg c (apC c d) ⟨d.rd, d.ups.map (fun x => x.1), false⟩ := by
  obtain ⟨hk, hsz⟩ := kof_ap (N0 := N0) g
  have hle : c.heap.size ≤ (apC c d).heap.size := by
    unfold apC
    cases d.nw with
    | none => simp [hsz]
    | some ob => simp [hsz]
  refine ⟨hle, fun b hb => ?_⟩
  by_cases hlt : b < c.heap.size
  · left
    refine ⟨?_, hlt⟩
    rw [hk] at hb
    have h1 : ¬ (upsK (Kof c) d.ups b = Kof c b) := by
      unfold kapD at hb
      cases hn : d.nw with
      | none => rw [hn] at hb; exact hb
      | some ob => rw [hn] at hb; simp only at hb; rwa [upd_ne (by omega)] at hb
    rcases g with g | ⟨b1, ob1, cs, e, k, cs', e', f, g, _⟩
    · rw [g] at h1; exact absurd rfl h1
    · rw [g] at h1 ⊢
      simp only [upsK] at h1
      have : b = b1 := Classical.byContradiction fun hne => h1 (upd_ne hne)
      rw [this]; simp
  · right
    refine ⟨by omega, ?_⟩
    have h0 : Kof c b = none := by simp [Kof]; omega
    rw [h0] at hb
    cases hq : Kof (apC c d) b with
    | none => exact absurd hq hb
    | some x => exact kof_some_lt hq
structure Rg (P : Program) (N0 : Nat) (w0 : World) (C : CallE) (nt : Nat) (ops : Array Oper) (T : Nat → Tm) (Cw : Nat → World) (V : Nat → Value) (F : Nat → FP) : Prop where
  H : TrH P N0 C nt ops ops.toList T Cw V F
  hC : SoundC P N0 w0 C
  pair : ∀ i j oi oj, i < j → ops[i]? = some oi → ops[j]? = some oj → Rch ops i j ∨ (oi.apart ops oj = true ∧ conf (F i) (F j) = false)
  back : ∀ k o, ops[k]? = some o → ∀ e ∈ o.after.toList, Region.binds .any e = true → e.on < k
theorem text_run (G : Rg P N0 w0 C nt ops T Cw V F) {tm : Array Value} (R : Rel P N0 w0 ρ0 (Cw 0) w) (T0 : TR N0 ρ0 (T 0) tm) (hs : tm.size = nt) : ∀ k, k ≤ ops.size →
    (∃ ρ w1 tm1, Rel P N0 w0 ρ (Cw k) w1 ∧ TR N0 ρ (T k) tm1 ∧ tm1.size = nt ∧ St ρ0 (Cw 0) w ρ (Cw k) w1) ∧ ∀ j, j < k → Chg (Cw j) (Cw (j + 1)) (F j) ∧ ((F j).cl = true → Clean (Cw j) (Cw (j + 1)))
  | 0, _ => ⟨⟨ρ0, w, tm, R, T0, hs, St.refl R.dom⟩, fun j hj => by omega⟩
  | k + 1, hk => by
    obtain ⟨⟨ρ, w1, tm1, h1, h2, h3, h4⟩, h5⟩ := text_run G R T0 hs k (by omega)
    obtain ⟨o, ho⟩ : ∃ o, ops[k]? = some o := ⟨ops[k], by simp⟩
    have ho' : ops.toList[k]? = some o := by simpa using ho
    obtain ⟨hd, hT, hc⟩ := G.H k o ho'
    rcases hc with ⟨hw, hop, hcl⟩ | ⟨hw, hv, hcw, hf⟩
    · have hstep := evOp_sim (a := ⟨tm1, []⟩) (Q := fun _ _ _ => False) (next := fun a' w' => ∃ ρ', Rel P N0 w0 ρ' (Cw (k + 1)) w' ∧ TR N0 ρ' (T (k + 1)) a'.tmps ∧ a'.tmps.size = nt ∧ St ρ (Cw k) w1 ρ' (Cw (k + 1)) w') G.hC h1 (h2.prune _) hop (by
        intro v' w' ρ' hr hvr hst
        refine ⟨ρ', hr, ?_, put_size.trans h3, hst⟩
        rw [hT]
        exact (h2.mono (hst.toExt h1.dom)).put (a := ⟨tm1, []⟩) (by rw [h3]; exact hd) hvr)
      obtain ⟨a', w', ρ', g1, g2, g3, g4⟩ := wp_exists hstep
      refine ⟨⟨ρ', w', a'.tmps, g1, g2, g3, h4.trans g4⟩, fun j hj => ?_⟩
      by_cases hjk : j = k
      · subst hjk
        rcases evOp_cases hop with ⟨d, e1, e2, e3, e4, _⟩ | ⟨cl, f, g, cap, xs, e1, e2, e3, e4, e5, e6⟩
        · rw [e3, e4]; exact ⟨chg_of_D (evD_good e1), fun hh => by cases hh⟩
        · have hcl' := clean_of g4 (hcl (by rw [e6]))
          refine ⟨⟨g4.cs, fun b hb => .inr ?_⟩, fun _ => hcl'⟩
          have hge : (Cw j).heap.size ≤ b := by
            rcases Nat.lt_or_ge b (Cw j).heap.size with hlt | hge
            · exact absurd (hcl' b hlt) hb
            · exact hge
          refine ⟨hge, ?_⟩
          have h0 : Kof (Cw j) b = none := by simp [Kof]; omega
          rw [h0] at hb
          cases hq : Kof (Cw (j + 1)) b with
          | none => exact absurd hq hb
          | some x => exact kof_some_lt hq
      · exact h5 j (by omega)
    · refine ⟨⟨ρ, w1, (Act.put ⟨tm1, []⟩ o.dst undef).tmps, by rw [hcw]; exact h1, ?_, put_size.trans h3, by rw [hcw]; exact h4⟩, fun j hj => ?_⟩
      · rw [hT, hv]
        exact h2.put (a := ⟨tm1, []⟩) (by rw [h3]; exact hd) undef_VR
      · by_cases hjk : j = k
        · subst hjk
          rw [hcw]
          exact ⟨⟨Nat.le_refl _, fun b hb => absurd rfl hb⟩, fun _ b _ => rfl⟩
        · exact h5 j (by omega)
end
end Go.Proofs.Ytbonmmpdpahhfaa.Can
