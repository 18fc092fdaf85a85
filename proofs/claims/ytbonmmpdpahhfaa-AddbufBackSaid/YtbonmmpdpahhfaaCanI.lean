/- The engine: regions that draw their order: whatever the order. No law, no condition. -/
import Derived.Test.YtbonmmpdpahhfaaCanH
namespace Go.Proofs.Ytbonmmpdpahhfaa.Can
open Go.RowKit
set_option linter.unusedVariables false
set_option linter.unusedSimpArgs false
section
variable {P : Program} {N0 : Nat} {w0 : World} {C : CallE} {nt : Nat} {ops : Array Oper} {T : Nat → Tm} {Cw : Nat → World} {V : Nat → Value} {F : Nat → FP} {ρ ρ0 : Rho} {ws w wy : World} {df : List Deferred} {a : Act} {Q : Exit → Act → World → Prop}
def lst (l : Array Bool) : Nat → Bool := fun k => l.getD k false
def cnt (n : Nat) (l : Array Bool) : Nat := ((List.range n).filter fun k => !(lst l k)).length
theorem filter_le {p q : Nat → Bool} (h : ∀ x, q x = true → p x = true) : ∀ l : List Nat, (l.filter q).length ≤ (l.filter p).length
  | [] => Nat.le_refl _
  | x :: l => by
    have := filter_le h l
    simp only [List.filter_cons]
    cases hq : q x with
    | true => rw [h x hq]; simp; exact this
    | false =>
      cases p x
      · simpa using this
      · simp; omega
theorem filter_lt {p q : Nat → Bool} (h : ∀ x, q x = true → p x = true) {j : Nat} (hp : p j = true) (hq : q j = false) : ∀ l : List Nat, j ∈ l → (l.filter q).length < (l.filter p).length
  | [], hm => by cases hm
  | x :: l, hm => by
    simp only [List.filter_cons]
    rcases List.mem_cons.1 hm with rfl | hm
    · rw [hp, hq]
      have := filter_le h l
      simp
      omega
    · have := filter_lt h hp hq l hm
      cases hqx : q x with
      | true => rw [h x hqx]; simp; exact this
      | false =>
        cases p x
        · simpa using this
        · simp; omega
theorem lst_set {l : Array Bool} {i : Nat} (hi : i < l.size) : lst (l.setIfInBounds i true) = add1 (lst l) i := by
  funext k
  unfold lst add1
  by_cases hk : k = i
  · subst hk
    simp [hi]
  · rw [if_neg hk]
    simp [Array.getD_eq_getD_getElem?, Array.getElem?_setIfInBounds_ne (Ne.symm hk)]
theorem wpAny_inv (G : Rg P N0 w0 C nt ops T Cw V F) (hc : ∀ j, j < ops.size → Chg (Cw j) (Cw (j + 1)) (F j)) (hclean : ∀ j, j < ops.size → (F j).cl = true → Clean (Cw j) (Cw (j + 1))) (hN : N0 ≤ (Cw 0).heap.size)
    (text : ∀ k, k ≤ ops.size → ∃ ρs wx tmx, Rel P N0 w0 ρs (Cw k) wx ∧ TR N0 ρs (T k) tmx ∧ St ρ0 (Cw 0) wy ρs (Cw k) wx)
    (fin : ∀ D ρ a w, Inv P N0 w0 nt ops T Cw V F ρ0 ws df D ρ a w → (∀ k, k < ops.size → D k = true) → Q .normal a w) :
    ∀ (fuel : Nat) (l : Array Bool) (ρ : Rho) (a : Act) (w : World), l.size = ops.size → cnt ops.size l ≤ fuel → Inv P N0 w0 nt ops T Cw V F ρ0 ws df (lst l) ρ a w → wpAny P .any ops Q fuel l a w := by
  have hall : ∀ l : Array Bool, l.size = ops.size → Region.ready .any ops l = [] → ∀ k, k < ops.size → lst l k = true := by
    intro l hl hr k
    induction k using Nat.strongRecOn with
    | _ k ih =>
      intro hk
      cases hq : lst l k with
      | true => rfl
      | false =>
        exfalso
        obtain ⟨o, ho⟩ := op_of hk
        have : k ∈ Region.ready .any ops l := by
          refine mem_ready.2 ⟨?_, o, ho, fun e he hb => ?_⟩
          · unfold lst at hq
            simpa [hl, hk] using hq
          · have hlt := G.back k o ho e (by simpa using he) hb
            exact ih e.on hlt (by omega)
        rw [hr] at this
        cases this
  intro fuel
  induction fuel with
  | zero =>
    intro l ρ a w hl hcnt I
    have hal : ∀ k, k < ops.size → lst l k = true := fun k hk => by
      cases hq : lst l k with
      | true => rfl
      | false =>
        exfalso
        have hm : k ∈ (List.range ops.size).filter fun k => !(lst l k) := List.mem_filter.2 ⟨List.mem_range.2 hk, by simp [hq]⟩
        have := List.length_pos_of_mem hm
        unfold cnt at hcnt
        omega
    refine ⟨?_, fin _ _ _ _ I hal⟩
    cases hr : Region.ready .any ops l with
    | nil => rfl
    | cons x r =>
      exfalso
      have hx : x ∈ Region.ready .any ops l := by rw [hr]; simp
      obtain ⟨h1, o, h2, _⟩ := mem_ready.1 hx
      have hxn : x < ops.size := (Array.getElem?_eq_some_iff.1 h2).1
      have := hal x hxn
      unfold lst at this
      simp [hl, hxn] at this h1
      rw [this] at h1
      cases h1
  | succ fuel ih =>
    intro l ρ a w hl hcnt I
    refine ⟨fun hr => fin _ _ _ _ I (hall l hl hr), fun i hi => ?_⟩
    obtain ⟨h1, o, h2, h3⟩ := mem_ready.1 hi
    have hin : i < ops.size := (Array.getElem?_eq_some_iff.1 h2).1
    have hDi : lst l i = false := by
      unfold lst
      simpa [hl, hin] using h1
    have hNx : Nx P N0 w0 C nt ops T Cw V F (lst l) i o := ⟨G, hc, h2, hDi, fun e he hb => h3 e (by simpa using he) hb, I.clo⟩
    have hcnt' : cnt ops.size (l.setIfInBounds i true) ≤ fuel := by
      have : cnt ops.size (l.setIfInBounds i true) < cnt ops.size l := by
        unfold cnt
        rw [lst_set (by omega)]
        refine filter_lt (j := i) (fun x hx => ?_) (by simp [hDi]) (by simp [add1_same]) _ (List.mem_range.2 hin)
        cases hq : lst l x with
        | false => rfl
        | true => rw [add1_up hq] at hx; cases hx
      omega
    have next : ∀ ρ' a' w', Inv P N0 w0 nt ops T Cw V F ρ0 ws df (add1 (lst l) i) ρ' a' w' → wpAny P .any ops Q fuel (l.setIfInBounds i true) a' w' := fun ρ' a' w' I' =>
      ih _ ρ' a' w' (by simpa using hl) hcnt' (by rw [lst_set (by omega)]; exact I')
    unfold wpOp
    rw [h2]
    simp only
    obtain ⟨hd, hT, hcase⟩ := G.H i o (by simpa using h2)
    rcases hcase with ⟨hw, hop, hcl⟩ | ⟨hw, hv, hcw, hf⟩
    · rw [wantE_sim (tr_in hNx I) hw, if_pos rfl]
      left
      rcases evOp_cases hop with ⟨d, e1, e2, e3, e4, _⟩ | ⟨cl, f, g, cap, xs, e1, e2, e3, e4, e5, e6⟩
      · obtain ⟨v', w', ρ', hr, I'⟩ := step_D hNx I hN e1 e2 e3 e4
        unfold Oper.wp
        rcases hr with hr | ⟨hr, rfl⟩
        · rw [hr]; exact next ρ' _ w' I'
        · rw [hr]; exact next ρ' _ w' I'
      · obtain ⟨ρs, wx, tmx, t1, t2, t3⟩ := text i (by omega)
        obtain ⟨args', hr, hcalls⟩ := step_C hNx I hN t1 t2 t3 e1 e2 e3 e4 e5 e6 (hclean i hin (by rw [e6]))
        unfold Oper.wp
        rw [hr, Oper.upon_enter]
        refine Calls.mono hcalls ?_
        rintro e w' ⟨v', ρ', rfl, I'⟩
        exact next ρ' _ w' I'
    · rw [wantE_sim (tr_in hNx I) hw, if_neg (by simp)]
      exact next ρ _ w (step_off hNx I hv hcw hf)
theorem find_rng : ∀ (n : Nat) (b : Nat), (Cw 0).heap.size ≤ b → b < (Cw n).heap.size → ∃ k, k < n ∧ (Cw k).heap.size ≤ b ∧ b < (Cw (k + 1)).heap.size
  | 0, b, h1, h2 => by omega
  | n + 1, b, h1, h2 => by
    by_cases h : b < (Cw n).heap.size
    · obtain ⟨k, q1, q2, q3⟩ := find_rng n b h1 h
      exact ⟨k, by omega, q2, q3⟩
    · exact ⟨n, by omega, by omega, h2⟩
end
theorem evDrawn_sim {P : Program} {N0 : Nat} {w0 : World} {ρ : Rho} {c c' w : World} {ts ts' : Tm} {a : Act} {C : CallE} {Q : Exit → Act → World → Prop} {ops : Array Oper} {nt id : Nat}
    (hm : P.follows .mixedOrders = true) (hC : SoundC P N0 w0 C) (h : evDrawn P N0 C nt ops ts c = some (ts', c')) (R : Rel P N0 w0 ρ c w) (T : TR N0 ρ ts a.tmps) (hs : a.tmps.size = nt)
    (hQ : ∀ (a' : Act) (w' : World) (ρ' : Rho), Rel P N0 w0 ρ' c' w' → TR N0 ρ' ts' a'.tmps → a'.tmps.size = nt → a'.defers = a.defers → St ρ c w ρ' c' w' → Q .normal a' w') : (Code.region id ops true).wp P Q a w := by
  unfold evDrawn at h
  split at h
  · rename_i l hl
    obtain ⟨hchk, h⟩ := cond_some h
    simp only [Option.some.injEq, Prod.mk.injEq] at h
    obtain ⟨h1, h2⟩ := h
    obtain ⟨hlen, hH⟩ := tr_spec _ _ _ _ hl
    simp only [chk, Bool.and_eq_true] at hchk
    generalize hTT : (fun k => runT (ops.toList.take k) (l.take k) ts) = TT at hH
    generalize hCC : (fun k => lastC (l.take k) c) = CC at hH
    generalize hVV : (fun k => (l.map (fun x => x.v)).getD k undef) = VV at hH
    generalize hFF : (fun k => (l.map (fun x => x.fp)).getD k fp0) = FF at hH
    have hT0 : TT 0 = ts := by rw [← hTT]; rfl
    have hC0 : CC 0 = c := by rw [← hCC]; rfl
    have hTn : TT ops.size = ts' := by
      rw [← hTT, ← h1]
      simp only
      rw [List.take_of_length_le (by simp), List.take_of_length_le (by rw [hlen]; simp)]
    have hCn : CC ops.size = c' := by
      rw [← hCC, ← h2]
      simp only
      rw [List.take_of_length_le (by rw [hlen]; simp)]
    have hmask : ∀ k i, Nat.testBit ((masks ops.toList []).getD k 0) i = true → Rch ops i k := masks_spec ops.toList [] (fun k o hk => by simpa using hk) (fun k i hb => by simp at hb)
    have G : Rg P N0 w0 C nt ops TT CC VV FF := by
      refine ⟨hH, hC, ?_, ?_⟩
      · intro i j oi oj hij hi hj
        have hjn : j < ops.size := (Array.getElem?_eq_some_iff.1 hj).1
        have := List.all_eq_true.1 (List.all_eq_true.1 hchk.2 j (List.mem_range.2 hjn)) i (List.mem_range.2 hij)
        simp only [Bool.or_eq_true, Bool.and_eq_true, Bool.not_eq_true'] at this
        rcases this with q | ⟨q1, q2⟩
        · exact .inl (hmask j i q)
        · right
          rw [hi, hj] at q1
          exact ⟨q1, by rw [← hFF]; exact q2⟩
      · intro k o hk e he hb
        have := back_spec ops.toList 0 hchk.1 k o (by simpa using hk) e he hb
        omega
    have hRun := fun k hk => text_run (w := w) (ρ0 := ρ) (tm := a.tmps) G (by rw [hC0]; exact R) (by rw [hT0]; exact T) hs k hk
    have hcg : ∀ j, j < ops.size → Chg (CC j) (CC (j + 1)) (FF j) := fun j hj => ((hRun ops.size (Nat.le_refl _)).2 j hj).1
    have hmono : ∀ k, k ≤ ops.size → (CC k).heap.size ≤ (CC ops.size).heap.size := fun k hk => sz_mono hcg (k := ops.size) (Nat.le_refl _) k hk
    refine wp_region_any hm ?_
    refine wpAny_inv (ws := { w with drawn := w.drawn + 1 }) (df := a.defers) (ρ0 := ρ) (wy := w) G hcg (fun j hj => ((hRun ops.size (Nat.le_refl _)).2 j hj).2) (by rw [hC0]; exact R.cz) (fun k hk => ?_) ?_ ops.size (Array.replicate ops.size false) ρ a _ (by simp) ?_ ?_
    · obtain ⟨ρs, wx, tmx, q1, q2, q3, q4⟩ := (hRun k hk).1
      exact ⟨ρs, wx, tmx, q1, q2, q4⟩
    · intro D ρ' a' w' I hal
      have hov : ∀ b, ov CC D ops.size b = Kof (CC ops.size) b := fun b => by
        have := ov_agree (Cw := CC) (D := D) (b := b) (i := ops.size) ops.size (fun k hk _ => by simp [hal k hk, hk])
        rwa [Nat.min_self] at this
      have htv : ∀ t, tv TT VV (dsOf ops) D ops.size t = tget (TT ops.size) t := fun t => by
        have := tv_agree (V := VV) (ds := dsOf ops) (D := D) (t := t) (i := ops.size) ops.size (T_step G) (fun k hk _ => by simp [hal k hk, hk])
        rwa [Nat.min_self] at this
      obtain ⟨ρs, wx, tmx, q1, q2, q3, q4⟩ := (hRun ops.size (Nat.le_refl _)).1
      rw [hC0, hCn] at q4
      have hst0 : ∀ b, Kof (CC 0) b = c.heap[b]? := fun b => by rw [hC0]; rfl
      have hstn : ∀ b, ov CC D ops.size b = c'.heap[b]? := fun b => by rw [hov, hCn]; rfl
      refine hQ a' w' ρ' ⟨?_, ?_, ?_⟩ ?_ I.sz I.df ⟨q4.cs, I.wsz, q4.ch, ?_, ?_, ?_, ?_⟩
      · have : ov CC D ops.size = Kof c' := funext fun b => hstn b
        rw [← this]
        exact I.rel
      · intro b hb
        rw [← hCn]
        rcases I.dom b hb with q | ⟨k, p1, _, p2, p3⟩
        · exact Nat.lt_of_lt_of_le q (hmono 0 (by omega))
        · exact Nat.lt_of_lt_of_le p3 (hmono (k + 1) (by omega))
      · exact Nat.le_trans R.cz q4.cs
      · intro t ht
        rw [← hTn, ← htv] at ht ⊢
        exact I.tmp t ht
      · intro b hb
        have := I.e1 b (by rw [hC0]; exact hb)
        rwa [hst0, hstn] at this
      · intro B hB
        rcases I.e2 B hB with p | ⟨b, p1, p2, p3⟩
        · exact .inl p
        · rw [hst0, hstn] at p3
          exact .inr ⟨b, by rw [hC0] at p1; exact p1, p2, p3⟩
      · intro b B hb hl
        rcases I.e3 b B (by rw [hC0]; exact hb) hl with p | ⟨b0, p1, p2, p3⟩
        · exact .inl p
        · rw [hst0, hstn] at p3
          exact .inr ⟨b0, by rw [hC0] at p1; exact p1, p2, p3⟩
      · intro b hb1 hb2
        obtain ⟨k, p1, p2, p3⟩ := find_rng (Cw := CC) ops.size b (by rw [hC0]; exact hb1) (by rw [hCn]; exact hb2)
        exact I.tot k p1 (hal k p1) b p2 p3
    · unfold cnt
      exact Nat.le_trans (List.length_filter_le _ _) (by simp)
    · have hD : ∀ k, lst (Array.replicate ops.size false) k = false := fun k => by
        unfold lst
        by_cases hk : k < ops.size
        · simp [hk]
        · simp [hk]
      have hov : ∀ n b, ov CC (lst (Array.replicate ops.size false)) n b = Kof (CC 0) b := fun n b => by
        have := ov_agree (Cw := CC) (D := lst (Array.replicate ops.size false)) (b := b) (i := 0) n (fun k hk _ => by simp [hD k])
        rwa [Nat.min_zero] at this
      have htv : ∀ t, tv TT VV (dsOf ops) (lst (Array.replicate ops.size false)) ops.size t = tget ts t := fun t => by
        have := tv_agree (V := VV) (ds := dsOf ops) (D := lst (Array.replicate ops.size false)) (t := t) (i := 0) ops.size (T_step G) (fun k hk _ => by simp [hD k])
        rwa [Nat.min_zero, hT0] at this
      have hovf : ov CC (lst (Array.replicate ops.size false)) ops.size = Kof c := funext fun b => by rw [hov, hC0]
      refine ⟨by rw [hovf]; exact R.k.same ⟨rfl, rfl, rfl, Nat.le_refl _, fun _ _ => rfl⟩, fun b hb => .inl (by rw [hC0]; exact R.dom b hb), fun b hb => .inl ?_, fun k _ hk => (by rw [hD k] at hk; cases hk), fun t ht => by rw [htv] at ht ⊢; exact T t ht, hs, rfl,
        fun j o e _ _ _ hj => (by rw [hD j] at hj; cases hj), fun k _ hk => (by rw [hD k] at hk; cases hk), fun b _ => .inl (hov _ b), fun b _ => .inl rfl, fun B _ => .inl rfl, fun b B hb hlv => ?_, Nat.le_refl _⟩
      · rw [hov] at hb
        cases hq : Kof (CC 0) b with
        | none => exact absurd hq hb
        | some x => exact kof_some_lt hq
      · exfalso
        obtain ⟨O, n, X, sz, q⟩ := hlv
        have := R.dom b (by rw [q]; simp)
        rw [hC0] at hb
        omega
  · cases h
end Go.Proofs.Ytbonmmpdpahhfaa.Can
