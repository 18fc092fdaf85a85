/- Rows of a right tree: what the reader reads, what the reference sees. No law, no condition. -/
import Derived.Test.YtpjlgjhkdligfaaKSN
namespace Go.Proofs.Ytpjlgjhkdligfaa.Vg
open Go.RowKit
set_option linter.unusedVariables false
set_option linter.unusedSimpArgs false
/-- a right tree -/
def Tr.Ch : Tr → Prop
  | .nil => True
  | .nd p c a b => Fit p ∧ a.blk = b.blk ∧ (c = true → a.red = false ∧ b.red = false) ∧ a.Ch ∧ b.Ch
def Tr.rws : Tr → List Rw
  | .nil => []
  | .nd p c a b => ⟨p, c, a.ne, b.ne, cntF (enc (.nd p c a b)), sizF (enc (.nd p c a b)), lnsF (enc (.nd p c a b))⟩ :: (a.rws ++ b.rws)
def Tr.su (t : Tr) : Su := ⟨t.red, t.blk, hghF (enc t), cntF (enc t), sizF (enc t), lnsF (enc t)⟩
def Tr.bh : Tr → Nat
  | .nil => 0
  | .nd _ c a _ => bif c then a.bh else a.bh + 1
def Tr.hg : Tr → Nat
  | .nil => 0
  | .nd _ _ a b => 1 + max a.hg b.hg
theorem rws_len : ∀ t : Tr, t.rws.length = t.num
  | .nil => rfl
  | .nd p c a b => by
    show (a.rws ++ b.rws).length + 1 = a.num + 1 + b.num
    rw [List.length_append, rws_len a, rws_len b]; omega
theorem Ch.ok : ∀ {t : Tr}, t.Ch → t.Ok
  | .nil, _ => trivial
  | .nd p c a b, h => ⟨h.1, Ch.ok h.2.2.2.1, Ch.ok h.2.2.2.2⟩
theorem bh_blk : ∀ t : Tr, t.blk = t.bh
  | .nil => rfl
  | .nd p c a b => by
    rw [blk_nd, bh_blk a]
    cases c <;> simp [Tr.bh]
theorem ch_hg : ∀ {t : Tr}, t.Ch → t.hg ≤ 2 * t.bh + (bif t.red then 1 else 0)
  | .nil, _ => Nat.zero_le _
  | .nd p c a b, h => by
    obtain ⟨_, hb, hc, ha, hb2⟩ := h
    have h1 := ch_hg ha
    have h2 := ch_hg hb2
    have h3 : a.bh = b.bh := by have := hb; rw [bh_blk, bh_blk] at this; omega
    show 1 + max a.hg b.hg ≤ 2 * (bif c then a.bh else a.bh + 1) + (bif c then 1 else 0)
    cases c with
    | true =>
      obtain ⟨r1, r2⟩ := hc rfl
      rw [r1] at h1
      rw [r2] at h2
      simp only [cond_true, cond_false] at *
      omega
    | false =>
      have : ∀ x : Bool, (bif x then 1 else 0 : Nat) ≤ 1 := fun x => by cases x <;> decide
      have q1 := this a.red
      have q2 := this b.red
      simp only [cond_false]
      omega
theorem ch_pow : ∀ {t : Tr}, t.Ch → 2 ^ t.bh ≤ t.num + 1
  | .nil, _ => Nat.le_refl _
  | .nd p c a b, h => by
    obtain ⟨_, hb, hc, ha, hb2⟩ := h
    have h1 := ch_pow ha
    have h2 := ch_pow hb2
    have h3 : a.bh = b.bh := by have := hb; rw [bh_blk, bh_blk] at this; omega
    rw [← h3] at h2
    show 2 ^ (bif c then a.bh else a.bh + 1) ≤ a.num + 1 + b.num + 1
    cases c with
    | true => simp only [cond_true]; omega
    | false => simp only [cond_false]; rw [Nat.pow_succ]; omega
theorem ch_low {t : Tr} (h : t.Ch) (hn : t.num ≤ 65536) : t.hg ≤ 129 := by
  have h1 := ch_hg h
  have h2 := ch_pow h
  have h3 : t.bh < 17 := by
    rcases Nat.lt_or_ge t.bh 17 with h3 | h3
    · exact h3
    · have := Nat.pow_le_pow_right (n := 2) (by decide) h3
      omega
  have h4 : (bif t.red then 1 else 0 : Nat) ≤ 1 := by cases t.red <;> decide
  omega
theorem mk_su {x : Rw} {a b : Tr} (hp : Fit x.p) (ha : a.Ok) (hb : b.Ok) (hn : a.num + 1 + b.num ≤ 65536) : mkS x a.su b.su = (Tr.nd x.p x.c a b).su := by
  obtain ⟨a1, a2, a3, a4, a5, a6, a7, a8, a9⟩ := sums_t ha
  obtain ⟨b1, b2, b3, b4, b5, b6, b7, b8, b9⟩ := sums_t hb
  obtain ⟨p1, p2, p3, p4⟩ := hp
  have e1 : cntF (enc (.nd x.p x.c a b)) = cntF (enc a) + 1 + cntF (enc b) := rfl
  have e2 : sizF (enc (.nd x.p x.c a b)) = sizF (enc a) + x.p.n + sizF (enc b) := rfl
  have e3 : lnsF (enc (.nd x.p x.c a b)) = lnsF (enc a) + x.p.k + lnsF (enc b) := rfl
  have e4 : (Tr.nd x.p x.c a b).blk = bif x.c then a.blk else a.blk + 1 := rfl
  have e5 : hghF (enc (.nd x.p x.c a b)) = 1 + if hghF (enc b) > hghF (enc a) then hghF (enc b) else hghF (enc a) := rfl
  have e6 : a.blk = blkF (enc a) := rfl
  unfold mkS Tr.su w64
  rw [e1, e2, e3, e4, e5]
  simp only [Su.mk.injEq]
  refine ⟨rfl, ?_, ?_, ?_, ?_, ?_⟩
  · rw [wrap_in (by omega) (by omega)]
  · refine wrap_in ?_ ?_ <;> split <;> omega
  · rw [wrap_in (x := 1 + cntF (enc a)) (by omega) (by omega), wrap_in (by omega) (by omega)]; omega
  · rw [wrap_in (x := x.p.n + sizF (enc a)) (by omega) (by omega), wrap_in (by omega) (by omega)]; omega
  · rw [wrap_in (x := x.p.k + lnsF (enc a)) (by omega) (by omega), wrap_in (by omega) (by omega)]; omega
theorem bad_su {x : Rw} {a b : Tr} (ha : a.Ok) (hb : b.Ok) (hn : a.num + 1 + b.num ≤ 65536) : badS x a.su b.su = false ↔ Fit x.p ∧ a.blk = b.blk ∧ (x.c = true → a.red = false ∧ b.red = false) ∧ x.a = cntF (enc (.nd x.p x.c a b)) ∧ x.b = sizF (enc (.nd x.p x.c a b)) ∧ x.d = lnsF (enc (.nd x.p x.c a b)) := by
  by_cases hp : Fit x.p
  · unfold badS
    rw [mk_su hp ha hb hn]
    simp only [hp, decide_true, Bool.not_true, Bool.false_or, Bool.or_eq_false_iff, Bool.and_eq_false_iff, bne_eq_false_iff_eq, true_and]
    show ((((a.blk = b.blk ∧ (x.c = false ∨ (a.red = false ∧ b.red = false))) ∧ x.a = _) ∧ x.b = _) ∧ x.d = _) ↔ _
    have hc : (x.c = false ∨ (a.red = false ∧ b.red = false)) ↔ (x.c = true → a.red = false ∧ b.red = false) := by
      cases x.c <;> simp
    rw [hc]
    simp only [and_assoc]
    exact Iff.rfl
  · constructor
    · intro h
      unfold badS at h
      rw [decide_eq_false hp] at h
      simp at h
    · exact fun h => absurd h.1 hp
/-! ### the reference, from the right -/
def popT (t : Bool) (ts : List Tr) : Option (Tr × List Tr) := bif t then (match ts with
  | [] => none
  | s :: r => some (s, r)) else some (.nil, ts)
theorem pop_su (t : Bool) (ts : List Tr) : popS t (ts.map Tr.su) = (popT t ts).map fun q => (q.1.su, q.2.map Tr.su) := by
  cases t <;> cases ts <;> rfl
theorem pop_ok {t : Bool} {ts r : List Tr} {a : Tr} (h : popT t ts = some (a, r)) (hts : ∀ u ∈ ts, u.Ch ∧ u.ne = true) : a.ne = t ∧ a.Ch ∧ (∀ u ∈ r, u.Ch ∧ u.ne = true) ∧ ts.flatMap Tr.rws = a.rws ++ r.flatMap Tr.rws := by
  cases t with
  | false =>
    simp only [popT, cond_false, Option.some.injEq, Prod.mk.injEq] at h
    obtain ⟨rfl, rfl⟩ := h
    exact ⟨rfl, trivial, hts, rfl⟩
  | true =>
    cases ts with
    | nil => simp [popT] at h
    | cons s l =>
      simp only [popT, cond_true, Option.some.injEq, Prod.mk.injEq] at h
      obtain ⟨rfl, rfl⟩ := h
      exact ⟨(hts s (List.mem_cons_self ..)).2, (hts s (List.mem_cons_self ..)).1, fun u hu => hts u (List.mem_cons_of_mem _ hu), List.flatMap_cons⟩
section
variable {rw_ : Nat → Rw} {L : List Rw}
theorem drop_at {k : Nat} (h : k < L.length) : L.drop k = L.getD k default :: L.drop (k + 1) := by
  rw [List.drop_eq_getElem_cons h, List.getD_eq_getElem?_getD, List.getElem?_eq_getElem h]; rfl
theorem go_sound (hn : L.length ≤ 65536) (hrw : ∀ k, k < L.length → rw_ (k * 10) = L.getD k default) : ∀ (k : Nat), k ≤ L.length → ∀ ts : List Tr, (∀ t ∈ ts, t.Ch ∧ t.ne = true) → L.drop k = ts.flatMap Tr.rws → (goS rw_ k (ts.map Tr.su)).2 = true → ∃ T : Tr, T.Ch ∧ T.red = false ∧ T.rws = L
  | 0, _, ts, hts, hL, h => by
    rw [List.drop_zero] at hL
    cases ts with
    | nil => exact ⟨.nil, trivial, rfl, by rw [hL]; rfl⟩
    | cons t ts =>
      cases ts with
      | nil =>
        refine ⟨t, (hts t (List.mem_cons_self ..)).1, ?_, by rw [hL]; simp⟩
        have h2 : (true && !t.su.c) = true := h
        have h3 : t.su.c = false := by simpa using h2
        exact h3
      | cons t2 ts => simp [goS, finS] at h
  | k + 1, hk, ts, hts, hL, h => by
    have hx := hrw k (by omega)
    have hd := drop_at (L := L) (k := k) (by omega)
    generalize L.getD k default = x at hx hd
    simp only [goS, hx, stepS, pop_su] at h
    cases h1 : popT x.x ts with
    | none => rw [h1] at h; simp at h
    | some q1 =>
      obtain ⟨l, ts1⟩ := q1
      obtain ⟨l1, l2, l3, l4⟩ := pop_ok h1 hts
      rw [h1] at h
      simp only [Option.map_some, pop_su] at h
      cases h2 : popT x.y ts1 with
      | none => rw [h2] at h; simp at h
      | some q2 =>
        obtain ⟨r, ts2⟩ := q2
        obtain ⟨r1, r2, r3, r4⟩ := pop_ok h2 l3
        rw [h2] at h
        simp only [Option.map_some] at h
        have hlen : l.num + 1 + r.num ≤ 65536 := by
          have := congrArg List.length hL
          rw [List.length_drop, l4, r4, List.length_append, List.length_append, rws_len, rws_len] at this
          omega
        cases hb : badS x l.su r.su with
        | true => rw [hb] at h; simp at h
        | false =>
          rw [hb] at h
          simp only [cond_false] at h
          obtain ⟨g1, g2, g3, g4, g5, g6⟩ := (bad_su (Ch.ok l2) (Ch.ok r2) hlen).1 hb
          rw [mk_su g1 (Ch.ok l2) (Ch.ok r2) hlen] at h
          refine go_sound hn hrw k (by omega) (.nd x.p x.c l r :: ts2) ?_ ?_ h
          · intro u hu
            rcases List.mem_cons.1 hu with rfl | hu
            · exact ⟨⟨g1, g2, g3, l2, r2⟩, rfl⟩
            · exact r3 u hu
          · rw [hd, hL, l4, r4, List.flatMap_cons]
            show x :: _ = (⟨x.p, x.c, l.ne, r.ne, _, _, _⟩ :: (l.rws ++ r.rws)) ++ _
            rw [l1, r1, ← g4, ← g5, ← g6, List.cons_append, List.append_assoc]
theorem go_tree (hn : L.length ≤ 65536) (hrw : ∀ k, k < L.length → rw_ (k * 10) = L.getD k default) : ∀ (T : Tr), T.Ch → ∀ (k : Nat) (st : List Su) (rest : List Rw), L.drop k = T.rws ++ rest → goS rw_ (k + T.num) st = goS rw_ k (bif T.ne then T.su :: st else st)
  | .nil, _, k, st, rest, _ => rfl
  | .nd p c a b, h, k, st, rest, hL => by
    obtain ⟨g1, g2, g3, ha, hb⟩ := h
    have hL2 : L.drop k = ⟨p, c, a.ne, b.ne, cntF (enc (.nd p c a b)), sizF (enc (.nd p c a b)), lnsF (enc (.nd p c a b))⟩ :: (a.rws ++ (b.rws ++ rest)) := by
      rw [hL]
      show _ :: (a.rws ++ b.rws) ++ rest = _
      rw [List.cons_append, List.append_assoc]
    have hk : k < L.length := by
      rcases Nat.lt_or_ge k L.length with h | h
      · exact h
      · rw [List.drop_eq_nil_of_le h] at hL2; cases hL2
    have hlen : a.num + 1 + b.num ≤ 65536 := by
      have := congrArg List.length hL2
      rw [List.length_drop, List.length_cons, List.length_append, List.length_append, rws_len, rws_len] at this
      omega
    have hx := hrw k hk
    rw [drop_at hk] at hL2
    obtain ⟨e1, e2⟩ := List.cons.inj hL2
    rw [e1] at hx
    have e3 : L.drop (k + 1 + a.num) = b.rws ++ rest := by
      rw [← List.drop_drop, e2, List.drop_left' (rws_len a)]
    have s1 := go_tree hn hrw b hb (k + 1 + a.num) st rest e3
    have s2 := go_tree hn hrw a ha (k + 1) (bif b.ne then b.su :: st else st) (b.rws ++ rest) e2
    have e4 : k + (Tr.nd p c a b).num = k + 1 + a.num + b.num := by show k + (a.num + 1 + b.num) = _; omega
    rw [e4, s1, s2]
    show (match stepS (rw_ (k * 10)) _ with | none => (su0, false) | some st' => goS rw_ k st') = goS rw_ k ((Tr.nd p c a b).su :: st)
    rw [hx]
    have hbad := (bad_su (x := ⟨p, c, a.ne, b.ne, cntF (enc (.nd p c a b)), sizF (enc (.nd p c a b)), lnsF (enc (.nd p c a b))⟩) (Ch.ok ha) (Ch.ok hb) hlen).2 ⟨g1, g2, g3, rfl, rfl, rfl⟩
    have hmk := mk_su (x := ⟨p, c, a.ne, b.ne, cntF (enc (.nd p c a b)), sizF (enc (.nd p c a b)), lnsF (enc (.nd p c a b))⟩) g1 (Ch.ok ha) (Ch.ok hb) hlen
    have hs : stepS ⟨p, c, a.ne, b.ne, cntF (enc (.nd p c a b)), sizF (enc (.nd p c a b)), lnsF (enc (.nd p c a b))⟩ (bif a.ne then a.su :: bif b.ne then b.su :: st else st else bif b.ne then b.su :: st else st) = (bif badS ⟨p, c, a.ne, b.ne, cntF (enc (.nd p c a b)), sizF (enc (.nd p c a b)), lnsF (enc (.nd p c a b))⟩ a.su b.su then none else some (mkS ⟨p, c, a.ne, b.ne, cntF (enc (.nd p c a b)), sizF (enc (.nd p c a b)), lnsF (enc (.nd p c a b))⟩ a.su b.su :: st)) := by
      cases a <;> cases b <;> rfl
    rw [hs, hbad, cond_false, hmk]
/-! ### the subject's reader -/
theorem rd_bad : ∀ (f k : Nat), (rdT L f k true).2.2 = true
  | 0, _ => rfl
  | f + 1, k => by simp [rdT]
theorem rd_sound : ∀ (f k : Nat) (bad : Bool), (rdT L f k bad).2.2 = false → bad = false ∧ (rdT L f k bad).1.Ch ∧ (rdT L f k bad).1.ne = true ∧ L.drop k = (rdT L f k bad).1.rws ++ L.drop (rdT L f k bad).2.1
  | 0, k, bad, h => by cases h
  | f + 1, k, bad, h => by
    cases hb : bad || Nat.ble L.length k with
    | true => simp only [rdT, hb, cond_true] at h; cases h
    | false =>
      obtain ⟨rfl, h2⟩ := (Bool.or_eq_false_iff).mp hb
      have hlt : k < L.length := by
        have : ¬ L.length ≤ k := fun h => by rw [Nat.ble_eq_true_of_le h] at h2; cases h2
        omega
      refine ⟨rfl, ?_⟩
      have hd := drop_at (L := L) hlt
      simp only [rdT, hb, cond_false] at h ⊢
      generalize L.getD k default = r at h hd ⊢
      have IA : ∀ {bb : Bool}, (bif r.x then rdT L f (k + 1) false else (.nil, k + 1, false)).2.2 = false → (bif r.x then rdT L f (k + 1) false else (.nil, k + 1, false)).1.Ch ∧ (bif r.x then rdT L f (k + 1) false else (.nil, k + 1, false)).1.ne = r.x ∧ L.drop (k + 1) = (bif r.x then rdT L f (k + 1) false else (.nil, k + 1, false)).1.rws ++ L.drop (bif r.x then rdT L f (k + 1) false else (.nil, k + 1, false)).2.1 := fun {bb} hA => by
        cases hx : r.x with
        | true =>
          rw [hx] at hA
          simp only [cond_true] at hA ⊢
          exact (rd_sound f (k + 1) false hA).2
        | false => exact ⟨trivial, rfl, rfl⟩
      generalize (bif r.x then rdT L f (k + 1) false else (.nil, k + 1, false)) = A at h IA ⊢
      have IB : (bif r.y then rdT L f A.2.1 A.2.2 else (.nil, A.2.1, A.2.2)).2.2 = false → A.2.2 = false ∧ (bif r.y then rdT L f A.2.1 A.2.2 else (.nil, A.2.1, A.2.2)).1.Ch ∧ (bif r.y then rdT L f A.2.1 A.2.2 else (.nil, A.2.1, A.2.2)).1.ne = r.y ∧ L.drop A.2.1 = (bif r.y then rdT L f A.2.1 A.2.2 else (.nil, A.2.1, A.2.2)).1.rws ++ L.drop (bif r.y then rdT L f A.2.1 A.2.2 else (.nil, A.2.1, A.2.2)).2.1 := fun hB => by
        cases hy : r.y with
        | true =>
          rw [hy] at hB
          simp only [cond_true] at hB ⊢
          exact rd_sound f A.2.1 A.2.2 hB
        | false =>
          rw [hy] at hB
          exact ⟨hB, trivial, rfl, rfl⟩
      generalize (bif r.y then rdT L f A.2.1 A.2.2 else (.nil, A.2.1, A.2.2)) = B at h IB ⊢
      cases hw : rdW B.2.2 r.c r.p (enc A.1) (enc B.1) with
      | true => rw [hw] at h; cases h
      | false =>
        rw [hw] at h
        simp only [cond_false] at h ⊢
        unfold rdW at hw
        simp only [Bool.or_eq_false_iff, Bool.and_eq_false_iff, bne_eq_false_iff_eq, Bool.not_eq_false', decide_eq_true_eq] at hw
        obtain ⟨w1, w2, w3, w4⟩ := hw
        unfold rdE at h
        simp only [Bool.or_eq_false_iff, bne_eq_false_iff_eq] at h
        obtain ⟨q1, q2, q3⟩ := h
        obtain ⟨b1, b2, b3, b4⟩ := IB w1
        obtain ⟨a2, a3, a4⟩ := IA (bb := true) b1
        refine ⟨⟨w2, w3, fun hc => ?_, a2, b2⟩, rfl, ?_⟩
        · rcases w4 with w4 | w4
          · rw [w4] at hc; cases hc
          · exact w4
        · rw [hd, a4, b4]
          show r :: _ = (⟨r.p, r.c, A.1.ne, B.1.ne, cntF (enc A.1) + 1 + cntF (enc B.1), sizF (enc A.1) + r.p.n + sizF (enc B.1), lnsF (enc A.1) + r.p.k + lnsF (enc B.1)⟩ :: (A.1.rws ++ B.1.rws)) ++ _
          rw [a3, b3, q1, q2, q3, List.cons_append, List.append_assoc]
theorem rd_tree : ∀ (T : Tr), T.Ch → T.ne = true → ∀ (f k : Nat) (rest : List Rw), T.hg ≤ f → L.drop k = T.rws ++ rest → rdT L f k false = (T, k + T.num, false)
  | .nil, _, hn, _, _, _, _, _ => by cases hn
  | .nd p c a b, h, _, 0, k, rest, hf, _ => by
    have : (Tr.nd p c a b).hg = 1 + max a.hg b.hg := rfl
    omega
  | .nd p c a b, h, _, f + 1, k, rest, hf, hL => by
    obtain ⟨g1, g2, g3, ha, hb⟩ := h
    have hf2 : 1 + max a.hg b.hg ≤ f + 1 := hf
    have hL2 : L.drop k = ⟨p, c, a.ne, b.ne, cntF (enc (.nd p c a b)), sizF (enc (.nd p c a b)), lnsF (enc (.nd p c a b))⟩ :: (a.rws ++ (b.rws ++ rest)) := by
      rw [hL]
      show _ :: (a.rws ++ b.rws) ++ rest = _
      rw [List.cons_append, List.append_assoc]
    have hk : k < L.length := by
      rcases Nat.lt_or_ge k L.length with h | h
      · exact h
      · rw [List.drop_eq_nil_of_le h] at hL2; cases hL2
    rw [drop_at hk] at hL2
    obtain ⟨e1, e2⟩ := List.cons.inj hL2
    have e3 : L.drop (k + 1 + a.num) = b.rws ++ rest := by
      rw [← List.drop_drop, e2, List.drop_left' (rws_len a)]
    have hA : (bif a.ne then rdT L f (k + 1) false else (.nil, k + 1, false)) = (a, k + 1 + a.num, false) := by
      cases hq : a.ne with
      | true => exact rd_tree a ha hq f (k + 1) _ (by omega) e2
      | false =>
        cases a with
        | nil => rfl
        | nd => cases hq
    have hB : (bif b.ne then rdT L f (k + 1 + a.num) false else (.nil, k + 1 + a.num, false)) = (b, k + 1 + a.num + b.num, false) := by
      cases hq : b.ne with
      | true => exact rd_tree b hb hq f (k + 1 + a.num) _ (by omega) e3
      | false =>
        cases b with
        | nil => rfl
        | nd => cases hq
    have hnb : (false || Nat.ble L.length k) = false := by
      rw [Bool.false_or]
      cases hq : Nat.ble L.length k with
      | false => rfl
      | true => have := Nat.le_of_ble_eq_true hq; omega
    have hw : rdW false c p (enc a) (enc b) = false := by
      unfold rdW
      simp only [Bool.or_eq_false_iff, Bool.and_eq_false_iff, bne_eq_false_iff_eq, Bool.not_eq_false', decide_eq_true_eq]
      refine ⟨trivial, g1, g2, ?_⟩
      cases c with
      | false => exact .inl rfl
      | true => exact .inr (g3 rfl)
    have he : rdE (cntF (enc (.nd p c a b))) (sizF (enc (.nd p c a b))) (lnsF (enc (.nd p c a b))) p (enc a) (enc b) = false := by
      unfold rdE
      simp only [Bool.or_eq_false_iff, bne_eq_false_iff_eq]
      exact ⟨rfl, rfl, rfl⟩
    simp only [rdT, hnb, cond_false, e1, hA, hB, hw, he]
    refine Prod.ext rfl (Prod.ext ?_ rfl)
    show k + 1 + a.num + b.num = k + (a.num + 1 + b.num)
    omega
end
/-- both see the same -/
theorem chk_eq (rw_ : Nat → Rw) (L : List Rw) (hn : L.length ≤ 65536) (hrw : ∀ k, k < L.length → rw_ (k * 10) = L.getD k default) (hL : L.length ≠ 0) : (bif (rdT L 129 0 false).2.2 || (((rdT L 129 0 false).2.1 : Int) != (L.length : Int) || redF (enc (rdT L 129 0 false).1)) then (21 : Int) else 0) = bif (goS rw_ L.length []).2 then 0 else 21 := by
  have key : (goS rw_ L.length []).2 = true ↔ ∃ T : Tr, T.Ch ∧ T.red = false ∧ T.rws = L := by
    constructor
    · exact fun h => go_sound hn hrw L.length (Nat.le_refl _) [] (fun _ h => nomatch h) (by simp) h
    · rintro ⟨T, h1, h2, h3⟩
      have hnum : T.num = L.length := by rw [← rws_len, h3]
      have := go_tree hn hrw T h1 0 [] [] (by simp [h3])
      rw [Nat.zero_add, hnum] at this
      rw [this]
      cases T with
      | nil => rw [← hnum] at hL; exact absurd rfl hL
      | nd p c a b =>
        show (true && !(Tr.nd p c a b).red) = true
        rw [h2]; rfl
  have key2 : ((rdT L 129 0 false).2.2 || (((rdT L 129 0 false).2.1 : Int) != (L.length : Int) || redF (enc (rdT L 129 0 false).1))) = false ↔ ∃ T : Tr, T.Ch ∧ T.red = false ∧ T.rws = L := by
    constructor
    · intro h
      simp only [Bool.or_eq_false_iff, bne_eq_false_iff_eq] at h
      obtain ⟨h1, h2, h3⟩ := h
      obtain ⟨_, g1, g2, g3⟩ := rd_sound 129 0 false h1
      refine ⟨_, g1, h3, ?_⟩
      have h4 : (rdT L 129 0 false).2.1 = L.length := by omega
      rw [List.drop_zero, h4, List.drop_length, List.append_nil] at g3
      exact g3.symm
    · rintro ⟨T, h1, h2, h3⟩
      have hnum : T.num = L.length := by rw [← rws_len, h3]
      have hne : T.ne = true := by
        cases T with
        | nil => rw [← hnum] at hL; exact absurd rfl hL
        | nd => rfl
      have := rd_tree (L := L) T h1 hne 129 0 [] (ch_low h1 (by omega)) (by simp [h3])
      rw [this]
      simp only [Bool.or_eq_false_iff, bne_eq_false_iff_eq]
      exact ⟨trivial, by omega, h2⟩
  cases hg : (goS rw_ L.length []).2 with
  | true => rw [key2.2 (key.1 hg)]; rfl
  | false =>
    cases hr : ((rdT L 129 0 false).2.2 || (((rdT L 129 0 false).2.1 : Int) != (L.length : Int) || redF (enc (rdT L 129 0 false).1))) with
    | true => rfl
    | false =>
      rw [key.2 (key2.1 hr)] at hg
      cases hg
end Go.Proofs.Ytpjlgjhkdligfaa.Vg
