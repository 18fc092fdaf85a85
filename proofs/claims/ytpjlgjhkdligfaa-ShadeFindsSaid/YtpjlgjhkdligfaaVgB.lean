/- The second engine, merged part B. No law, no condition. -/
import Derived.Test.YtpjlgjhkdligfaaVgA
import Derived.Laws.Strings
import Derived.Laws.Strings2
import Derived.Laws.Concat
namespace Go.Proofs.Ytpjlgjhkdligfaa.Vg
open Go.RowKit
set_option linter.unusedVariables false
set_option linter.unusedSimpArgs false
section
variable {P : Program} {K K' : Kap} {κ κ' : Hp} {β β' : Bt} {ts : Tv} {a : Act} {o : Oper} {w w' : World}
theorem upd_comm {α : Type} {f : Nat → α} {x y : Nat} {u v : α} (h : x ≠ y) : upd (upd f x u) y v = upd (upd f y v) x u := by
  funext z
  unfold upd
  by_cases h1 : z = x
  · subst h1; simp [h]
  · by_cases h2 : z = y
    · subst h2; simp [h1]
    · simp [h1, h2]
/-- an object that is not used any more -/
theorem rel_kill (R : VRel P K κ β w) {b : Nat} {y : VO} (hb : κ b = some y) : VRel P K (upd κ b (some .dead)) β w ∧ Le K κ β K (upd κ b (some .dead)) β := by
  have le : Le K κ β K (upd κ b (some .dead)) β := by
    refine ⟨fun _ _ h => h, fun z u h => ?_⟩
    by_cases he : z = b
    · subst he; exact .inl upd_same
    · exact .inr ⟨u, (upd_ne he).trans h, rfl, rfl⟩
  have lv : ∀ z, live (upd κ b (some .dead)) z → live κ z := fun z hz => by
    rcases live_upd hz with ⟨_, h⟩ | ⟨_, l⟩
    · exact absurd rfl h
    · exact l
  refine ⟨⟨R.kw, fun z u h => ?_, fun z z' B' X1 X2 h1 h2 h3 h4 => R.inj z z' B' X1 X2 (lv z h1) (lv z' h2) h3 h4, fun z B' X1 h1 h3 => R.sep z B' X1 (lv z h1) h3⟩, le⟩
  by_cases he : z = b
  · subst he
    rw [upd_same] at h
    cases h
    trivial
  · rw [upd_ne he] at h
    exact (R.ob z u h).mono' le fun _ _ _ _ => rfl
/-- an append in place: the object is dead, a new one lies in its block -/
theorem rel_move (R : VRel P K κ β w) {b m B X X' : Nat} {cs olds : List FV} {ty e : TypeId} {C : Array Value} {e' lo hi : Nat} (hb : κ b = some (.fx olds ty)) (hm : κ m = none) (hB : β b = some (B, X)) (hw : ∀ B', B' ≠ B → w'.heap[B']? = w.heap[B']?)
    (hC : w'.heap[B]? = some (.cells C e' (lo, hi))) (h3 : cs.length + X' ≤ C.size) (h4 : lo = hi ∨ cs.length + X' ≤ lo) (h5 : ∀ (j : Nat) (x : FV), cs[j]? = some x → ∃ v, C[j]? = some v ∧ FR K x v) :
    VRel P K (upd (upd κ b (some .dead)) m (some (.fx cs e))) (upd β m (some (B, X'))) w' ∧ Le K κ β K (upd (upd κ b (some .dead)) m (some (.fx cs e))) (upd β m (some (B, X'))) := by
  have hbm : b ≠ m := fun h => by rw [h, hm] at hb; cases hb
  have hm1 : upd κ b (some .dead) m = none := (upd_ne (Ne.symm hbm)).trans hm
  obtain ⟨R1, le1⟩ := rel_kill R hb
  have le2 : Le K (upd κ b (some .dead)) β K (upd (upd κ b (some .dead)) m (some (.fx cs e))) (upd β m (some (B, X'))) := le_new hm1
  have lb : live κ b := ⟨_, _, hb, rfl⟩
  have no : ∀ z X1, live (upd κ b (some .dead)) z → β z = some (B, X1) → False := fun z X1 hz hzb => by
    rcases live_upd hz with ⟨_, h⟩ | ⟨hne, l⟩
    · exact h rfl
    · exact hne (R.inj z b B X1 X l lb hzb hB)
  refine ⟨⟨fun c y h => (hw c fun h' => ?_).trans (R.kw c y h), fun z y h => ?_, fun z z' B' X1 X2 h1 h2 h3 h4 => ?_, fun z B' X1 h1 h3 => ?_⟩, le1.trans le2⟩
  · subst h'
    rw [R.sep b c X lb hB] at h
    cases h
  · by_cases he : z = m
    · subst he
      rw [upd_same] at h ⊢
      cases h
      exact .inr ⟨B, X', C, e', lo, hi, rfl, hC, h3, h4, h5⟩
    · rw [upd_ne he] at h ⊢
      exact (R1.ob z y h).mono' le2 fun B' X1 hs hb' => hw B' fun h' => by subst h'; exact no z X1 (live_of h hs) hb'
  · rcases live_upd h1 with ⟨e1, _⟩ | ⟨e1, l1⟩ <;> rcases live_upd h2 with ⟨e2, _⟩ | ⟨e2, l2⟩
    · rw [e1, e2]
    · subst e1
      rw [upd_same] at h3
      rw [upd_ne e2] at h4
      cases h3
      exact (no z' X2 l2 h4).elim
    · subst e2
      rw [upd_same] at h4
      rw [upd_ne e1] at h3
      cases h4
      exact (no z X1 l1 h3).elim
    · rw [upd_ne e1] at h3
      rw [upd_ne e2] at h4
      exact R1.inj z z' B' X1 X2 l1 l2 h3 h4
  · rcases live_upd h1 with ⟨e1, _⟩ | ⟨e1, l1⟩
    · subst e1
      rw [upd_same] at h3
      cases h3
      exact R.sep b B X lb hB
    · rw [upd_ne e1] at h3
      exact R1.sep z B' X1 l1 h3
theorem app_cells {olds news : List FV} {C : Array Value} {vs : List Value} (ho : ∀ (j : Nat) (x : FV), olds[j]? = some x → ∃ v, C[j]? = some v ∧ FR K x v) (hv : F2 (FR K) news vs) (hl : olds.length + news.length ≤ C.size) :
    ∀ (j : Nat) (x : FV), (olds ++ news)[j]? = some x → ∃ v, (splice C olds.length vs)[j]? = some v ∧ FR K x v := by
  intro j x hj
  have hlen := hv.len
  rw [splice_get _ _ _ _ (by omega)]
  by_cases hc : j < olds.length
  · rw [List.getElem?_append_left hc] at hj
    rw [if_neg (by omega)]
    exact ho j x hj
  · rw [List.getElem?_append_right (by omega)] at hj
    obtain ⟨v, h1, h2⟩ := hv.get _ _ hj
    have := (List.getElem?_eq_some_iff.1 hj).1
    rw [if_pos (by omega)]
    exact ⟨v, h1, h2⟩
/-- what an append comes to in a new block -/
theorem grow_post (R : VRel P K κ β w) {m : Nat} {cs : List FV} {e n c i_size : Nat} {z : Array Value} {vs : List Value} (hm : κ m = none) (hsz : (P.info? e).map (fun i => i.size) = some i_size) (hz : z.size = i_size) (hv : F2 (FR K) cs vs) (hn : cs.length = n * i_size) (hnc : n ≤ c) (k : Nat) (hk : k = c - n) {rd : List Nat} {q : Prop} :
    ∃ β', Post P K κ β w m ⟨.o (.c (.rw m n)), [], [.fx cs e], rd, q⟩ (.slice (some ⟨w.heap.size, 0, none⟩) n c) (w.drew.alloc (.cells (vs.toArray ++ Builtin.zeroCells z k) e)) β' := by
  have hl := hv.len
  have hzc : (Builtin.zeroCells z k).size = k * i_size := by simp [Builtin.zeroCells, hz]
  have e1 : n * i_size + k * i_size = c * i_size := by rw [← Nat.add_mul, hk]; congr 1; omega
  have hd : w.drew.heap = w.heap := rfl
  refine made_fx (X := k * i_size) (C := vs.toArray ++ Builtin.zeroCells z k) (lo := 0) (hi := 0) (sz := i_size) R hm (Below.alloc (Below.drew (Below.refl _ _)) (Nat.le_refl _) _) ?_ (by rw [Array.size_append, hzc]; simp; omega) (.inl rfl) (fun j x hj => ?_) hsz hn.symm hnc (by omega)
  · show (w.drew.heap.push _)[w.heap.size]? = _
    rw [hd]
    simp
  · obtain ⟨v, h1, h2⟩ := hv.get j x hj
    have := (List.getElem?_eq_some_iff.1 h1).1
    exact ⟨v, by rw [Array.getElem?_append_left (by simpa using this)]; simpa using h1, h2⟩
end
end Go.Proofs.Ytpjlgjhkdligfaa.Vg

namespace Go.Proofs.Ytpjlgjhkdligfaa.Vg
open Go.RowKit
set_option linter.unusedVariables false
set_option linter.unusedSimpArgs false
section
variable {P : Program} {K K' : Kap} {κ κ' : Hp} {β β' : Bt} {ts : Tv} {a : Act} {o : Oper} {w w' : World}
theorem post_kill {m b : Nat} {x : VO} {v : TV} {v' : Value} {rd : List Nat} {q : Prop} (le : Le K κ β K (upd κ b (some .dead)) β) (h : Post P K (upd κ b (some .dead)) β w m ⟨v, [], [x], rd, q⟩ v' w' β') : Post P K κ β w m ⟨v, [(b, .dead)], [x], rd, q⟩ v' w' β' := by
  refine ⟨h.rel, h.val, le.trans h.le, h.bel, fun B hB => ?_, h.bt, fun B X hn hb => ?_, fun o ho => ?_⟩
  rotate_left 2
  · rcases h.lv o ho with h1 | h1
    · exact .inl h1
    · rcases live_upd h1 with ⟨_, h2⟩ | ⟨_, l⟩
      · exact absurd rfl h2
      · exact .inr l
  · rcases h.blk B hB with h1 | ⟨_, _, _, h1, _⟩
    · exact .inl h1
    · simp at h1
  · rcases h.nb B X hn hb with h1 | ⟨_, _, _, h1, _⟩
    · exact .inl h1
    · simp at h1
theorem post_v {m : Nat} {d : Dl} {v' : Value} {rd : List Nat} {q : Prop} (h : Post P K κ β w m d v' w' β') : Post P K κ β w m ⟨d.v, d.sets, d.news, rd, q⟩ v' w' β' := ⟨h.rel, h.val, h.le, h.bel, h.blk, h.bt, h.nb, h.lv⟩
section
variable {t u ty e : TypeId} {i : TypeInfo} {z : Value} {du : TypeDesc}
/-- an append to nothing -/
theorem app_none (R : VRel P K κ β w) {m : Nat} (hm : κ m = none) (ht : P.underlying t = some (.slice e)) (hu : P.underlying u = some du) (hdu : isSlD du = true) (hi : P.info? e = some i) (hz : i.zero = some z) (hzs : z.cells.size = i.size) (hb0 : 0 < i.bytes)
    {A : Option Addr} {x' : Value} {nw : Nw} {vs : List Value} (hv : F2 (FR K) nw.cs vs) (hl : nw.cs.length = nw.n * i.size) (hx : Builtin.lenOf x' = pure nw.n) (hfc : ∀ W : World, W.heap = w.heap → ∀ j, j ≤ nw.n → (Builtin.firstCells i.size j x').run P W = .ok (vs.take (j * i.size)).toArray W)
    (hle : nw.n * i.bytes ≤ 140737488355328) {rd : List Nat} {q : Prop} :
    ∃ v' w' β', (Builtin.append_ #[t, u] ty #[.slice A 0 0, x']).run P w = .ok v' w' ∧ Post P K κ β w m ⟨.o (.c (.rw m nw.n)), [], [.fx nw.cs e], rd, q⟩ v' w' β' := by
  have hvl := hv.len
  have hall : vs.take (nw.n * i.size) = vs := List.take_of_length_le (by omega)
  by_cases h0 : nw.n = 0
  · have hcs : nw.cs = [] := List.eq_nil_of_length_eq_zero (by rw [hl, h0, Nat.zero_mul])
    have hvs : vs = [] := List.eq_nil_of_length_eq_zero (by rw [← hvl, hcs]; rfl)
    subst hvs
    have hf := hfc w rfl nw.n (Nat.le_refl _)
    rw [hall] at hf
    have hrun := run_append_room (P := P) (w := w) (ty := ty) ht hu hdu hi (base := A) (sLen := 0) (sCap := 0) hx hf (by omega)
    refine ⟨.slice A 0 0, w, upd β m none, ?_, ?_⟩
    · rw [hrun]
      cases A with
      | none => simp [h0]
      | some ad => simp [h0, storeCells]
    · refine post_new R hm (Below.refl _ _) (fun B X h => by cases h) ?_ (.o (.c ?_))
      · exact .inl ⟨rfl, hcs⟩
      · rw [h0, hcs]
        exact .rw0 upd_same rfl upd_same
  · have hrun := run_append_grow (P := P) (w := w) (ty := ty) ht hu hdu hi hz (base := A) (sLen := 0) (sCap := 0) (olds := []) (news := vs) hx (fun W _ => by have := fc_nil (P := P) (A := A) (c := 0) (size := i.size) W 0 (Nat.le_refl _); simpa using this)
      (fun W hW => by have := hfc W hW nw.n (Nat.le_refl _); rwa [hall] at this) hb0 (by omega) (by simpa using hle)
    obtain ⟨β', hp⟩ := grow_post R (m := m) (e := e) (n := nw.n) (c := grownCap w (0 + nw.n) 0 e) (z := z.cells) (rd := rd) (q := q) hm (by rw [hi]; rfl) hzs hv hl (by have := grownCap_ge w (0 + nw.n) 0 e; omega) (grownCap w (0 + nw.n) 0 e - (0 + nw.n)) (by omega)
    refine ⟨_, _, β', hrun, ?_⟩
    have e1 : (#[] : Array Value) ++ vs.toArray = vs.toArray := by simp
    rw [show ([] : List Value).toArray = #[] from rfl, e1, Nat.zero_add]
    simpa using hp
/-- an append to a row of one's own -/
theorem app_row (R : VRel P K κ β w) {m b n : Nat} {olds : List FV} (hm : κ m = none) (hk : κ b = some (.fx olds e)) (ht : P.underlying t = some (.slice e)) (hu : P.underlying u = some du) (hdu : isSlD du = true) (hi : P.info? e = some i) (hz : i.zero = some z) (hzs : z.cells.size = i.size) (hb0 : 0 < i.bytes)
    {s' x' : Value} {nw : Nw} {vs : List Value} (hs : CR P K κ β (.rw b n) s') (hv : F2 (FR K) nw.cs vs) (hl : nw.cs.length = nw.n * i.size) (hx : Builtin.lenOf x' = pure nw.n) (hfc : ∀ W : World, W.heap = w.heap → ∀ j, j ≤ nw.n → (Builtin.firstCells i.size j x').run P W = .ok (vs.take (j * i.size)).toArray W)
    (hle : (n + nw.n) * i.bytes ≤ 140737488355328) {rd : List Nat} {q : Prop} :
    ∃ v' w' β', (Builtin.append_ #[t, u] ty #[s', x']).run P w = .ok v' w' ∧ Post P K κ β w m ⟨.o (.c (.rw m (n + nw.n))), [(b, .dead)], [.fx (olds ++ nw.cs) e], rd, q⟩ v' w' β' := by
  have hvl := hv.len
  have hall : vs.take (nw.n * i.size) = vs := List.take_of_length_le (by omega)
  have hbm : b ≠ m := fun h => by rw [h, hm] at hk; cases hk
  have hm1 : upd κ b (some .dead) m = none := (upd_ne (Ne.symm hbm)).trans hm
  obtain ⟨R1, le1⟩ := rel_kill R hk
  have hO := R.ob b _ hk
  cases hs with
  | dead hx hd _ => cases hx; rw [hk] at hd; cases hd
  | rw0 hx0 hs0 hb =>
    rw [hb] at hO
    have holds : olds = [] := by
      rcases hO with ⟨_, h⟩ | ⟨_, _, _, _, _, _, h, _⟩
      · exact h
      · cases h
    subst holds
    obtain ⟨v', w', β', h1, h2⟩ := app_none R1 (m := m) (ty := ty) hm1 ht hu hdu hi hz hzs hb0 hv hl hx hfc (by simpa using hle) (rd := rd) (q := q)
    refine ⟨v', w', β', h1, ?_⟩
    rw [List.nil_append, Nat.zero_add]
    exact post_kill le1 h2
  | rw hx0 hs0 hz0 hL hn hc hb =>
    rename_i B X c L ty0 sz x0
    rw [hk] at hx0
    cases hx0
    simp only [VO.shape, Option.some.injEq, Prod.mk.injEq] at hs0
    obtain ⟨rfl, rfl⟩ := hs0
    have hsz : sz = i.size := by rw [hi] at hz0; simpa using hz0.symm
    subst hsz
    rw [hb] at hO
    rcases hO with ⟨h, _⟩ | ⟨B', X', C, e', lo, hi', p1, p2, p3, p4, p5⟩
    · cases h
    · cases p1
      by_cases hroom : n + nw.n ≤ c
      · have hf := hfc w rfl nw.n (Nat.le_refl _)
        rw [hall] at hf
        have hrun := run_append_room (P := P) (w := w) (ty := ty) ht hu hdu hi (base := some ⟨B, 0, none⟩) (sLen := n) (sCap := c) hx hf hroom
        have hcap : (n + nw.n) * i.size ≤ c * i.size := Nat.mul_le_mul_right _ hroom
        rw [Nat.add_mul] at hcap
        obtain ⟨w', r1, r2, r3, r4, r5⟩ := write_run (P := P) (off := n * i.size) (vs' := vs) p2 p3 p4 (by omega) (f2_onef hv)
        have ha : (⟨B, 0, none⟩ : Addr).add (n * i.size) = ⟨B, n * i.size, none⟩ := by rw [add_eq rfl]; simp
        have hmv := rel_move (P := P) (cs := olds ++ nw.cs) (X' := X - nw.n * i.size) (e := e) (m := m) R hk hm hb r3 r2 (by rw [List.length_append, splice_size]; omega) (by rw [List.length_append]; rcases p4 with p4 | p4; exact .inl p4; right; omega)
          (by have := app_cells (C := C) p5 hv (by omega); rwa [← hL] at this)
        refine ⟨.slice (some ⟨B, 0, none⟩) (n + nw.n) c, w', upd β m (some (B, X - nw.n * i.size)), ?_, ?_⟩
        · rw [hrun]
          simp only [ha, r1, Result.andThen_ok]
        · refine ⟨hmv.1, .o (.c (.rw (L := (olds ++ nw.cs).length) upd_same rfl hz0 (by rw [List.length_append, Nat.add_mul]; omega) hroom (by rw [List.length_append]; omega) upd_same)), hmv.2, r5, fun B' hB => ?_, fun z hz => upd_ne hz, fun B' X1 _ hb1 => ?_, fun z hz => ?_⟩
          rotate_left 2
          · rcases live_upd hz with ⟨e1, _⟩ | ⟨_, l⟩
            · exact .inl ⟨e1, by simp⟩
            · rcases live_upd l with ⟨_, h2⟩ | ⟨_, l⟩
              · exact absurd rfl h2
              · exact .inr l
          · by_cases he : B' = B
            · subst he; exact .inr ⟨b, .dead, X, by simp, ⟨_, _, hk, rfl⟩, hb⟩
            · exact .inl (r3 B' he)
          · rw [upd_same] at hb1
            cases hb1
            exact .inr ⟨b, .dead, X, by simp, ⟨_, _, hk, rfl⟩, hb⟩
      · have hfo := cells_take p5 0 (n * i.size) (by rw [List.drop_zero, List.length_take]; omega)
        have bc := block_cells (off := 0) (size := n * i.size) p2
        have e3 : (olds.drop 0).take (n * i.size) = olds := by rw [List.drop_zero, List.take_of_length_le (by omega)]
        rw [e3] at hfo
        generalize hol : (C.toList.drop 0).take (n * i.size) = ol at hfo bc
        have holl := hfo.len
        have hrun := run_append_grow (P := P) (w := w) (ty := ty) ht hu hdu hi hz (base := some ⟨B, 0, none⟩) (sLen := n) (sCap := c) (olds := ol) (news := vs) hx
          (fun W hW => by
            have := fc_slice (P := P) (n := n) (c := c) (size := i.size) bc (by omega) W hW n (Nat.le_refl _)
            rwa [List.take_of_length_le (by omega)] at this)
          (fun W hW => by have := hfc W hW nw.n (Nat.le_refl _); rwa [hall] at this) hb0 (by omega) hle
        obtain ⟨β', hp⟩ := grow_post R1 (m := m) (e := e) (cs := olds ++ nw.cs) (vs := ol ++ vs) (n := n + nw.n) (c := grownCap w (n + nw.n) c e) (z := z.cells) (rd := rd) (q := q) hm1 (by rw [hi]; rfl) hzs (hfo.app hv) (by rw [List.length_append, Nat.add_mul]; omega) (grownCap_ge w (n + nw.n) c e) (grownCap w (n + nw.n) c e - (n + nw.n)) rfl
        refine ⟨_, _, β', hrun, ?_⟩
        have e1 : ol.toArray ++ vs.toArray = (ol ++ vs).toArray := by simp
        rw [e1]
        exact post_kill le1 hp
end
theorem mark_run {B : Nat} {C : Array Value} {e lo hi L : Nat} (hw : w.heap[B]? = some (.cells C e (lo, hi))) (hL : L ≤ C.size) (h4 : lo = hi ∨ L ≤ lo) (of : Nat) :
    ∃ w' lo' hi', (markStringish ⟨B, of, none⟩).run P w = .ok () w' ∧ w'.heap[B]? = some (.cells C e (lo', hi')) ∧ (lo' = hi' ∨ L ≤ lo') ∧ (∀ B', B' ≠ B → w'.heap[B']? = w.heap[B']?) ∧ Below 0 w w' := by
  have hrun : (markStringish ⟨B, of, none⟩).run P w = .ok () (w.freeze ⟨B, C.size, none⟩ 1) := by
    have hs : w.shape? B = some (e, C.size) := by unfold World.shape?; rw [hw]
    unfold markStringish
    simp only [Sem.run_bind, run_shape, hs, Result.andThen_ok, run_freeze]
  have r3 : ∀ B', B' ≠ B → (w.freeze ⟨B, C.size, none⟩ 1).heap[B']? = w.heap[B']? := fun B' hB => by
    simp only [World.freeze, Nat.one_ne_zero, if_false, Array.getElem?_modify]
    rw [if_neg (fun h => hB h.symm)]
  have r2 : ∃ lo' hi', (w.freeze ⟨B, C.size, none⟩ 1).heap[B]? = some (.cells C e (lo', hi')) ∧ (lo' = hi' ∨ L ≤ lo') := by
    simp only [World.freeze, Nat.one_ne_zero, if_false, Array.getElem?_modify, if_true, hw, Option.map_some]
    cases hq : lo == hi with
    | true => exact ⟨C.size, C.size + 1, rfl, .inr hL⟩
    | false =>
      have hne : lo ≠ hi := by simpa using hq
      exact ⟨min lo C.size, max hi (C.size + 1), rfl, .inr (by omega)⟩
  obtain ⟨lo', hi', r2, r5⟩ := r2
  exact ⟨_, lo', hi', hrun, r2, r5, r3, ⟨rfl, rfl, rfl, by simp [World.freeze], fun k hk => absurd hk (Nat.not_lt_zero _)⟩⟩
theorem undefV : VR P K κ β .u undef := .u
theorem evW_sim (R : VRel P K κ β w) (T : TR P K κ β ts a.tmps) {m : Nat} {d : Dl} (hm : d.news ≠ [] → κ m = none) (h : evW P κ ts m o = some d) (hq : d.q) :
    ∃ v' w' β', ((execOp a.eval o).run P w = .ok (.value v') w' ∨ ((execOp a.eval o).run P w = .ok .skip w' ∧ v' = undef)) ∧ Post P K κ β w m d v' w' β' := by
  unfold evW at h
  split at h
  · rename_i t x y hop
    split at h
    · rename_i i b off v hi hx hy
      cases hb : Nat.beq v.cells.length i.size with
      | false => rw [hb] at h; cases h
      | true =>
        rw [hb] at h
        simp only [cond_true] at h
        have hvl := Nat.eq_of_beq_eq_true hb
        have hp := opd_c T hx
        have hf := (opd_1 T hy).cells
        have hsz : (a.eval y).cells.size = i.size := by
          have e1 := hf.len
          simp only [Array.length_toList] at e1
          omega
        have fin : ∀ (x' : VO) (rd : List Nat) (q : Prop), κ b ≠ some .dead → ((∃ cs ty, κ b = some (.bx cs ty) ∧ x' = .bx (setL cs off v.cells) ty ∧ off + v.cells.length ≤ cs.length) ∨ (∃ cs fs ty, κ b = some (.fx cs ty) ∧ x' = .fx (setL cs off fs) ty ∧ v.cells = fs.map .f ∧ off + v.cells.length ≤ cs.length ∧ v.cells ≠ [])) →
            ∃ v' w' β', ((execOp a.eval o).run P w = .ok (.value v') w' ∨ ((execOp a.eval o).run P w = .ok .skip w' ∧ v' = undef)) ∧ Post P K κ β w m ⟨.u, [(b, x')], [], rd, q⟩ v' w' β' := by
          intro x' rd q hlv hx'
          have hp' := hp
          generalize hax : a.eval x = p' at hp hp'
          cases hp' with
          | dead hx hd _ => cases hx; exact absurd hd hlv
          | rp hl hbb =>
            obtain ⟨w', g1, g2⟩ := store_sim (P := P) (m := m) (v' := undef) (rd := rd) (q := q) R hp hlv hf hx'
            refine ⟨undef, w', β, .inr ⟨?_, rfl⟩, g2⟩
            unfold execOp; rw [hop]
            simp only [hax, Instr.storeAt, Instr.sureAddr, storeVar, Sem.run_bind, Sem.run_pure, Result.andThen_ok, sizeOf_run hi, Sem.run_ite]
            rw [if_neg (by rw [hsz]; simp)]
            simp only [Sem.run_pure, Result.andThen_ok, Sem.run_bind, g1]
        split at h
        · rename_i cs ty hk
          cases hb2 : Nat.ble (off + i.size) cs.length with
          | false => rw [hb2] at h; cases h
          | true =>
            rw [hb2] at h
            simp only [cond_true, Option.some.injEq] at h
            subst h
            have := Nat.le_of_ble_eq_true hb2
            exact fin _ _ _ (by rw [hk]; simp) (.inl ⟨cs, ty, hk, rfl, by omega⟩)
        · rename_i cs ty hk
          split at h
          · rename_i fs hfs
            simp only [Option.some.injEq] at h
            subst h
            simp only at hq
            by_cases hne : v.cells = []
            · refine ⟨undef, w, β, .inr ⟨?_, rfl⟩, ?_⟩
              · have hp' := hp
                generalize hax : a.eval x = p' at hp'
                cases hp' with
                | dead hx hd _ => cases hx; rw [hk] at hd; cases hd
                | rp hl hbb =>
                  have hnil : (a.eval y).cells.toList = [] := by
                    have := hf.len
                    rw [hne] at this
                    exact List.eq_nil_of_length_eq_zero this.symm
                  unfold execOp; rw [hop]
                  simp only [hax, Instr.storeAt, Instr.sureAddr, storeVar, Sem.run_bind, Sem.run_pure, Result.andThen_ok, sizeOf_run hi, Sem.run_ite]
                  rw [if_neg (by rw [hsz]; simp), hnil]
                  rfl
              · have e1 : fs = [] := by
                  have := cvsF_spec hfs
                  rw [hne] at this
                  simpa using this.symm
                subst e1
                have e2 : upd κ b (some (.fx (setL cs off []) ty)) = κ := by
                  funext z
                  by_cases hz : z = b
                  · subst hz; rw [upd_same, setL, hk]
                  · exact upd_ne hz
                exact ⟨by show VRel P K (upd κ b _) β w; rw [e2]; exact R, .u, by show Le K κ β K (upd κ b _) β; rw [e2]; exact Le.refl _ _ _, Below.refl _ _, fun B _ => .inl rfl, fun _ _ => rfl, fun _ _ h => absurd rfl h, fun z hz => .inr (by rw [show kapD κ m _ = upd κ b (some (.fx (setL cs off []) ty)) from rfl, e2] at hz; exact hz)⟩
            · exact fin _ _ _ (by rw [hk]; simp) (.inr ⟨cs, fs, ty, hk, rfl, cvsF_spec hfs, by omega, hne⟩)
          · cases h
        · cases h
    · cases h
  · rename_i c hop
    split at h
    · rename_i s x t u hcal hargs htys
      split at h
      · rename_i e du ht hu
        split at h
        · rename_i i hi
          split at h
          · rename_i z olds l ob nw hz hbase hnews
            cases hb : (isSlD du && Nat.beq z.cells.size i.size && Nat.blt 0 i.bytes && Nat.blt 0 i.size) with
            | false => rw [hb] at h; cases h
            | true =>
              rw [hb] at h
              simp only [cond_true] at h
              simp only [Bool.and_eq_true, Nat.blt_eq] at hb
              obtain ⟨⟨⟨b1, b2⟩, b3⟩, b4⟩ := hb
              have b2 := Nat.eq_of_beq_eq_true b2
              have q1 : nw.q := by
                cases ob <;> simp only [Option.some.injEq] at h <;> subst h <;> exact hq.1
              have e1 : c.args = #[s, x] := Array.ext' hargs
              have e2 : c.argTypes = #[t, u] := Array.ext' htys
              obtain ⟨vs, n1, n2, n3, n4⟩ := news_sim R (opd_sim T x) hnews q1
              have hrun : ∀ v' w', (Builtin.append_ #[t, u] o.type #[a.eval s, a.eval x]).run P w = .ok v' w' → (execOp a.eval o).run P w = .ok (.value v') w' := by
                intro v' w' hr
                unfold execOp; rw [hop]
                simp only [resolve, hcal, e1, e2, invoke, builtin, Sem.run_bind, Sem.run_pure, Result.andThen_ok, List.map_toArray, List.map_cons, List.map_nil, hr]
              have hbase' := hbase
              unfold baseE at hbase
              split at hbase
              · rename_i hs
                simp only [Option.some.injEq, Prod.mk.injEq] at hbase
                obtain ⟨rfl, rfl, rfl⟩ := hbase
                simp only [Option.some.injEq] at h
                subst h
                have hsv := opd_atom T hs
                obtain ⟨v', w', β', g1, g2⟩ := app_none R (m := m) (ty := o.type) (A := none) (hm (by simp)) ht hu b1 hi hz b2 b3 n1 n2 n3 n4 hq.2 (rd := nw.rd) (q := nw.q ∧ nw.n * i.bytes ≤ 140737488355328)
                exact ⟨v', w', β', .inl (hrun _ _ (by rw [hsv]; exact g1)), g2⟩
              · rename_i z0 hs
                simp only [Option.some.injEq, Prod.mk.injEq] at hbase
                obtain ⟨rfl, rfl, rfl⟩ := hbase
                simp only [Option.some.injEq] at h
                subst h
                have hsv := opd_c T hs
                generalize hsx : a.eval s = s' at hsv hrun
                cases hsv with
                | dead hx _ _ => cases hx
                | z0 hz0 =>
                  obtain ⟨v', w', β', g1, g2⟩ := app_none R (m := m) (ty := o.type) (hm (by simp)) ht hu b1 hi hz b2 b3 n1 n2 n3 n4 hq.2 (rd := nw.rd) (q := nw.q ∧ nw.n * i.bytes ≤ 140737488355328)
                  exact ⟨v', w', β', .inl (hrun _ _ g1), g2⟩
              · rename_i b n hs
                split at hbase
                · rename_i cs ty hk
                  cases hty : Nat.beq ty e with
                  | false => rw [hty] at hbase; cases hbase
                  | true =>
                    rw [hty] at hbase
                    simp only [cond_true, Option.some.injEq, Prod.mk.injEq] at hbase
                    obtain ⟨rfl, rfl, rfl⟩ := hbase
                    simp only [Option.some.injEq] at h
                    subst h
                    have := Nat.eq_of_beq_eq_true hty
                    subst this
                    obtain ⟨v', w', β', g1, g2⟩ := app_row R (m := m) (ty := o.type) (hm (by simp)) hk ht hu b1 hi hz b2 b3 (opd_c T hs) n1 n2 n3 n4 hq.2 (rd := b :: nw.rd) (q := nw.q ∧ (n + nw.n) * i.bytes ≤ 140737488355328)
                    exact ⟨v', w', β', .inl (hrun _ _ g1), g2⟩
                · cases hbase
              · cases hbase
          · cases h
        · cases h
      · cases h
    · rename_i dd x t u hcal hargs htys
      split at h
      · rename_i e ht
        split at h
        · rename_i i hi
          split at h
          · rename_i b off n nw hdest hnews
            split at h
            · rename_i cs ty hk
              simp only [Option.some.injEq] at h
              subst h
              obtain ⟨q1, q2, q3⟩ := hq
              have e1 : c.args = #[dd, x] := Array.ext' hargs
              have e2 : c.argTypes = #[t, u] := Array.ext' htys
              obtain ⟨vs, n1, n2, n3, n4⟩ := news_sim R (opd_sim T x) hnews q1
              have hmin : Nat.min nw.n n ≤ nw.n := Nat.min_le_left _ _
              have hfc := n4 w rfl (Nat.min nw.n n) hmin
              have hdst : ∃ B X c', a.eval dd = .slice (some ⟨B, off, none⟩) n c' ∧ CR P K κ β (.rp b off) (.pointer (some ⟨B, off, none⟩)) ∧ β b = some (B, X) := by
                have hlv : κ b ≠ some .dead := by rw [hk]; simp
                have hl : live κ b := ⟨_, _, hk, rfl⟩
                unfold destE at hdest
                split at hdest
                · rename_i o1 n1 hs
                  simp only [Option.some.injEq, Prod.mk.injEq] at hdest
                  obtain ⟨rfl, rfl, rfl⟩ := hdest
                  have := opd_c T hs
                  generalize a.eval dd = y at this
                  cases this with
                  | dead hx hd _ => cases hx; exact absurd hd hlv
                  | rw _ _ _ _ _ _ hb => exact ⟨_, _, _, rfl, .rp hl hb, hb⟩
                  | rw0 _ _ hb => exfalso; apply q3; simp
                · rename_i o1 off1 n1 k1 sz1 hs
                  simp only [Option.some.injEq, Prod.mk.injEq] at hdest
                  obtain ⟨rfl, rfl, rfl⟩ := hdest
                  have := opd_c T hs
                  generalize a.eval dd = y at this
                  cases this with
                  | dead hx hd _ => cases hx; exact absurd hd hlv
                  | rs _ hnc _ hb ha =>
                    rcases ha with rfl | rfl
                    · exact ⟨_, _, _, rfl, .rp hl hb, hb⟩
                    · have hn0 : n1 = 0 := by omega
                      exfalso; apply q3; rw [hn0]; simp
                  | rs0 _ hb => exfalso; apply q3; simp
                · cases hdest
              obtain ⟨B, X, c', hdv, hpp, hbb⟩ := hdst
              have hF : F2 (CR P K κ β) ((nw.cs.take (Nat.min nw.n n * i.size)).map .f) (vs.take (Nat.min nw.n n * i.size)) := (n1.take _).map (S := CR P K κ β) CV.f fun _ _ k => CR.f k
              have hlen : (nw.cs.take (Nat.min nw.n n * i.size)).length = Nat.min nw.n n * i.size := by
                rw [List.length_take, n2]
                exact Nat.min_eq_left (Nat.mul_le_mul_right _ hmin)
              obtain ⟨w', g1, g2⟩ := store_sim (P := P) (m := m) (v' := .int .i64 (Nat.min nw.n n)) (rd := b :: nw.rd) (q := nw.q ∧ off + Nat.min nw.n n * i.size ≤ cs.length ∧ Nat.min nw.n n * i.size ≠ 0) R hpp (by rw [hk]; simp) hF
                (.inr ⟨cs, nw.cs.take (Nat.min nw.n n * i.size), ty, hk, rfl, rfl, by rw [List.length_map, hlen]; exact q2, fun e => q3 (by rw [← hlen]; simpa using congrArg List.length e)⟩)
              refine ⟨.int .i64 (Nat.min nw.n n), w', β, .inl ?_, ⟨g2.rel, .o (.c (.f (.v rfl))), g2.le, g2.bel, g2.blk, g2.bt, g2.nb, g2.lv⟩⟩
              unfold execOp; rw [hop]
              simp [resolve, hcal, e1, e2, invoke, builtin, hdv, Builtin.copy_, run_underlying ht, n3, sizeOf_run hi, hfc, goInt, g1]
            · rename_i cs ty hk
              simp only [Option.some.injEq] at h
              subst h
              obtain ⟨q1, q2, q3⟩ := hq
              have e1 : c.args = #[dd, x] := Array.ext' hargs
              have e2 : c.argTypes = #[t, u] := Array.ext' htys
              obtain ⟨vs, n1, n2, n3, n4⟩ := news_sim R (opd_sim T x) hnews q1
              have hmin : Nat.min nw.n n ≤ nw.n := Nat.min_le_left _ _
              have hfc := n4 w rfl (Nat.min nw.n n) hmin
              have hdst : ∃ B X c', a.eval dd = .slice (some ⟨B, off, none⟩) n c' ∧ CR P K κ β (.rp b off) (.pointer (some ⟨B, off, none⟩)) ∧ β b = some (B, X) := by
                have hlv : κ b ≠ some .dead := by rw [hk]; simp
                have hl : live κ b := ⟨_, _, hk, rfl⟩
                unfold destE at hdest
                split at hdest
                · rename_i o1 n1 hs
                  simp only [Option.some.injEq, Prod.mk.injEq] at hdest
                  obtain ⟨rfl, rfl, rfl⟩ := hdest
                  have := opd_c T hs
                  generalize a.eval dd = y at this
                  cases this with
                  | dead hx hd _ => cases hx; exact absurd hd hlv
                  | rw _ _ _ _ _ _ hb => exact ⟨_, _, _, rfl, .rp hl hb, hb⟩
                  | rw0 _ _ hb => exfalso; apply q3; simp
                · rename_i o1 off1 n1 k1 sz1 hs
                  simp only [Option.some.injEq, Prod.mk.injEq] at hdest
                  obtain ⟨rfl, rfl, rfl⟩ := hdest
                  have := opd_c T hs
                  generalize a.eval dd = y at this
                  cases this with
                  | dead hx hd _ => cases hx; exact absurd hd hlv
                  | rs _ hnc _ hb ha =>
                    rcases ha with rfl | rfl
                    · exact ⟨_, _, _, rfl, .rp hl hb, hb⟩
                    · have hn0 : n1 = 0 := by omega
                      exfalso; apply q3; rw [hn0]; simp
                  | rs0 _ hb => exfalso; apply q3; simp
                · cases hdest
              obtain ⟨B, X, c', hdv, hpp, hbb⟩ := hdst
              have hF : F2 (CR P K κ β) ((nw.cs.take (Nat.min nw.n n * i.size)).map .f) (vs.take (Nat.min nw.n n * i.size)) := (n1.take _).map (S := CR P K κ β) CV.f fun _ _ k => CR.f k
              have hlen : (nw.cs.take (Nat.min nw.n n * i.size)).length = Nat.min nw.n n * i.size := by
                rw [List.length_take, n2]
                exact Nat.min_eq_left (Nat.mul_le_mul_right _ hmin)
              obtain ⟨w', g1, g2⟩ := store_sim (P := P) (m := m) (v' := .int .i64 (Nat.min nw.n n)) (rd := b :: nw.rd) (q := nw.q ∧ off + Nat.min nw.n n * i.size ≤ cs.length ∧ Nat.min nw.n n * i.size ≠ 0) R hpp (by rw [hk]; simp) hF
                (.inl ⟨cs, ty, hk, rfl, by rw [List.length_map, hlen]; exact q2⟩)
              refine ⟨.int .i64 (Nat.min nw.n n), w', β, .inl ?_, ⟨g2.rel, .o (.c (.f (.v rfl))), g2.le, g2.bel, g2.blk, g2.bt, g2.nb, g2.lv⟩⟩
              unfold execOp; rw [hop]
              simp [resolve, hcal, e1, e2, invoke, builtin, hdv, Builtin.copy_, run_underlying ht, n3, sizeOf_run hi, hfc, goInt, g1]
            · cases h
          · cases h
        · cases h
      · cases h
    · cases h
  · rename_i s d1 x hop
    split at h
    · rename_i e0 e1 hs hd
      cases hsd : Nat.beq s d1 with
      | false => rw [hsd] at h; cases h
      | true =>
        rw [hsd] at h
        simp only [cond_true] at h
        have hsd := Nat.eq_of_beq_eq_true hsd
        subst hsd
        have he01 : e0 = e1 := by rw [hs] at hd; cases hd; rfl
        subst he01
        split at h
        · rename_i b n he hx
          split at h
          · rename_i cs ty hk
            simp only [Option.some.injEq] at h
            subst h
            simp only at hq
            have hO := R.ob b _ hk
            have hp := opd_c T hx
            have hp0 := hp
            generalize hax : a.eval x = y at hp hp0
            cases hp0 with
            | dead hx hd _ => cases hx; rw [hk] at hd; cases hd
            | rw0 hx0 hs0 hb =>
              rw [hb] at hO
              rcases hO with ⟨_, h⟩ | ⟨_, _, _, _, _, _, h, _⟩
              · exact absurd h hq
              · cases h
            | rw hx0 hs0 hz0 hL hn hc hb =>
              rw [hb] at hO
              rcases hO with ⟨h, _⟩ | ⟨B', X', C, e', lo, hi', p1, p2, p3, p4, p5⟩
              · cases h
              · cases p1
                obtain ⟨w', lo', hi2, m1, m2, m3, m4, m5⟩ := mark_run (P := P) p2 p3 p4 0
                have e2 : upd κ b (some (.fx cs ty)) = κ := by
                  funext z
                  by_cases hz : z = b
                  · subst hz; rw [upd_same, hk]
                  · exact upd_ne hz
                rename_i X c L ty0 sz x0
                have hval : VR P K (upd κ b (some (.fx cs ty))) β (.o (.c (.rw b n))) (.slice (some ⟨_, 0, none⟩) n c) := .o (.c (by rw [e2]; exact hp))
                have hps := post_set (P := P) (m := m) (x := .fx cs ty) (v := .o (.c (.rw b n))) (rd := [b]) (q := cs ≠ []) R hk rfl (by simp [VO.shape]) hb m4 m5 (.inr ⟨_, _, C, e', lo', hi2, rfl, m2, p3, m3, p5⟩) hval
                refine ⟨_, w', β, .inl ?_, hps⟩
                unfold execOp; rw [hop]
                simp only [hax]
                unfold convert
                simp only [Sem.run_bind, run_underlying hs, run_underlying hd, Result.andThen_ok, beq_self_eq_true, run_underlying he, m1, Sem.run_pure]
          · cases h
        · cases h
    · cases h
  · cases h
end
end Go.Proofs.Ytpjlgjhkdligfaa.Vg

namespace Go.Proofs.Ytpjlgjhkdligfaa.Vg
open Go.RowKit
set_option linter.unusedVariables false
set_option linter.unusedSimpArgs false

inductive Kd3 where
  | r
  | a
  | w
def kindO (P : Program) (o : Oper) : Kd3 := match o.op with
  | .alloc _ => .a
  | .box _ _ => .a
  | .buildSlice _ _ _ => .a
  | .makeSlice _ _ _ => .a
  | .store _ _ _ => .w
  | .convert s d _ => (match P.underlying s, P.underlying d with
    | some .string, some (.slice _) => .a
    | some (.slice _), some (.slice _) => .w
    | _, _ => .r)
  | .call c => (match c.callee with
    | .builtin .append => .w
    | .builtin .copy => .w
    | _ => .r)
  | _ => .r
def isSel (o : Oper) : Bool := match o.op with
  | .select _ _ => true
  | _ => false
/-- a string cut, a string's byte -/
def strX (P : Program) (ts : Tv) (o : Oper) : Option (Value × Prop) := match o.op with
  | .slice t x lo hi none => match P.underlying t, opd ts x, optI ts lo, optI ts hi with
    | some .string, .o (.c (.f (.v (.string s)))), some (some l), some (some h) => some (.string (s.extract l.toNat h.toNat), 0 ≤ l ∧ l ≤ h ∧ h ≤ (s.size : Int))
    | some .string, .o (.c (.f (.v (.string s)))), some (some l), some none => some (.string (s.extract l.toNat s.size), 0 ≤ l ∧ l ≤ (s.size : Int))
    | some .string, .o (.c (.f (.v (.string s)))), some none, some (some h) => some (.string (s.extract 0 h.toNat), 0 ≤ h ∧ h ≤ (s.size : Int))
    | _, _, _, _ => none
  | .index t x i => match P.underlying t, opd ts x, opd ts i with
    | some .string, .o (.c (.f (.v (.string s)))), .o (.c (.f (.v (.int _ n)))) => some (.int .u8 (s.get! n.toNat).toNat, 0 ≤ n ∧ n < (s.size : Int))
    | _, _, _ => none
  | .binOp .add t x y _ => match opd ts x, opd ts y with
    | .o (.c (.f (.v (.string s)))), .o (.c (.f (.v (.string u)))) => some (.string (s ++ u), s.size + u.size ≤ 9223372036854775807)
    | _, _ => none
  | _ => none
/-- a row cut at its end: what is behind it may be written again -/
def shX (P : Program) (κ : Hp) (ts : Tv) (m : Nat) (o : Oper) : Option Dl := match o.op with
  | .slice t x none (some hi) none => match P.underlying t, opd ts x, opd ts hi with
    | some (.slice e), .o (.c (.rw b n)), .o (.c (.f (.v (.int _ h)))) => match P.info? e, κ b with
      | some i, some (.fx cs ty) => bif Nat.beq ty e then some ⟨.o (.c (.rw m h.toNat)), [(b, .dead)], [.fx (cs.take (h.toNat * i.size)) ty], [b], n ≠ 0 ∧ 0 ≤ h ∧ h ≤ n⟩ else none
      | _, _ => none
    | _, _, _ => none
  | _ => none
def evD0 (P : Program) (κ : Hp) (ts : Tv) (m : Nat) (c : Cmd) (o : Oper) : Option Dl :=
  match c with
  | .raw v => bif o.op.operands.toList.all (clo ts) && !(isSel o) then some ⟨ofVal v, [], [], [], runQ P ts o v⟩ else none
  | .sx => (match strX P ts o with
    | some (v, q) => some ⟨atom v, [], [], [], q⟩
    | none => none)
  | .sh => shX P κ ts m o
  | _ => match kindO P o with
    | .r => (match evR P κ ts c o with
      | some r => some ⟨r.v, [], [], r.rd, r.q⟩
      | none => none)
    | .a => evA P ts m o
    | .w => evW P κ ts m o
/-- whole numbers added, without going round -/
def nwV (ts : Tv) (o : Oper) : Option TV := match o.op with
  | .binOp op _ x y _ => match opd ts x, opd ts y with
    | .o (.c (.f (.v (.int k a)))), .o (.c (.f (.v (.int _ b)))) => (match op with
      | .add => some (atom (.int k (a + b)))
      | .sub => some (atom (.int k (a - b)))
      | .mul => some (atom (.int k (a * b)))
      | _ => none)
    | _, _ => none
  | _ => none
def toldV (ts : Tv) (o : Oper) : Cmd → Option TV
  | .eq v => some v
  | .nw => nwV ts o
  | _ => none
/-- whether it is nil, forgotten -/
def fgC : CV → CV
  | .f (.v (.slice none 0 _)) => .f (.sl none [] 0)
  | .f (.sl _ cs n) => .f (.sl none cs n)
  | .z0 _ => .f (.sl none [] 0)
  | x => x
def fgL : List CV → List CV
  | [] => []
  | x :: r => fgC x :: fgL r
def fg1 : T1 → T1
  | .c x => .c (fgC x)
  | .ag xs => .ag (fgL xs)
def fg1L : List T1 → List T1
  | [] => []
  | x :: r => fg1 x :: fg1L r
def fgV : TV → TV
  | .u => .u
  | .o x => .o (fg1 x)
  | .tp xs => .tp (fg1L xs)
theorem fgC_sim {P : Program} {K : Kap} {κ : Hp} {β : Bt} {x : CV} {v : Value} (h : CR P K κ β x v) : CR P K κ β (fgC x) v := by
  unfold fgC
  split
  · cases h with
    | dead hx _ _ => cases hx
    | f h => cases h with | v _ => exact .f (.sl0 fun b hb => by cases hb)
  · cases h with
    | dead hx _ _ => cases hx
    | f h => cases h with
      | sl0 h => exact .f (.sl0 fun b hb => by cases hb)
      | sl us hz hn h1 h2 => exact .f (.sl us (fun b hb => by cases hb) hn h1 h2)
  · cases h with
    | dead hx _ _ => cases hx
    | z0 h => exact .f (.sl0 fun b hb => by cases hb)
  · exact h
theorem fgL_sim {P : Program} {K : Kap} {κ : Hp} {β : Bt} : ∀ {xs : List CV} {vs : List Value}, F2 (CR P K κ β) xs vs → F2 (CR P K κ β) (fgL xs) vs
  | _, _, .nil => .nil
  | _, _, .cons a b => .cons (fgC_sim a) (fgL_sim b)
theorem fg1_sim {P : Program} {K : Kap} {κ : Hp} {β : Bt} {x : T1} {v : Value} (h : R1 P K κ β x v) : R1 P K κ β (fg1 x) v := by
  cases h with
  | c h => exact .c (fgC_sim h)
  | ag h => exact .ag (fgL_sim h)
theorem fg1L_sim {P : Program} {K : Kap} {κ : Hp} {β : Bt} : ∀ {xs : List T1} {vs : List Value}, F2 (R1 P K κ β) xs vs → F2 (R1 P K κ β) (fg1L xs) vs
  | _, _, .nil => .nil
  | _, _, .cons a b => .cons (fg1_sim a) (fg1L_sim b)
theorem fgV_sim {P : Program} {K : Kap} {κ : Hp} {β : Bt} {x : TV} {v : Value} (h : VR P K κ β x v) : VR P K κ β (fgV x) v := by
  cases h with
  | u => exact .u
  | o h => exact .o (fg1_sim h)
  | tp h => exact .tp (fg1L_sim h)
def isFg : Cmd → Bool
  | .fg => true
  | _ => false
def evD (P : Program) (κ : Hp) (ts : Tv) (m : Nat) (c : Cmd) (o : Oper) : Option Dl :=
  match evD0 P κ ts m c o with
  | some d => (match toldV ts o c with
    | some v => some ⟨v, d.sets, d.news, d.rd, d.q ∧ d.v = v⟩
    | none => bif isFg c then some ⟨fgV d.v, d.sets, d.news, d.rd, d.q⟩ else some d)
  | none => none
section
variable {P : Program} {K K' : Kap} {κ κ' : Hp} {β β' : Bt} {ts : Tv} {a : Act} {o : Oper} {w w' : World}
theorem strX_sim (T : TR P K κ β ts a.tmps) {v : Value} {q : Prop} (h : strX P ts o = some (v, q)) (hq : q) (w : World) : (execOp a.eval o).run P w = .ok (.value v) w ∧ flat v = true := by
  unfold strX at h
  split at h
  · rename_i t x lo hi hop
    have hsl : ∀ (s : ByteArray) (lo' hi' : Option Value), P.underlying t = some .string → (Instr.sliceAt t (.string s) lo' hi' none).run P w = (Instr.slice t (.string s) lo' hi' none).run P w := fun s lo' hi' hu => by
      simp [Instr.sliceAt, run_underlying hu]
    split at h
    · rename_i s l hh hu hx hl hh'
      simp only [Option.some.injEq, Prod.mk.injEq] at h
      obtain ⟨rfl, rfl⟩ := h
      obtain ⟨q0, q1, q2⟩ := hq
      rcases optI_sim T hl with ⟨e0, _⟩ | ⟨n, k, e0, e1⟩
      · cases e0
      · cases e0
        rcases optI_sim T hh' with ⟨e2, _⟩ | ⟨n2, k2, e2, e3⟩
        · cases e2
        · cases e2
          refine ⟨?_, rfl⟩
          unfold execOp; rw [hop]
          simp only [opd_atom T hx, Sem.run_bind, Option.map_none, e1, e3]
          rw [hsl _ _ _ hu, run_slice_string w t s k k2 _ _ hu q0 q1 q2]
          rfl
    · rename_i s l hu hx hl hh'
      simp only [Option.some.injEq, Prod.mk.injEq] at h
      obtain ⟨rfl, rfl⟩ := h
      obtain ⟨q0, q1⟩ := hq
      rcases optI_sim T hl with ⟨e0, _⟩ | ⟨n, k, e0, e1⟩
      · cases e0
      · cases e0
        rcases optI_sim T hh' with ⟨_, e3⟩ | ⟨n2, k2, e2, e3⟩
        · refine ⟨?_, rfl⟩
          unfold execOp; rw [hop]
          simp only [opd_atom T hx, Sem.run_bind, Option.map_none, e1, e3]
          rw [hsl _ _ _ hu]
          have : 0 ≤ l ∧ l ≤ ((s.size : Nat) : Int) := ⟨q0, q1⟩
          simp [Instr.slice, Instr.sliceBounds, Instr.sliceBound, asIntOf, run_underlying hu, this]
        · cases e2
    · rename_i s hh hu hx hl hh'
      simp only [Option.some.injEq, Prod.mk.injEq] at h
      obtain ⟨rfl, rfl⟩ := h
      obtain ⟨q0, q1⟩ := hq
      rcases optI_sim T hh' with ⟨e0, _⟩ | ⟨n, k, e0, e1⟩
      · cases e0
      · cases e0
        rcases optI_sim T hl with ⟨_, e3⟩ | ⟨n2, k2, e2, e3⟩
        · refine ⟨?_, rfl⟩
          unfold execOp; rw [hop]
          simp only [opd_atom T hx, Sem.run_bind, Option.map_none, e1, e3]
          rw [hsl _ _ _ hu]
          have : 0 ≤ hh ∧ hh ≤ ((s.size : Nat) : Int) := ⟨q0, q1⟩
          simp [Instr.slice, Instr.sliceBounds, Instr.sliceBound, asIntOf, run_underlying hu, this]
        · cases e2
    · cases h
  · rename_i t x i hop
    split at h
    · rename_i s k n hu hx hi
      simp only [Option.some.injEq, Prod.mk.injEq] at h
      obtain ⟨rfl, rfl⟩ := h
      refine ⟨?_, rfl⟩
      unfold execOp; rw [hop]
      simp only [opd_atom T hx, opd_atom T hi, Sem.run_bind]
      rw [run_index_string w t s k n hu, dif_pos hq]
      have h2 : n.toNat < s.size := by omega
      have : s.get! n.toNat = s[n.toNat] := by
        simp [ByteArray.get!, getElem!_pos, h2]
        rfl
      simp only [this, Result.andThen_ok, Sem.run_pure]
    · cases h
  · rename_i t x y ty hop
    split at h
    · rename_i s u hx hy
      simp only [Option.some.injEq, Prod.mk.injEq] at h
      obtain ⟨rfl, rfl⟩ := h
      refine ⟨?_, rfl⟩
      unfold execOp; rw [hop]
      simp only [opd_atom T hx, opd_atom T hy, Sem.run_bind]
      have h1 : (eqGuard .add t x y (.string s) (.string u)).run P w = .ok () w := by simp [eqGuard]
      have h2 : (binOp .add t (.string s) (.string u)).run P w = .ok (.string (s ++ u)) w := by
        show (Op.stringOp .add s u).run P w = _
        exact run_string_add_sum w s u hq
      simp only [h1, h2, Result.andThen_ok, Sem.run_pure]
    · cases h
  · cases h
theorem shX_sim (R : VRel P K κ β w) (T : TR P K κ β ts a.tmps) {m : Nat} {d : Dl} (hm : d.news ≠ [] → κ m = none) (h : shX P κ ts m o = some d) (hq : d.q) :
    ∃ v' w' β', ((execOp a.eval o).run P w = .ok (.value v') w' ∨ ((execOp a.eval o).run P w = .ok .skip w' ∧ v' = undef)) ∧ Post P K κ β w m d v' w' β' := by
  unfold shX at h
  split at h
  · rename_i t x hi hop
    split at h
    · rename_i e b n ki hh hu hx hhi
      split at h
      · rename_i i cs ty hi0 hk
        cases hty : Nat.beq ty e with
        | false => rw [hty] at h; cases h
        | true =>
          rw [hty] at h
          simp only [cond_true, Option.some.injEq] at h
          have hte := Nat.eq_of_beq_eq_true hty
          subst hte
          subst h
          obtain ⟨q0, q1, q2⟩ := hq
          have hm := hm (by simp)
          have hv := opd_c T hx
          have hlen : (cs.take (hh.toNat * i.size)).length + (cs.length - (cs.take (hh.toNat * i.size)).length) = cs.length := by
            have : (cs.take (hh.toNat * i.size)).length ≤ cs.length := by rw [List.length_take]; omega
            omega
          generalize hav : a.eval x = av at hv
          cases hv with
          | dead hx1 hd _ => cases hx1; rw [hk] at hd; cases hd
          | rw0 hx1 hs1 hb => exact absurd rfl q0
          | rw hx0 hs0 hz0 hL hn hc hb =>
            rename_i B X c L ty0 sz x0
            rw [hk] at hx0
            cases hx0
            simp only [VO.shape, Option.some.injEq, Prod.mk.injEq] at hs0
            obtain ⟨rfl, rfl⟩ := hs0
            have hsz : sz = i.size := by rw [hi0] at hz0; simpa using hz0.symm
            subst hsz
            have hO := R.ob b _ hk
            rw [hb] at hO
            rcases hO with ⟨h, _⟩ | ⟨B', X', C, e', lo, hi', p1, p2, p3, p4, p5⟩
            · cases h
            · cases p1
              have hnat : hh.toNat ≤ n := by omega
              have hml : hh.toNat * i.size ≤ cs.length := by rw [← hL]; exact Nat.mul_le_mul_right _ hnat
              have htl : (cs.take (hh.toNat * i.size)).length = hh.toNat * i.size := by rw [List.length_take]; omega
              have hev : a.eval hi = .int ki hh := opd_atom T hhi
              have hrun := cutV_run (P := P) (A := some ⟨B, 0, none⟩) (len := n) (cap := n) (cap' := c) (lo := none) (lo' := none) (hi := some hh) (hi' := some (.int ki hh)) hu hi0 ⟨⟨q1, q2⟩, trivial⟩ hn (.inl ⟨rfl, rfl⟩) (.inr ⟨hh, ki, rfl, rfl⟩) w
              have hc0 : ¬ c = bndL none := by show ¬ c = 0; omega
              have hadd : (⟨B, 0, none⟩ : Addr).add (bndL none * i.size) = ⟨B, 0, none⟩ := by rw [add_eq rfl]; simp [bndL]
              simp only [Option.map_some, if_neg hc0, hadd] at hrun
              have hmv := rel_move (P := P) (cs := cs.take (hh.toNat * i.size)) (X' := X + (cs.length - (cs.take (hh.toNat * i.size)).length)) (e := ty) (m := m) R hk hm hb (fun _ _ => rfl) p2 (by omega) (by rcases p4 with p4 | p4; exact .inl p4; right; omega)
                (fun j y hj => p5 j y (by
                  have hlt : j < hh.toNat * i.size := by
                    have := (List.getElem?_eq_some_iff.1 hj).1
                    omega
                  rwa [List.getElem?_take, if_pos hlt] at hj))
              refine ⟨.slice (some ⟨B, 0, none⟩) hh.toNat c, w, upd β m (some (B, X + (cs.length - (cs.take (hh.toNat * i.size)).length))), .inl ?_, ?_⟩
              · unfold execOp; rw [hop]
                simp only [Sem.run_bind, Option.map_none, Option.map_some, hav, hev, hrun, Result.andThen_ok, Sem.run_pure]
                rfl
              · refine ⟨hmv.1, .o (.c (.rw (L := (cs.take (hh.toNat * i.size)).length) upd_same rfl hz0 (by omega) (by omega) (by omega) upd_same)), hmv.2, Below.refl _ _, fun B' hB => .inl rfl, fun z hz => upd_ne hz, fun B' X1 _ hb1 => ?_, fun z hz => ?_⟩
                · rw [upd_same] at hb1
                  cases hb1
                  exact .inr ⟨b, .dead, X, by simp, ⟨_, _, hk, rfl⟩, hb⟩
                · rcases live_upd hz with ⟨e1, _⟩ | ⟨_, l⟩
                  · exact .inl ⟨e1, by simp⟩
                  · rcases live_upd l with ⟨_, h2⟩ | ⟨_, l⟩
                    · exact absurd rfl h2
                    · exact .inr l
      · cases h
    · cases h
  · cases h
theorem evD0_sim (R : VRel P K κ β w) (T : TR P K κ β ts a.tmps) {m : Nat} {c : Cmd} {d : Dl} (hm : d.news ≠ [] → κ m = none) (h : evD0 P κ ts m c o = some d) (hq : d.q) :
    ∃ v' w' β', ((execOp a.eval o).run P w = .ok (.value v') w' ∨ ((execOp a.eval o).run P w = .ok .skip w' ∧ v' = undef)) ∧ Post P K κ β w m d v' w' β' := by
  have main : (match kindO P o with
    | .r => (match evR P κ ts c o with
      | some r => some (⟨r.v, [], [], r.rd, r.q⟩ : Dl)
      | none => none)
    | .a => evA P ts m o
    | .w => evW P κ ts m o) = some d → ∃ v' w' β', ((execOp a.eval o).run P w = .ok (.value v') w' ∨ ((execOp a.eval o).run P w = .ok .skip w' ∧ v' = undef)) ∧ Post P K κ β w m d v' w' β' := by
    intro h
    split at h
    · split at h
      · rename_i r hr
        simp only [Option.some.injEq] at h
        subst h
        obtain ⟨v', h1, h2⟩ := evR_sim R T hr hq
        exact ⟨v', w, β, .inl h1, post_same R h2⟩
      · cases h
    · obtain ⟨v', w', β', h1, h2⟩ := evA_sim R T hm h hq
      exact ⟨v', w', β', .inl h1, h2⟩
    · exact evW_sim R T hm h hq
  unfold evD0 at h
  split at h
  · rename_i v
    cases hb : (o.op.operands.toList.all (clo ts) && !(isSel o)) with
    | false => rw [hb] at h; cases h
    | true =>
      rw [hb] at h
      simp only [cond_true, Option.some.injEq] at h
      subst h
      simp only [Bool.and_eq_true, Bool.not_eq_true'] at hb
      obtain ⟨v', h1, h2⟩ := runQ_sim T (fun cs b hh => by have := hb.2; unfold isSel at this; rw [hh] at this; cases this) hb.1 hq w
      exact ⟨v', w, β, .inl h1, post_same R h2⟩
  · split at h
    · rename_i v q hx
      simp only [Option.some.injEq] at h
      subst h
      obtain ⟨h1, h2⟩ := strX_sim T hx hq w
      exact ⟨v, w, β, .inl h1, post_same R (.o (.c (.f (.v h2))))⟩
    · cases h
  · exact shX_sim R T hm h hq
  · exact main h
theorem evD_sim (R : VRel P K κ β w) (T : TR P K κ β ts a.tmps) {m : Nat} {c : Cmd} {d : Dl} (hm : d.news ≠ [] → κ m = none) (h : evD P κ ts m c o = some d) (hq : d.q) :
    ∃ v' w' β', ((execOp a.eval o).run P w = .ok (.value v') w' ∨ ((execOp a.eval o).run P w = .ok .skip w' ∧ v' = undef)) ∧ Post P K κ β w m d v' w' β' := by
  unfold evD at h
  split at h
  · rename_i d0 hd
    split at h
    · rename_i v
      simp only [Option.some.injEq] at h
      subst h
      obtain ⟨q1, q2⟩ := hq
      obtain ⟨v', w', β', h1, h2⟩ := evD0_sim (d := d0) R T hm hd q1
      refine ⟨v', w', β', h1, ?_⟩
      rw [← q2]
      exact ⟨h2.rel, h2.val, h2.le, h2.bel, h2.blk, h2.bt, h2.nb, h2.lv⟩
    · cases hf : isFg c with
      | true =>
        rw [hf] at h
        simp only [cond_true, Option.some.injEq] at h
        subst h
        obtain ⟨v', w', β', h1, h2⟩ := evD0_sim (d := d0) R T hm hd hq
        exact ⟨v', w', β', h1, ⟨h2.rel, fgV_sim h2.val, h2.le, h2.bel, h2.blk, h2.bt, h2.nb, h2.lv⟩⟩
      | false =>
        rw [hf] at h
        simp only [cond_false, Option.some.injEq] at h
        subst h
        exact evD0_sim R T hm hd hq
  · cases h
/-! ### it reads no more -/
theorem liveB_eq {o : Nat} (h : κ' o = κ o) : liveB κ' o = liveB κ o := by unfold liveB; rw [h]
theorem nilE_loc {op : BinOp} {t : TypeId} {x y : TV} {r : Bool × List Nat} (h : nilE P κ op t x y = some r) (e : ∀ o ∈ r.2, κ' o = κ o) : nilE P κ' op t x y = some r := by
  have key : ∀ c r, nilP κ c = some r → (∀ o ∈ r.2, κ' o = κ o) → nilP κ' c = some r := by
    intro c r h e
    unfold nilP at h ⊢
    split at h
    · rename_i oo off
      cases hl : liveB κ oo with
      | false => rw [hl] at h; cases h
      | true =>
        rw [hl] at h
        simp only [cond_true, Option.some.injEq] at h
        subst h
        simp only [liveB_eq (e oo (by simp)), hl, cond_true]
    · exact h
    · cases h
  have key2 : ∀ c r, nilS κ c = some r → (∀ o ∈ r.2, κ' o = κ o) → nilS κ' c = some r := by
    intro c r h e
    unfold nilS at h ⊢
    split at h
    · exact h
    · exact h
    · exact h
    · rename_i oo n
      obtain ⟨hb, h1⟩ := cond_sm h
      subst h1
      rw [liveB_eq (e oo (by simp))]
      exact h
    · rename_i oo off n k sz
      obtain ⟨hb, h1⟩ := cond_sm h
      subst h1
      rw [liveB_eq (e oo (by simp))]
      exact h
    · cases h
  unfold nilE at h ⊢
  split at h
  · rename_i c u
    try simp only at h ⊢
    split at h
    · rename_i z rd hn
      cases hb : opB op z with
      | none => rw [hb] at h; cases h
      | some b =>
        rw [hb] at h
        simp only [Option.some.injEq] at h
        subst h
        have : nilK P κ' t u c = some (z, rd) := by
          unfold nilK at hn ⊢
          split at hn
          · exact key c _ hn e
          · exact key2 c _ hn e
          · exact hn
          · cases hn
        rw [this]
        simp only [hb]
    · cases h
  · cases h
theorem loadE_loc {t : TypeId} {p : CV} {xs : Option Tld} {r : Rs} (h : loadE P κ t p xs = some r) (e : ∀ o ∈ r.rd, κ' o = κ o) : loadE P κ' t p xs = some r := by
  unfold loadE at h ⊢
  split at h
  · rename_i i d hi hd
    split at h
    · rename_i oo off
      have : κ' oo = κ oo := by
        split at h
        · rename_i cs ty hk
          cases hb : Nat.beq ((cs.drop off).take i.size).length i.size with
          | false => rw [hb] at h; cases h
          | true =>
            rw [hb] at h
            simp only [cond_true] at h
            split at h
            · simp only [Option.some.injEq] at h
              subst h
              exact e oo (by simp)
            · cases h
        · split at h
          · split at h
            · simp only [Option.some.injEq] at h
              subst h
              exact e oo (by simp)
            · cases h
          · cases h
        · cases h
      simp only [this]
      exact h
    · exact h
    · cases h
  · cases h
theorem cutE_loc {t : TypeId} {x : CV} {lo hi : Option Int} {r : Rs} (h : cutE P κ t x lo hi = some r) (e : ∀ o ∈ r.rd, κ' o = κ o) : cutE P κ' t x lo hi = some r := by
  unfold cutE at h ⊢
  split at h
  · split at h
    · rename_i i hi
      split at h
      · exact h
      · rename_i oo n
        cases hl : liveB κ oo with
        | false => rw [hl] at h; cases h
        | true =>
          rw [hl] at h
          simp only [cond_true, Option.some.injEq] at h
          subst h
          simp only [liveB_eq (e oo (by simp)), hl, cond_true]
      · rename_i oo off n k sz
        cases hl : (liveB κ oo && Nat.beq sz i.size) with
        | false => rw [hl] at h; cases h
        | true =>
          rw [hl] at h
          simp only [cond_true, Option.some.injEq] at h
          subst h
          simp only [liveB_eq (e oo (by simp)), hl, cond_true]
      · cases h
    · cases h
  · split at h
    · split at h
      · rename_i oo off
        cases hl : liveB κ oo with
        | false => rw [hl] at h; cases h
        | true =>
          rw [hl] at h
          simp only [cond_true, Option.some.injEq] at h
          subst h
          simp only [liveB_eq (e oo (by simp)), hl, cond_true]
      · cases h
    · cases h
  · cases h
theorem strE_loc {s d : TypeId} {x : CV} {r : Rs} (h : strE P κ s d x = some r) (e : ∀ o ∈ r.rd, κ' o = κ o) : strE P κ' s d x = some r := by
  unfold strE at h ⊢
  split at h
  · split at h
    · exact h
    · rename_i oo n he
      have : κ' oo = κ oo := by
        split at h
        · simp only [Option.some.injEq] at h; subst h; exact e oo (by simp)
        · cases h
      simp only [this]
      exact h
    · rename_i oo off n k sz he
      have : κ' oo = κ oo := by
        split at h
        · simp only [Option.some.injEq] at h; subst h; exact e oo (by simp)
        · cases h
      simp only [this]
      exact h
    · cases h
  · cases h
theorem lenE_loc {t : TypeId} {x : TV} {r : Rs} (h : lenE P κ t x = some r) (e : ∀ o ∈ r.rd, κ' o = κ o) : lenE P κ' t x = some r := by
  unfold lenE at h ⊢
  split at h
  · split at h
    · split at h
      · rename_i oo hoo
        cases hl : liveB κ oo with
        | false => rw [hl] at h; cases h
        | true =>
          rw [hl] at h
          simp only [cond_true, Option.some.injEq] at h
          subst h
          simp only [hoo, liveB_eq (e oo (by simp)), hl, cond_true]
      · exact h
    · cases h
  · cases h
theorem fieldAddrE_loc {t : TypeId} {p : CV} {f : Nat} {r : Rs} (h : fieldAddrE P κ t p f = some r) (e : ∀ o ∈ r.rd, κ' o = κ o) : fieldAddrE P κ' t p f = some r := by
  unfold fieldAddrE at h ⊢
  split at h
  · split at h
    · split at h
      · rename_i i hi
        cases hb : Nat.beq i.size 0 with
        | true => rw [hb] at h; cases h
        | false =>
          rw [hb] at h
          simp only [cond_false] at h; try simp only [cond_false]
          split at h
          · rename_i oo off
            cases hl : liveB κ oo with
            | false => rw [hl] at h; cases h
            | true =>
              rw [hl] at h
              simp only [cond_true, Option.some.injEq] at h
              subst h
              simp only [liveB_eq (e oo (by simp)), hl, cond_true]
          · exact h
          · cases h
      · cases h
    · cases h
  · cases h
theorem indexAddrE_loc {t : TypeId} {x : CV} {i : Int} {r : Rs} (h : indexAddrE P κ t x i = some r) (e : ∀ o ∈ r.rd, κ' o = κ o) : indexAddrE P κ' t x i = some r := by
  unfold indexAddrE at h ⊢
  split at h
  · split at h
    · rename_i ie oo off hie
      cases hl : liveB κ oo with
      | false => rw [hl] at h; cases h
      | true =>
        rw [hl] at h
        simp only [cond_true, Option.some.injEq] at h
        subst h
        simp only [liveB_eq (e oo (by simp)), hl, cond_true]
    · exact h
    · cases h
  · split at h
    · exact h
    · rename_i ie oo n hie
      cases hl : liveB κ oo with
      | false => rw [hl] at h; cases h
      | true =>
        rw [hl] at h
        simp only [cond_true, Option.some.injEq] at h
        subst h
        simp only [liveB_eq (e oo (by simp)), hl, cond_true]
    · rename_i ie oo off n k sz hie
      cases hl : liveB κ oo with
      | false => rw [hl] at h; cases h
      | true =>
        rw [hl] at h
        simp only [cond_true, Option.some.injEq] at h
        subst h
        simp only [liveB_eq (e oo (by simp)), hl, cond_true]
    · cases h
  · cases h
theorem prC_loc : ∀ (xs : List Operand) (l : List (Nat × Nat)) (rd : List Nat), prC κ xs ts = some (l, rd) → (∀ o ∈ rd, κ' o = κ o) → prC κ' xs ts = some (l, rd)
  | [], l, rd, h, _ => h
  | x :: xs, l, rd, h, e => by
    simp only [prC] at h ⊢
    split at h
    · rename_i oo off hx
      cases hlb : liveB κ oo with
      | false => rw [hlb] at h; cases h
      | true =>
        rw [hlb] at h
        simp only [cond_true] at h
        split at h
        · rename_i l1 rd1 hl
          simp only [Option.some.injEq, Prod.mk.injEq] at h
          obtain ⟨rfl, rfl⟩ := h
          simp only [liveB_eq (e oo (by simp)), hlb, cond_true, prC_loc xs l1 rd1 hl (fun o ho => e o (by simp [ho]))]
        · cases h
    · cases h
theorem evR_loc {c : Cmd} {r : Rs} (h : evR P κ ts c o = some r) (e : ∀ o ∈ r.rd, κ' o = κ o) : evR P κ' ts c o = some r := by
  unfold evR at h ⊢
  split at h
  · exact h
  · exact h
  · exact h
  · try simp only at h ⊢
    split at h
    · rename_i oo off hx
      cases hl : liveB κ oo with
      | false => rw [hl] at h; cases h
      | true =>
        rw [hl] at h
        simp only [cond_true, Option.some.injEq] at h
        subst h
        simp only [liveB_eq (e oo (by simp)), hl, cond_true]
    · exact h
    · exact h
    · exact h
    · cases h
  · try simp only at h ⊢
    rename_i op t x y ty hop
    cases hcl : (clo ts x && clo ts y) with
    | true => rw [hcl] at h; exact h
    | false =>
      rw [hcl] at h
      simp only [cond_false] at h; try simp only [cond_false]
      split at h
      · rename_i b rd hn
        simp only [Option.some.injEq] at h
        subst h
        rw [nilE_loc hn e]
      · cases h
  · exact h
  · try simp only at h ⊢
    rename_i s d x hop
    cases hcl : clo ts x with
    | true => rw [hcl] at h; exact h
    | false =>
      rw [hcl] at h
      simp only [cond_false] at h; try simp only [cond_false]
      split at h
      · exact strE_loc h e
      · cases h
  · try simp only at h ⊢
    split at h
    · split at h
      · rename_i cs rd hcs
        simp only [Option.some.injEq] at h
        subst h
        rw [prC_loc _ _ _ hcs e]
      · cases h
    · cases h
  · exact h
  · exact h
  · exact h
  · exact h
  · try simp only at h ⊢
    split at h
    · exact fieldAddrE_loc h e
    · cases h
  · try simp only at h ⊢
    split at h
    · exact indexAddrE_loc h e
    · cases h
  · try simp only at h ⊢
    split at h
    · exact loadE_loc h e
    · cases h
  · try simp only at h ⊢
    split at h
    · exact h
    · exact cutE_loc h e
    · cases h
  · exact h
  · try simp only at h ⊢
    split at h
    · rename_i x t hcal hargs htys
      cases hcl : clo ts x with
      | true => rw [hcl] at h; exact h
      | false =>
        rw [hcl] at h
        simp only [cond_false] at h; try simp only [cond_false]
        exact lenE_loc h e
    · exact h
    · exact h
    · cases h
  · cases h
theorem newsF_loc {size : Nat} {x : TV} {nw : Nw} (h : newsF κ size x = some nw) (e : ∀ o ∈ nw.rd, κ' o = κ o) : newsF κ' size x = some nw := by
  unfold newsF at h ⊢
  split at h
  · exact h
  · exact h
  · exact h
  · exact h
  · rename_i oo n
    have : κ' oo = κ oo := by
      split at h
      · simp only [Option.some.injEq] at h; subst h; exact e oo (by simp)
      · cases h
    simp only [this]
    exact h
  · rename_i oo off n k sz
    have : κ' oo = κ oo := by
      split at h
      · simp only [Option.some.injEq] at h; subst h; exact e oo (by simp)
      · split at h
        · simp only [Option.some.injEq] at h; subst h; exact e oo (by simp)
        · cases h
      · cases h
    simp only [this]
    exact h
  · cases h
theorem baseE_loc {t : TypeId} {x : TV} {olds : List FV} {l : Nat} {ob : Option Nat} (h : baseE κ t x = some (olds, l, ob)) (e : ∀ b, ob = some b → κ' b = κ b) : baseE κ' t x = some (olds, l, ob) := by
  unfold baseE at h ⊢
  split at h
  · exact h
  · exact h
  · rename_i oo n
    have : κ' oo = κ oo := by
      split at h
      · rename_i cs ty hk
        cases hb : Nat.beq ty t with
        | false => rw [hb] at h; cases h
        | true =>
          rw [hb] at h
          simp only [cond_true, Option.some.injEq, Prod.mk.injEq] at h
          exact e oo h.2.2.symm
      · cases h
    simp only [this]
    exact h
  · cases h
theorem evW_loc {m : Nat} {d : Dl} (h : evW P κ ts m o = some d) (e : ∀ o ∈ d.rd, κ' o = κ o) : evW P κ' ts m o = some d := by
  unfold evW at h ⊢
  split at h
  · try simp only at h ⊢
    split at h
    · rename_i i b off v hi hx hy
      cases hb : Nat.beq v.cells.length i.size with
      | false => rw [hb] at h; cases h
      | true =>
        rw [hb] at h
        simp only [cond_true] at h ⊢
        have : κ' b = κ b := by
          split at h
          · rename_i cs ty hk
            cases hb2 : Nat.ble (off + i.size) cs.length with
            | false => rw [hb2] at h; cases h
            | true => rw [hb2] at h; simp only [cond_true, Option.some.injEq] at h; subst h; exact e b (by simp)
          · split at h
            · simp only [Option.some.injEq] at h; subst h; exact e b (by simp)
            · cases h
          · cases h
        simp only [hi, hx, hy, hb, cond_true, this]
        exact h
    · cases h
  · try simp only at h ⊢
    split at h
    · rename_i s x t u hcal hargs htys
      try simp only [hcal, hargs, htys] at h ⊢
      split at h
      · rename_i e1 du ht hu
        split at h
        · rename_i i hi
          split at h
          · rename_i z olds l ob nw hz hbase hnews
            cases hb : (isSlD du && Nat.beq z.cells.size i.size && Nat.blt 0 i.bytes && Nat.blt 0 i.size) with
            | false => rw [hb] at h; cases h
            | true =>
              rw [hb] at h
              simp only [cond_true] at h
              have n1 : newsF κ' i.size (opd ts x) = some nw := newsF_loc hnews fun o ho => e o (by cases ob <;> simp only [Option.some.injEq] at h <;> subst h <;> simp [ho])
              have n2 : baseE κ' e1 (opd ts s) = some (olds, l, ob) := baseE_loc hbase fun b hb => e b (by subst hb; simp only [Option.some.injEq] at h; subst h; simp)
              simp only [ht, hu, hi, hz, n1, n2, hb, cond_true]
              exact h
          · cases h
        · cases h
      · cases h
    · rename_i dd x t u hcal hargs htys
      try simp only [hcal, hargs, htys] at h ⊢
      split at h
      · rename_i e1 ht
        split at h
        · rename_i i hi
          split at h
          · rename_i b off n nw hdest hnews
            split at h
            · rename_i cs ty hk
              simp only [Option.some.injEq] at h
              subst h
              have n1 : newsF κ' i.size (opd ts x) = some nw := newsF_loc hnews fun o ho => e o (by simp [ho])
              have n2 : destE κ' i.size (opd ts dd) = some (b, off, n) := hdest
              have n3 : κ' b = some (.fx cs ty) := (e b (by simp)).trans hk
              simp only [ht, hi, n1, n2, n3]
            · rename_i cs ty hk
              simp only [Option.some.injEq] at h
              subst h
              have n1 : newsF κ' i.size (opd ts x) = some nw := newsF_loc hnews fun o ho => e o (by simp [ho])
              have n2 : destE κ' i.size (opd ts dd) = some (b, off, n) := hdest
              have n3 : κ' b = some (.bx cs ty) := (e b (by simp)).trans hk
              simp only [ht, hi, n1, n2, n3]
            · cases h
          · cases h
        · cases h
      · cases h
    · cases h
  · rename_i s d1 x hop
    try simp only at h ⊢
    split at h
    · rename_i e0 e1 hs hd
      cases hsd : Nat.beq s d1 with
      | false => rw [hsd] at h; cases h
      | true =>
        rw [hsd] at h
        simp only [cond_true] at h ⊢
        split at h
        · rename_i b n he hx
          have : κ' b = κ b := by
            split at h
            · simp only [Option.some.injEq] at h; subst h; exact e b (by simp)
            · cases h
          simp only [hs, hd, hsd, he, hx, cond_true, this]
          exact h
        · cases h
    · cases h
  · cases h
theorem shX_loc {m : Nat} {d : Dl} (h : shX P κ ts m o = some d) (e : ∀ o ∈ d.rd, κ' o = κ o) : shX P κ' ts m o = some d := by
  unfold shX at h ⊢
  split at h
  · split at h
    · split at h
      · rename_i hu hx hhi i cs ty hi0 hk
        cases hty : Nat.beq ty _ with
        | false => rw [hty] at h; cases h
        | true =>
          rw [hty] at h
          simp only [cond_true, Option.some.injEq] at h
          subst h
          simp only [*, e _ (List.mem_singleton.2 rfl), hty, cond_true]
      · cases h
    · cases h
  · cases h
theorem evD0_loc {m : Nat} {c : Cmd} {d : Dl} (h : evD0 P κ ts m c o = some d) (e : ∀ o ∈ d.rd, κ' o = κ o) : evD0 P κ' ts m c o = some d := by
  have main : (match kindO P o with
    | .r => (match evR P κ ts c o with
      | some r => some (⟨r.v, [], [], r.rd, r.q⟩ : Dl)
      | none => none)
    | .a => evA P ts m o
    | .w => evW P κ ts m o) = some d → (match kindO P o with
    | .r => (match evR P κ' ts c o with
      | some r => some (⟨r.v, [], [], r.rd, r.q⟩ : Dl)
      | none => none)
    | .a => evA P ts m o
    | .w => evW P κ' ts m o) = some d := by
    intro h
    cases hk : kindO P o with
    | r =>
      rw [hk] at h
      try simp only at h ⊢
      split at h
      · rename_i r hr
        simp only [Option.some.injEq] at h
        subst h
        rw [evR_loc hr e]
      · cases h
    | a => rw [hk] at h; exact h
    | w => rw [hk] at h; exact evW_loc h e
  unfold evD0 at h ⊢
  split at h
  · exact h
  · exact h
  · exact shX_loc h e
  · exact main h
theorem evD_loc {m : Nat} {c : Cmd} {d : Dl} (h : evD P κ ts m c o = some d) (e : ∀ o ∈ d.rd, κ' o = κ o) : evD P κ' ts m c o = some d := by
  unfold evD at h ⊢
  split at h
  · rename_i d0 hd
    have e' : ∀ o ∈ d0.rd, κ' o = κ o := by
      split at h
      · simp only [Option.some.injEq] at h; subst h; exact e
      · cases hf : isFg c with
        | true => rw [hf] at h; simp only [cond_true, Option.some.injEq] at h; subst h; exact e
        | false => rw [hf] at h; simp only [cond_false, Option.some.injEq] at h; subst h; exact e
    rw [evD0_loc hd e']
    exact h
  · cases h
end
end Go.Proofs.Ytpjlgjhkdligfaa.Vg

namespace Go.Proofs.Ytpjlgjhkdligfaa.Vg
open Go.RowKit
set_option linter.unusedVariables false
set_option linter.unusedSimpArgs false

/-- a row or variable -/
def isCl : Obj → Bool
  | .cells _ _ _ => true
  | _ => false
theorem VRel.cl {P : Program} {K : Kap} {κ : Hp} {β : Bt} {w : World} (R : VRel P K κ β w) {o B X : Nat} (hl : live κ o) (hb : β o = some (B, X)) : ∃ x, w.heap[B]? = some x ∧ isCl x = true := by
  obtain ⟨y, s, h1, h2⟩ := hl
  have hO := R.ob o y h1
  rw [hb] at hO
  cases y with
  | dead => cases h2
  | bx cs ty =>
    obtain ⟨B', X', C, e, lo, hi, h3, h4, _⟩ := hO
    cases h3
    exact ⟨_, h4, rfl⟩
  | fx cs ty =>
    rcases hO with ⟨h3, _⟩ | ⟨B', X', C, e, lo, hi, h3, h4, _⟩
    · cases h3
    · cases h3
      exact ⟨_, h4, rfl⟩
structure Fr (K : Kap) (κ : Hp) (β : Bt) (w : World) (K' : Kap) (κ' : Hp) (β' : Bt) (w' : World) : Prop where
  k : ∀ b x, K b = some x → K' b = some x
  bel : Below 0 w w'
  blk : ∀ B, B < w.heap.size → w'.heap[B]? = w.heap[B]? ∨ ∃ o X, live κ o ∧ β o = some (B, X)
  nb : ∀ o B X, live κ' o → β' o = some (B, X) → w.heap.size ≤ B ∨ ∃ o' X', live κ o' ∧ β o' = some (B, X')
  nk : ∀ b, K' b ≠ none → K b ≠ none ∨ w.heap.size ≤ b ∨ ∃ o X, live κ o ∧ β o = some (b, X)
  kc : ∀ b x, K' b = some x → K b = some x ∨ isCl x = true
theorem Fr.refl (K : Kap) (κ : Hp) (β : Bt) (w : World) : Fr K κ β w K κ β w := ⟨fun _ _ h => h, Below.refl _ _, fun _ _ => .inl rfl, fun o B X h h1 => .inr ⟨o, X, h, h1⟩, fun _ h => .inl h, fun _ _ h => .inl h⟩
theorem Fr.trans {K K1 K2 : Kap} {κ κ1 κ2 : Hp} {β β1 β2 : Bt} {w w1 w2 : World} (a : Fr K κ β w K1 κ1 β1 w1) (b : Fr K1 κ1 β1 w1 K2 κ2 β2 w2) : Fr K κ β w K2 κ2 β2 w2 := by
  have hs := a.bel.size
  have up : ∀ B X o, live κ1 o → β1 o = some (B, X) → w.heap.size ≤ B ∨ ∃ o' X', live κ o' ∧ β o' = some (B, X') := fun B X o h1 h2 => a.nb o B X h1 h2
  refine ⟨fun z x h => b.k z x (a.k z x h), a.bel.trans b.bel, fun B hB => ?_, fun o B X h1 h2 => ?_, fun z h => ?_, fun z x h => (b.kc z x h).elim (a.kc z x) .inr⟩
  · rcases b.blk B (by omega) with h | ⟨o, X, h1, h2⟩
    · rcases a.blk B hB with h' | h'
      · exact .inl (h.trans h')
      · exact .inr h'
    · rcases up B X o h1 h2 with h' | h'
      · omega
      · exact .inr h'
  · rcases b.nb o B X h1 h2 with h | ⟨o', X', h3, h4⟩
    · exact .inl (by omega)
    · exact up B X' o' h3 h4
  · rcases b.nk z h with h1 | h1 | ⟨o, X, h1, h2⟩
    · exact a.nk z h1
    · exact .inr (.inl (by omega))
    · exact .inr (up z X o h1 h2)
structure SP (P : Program) (K : Kap) (κ : Hp) (β : Bt) (w : World) (κ' : Hp) (v : TV) (v' : Value) (w' : World) (K' : Kap) (β' : Bt) : Prop where
  rel : VRel P K' κ' β' w'
  val : VR P K' κ' β' v v'
  le : Le K κ β K' κ' β'
  fr : Fr K κ β w K' κ' β' w'
theorem SP.of_post {P : Program} {K : Kap} {κ : Hp} {β β' : Bt} {w w' : World} {m : Nat} {d : Dl} {v' : Value} (h : Post P K κ β w m d v' w' β') : SP P K κ β w (kapD κ m d) d.v v' w' K β' := by
  refine ⟨h.rel, h.val, h.le, fun _ _ h => h, h.bel, fun B hB => ?_, fun o B X h1 h2 => ?_, fun b hb => .inl hb, fun _ _ h => .inl h⟩
  · rcases h.blk B hB with h1 | ⟨o, x, X, _, h2, h3⟩
    · exact .inl h1
    · exact .inr ⟨o, X, h2, h3⟩
  · have hm : o = m → d.news ≠ [] → w.heap.size ≤ B ∨ ∃ o' X', live κ o' ∧ β o' = some (B, X') := fun e hn => by
      subst e
      rcases h.nb B X hn h2 with h4 | ⟨o', x, X', _, h5, h6⟩
      · exact .inl h4
      · exact .inr ⟨o', X', h5, h6⟩
    rcases h.lv o h1 with ⟨e, hn⟩ | hl
    · exact hm e hn
    · by_cases e : o = m
      · by_cases hn : d.news = []
        · have hkb : β' o = β o ∨ β' o ≠ β o := Classical.em _
          obtain ⟨x, s, q1, q2⟩ := hl
          rcases h.le.o o x q1 with q3 | ⟨x', q3, q4, q5⟩
          · obtain ⟨y, s', q6, q7⟩ := h1
            rw [q3] at q6
            cases q6
            cases q7
          · exact .inr ⟨o, X, ⟨x, s, q1, q2⟩, by rw [← q5]; exact h2⟩
        · exact hm e hn
      · exact .inr ⟨o, X, hl, by rw [← h.bt o e]; exact h2⟩
/-! ### named anew -/
def renP (p : Nat → Option Nat) : List (Nat × Nat) → Option (List (Nat × Nat))
  | [] => some []
  | (o, off) :: r => match p o, renP p r with
    | some o', some l => some ((o', off) :: l)
    | _, _ => none
def renC (p : Nat → Option Nat) : CV → Option CV
  | .f x => some (.f x)
  | .z0 z => some (.z0 z)
  | .rp o off => match p o with
    | some o' => some (.rp o' off)
    | none => none
  | .rw o n => match p o with
    | some o' => some (.rw o' n)
    | none => none
  | .rs o off n k sz => match p o with
    | some o' => some (.rs o' off n k sz)
    | none => none
  | .fn g cs => match renP p cs with
    | some l => some (.fn g l)
    | none => none
def renL (p : Nat → Option Nat) : List CV → Option (List CV)
  | [] => some []
  | x :: r => match renC p x, renL p r with
    | some y, some l => some (y :: l)
    | _, _ => none
def ren1 (p : Nat → Option Nat) : T1 → Option T1
  | .c x => match renC p x with
    | some y => some (.c y)
    | none => none
  | .ag cs => match renL p cs with
    | some l => some (.ag l)
    | none => none
def ren1L (p : Nat → Option Nat) : List T1 → Option (List T1)
  | [] => some []
  | x :: r => match ren1 p x, ren1L p r with
    | some y, some l => some (y :: l)
    | _, _ => none
def renV (p : Nat → Option Nat) : TV → Option TV
  | .u => some .u
  | .o x => match ren1 p x with
    | some y => some (.o y)
    | none => none
  | .tp vs => match ren1L p vs with
    | some l => some (.tp l)
    | none => none
def renVL (p : Nat → Option Nat) : List TV → Option (List TV)
  | [] => some []
  | x :: r => match renV p x, renVL p r with
    | some y, some l => some (y :: l)
    | _, _ => none
def renO (p : Nat → Option Nat) : VO → Option VO
  | .dead => some .dead
  | .bx cs ty => match renL p cs with
    | some l => some (.bx l ty)
    | none => none
  | .fx cs ty => some (.fx cs ty)
def renOL (p : Nat → Option Nat) : List VO → Option (List VO)
  | [] => some []
  | x :: r => match renO p x, renOL p r with
    | some y, some l => some (y :: l)
    | _, _ => none
/-- an object and what it is called anew -/
def RenOk (p : Nat → Option Nat) (κ : Hp) (β : Bt) (κs : Hp) (βs : Bt) : Prop := ∀ o j, p o = some j → ∀ y, κ o = some y → ∃ y', κs j = some y' ∧ y'.shape = y.shape ∧ βs j = β o
section
variable {P : Program} {K K' : Kap} {κ κs κ' : Hp} {β βs β' : Bt} {w w' : World} {p : Nat → Option Nat}
theorem ren_live (R : RenOk p κ β κs βs) {o j : Nat} (hp : p o = some j) (h : live κ o) : live κs j ∧ βs j = β o := by
  obtain ⟨y, s, h1, h2⟩ := h
  obtain ⟨y', h3, h4, h5⟩ := R o j hp y h1
  exact ⟨⟨y', s, h3, h4.trans h2⟩, h5⟩
theorem ren_dead (R : RenOk p κ β κs βs) {o j : Nat} (hp : p o = some j) (h : κ o = some .dead) : κs j = some .dead := by
  obtain ⟨y', h3, h4, h5⟩ := R o j hp _ h
  rw [h3, shape_dead h4]
theorem PR.ren (R : RenOk p κ β κs βs) : ∀ {cs : List (Nat × Nat)} {ads : List Addr} {l : List (Nat × Nat)}, F2 (PR κ β) cs ads → renP p cs = some l → F2 (PR κs βs) l ads
  | _, _, l, .nil, h => by simp only [renP, Option.some.injEq] at h; subst h; exact .nil
  | _, _, l, .cons (a := c) (b := ad) hc t, h => by
    obtain ⟨o, off⟩ := c
    simp only [renP] at h
    split at h
    · rename_i o' l' h1 h2
      simp only [Option.some.injEq] at h
      subst h
      refine .cons ?_ (PR.ren R t h2)
      rcases hc with hc | ⟨hc, B, X, h3, h4⟩
      · exact .inl (ren_dead R h1 hc)
      · obtain ⟨g1, g2⟩ := ren_live R h1 hc
        exact .inr ⟨g1, B, X, g2.trans h3, h4⟩
    · cases h
theorem CR.ren (R : RenOk p κ β κs βs) {x y : CV} {v : Value} (h : CR P K κ β x v) (hr : renC p x = some y) : CR P K κs βs y v := by
  have one := h.one
  cases h with
  | f h => simp only [renC, Option.some.injEq] at hr; subst hr; exact .f h
  | z0 h => simp only [renC, Option.some.injEq] at hr; subst hr; exact .z0 h
  | dead hx hd h1 =>
    rename_i o
    cases x <;> simp only [CV.obj, reduceCtorEq, Option.some.injEq] at hx <;> subst hx <;> simp only [renC] at hr <;> split at hr <;> simp only [Option.some.injEq, reduceCtorEq] at hr <;> subst hr <;> rename_i hp
    · exact .dead rfl (ren_dead R hp hd) h1
    · exact .dead rfl (ren_dead R hp hd) h1
    · exact .dead rfl (ren_dead R hp hd) h1
  | rp hl hb =>
    simp only [renC] at hr
    split at hr
    · rename_i o' hp
      simp only [Option.some.injEq] at hr
      subst hr
      obtain ⟨g1, g2⟩ := ren_live R hp hl
      exact .rp g1 (g2.trans hb)
    · cases hr
  | rw hx hs hz hL hn hc hb =>
    simp only [renC] at hr
    split at hr
    · rename_i o' hp
      simp only [Option.some.injEq] at hr
      subst hr
      obtain ⟨y', h3, h4, h5⟩ := R _ _ hp _ hx
      exact .rw h3 (h4.trans hs) hz hL hn hc (h5.trans hb)
    · cases hr
  | rw0 hx hs hb =>
    simp only [renC] at hr
    split at hr
    · rename_i o' hp
      simp only [Option.some.injEq] at hr
      subst hr
      obtain ⟨y', h3, h4, h5⟩ := R _ _ hp _ hx
      exact .rw0 h3 (h4.trans hs) (h5.trans hb)
    · cases hr
  | rs hl hn hc hb ha =>
    simp only [renC] at hr
    split at hr
    · rename_i o' hp
      simp only [Option.some.injEq] at hr
      subst hr
      obtain ⟨g1, g2⟩ := ren_live R hp hl
      exact .rs g1 hn hc (g2.trans hb) ha
    · cases hr
  | rs0 hl hb =>
    simp only [renC] at hr
    split at hr
    · rename_i o' hp
      simp only [Option.some.injEq] at hr
      subst hr
      obtain ⟨g1, g2⟩ := ren_live R hp hl
      exact .rs0 g1 (g2.trans hb)
    · cases hr
  | fn g h =>
    simp only [renC] at hr
    split at hr
    · rename_i l hl
      simp only [Option.some.injEq] at hr
      subst hr
      exact .fn g (PR.ren R h hl)
    · cases hr
theorem CR.renL (R : RenOk p κ β κs βs) : ∀ {xs ys : List CV} {vs : List Value}, F2 (CR P K κ β) xs vs → renL p xs = some ys → F2 (CR P K κs βs) ys vs
  | _, ys, _, .nil, h => by simp only [Vg.renL, Option.some.injEq] at h; subst h; exact .nil
  | _, ys, _, .cons a t, h => by
    simp only [Vg.renL] at h
    split at h
    · rename_i y l h1 h2
      simp only [Option.some.injEq] at h
      subst h
      exact .cons (a.ren R h1) (CR.renL R t h2)
    · cases h
theorem renL_get : ∀ {xs ys : List CV}, renL p xs = some ys → ys.length = xs.length ∧ ∀ (j : Nat) (y : CV), ys[j]? = some y → ∃ x, xs[j]? = some x ∧ renC p x = some y
  | [], ys, h => by simp only [renL, Option.some.injEq] at h; subst h; exact ⟨rfl, fun j y hj => by simp at hj⟩
  | x :: xs, ys, h => by
    simp only [renL] at h
    split at h
    · rename_i y l h1 h2
      simp only [Option.some.injEq] at h
      subst h
      obtain ⟨g1, g2⟩ := renL_get h2
      refine ⟨by simp [g1], fun j z hj => ?_⟩
      cases j with
      | zero => simp only [List.getElem?_cons_zero, Option.some.injEq] at hj; subst hj; exact ⟨x, rfl, h1⟩
      | succ j => exact g2 j z (by simpa using hj)
    · cases h
theorem R1.ren (R : RenOk p κ β κs βs) {x y : T1} {v : Value} (h : R1 P K κ β x v) (hr : ren1 p x = some y) : R1 P K κs βs y v := by
  cases h with
  | c h =>
    simp only [ren1] at hr
    split at hr
    · simp only [Option.some.injEq] at hr; subst hr; rename_i hp; exact .c (h.ren R hp)
    · cases hr
  | ag h =>
    simp only [ren1] at hr
    split at hr
    · simp only [Option.some.injEq] at hr; subst hr; rename_i hp; exact .ag (CR.renL R h hp)
    · cases hr
theorem R1.renL (R : RenOk p κ β κs βs) : ∀ {xs ys : List T1} {vs : List Value}, F2 (R1 P K κ β) xs vs → ren1L p xs = some ys → F2 (R1 P K κs βs) ys vs
  | _, ys, _, .nil, h => by simp only [ren1L, Option.some.injEq] at h; subst h; exact .nil
  | _, ys, _, .cons a t, h => by
    simp only [ren1L] at h
    split at h
    · rename_i y l h1 h2
      simp only [Option.some.injEq] at h
      subst h
      exact .cons (a.ren R h1) (R1.renL R t h2)
    · cases h
theorem VR.ren (R : RenOk p κ β κs βs) {x y : TV} {v : Value} (h : VR P K κ β x v) (hr : renV p x = some y) : VR P K κs βs y v := by
  cases h with
  | u => simp only [renV, Option.some.injEq] at hr; subst hr; exact .u
  | o h =>
    simp only [renV] at hr
    split at hr
    · simp only [Option.some.injEq] at hr; subst hr; rename_i hp; exact .o (h.ren R hp)
    · cases hr
  | tp h =>
    simp only [renV] at hr
    split at hr
    · simp only [Option.some.injEq] at hr; subst hr; rename_i hp; exact .tp (R1.renL R h hp)
    · cases hr
theorem VR.renL (R : RenOk p κ β κs βs) : ∀ {xs ys : List TV} {vs : List Value}, F2 (VR P K κ β) xs vs → renVL p xs = some ys → F2 (VR P K κs βs) ys vs
  | _, ys, _, .nil, h => by simp only [renVL, Option.some.injEq] at h; subst h; exact .nil
  | _, ys, _, .cons a t, h => by
    simp only [renVL] at h
    split at h
    · rename_i y l h1 h2
      simp only [Option.some.injEq] at h
      subst h
      exact .cons (a.ren R h1) (VR.renL R t h2)
    · cases h
theorem renO_shape {x y : VO} (h : renO p x = some y) : y.shape = x.shape := by
  cases x with
  | dead => simp only [renO, Option.some.injEq] at h; subst h; rfl
  | bx cs ty =>
    simp only [renO] at h
    split at h
    · rename_i l hl
      simp only [Option.some.injEq] at h
      subst h
      simp [VO.shape, (renL_get hl).1]
    · cases h
  | fx cs ty => simp only [renO, Option.some.injEq] at h; subst h; rfl
theorem OO.ren (R : RenOk p κ β κs βs) {x y : VO} {bt : Option (Nat × Nat)} (h : OO P K κ β w bt x) (hr : renO p x = some y) : OO P K κs βs w bt y := by
  cases x with
  | dead => simp only [renO, Option.some.injEq] at hr; subst hr; trivial
  | bx cs ty =>
    simp only [renO] at hr
    split at hr
    · rename_i l hl
      simp only [Option.some.injEq] at hr
      subst hr
      obtain ⟨B, X, C, e, lo, hi, h1, h2, h3, h4, h5⟩ := h
      obtain ⟨g1, g2⟩ := renL_get hl
      refine ⟨B, X, C, e, lo, hi, h1, h2, by rw [g1]; exact h3, by rw [g1]; exact h4, fun j y hj => ?_⟩
      obtain ⟨x, k1, k2⟩ := g2 j y hj
      obtain ⟨v, k3, k4⟩ := h5 j x k1
      exact ⟨v, k3, k4.ren R k2⟩
    · cases hr
  | fx cs ty =>
    simp only [renO, Option.some.injEq] at hr
    subst hr
    exact h
theorem renOL_get : ∀ {xs ys : List VO}, renOL p xs = some ys → ys.length = xs.length ∧ (∀ (j : Nat) (y : VO), ys[j]? = some y → ∃ x, xs[j]? = some x ∧ renO p x = some y) ∧ ∀ (j : Nat) (x : VO), xs[j]? = some x → ∃ y, ys[j]? = some y ∧ renO p x = some y
  | [], ys, h => by simp only [renOL, Option.some.injEq] at h; subst h; exact ⟨rfl, fun j y hj => by simp at hj, fun j y hj => by simp at hj⟩
  | x :: xs, ys, h => by
    simp only [renOL] at h
    split at h
    · rename_i y l h1 h2
      simp only [Option.some.injEq] at h
      subst h
      obtain ⟨g1, g2, g3⟩ := renOL_get h2
      refine ⟨by simp [g1], fun j z hj => ?_, fun j z hj => ?_⟩
      · cases j with
        | zero => simp only [List.getElem?_cons_zero, Option.some.injEq] at hj; subst hj; exact ⟨x, rfl, h1⟩
        | succ j => exact g2 j z (by simpa using hj)
      · cases j with
        | zero => simp only [List.getElem?_cons_zero, Option.some.injEq] at hj; subst hj; exact ⟨y, rfl, h1⟩
        | succ j => exact g3 j z (by simpa using hj)
    · cases h
/-! ### a part of the objects -/
def hp (H : List VO) : Hp := fun o => H[o]?
def posL : List Nat → Nat → Option Nat
  | [], _ => none
  | x :: r, o => bif Nat.beq x o then some 0 else (match posL r o with
    | some j => some (j + 1)
    | none => none)
def getL (κ : Hp) : List Nat → Option (List VO)
  | [] => some []
  | x :: r => match κ x, getL κ r with
    | some y, some l => some (y :: l)
    | _, _ => none
def nodupB : List Nat → Bool
  | [] => true
  | x :: r => !(r.any (Nat.beq x)) && nodupB r
def subH (κ : Hp) (sel : List Nat) : Option (List VO) := match getL κ sel with
  | some l => renOL (posL sel) l
  | none => none
theorem posL_spec : ∀ {sel : List Nat} {o j : Nat}, posL sel o = some j → sel[j]? = some o
  | [], o, j, h => by cases h
  | x :: r, o, j, h => by
    simp only [posL] at h
    cases hb : Nat.beq x o with
    | true =>
      rw [hb] at h
      simp only [cond_true, Option.some.injEq] at h
      subst h
      rw [Nat.eq_of_beq_eq_true hb]
      rfl
    | false =>
      rw [hb] at h
      simp only [cond_false] at h
      split at h
      · rename_i k hk
        simp only [Option.some.injEq] at h
        subst h
        simpa using posL_spec hk
      · cases h
theorem posL_mem : ∀ {sel : List Nat} {o : Nat}, o ∈ sel → ∃ j, posL sel o = some j
  | x :: r, o, h => by
    simp only [posL]
    cases hb : Nat.beq x o with
    | true => exact ⟨0, rfl⟩
    | false =>
      have hne : o ≠ x := fun e => by rw [e] at hb; simp at hb
      obtain ⟨j, hj⟩ := posL_mem ((List.mem_cons.1 h).resolve_left hne)
      exact ⟨j + 1, by simp [hj]⟩
theorem nodupB_spec : ∀ {sel : List Nat}, nodupB sel = true → sel.Nodup
  | [], _ => List.nodup_nil
  | x :: r, h => by
    simp only [nodupB, Bool.and_eq_true, Bool.not_eq_true'] at h
    refine List.nodup_cons.2 ⟨fun hm => ?_, nodupB_spec h.2⟩
    have : r.any (Nat.beq x) = true := List.any_eq_true.2 ⟨x, hm, by simp⟩
    rw [this] at h
    cases h.1
theorem nodup_get {sel : List Nat} (h : sel.Nodup) {i j o : Nat} (hi : sel[i]? = some o) (hj : sel[j]? = some o) : i = j := by
  exact (List.getElem?_inj (List.getElem?_eq_some_iff.1 hi).1 h).1 (hi.trans hj.symm)
theorem getL_get : ∀ {sel : List Nat} {l : List VO}, getL κ sel = some l → l.length = sel.length ∧ ∀ (j o : Nat), sel[j]? = some o → ∃ x, l[j]? = some x ∧ κ o = some x
  | [], l, h => by simp only [getL, Option.some.injEq] at h; subst h; exact ⟨rfl, fun j o hj => by simp at hj⟩
  | x :: r, l, h => by
    simp only [getL] at h
    split at h
    · rename_i y l' h1 h2
      simp only [Option.some.injEq] at h
      subst h
      obtain ⟨g1, g2⟩ := getL_get h2
      refine ⟨by simp [g1], fun j z hj => ?_⟩
      cases j with
      | zero => simp only [List.getElem?_cons_zero, Option.some.injEq] at hj; subst hj; exact ⟨y, rfl, h1⟩
      | succ j => exact g2 j z (by simpa using hj)
    · cases h
def bts (sel : List Nat) (β : Bt) : Bt := fun j => (sel[j]?).bind β
/-- what is chosen, by itself -/
theorem sub_sim (R : VRel P K κ β w) {sel : List Nat} {Hs : List VO} (hn : sel.Nodup) (h : subH κ sel = some Hs) : RenOk (posL sel) κ β (hp Hs) (bts sel β) ∧ VRel P K (hp Hs) (bts sel β) w ∧ Hs.length = sel.length ∧
    ∀ (j o : Nat), sel[j]? = some o → ∃ (x y : VO), κ o = some x ∧ Hs[j]? = some y ∧ y.shape = x.shape := by
  unfold subH at h
  split at h
  · rename_i l hl
    obtain ⟨g1, g2⟩ := getL_get hl
    obtain ⟨r1, r2, r3⟩ := renOL_get h
    have key : ∀ (j o : Nat), sel[j]? = some o → ∃ x y, κ o = some x ∧ l[j]? = some x ∧ Hs[j]? = some y ∧ renO (posL sel) x = some y := fun j o hj => by
      obtain ⟨x, h1, h2⟩ := g2 j o hj
      obtain ⟨y, h3, h4⟩ := r3 j x h1
      exact ⟨x, y, h2, h1, h3, h4⟩
    have ro : RenOk (posL sel) κ β (hp Hs) (bts sel β) := by
      intro o j hp' y hy
      have hs := posL_spec hp'
      obtain ⟨x, y', h1, h2, h3, h4⟩ := key j o hs
      rw [hy] at h1
      cases h1
      exact ⟨y', h3, renO_shape h4, by simp [bts, hs]⟩
    have back : ∀ j y, hp Hs j = some y → ∃ o x, sel[j]? = some o ∧ κ o = some x ∧ renO (posL sel) x = some y := fun j y hj => by
      obtain ⟨x, h1, h2⟩ := r2 j y hj
      have hlt := (List.getElem?_eq_some_iff.1 h1).1
      obtain ⟨x', h3, h4⟩ := g2 j sel[j] (by simp)
      rw [h1] at h3
      cases h3
      exact ⟨_, x, by simp, h4, h2⟩
    have lv : ∀ j, live (hp Hs) j → ∃ o, sel[j]? = some o ∧ live κ o := fun j hj => by
      obtain ⟨y, s, h1, h2⟩ := hj
      obtain ⟨o, x, h3, h4, h5⟩ := back j y h1
      exact ⟨o, h3, x, s, h4, by rw [← renO_shape h5]; exact h2⟩
    refine ⟨ro, ⟨R.kw, fun j y hj => ?_, fun i j B X X' h1 h2 h3 h4 => ?_, fun j B X h1 h3 => ?_⟩, by rw [r1, g1], fun j o hj => by obtain ⟨x, y, h1, _, h2, h3⟩ := key j o hj; exact ⟨x, y, h1, h2, renO_shape h3⟩⟩
    · obtain ⟨o, x, h1, h2, h3⟩ := back j y hj
      have : bts sel β j = β o := by simp [bts, h1]
      rw [this]
      exact (R.ob o x h2).ren ro h3
    · obtain ⟨o, a1, a2⟩ := lv i h1
      obtain ⟨o', b1, b2⟩ := lv j h2
      have e1 : bts sel β i = β o := by simp [bts, a1]
      have e2 : bts sel β j = β o' := by simp [bts, b1]
      rw [e1] at h3
      rw [e2] at h4
      have := R.inj o o' B X X' a2 b2 h3 h4
      subst this
      exact nodup_get hn a1 b1
    · obtain ⟨o, a1, a2⟩ := lv j h1
      have e1 : bts sel β j = β o := by simp [bts, a1]
      rw [e1] at h3
      exact R.sep o B X a2 h3
  · cases h
end
/-- what a call is known by: from arguments and objects to an answer and objects -/
structure VC (P : Program) (f : FuncId) (as : List TV) (H : List VO) (r : TV) (H' : List VO) : Prop where
  en : ∀ (xs : Array Value) (W : World), (callFunc f xs).run P W = .ok (.enter f xs) W
  run : ∀ (w : World) (K : Kap) (β : Bt) (args : List Value), VRel P K (hp H) β w → F2 (VR P K (hp H) β) as args → Calls P f args.toArray w fun e w' => ∃ v' K' β', e = .returned v' ∧ SP P K (hp H) β w (hp H') r v' w' K' β'
end Go.Proofs.Ytpjlgjhkdligfaa.Vg

namespace Go.Proofs.Ytpjlgjhkdligfaa.Vg
open Go.RowKit
set_option linter.unusedVariables false
set_option linter.unusedSimpArgs false

def rpOf (p : Nat × Nat) : TV := .o (.c (.rp p.1 p.2))
def calleeE : TV → Option (FuncId × List TV)
  | .o (.c (.f (.v (.func (.func g) a b)))) => bif a.isEmpty && b.isEmpty then some (g, []) else none
  | .o (.c (.fn g cs)) => some (g, cs.map rpOf)
  | _ => none
def sig (sel : List Nat) (m j : Nat) : Nat := match sel[j]? with
  | some o => o
  | none => m + (j - sel.length)
def sigP (sel : List Nat) (m : Nat) : Nat → Option Nat := fun j => some (sig sel m j)
def callE (P : Program) (κ : Hp) (m : Nat) (ts : Tv) (sel : List Nat) (r : TV) (H' : List VO) (o : Oper) : Option Dl :=
  match o.op with
  | .call cl => match cl.callee with
    | .value f => match calleeE (opd ts f) with
      | some (g, cap) => match renVL (posL sel) (cl.args.toList.map (opd ts) ++ cap), subH κ sel with
        | some as, some Hs => match renV (sigP sel m) r, renOL (sigP sel m) H' with
          | some r', some Hb => bif nodupB sel && Nat.ble sel.length H'.length then some ⟨r', sel.zip (Hb.take sel.length), Hb.drop sel.length, sel, VC P g as Hs r H'⟩ else none
          | _, _ => none
        | _, _ => none
      | none => none
    | _ => none
  | _ => none
section
variable {P : Program} {K K' : Kap} {κ κs κ' : Hp} {β βs β' : Bt} {ts : Tv} {a : Act} {o : Oper} {w w' : World}
theorem newL_get : ∀ (xs : List VO) (κ : Hp) (m o : Nat), newL κ m xs o = if m ≤ o ∧ o < m + xs.length then xs[o - m]? else κ o
  | [], κ, m, o => by rw [newL, if_neg (by rw [List.length_nil]; omega)]
  | x :: xs, κ, m, o => by
    rw [newL, newL_get xs]
    simp only [List.length_cons]
    by_cases h : o = m
    · subst h
      rw [if_neg (by omega), if_pos (by omega), upd_same]
      simp
    · by_cases h1 : m ≤ o ∧ o < m + (xs.length + 1)
      · rw [if_pos (by omega), if_pos h1]
        obtain ⟨d, rfl⟩ : ∃ d, o = m + 1 + d := ⟨o - (m + 1), by omega⟩
        rw [show m + 1 + d - (m + 1) = d by omega, show m + 1 + d - m = d + 1 by omega]
        rfl
      · rw [if_neg (by omega), if_neg h1, upd_ne h]
theorem updL_get : ∀ (sel : List Nat) (xs : List VO) (κ : Hp) (o : Nat), sel.Nodup → xs.length = sel.length → updL κ (sel.zip xs) o = match posL sel o with
    | some j => xs[j]?
    | none => κ o
  | [], xs, κ, o, _, _ => rfl
  | y :: sel, [], κ, o, _, h => by simp at h
  | y :: sel, x :: xs, κ, o, hn, h => by
    rw [List.zip_cons_cons, updL, updL_get sel xs _ o (List.nodup_cons.1 hn).2 (by simpa using h)]
    simp only [posL]
    cases hb : Nat.beq y o with
    | true =>
      have e := Nat.eq_of_beq_eq_true hb
      subst e
      have hno : posL sel y = none := by
        cases hq : posL sel y with
        | none => rfl
        | some j => exact absurd (List.mem_of_getElem? (posL_spec hq)) (List.nodup_cons.1 hn).1
      simp [hno, upd_same]
    | false =>
      have hne : o ≠ y := fun e => by rw [e] at hb; simp at hb
      simp only [cond_false]
      cases hq : posL sel o with
      | none => simp [upd_ne hne]
      | some j => simp
theorem posL_get : ∀ {sel : List Nat} {j o : Nat}, sel.Nodup → sel[j]? = some o → posL sel o = some j := fun {sel j o} hn h => by
  obtain ⟨i, hi⟩ := posL_mem (List.mem_of_getElem? h)
  rw [hi, nodup_get hn (posL_spec hi) h]
theorem posL_none {sel : List Nat} {o : Nat} (h : posL sel o = none) : o ∉ sel := fun hm => by
  obtain ⟨j, hj⟩ := posL_mem hm
  rw [h] at hj
  cases hj
def invS (sel : List Nat) (m n o : Nat) : Option Nat := match posL sel o with
  | some j => some j
  | none => if m ≤ o ∧ o < m + n then some (sel.length + (o - m)) else none
/-- what came of a part of the objects, put back among all -/
theorem back_sim (R : VRel P K κ β w) {sel : List Nat} {m : Nat} {Hs H' Hb : List VO} {r r' : TV} {v' : Value} (hn : sel.Nodup) (hs : subH κ sel = some Hs) (hle : sel.length ≤ H'.length) (hm : ∀ o, m ≤ o → o < m + (H'.length - sel.length) → κ o = none)
    (hr : renV (sigP sel m) r = some r') (hb : renOL (sigP sel m) H' = some Hb) (S : SP P K (hp Hs) (bts sel β) w (hp H') r v' w' K' βs) {rd : List Nat} {q : Prop} :
    ∃ β', SP P K κ β w (kapD κ m ⟨r', sel.zip (Hb.take sel.length), Hb.drop sel.length, rd, q⟩) r' v' w' K' β' := by
  obtain ⟨ro, RS, hl, hsel⟩ := sub_sim R hn hs
  obtain ⟨b1, b2, b3⟩ := renOL_get hb
  have hκ : ∀ o, kapD κ m ⟨r', sel.zip (Hb.take sel.length), Hb.drop sel.length, rd, q⟩ o = match invS sel m (H'.length - sel.length) o with
      | some j => Hb[j]?
      | none => κ o := by
    intro o
    have ht : (Hb.take sel.length).length = sel.length := by rw [List.length_take]; omega
    show newL (updL κ (sel.zip (Hb.take sel.length))) m (Hb.drop sel.length) o = _
    rw [newL_get, updL_get _ _ _ _ hn ht, List.length_drop, b1]
    unfold invS
    cases hq : posL sel o with
    | some j =>
      have hj := (List.getElem?_eq_some_iff.1 (posL_spec hq)).1
      have hdom : ¬ (m ≤ o ∧ o < m + (H'.length - sel.length)) := fun hc => by
        obtain ⟨x, y, h1, _⟩ := hsel j o (posL_spec hq)
        rw [hm o hc.1 hc.2] at h1
        cases h1
      rw [if_neg hdom]
      simp only
      rw [List.getElem?_take, if_pos hj]
    | none =>
      simp only
      by_cases hc : m ≤ o ∧ o < m + (H'.length - sel.length)
      · rw [if_pos hc, if_pos hc, List.getElem?_drop]
      · rw [if_neg hc, if_neg hc]
  generalize kapD κ m ⟨r', sel.zip (Hb.take sel.length), Hb.drop sel.length, rd, q⟩ = κ' at hκ
  have hinv : ∀ o j, invS sel m (H'.length - sel.length) o = some j → sig sel m j = o ∧ j < H'.length ∧ (j < sel.length → sel[j]? = some o) ∧ (sel.length ≤ j → m ≤ o ∧ κ o = none) := by
    intro o j h
    unfold invS at h
    cases hq : posL sel o with
    | some i =>
      rw [hq] at h
      simp only [Option.some.injEq] at h
      subst h
      have h1 := posL_spec hq
      have hj := (List.getElem?_eq_some_iff.1 h1).1
      exact ⟨by unfold sig; rw [h1], by omega, fun _ => h1, fun h => by omega⟩
    | none =>
      rw [hq] at h
      simp only at h
      split at h
      · rename_i hc
        simp only [Option.some.injEq] at h
        subst h
        refine ⟨?_, by omega, fun h => by omega, fun _ => ⟨hc.1, hm o hc.1 hc.2⟩⟩
        unfold sig
        rw [List.getElem?_eq_none (by omega)]
        simp only
        omega
      · cases h
  have hsig : ∀ j, j < H'.length → invS sel m (H'.length - sel.length) (sig sel m j) = some j := by
    intro j hj
    unfold sig
    cases hq : sel[j]? with
    | some o =>
      simp only [invS, posL_get hn hq]
    | none =>
      have hj2 : sel.length ≤ j := by
        rcases Nat.lt_or_ge j sel.length with h | h
        · rw [List.getElem?_eq_getElem h] at hq; cases hq
        · exact h
      simp only
      unfold invS
      have : posL sel (m + (j - sel.length)) = none := by
        cases hq2 : posL sel (m + (j - sel.length)) with
        | none => rfl
        | some i =>
          obtain ⟨x, y, h1, _⟩ := hsel i _ (posL_spec hq2)
          rw [hm _ (by omega) (by omega)] at h1
          cases h1
      rw [this]
      simp only
      rw [if_pos (by omega)]
      congr 1
      omega
  let β' : Bt := fun o => match invS sel m (H'.length - sel.length) o with
    | some j => βs j
    | none => β o
  have hβ : ∀ o, β' o = match invS sel m (H'.length - sel.length) o with
    | some j => βs j
    | none => β o := fun _ => rfl
  have rb : RenOk (sigP sel m) (hp H') βs κ' β' := by
    intro j o hj y hy
    simp only [sigP, Option.some.injEq] at hj
    subst hj
    have hlt := (List.getElem?_eq_some_iff.1 hy).1
    obtain ⟨y', h1, h2⟩ := b3 j y hy
    refine ⟨y', ?_, renO_shape h2, ?_⟩
    · rw [hκ, hsig j hlt]; exact h1
    · rw [hβ, hsig j hlt]
  have lvs : ∀ j, live (hp Hs) j → ∃ o, sel[j]? = some o ∧ live κ o ∧ bts sel β j = β o := fun j hj => by
    obtain ⟨y, s, h1, h2⟩ := hj
    have hlt : j < sel.length := by
      have := (List.getElem?_eq_some_iff.1 h1).1
      omega
    obtain ⟨x, y', h3, h4, h5⟩ := hsel j sel[j] (by simp [hlt])
    have : y' = y := by
      have h1' : Hs[j]? = some y := h1
      rw [h4] at h1'
      exact Option.some.inj h1'
    subst this
    exact ⟨_, by simp [hlt], ⟨x, s, h3, h5 ▸ h2⟩, by simp [bts, hlt]⟩
  have lv' : ∀ o, live κ' o → (∃ j, invS sel m (H'.length - sel.length) o = some j ∧ live (hp H') j ∧ β' o = βs j) ∨ (invS sel m (H'.length - sel.length) o = none ∧ live κ o ∧ β' o = β o) := by
    intro o ho
    obtain ⟨y, s, h1, h2⟩ := ho
    rw [hκ] at h1
    cases hq : invS sel m (H'.length - sel.length) o with
    | some j =>
      rw [hq] at h1
      obtain ⟨x, h3, h4⟩ := b2 j y h1
      exact .inl ⟨j, rfl, ⟨x, s, h3, by rw [← renO_shape h4]; exact h2⟩, by rw [hβ, hq]⟩
    | none =>
      rw [hq] at h1
      exact .inr ⟨rfl, ⟨y, s, h1, h2⟩, by rw [hβ, hq]⟩
  have le : Le K κ β K' κ' β' := by
    refine ⟨S.le.k, fun o x hx => ?_⟩
    cases hq : invS sel m (H'.length - sel.length) o with
    | none => exact .inr ⟨x, by rw [hκ, hq]; exact hx, rfl, by rw [hβ, hq]⟩
    | some j =>
      obtain ⟨i1, i2, i3, i4⟩ := hinv o j hq
      have hj : j < sel.length := by
        rcases Nat.lt_or_ge j sel.length with h | h
        · exact h
        · have := (i4 h).2
          rw [hx] at this
          cases this
      obtain ⟨x', y, h1, h2, h3⟩ := hsel j o (i3 hj)
      rw [hx] at h1
      cases h1
      obtain ⟨z, hz⟩ : ∃ z, Hb[j]? = some z := ⟨Hb[j]'(by omega), by simp⟩
      have hk : κ' o = some z := by rw [hκ, hq]; exact hz
      obtain ⟨u, hu, hru⟩ := b2 j z hz
      rcases S.le.o j y h2 with h4 | ⟨u', h4, h5, h6⟩
      · left
        have : hp H' j = some u := hu
        rw [h4] at this
        cases this
        simp only [renO, Option.some.injEq] at hru
        rw [hk, ← hru]
      · right
        have : hp H' j = some u := hu
        rw [h4] at this
        cases this
        refine ⟨z, hk, (renO_shape hru).trans (h5.trans h3), ?_⟩
        rw [hβ, hq]
        show βs j = β o
        rw [h6]
        simp [bts, i3 hj]
  have outside : ∀ o B X, invS sel m (H'.length - sel.length) o = none → live κ o → β o = some (B, X) → ∀ j X', live (hp Hs) j → bts sel β j = some (B, X') → False := by
    intro o B X h1 h2 h3 j X' h4 h5
    obtain ⟨o2, g1, g2, g3⟩ := lvs j h4
    rw [g3] at h5
    have := R.inj o o2 B X X' h2 g2 h3 h5
    subst this
    have : posL sel o = some j := posL_get hn g1
    unfold invS at h1
    rw [this] at h1
    cases h1
  have nb' : ∀ j B X, live (hp H') j → βs j = some (B, X) → w.heap.size ≤ B ∨ ∃ o' X', live κ o' ∧ β o' = some (B, X') := by
    intro j B X h1 h2
    rcases S.fr.nb j B X h1 h2 with h3 | ⟨j', X', h3, h4⟩
    · exact .inl h3
    · obtain ⟨o2, g1, g2, g3⟩ := lvs j' h3
      exact .inr ⟨o2, X', g2, by rw [← g3]; exact h4⟩
  refine ⟨β', ⟨S.rel.kw, fun o x hx => ?_, fun o o' B X X' h1 h2 h3 h4 => ?_, fun o B X h1 h3 => ?_⟩, S.val.ren rb hr, le, S.le.k, S.fr.bel, fun B hB => ?_, fun o B X h1 h2 => ?_, fun b hb' => ?_, S.fr.kc⟩
  · have hx0 := hx
    rw [hκ] at hx
    cases hq : invS sel m (H'.length - sel.length) o with
    | some j =>
      rw [hq] at hx
      obtain ⟨u, hu, hru⟩ := b2 j x hx
      have : β' o = βs j := by rw [hβ, hq]
      rw [this]
      exact (S.rel.ob j u hu).ren rb hru
    | none =>
      rw [hq] at hx
      have : β' o = β o := by rw [hβ, hq]
      rw [this]
      refine (R.ob o x hx).mono' le fun B X hsh hbb => ?_
      have hlo := live_of hx hsh
      rcases S.fr.blk B (R.lt hlo hbb) with h | ⟨j, X', h1, h2⟩
      · exact h
      · exact (outside o B X hq hlo hbb j X' h1 h2).elim
  · rcases lv' o h1 with ⟨j, a1, a2, a3⟩ | ⟨a1, a2, a3⟩ <;> rcases lv' o' h2 with ⟨j', c1, c2, c3⟩ | ⟨c1, c2, c3⟩
    · rw [a3] at h3
      rw [c3] at h4
      have := S.rel.inj j j' B X X' a2 c2 h3 h4
      subst this
      rw [← (hinv o j a1).1, ← (hinv o' j c1).1]
    · rw [a3] at h3
      rw [c3] at h4
      rcases S.fr.nb j B X a2 h3 with h5 | ⟨j2, X2, h5, h6⟩
      · have := R.lt c2 h4; omega
      · exact (outside o' B X' c1 c2 h4 j2 X2 h5 h6).elim
    · rw [a3] at h3
      rw [c3] at h4
      rcases S.fr.nb j' B X' c2 h4 with h5 | ⟨j2, X2, h5, h6⟩
      · have := R.lt a2 h3; omega
      · exact (outside o B X a1 a2 h3 j2 X2 h5 h6).elim
    · rw [a3] at h3
      rw [c3] at h4
      exact R.inj o o' B X X' a2 c2 h3 h4
  · rcases lv' o h1 with ⟨j, a1, a2, a3⟩ | ⟨a1, a2, a3⟩
    · rw [a3] at h3
      exact S.rel.sep j B X a2 h3
    · rw [a3] at h3
      cases hq : K' B with
      | none => rfl
      | some x =>
        rcases S.fr.nk B (by rw [hq]; simp) with h5 | h5 | ⟨j2, X2, h5, h6⟩
        · exact absurd (R.sep o B X a2 h3) h5
        · have := R.lt a2 h3; omega
        · exact (outside o B X a1 a2 h3 j2 X2 h5 h6).elim
  · rcases S.fr.blk B hB with h | ⟨j, X, h1, h2⟩
    · exact .inl h
    · obtain ⟨o2, g1, g2, g3⟩ := lvs j h1
      exact .inr ⟨o2, X, g2, by rw [← g3]; exact h2⟩
  · rcases lv' o h1 with ⟨j, a1, a2, a3⟩ | ⟨a1, a2, a3⟩
    · rw [a3] at h2
      exact nb' j B X a2 h2
    · rw [a3] at h2
      exact .inr ⟨o, X, a2, h2⟩
  · rcases S.fr.nk b hb' with h5 | h5 | ⟨j2, X2, h5, h6⟩
    · exact .inl h5
    · exact .inr (.inl h5)
    · obtain ⟨o2, g1, g2, g3⟩ := lvs j2 h5
      exact .inr (.inr ⟨o2, X2, g2, by rw [← g3]; exact h6⟩)
theorem f2_caps : ∀ {cs : List (Nat × Nat)} {ads : List Addr}, F2 (PR κ β) cs ads → F2 (VR P K κ β) (cs.map rpOf) (ads.map ptrV)
  | _, _, .nil => .nil
  | _, _, .cons h t => .cons (.o (.c (by
      rcases h with h | ⟨h, B, X, h1, rfl⟩
      · exact .dead rfl h ⟨rfl, rfl⟩
      · exact .rp h h1))) (f2_caps t)
theorem f2_opds (T : TR P K κ β ts a.tmps) : ∀ (xs : List Operand), F2 (VR P K κ β) (xs.map (opd ts)) (xs.map a.eval)
  | [] => .nil
  | x :: xs => .cons (opd_sim T x) (f2_opds T xs)
theorem callE_sim (R : VRel P K κ β w) (T : TR P K κ β ts a.tmps) {m : Nat} {sel : List Nat} {r : TV} {H' : List VO} {d : Dl} (h : callE P κ m ts sel r H' o = some d) (hm : ∀ o, m ≤ o → o < m + d.news.length → κ o = none) (hq : d.q) :
    ∃ g args', (execOp a.eval o).run P w = .ok (.enter g args') w ∧ Calls P g args' w fun e w' => ∃ v' K' β', e = .returned v' ∧ SP P K κ β w (kapD κ m d) d.v v' w' K' β' := by
  unfold callE at h
  split at h
  · rename_i cl hop
    split at h
    · rename_i f hcal
      split at h
      · rename_i g cap hg
        split at h
        · rename_i as Hs has hHs
          split at h
          · rename_i r' Hb hr' hHb
            cases hb : (nodupB sel && Nat.ble sel.length H'.length) with
            | false => rw [hb] at h; cases h
            | true =>
              rw [hb] at h
              simp only [cond_true, Option.some.injEq] at h
              subst h
              simp only [Bool.and_eq_true] at hb
              have hn := nodupB_spec hb.1
              have hle := Nat.le_of_ble_eq_true hb.2
              obtain ⟨hent, hvc⟩ := hq
              obtain ⟨ro, RS, hl, hsel⟩ := sub_sim R hn hHs
              have hfv := opd_sim T f
              have hcallee : ∃ caps : List Value, (∃ cs : Array Value, a.eval f = .func (.func g) #[] cs ∧ cs.toList = caps) ∧ F2 (VR P K κ β) cap caps := by
                unfold calleeE at hg
                split at hg
                · rename_i g0 x y hf
                  cases hbb : (x.isEmpty && y.isEmpty) with
                  | false => rw [hbb] at hg; cases hg
                  | true =>
                    rw [hbb] at hg
                    simp only [cond_true, Option.some.injEq, Prod.mk.injEq] at hg
                    obtain ⟨rfl, rfl⟩ := hg
                    simp only [Bool.and_eq_true, Array.isEmpty_iff] at hbb
                    obtain ⟨rfl, rfl⟩ := hbb
                    exact ⟨[], ⟨#[], opd_atom T hf, rfl⟩, .nil⟩
                · rename_i g0 cs hf
                  simp only [Option.some.injEq, Prod.mk.injEq] at hg
                  obtain ⟨rfl, rfl⟩ := hg
                  have := opd_c T hf
                  generalize a.eval f = y at this
                  cases this with
                  | dead hx _ _ => cases hx
                  | fn _ h => exact ⟨_, ⟨_, rfl, rfl⟩, f2_caps h⟩
                · cases hg
              obtain ⟨caps, ⟨csA, hy, hcs⟩, hF⟩ := hcallee
              have hargs := (f2_opds T cl.args.toList).app hF
              have hargs2 := VR.renL ro hargs has
              have hlen2 : (Hb.drop sel.length).length = H'.length - sel.length := by rw [List.length_drop, (renOL_get hHb).1]
              refine ⟨g, (cl.args.toList.map a.eval ++ caps).toArray, ?_, ?_⟩
              · have e1 : cl.args.map a.eval ++ csA = (cl.args.toList.map a.eval ++ caps).toArray := by
                  apply Array.ext'; simp [hcs]
                unfold execOp; rw [hop]
                simp only [resolve, hcal, hy, Deferred.ofValue, Sem.run_bind, Sem.run_pure, Result.andThen_ok, invoke, Array.empty_append, e1, hent]
              · refine Calls.mono (hvc w K (bts sel β) _ RS hargs2) ?_
                rintro e w' ⟨v', K', βs, rfl, S⟩
                obtain ⟨β', hS⟩ := back_sim R hn hHs hle (fun o h1 h2 => hm o h1 (by simp only [hlen2]; exact h2)) hr' hHb S (rd := sel) (q := VC P g as Hs r H')
                exact ⟨v', K', β', rfl, hS⟩
          · cases h
        · cases h
      · cases h
    · cases h
  · cases h
theorem getL_loc : ∀ {sel : List Nat}, (∀ o ∈ sel, κ' o = κ o) → getL κ' sel = getL κ sel
  | [], _ => rfl
  | x :: r, h => by rw [getL, getL, h x (by simp), getL_loc (fun o ho => h o (by simp [ho]))]
theorem callE_rd {m : Nat} {sel : List Nat} {r : TV} {H' : List VO} {d : Dl} (h : callE P κ m ts sel r H' o = some d) : d.rd = sel := by
    unfold callE at h
    split at h
    · split at h
      · split at h
        · split at h
          · split at h
            · cases hb : (nodupB sel && Nat.ble sel.length H'.length) with
              | false => rw [hb] at h; cases h
              | true => rw [hb] at h; simp only [cond_true, Option.some.injEq] at h; subst h; rfl
            · cases h
          · cases h
        · cases h
      · cases h
    · cases h
theorem callE_loc {m : Nat} {sel : List Nat} {r : TV} {H' : List VO} {d : Dl} (h : callE P κ m ts sel r H' o = some d) (e : ∀ o ∈ d.rd, κ' o = κ o) : callE P κ' m ts sel r H' o = some d := by
  have hrd := callE_rd h
  rw [hrd] at e
  have : subH κ' sel = subH κ sel := by unfold subH; rw [getL_loc e]
  unfold callE at h ⊢
  rw [this]
  exact h
end
end Go.Proofs.Ytpjlgjhkdligfaa.Vg
