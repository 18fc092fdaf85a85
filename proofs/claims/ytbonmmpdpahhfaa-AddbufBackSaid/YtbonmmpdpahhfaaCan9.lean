/- The engine, ninth part: stores, copies and appends. No law, no condition. -/
import Derived.Test.YtbonmmpdpahhfaaCan8
namespace Go.Proofs.Ytbonmmpdpahhfaa.Can
open Go.RowKit
set_option linter.unusedVariables false
set_option linter.unusedSimpArgs false

/-- what an operation does to canonical memory -/
structure Dl where
  v : Value
  ups : List (Nat × Obj)
  nw : Option Obj
  rd : List Nat
def rowAt (N0 : Nat) (κ : Kap) (b : Nat) : Option (Array Value × TypeId × Nat) := bif Nat.ble N0 b then (match κ b with
  | some (.cells cs e (k, 0)) => some (cs, e, k)
  | _ => none) else none
/-- vs written to block b from o on -/
def putE (N0 : Nat) (κ : Kap) (b o : Nat) (vs : List Value) : Option (List (Nat × Obj)) := match vs with
  | [] => some []
  | vs => match rowAt N0 κ b with
    | some (cs, e, k) => bif Nat.ble (o + vs.length) cs.size then some [(b, .cells (splice cs o vs) e (k + 1, 0))] else none
    | none => none
/-- the first n elements of a slice or a string -/
def newsE (N0 : Nat) (κ : Kap) (size : Nat) (x : Value) (n : Nat) : Option (List Value × List Nat) := match x with
  | .slice none _ _ => bif Nat.beq n 0 then some ([], []) else none
  | .slice (some ⟨b, o, none⟩) l _ => bif Nat.ble n l then (match ldK N0 κ b (n * size) o with
    | some L => some (L, [b])
    | none => none) else none
  | .string s => bif Nat.beq n s.size && Nat.beq size 1 then some (s.data.toList.map (fun b => .int .u8 b.toNat), []) else none
  | _ => none
def lenV : Value → Option Nat
  | .slice _ l _ => some l
  | .string s => some s.size
  | _ => none
def isIntD : TypeDesc → Bool
  | .int _ => true
  | _ => false
def isSlD : TypeDesc → Bool
  | .slice _ => true
  | .string => true
  | _ => false
/-- an append where there is room; in a new block -/
def roomE (N0 : Nat) (κ : Kap) (e : TypeId) (size : Nat) (A : Option Addr) (l cp n : Nat) (news : List Value) (rd : List Nat) : Option Dl := match A with
  | none => match news with
    | [] => some ⟨.slice none (l + n) cp, [], none, rd⟩
    | _ => none
  | some ⟨b, o, none⟩ => bif rowOk N0 κ b e then (match putE N0 κ b (o + l * size) news with
    | some ups => some ⟨.slice (some ⟨b, o, none⟩) (l + n) cp, ups, none, b :: rd⟩
    | none => none) else none
  | _ => none
def growE (N0 : Nat) (κ : Kap) (e : TypeId) (size m : Nat) (A : Option Addr) (l cp n : Nat) (news : List Value) (rd : List Nat) : Option Dl := match A with
  | none => bif Nat.beq l 0 then some ⟨.slice (some ⟨m, 0, none⟩) (l + n) (l + n), [], some (.cells news.toArray e (0, 0)), rd⟩ else none
  | some ⟨b, o, none⟩ => bif rowOk N0 κ b e then (match ldK N0 κ b (l * size) o with
    | some olds => bif Nat.blt b N0 then some ⟨.slice (some ⟨m, 0, none⟩) (l + n) (l + n), [], some (.cells (olds ++ news).toArray e (0, 0)), b :: rd⟩
      else (match rowAt N0 κ b with
      | some (cs, e', k) => some ⟨.slice (some ⟨m, 0, none⟩) (l + n) (l + n), [(b, .cells #[] e' (k + 1, 1))], some (.cells (olds ++ news).toArray e (0, 0)), b :: rd⟩
      | none => none)
    | none => none) else none
  | _ => none
def isU8D (P : Program) (e : TypeId) : Bool := match P.underlying e with
  | some (.int .u8) => true
  | _ => false
theorem isU8D_spec {P : Program} {e : TypeId} (h : isU8D P e = true) : P.underlying e = some (.int .u8) := by
  unfold isU8D at h
  split at h
  · assumption
  · cases h
def evW (P : Program) (N0 : Nat) (κ : Kap) (ts : Tm) (m : Nat) (o : Oper) : Option Dl :=
  match o.op with
  | .store t x y => match P.info? t, opd ts x, opd ts y with
    | some i, some (.pointer (some ⟨b, of, none⟩)), some v => bif isTup v || !(Nat.beq v.cells.size i.size) then none else
      (match putE N0 κ b of v.cells.toList with
      | some ups => some ⟨undef, ups, none, [b]⟩
      | none => none)
    | _, _, _ => none
  | .call c => match c.callee, c.args.toList, c.argTypes.toList with
    | .builtin .append, [s, x], [t, u] => match P.underlying t, P.underlying u, opd ts s, opd ts x with
      | some (.slice e), some du, some (.slice A l cp), some xv => match P.info? e, lenV xv with
        | some i, some n => match i.zero, newsE N0 κ i.size xv n with
          | some z, some (news, rd) => bif isSlD du && Nat.beq z.cells.size i.size && Nat.blt 0 i.bytes && Nat.blt 0 i.size && Nat.ble ((l + n) * i.bytes) 140737488355328 then
            (bif Nat.ble (l + n) cp then roomE N0 κ e i.size A l cp n news rd else growE N0 κ e i.size m A l cp n news rd) else none
          | _, _ => none
        | _, _ => none
      | _, _, _, _ => none
    | .builtin .copy, [d, x], [t, u] => match P.underlying t, opd ts d, opd ts x with
      | some (.slice e), some (.slice A l cp), some xv => match P.info? e, lenV xv with
        | some i, some n => match newsE N0 κ i.size xv (Nat.min n l) with
          | some (news, rd) => match A with
            | none => some ⟨.int .i64 (Nat.min n l), [], none, rd⟩
            | some ⟨b, of, none⟩ => match putE N0 κ b of news with
              | some ups => some ⟨.int .i64 (Nat.min n l), ups, none, b :: rd⟩
              | none => none
            | _ => none
          | none => none
        | _, _ => none
      | _, _, _ => none
    | _, _, _ => none
  | .convert s d x => match P.underlying s, P.underlying d, opd ts x with
    | some (.slice _), some (.slice e), some (.slice (some ⟨b, of, none⟩) l cp) => bif Nat.beq s d && isU8D P e then (match rowAt N0 κ b with
        | some (cs, e', k) => some ⟨.slice (some ⟨b, of, none⟩) l cp, [(b, .cells cs e' (k + 1, 0))], none, [b]⟩
        | none => none) else none
    | _, _, _ => none
  | _ => none
section
variable {P : Program} {N0 : Nat} {w0 : World} {ρ : Rho} {κ : Kap} {w : World} {ts : Tm} {a : Act} {o : Oper}
def upsK (κ : Kap) : List (Nat × Obj) → Kap
  | [] => κ
  | (b, o) :: r => upsK (upd κ b (some o)) r
theorem rowAt_spec {b : Nat} {cs : Array Value} {e k : Nat} (h : rowAt N0 κ b = some (cs, e, k)) : N0 ≤ b ∧ κ b = some (.cells cs e (k, 0)) := by
  unfold rowAt at h
  cases hb : Nat.ble N0 b with
  | false => rw [hb] at h; cases h
  | true =>
    rw [hb] at h
    simp only [cond_true] at h
    refine ⟨Nat.le_of_ble_eq_true hb, ?_⟩
    split at h
    · rename_i cs1 e1 k1 hk
      simp only [Option.some.injEq, Prod.mk.injEq] at h
      obtain ⟨rfl, rfl, rfl⟩ := h
      exact hk
    · cases h
/-- which real blocks an operation may change -/
def LiveAt (ρ : Rho) (b B : Nat) : Prop := ∃ O n X sz, ρ b = some (.live B O n X sz)
theorem put_sim (R : RelK P N0 w0 ρ κ w) {b of : Nat} {vs vs' : List Value} {ups : List (Nat × Obj)} {a' : Addr} (h : putE N0 κ b of vs = some ups) (ha : vs ≠ [] → AR ρ ⟨b, of, none⟩ a') (hv : F2 (CR N0 ρ) vs vs') :
    ∃ w', (storeCells a' vs').run P w = .ok () w' ∧ RelK P N0 w0 ρ (upsK κ ups) w' ∧ (∀ B, B < w.heap.size → w'.heap[B]? = w.heap[B]? ∨ ∃ z o, (z, o) ∈ ups ∧ LiveAt ρ z B) ∧ w'.heap.size = w.heap.size := by
  unfold putE at h
  split at h
  · simp only [Option.some.injEq] at h
    subst h
    cases hv
    exact ⟨w, rfl, R, fun B _ => .inl rfl, rfl⟩
  · rename_i hne
    split at h
    · rename_i cs e k hr
      obtain ⟨hb, hk⟩ := rowAt_spec hr
      cases hq : Nat.ble (of + vs.length) cs.size with
      | false => rw [hq] at h; cases h
      | true =>
        rw [hq] at h
        simp only [cond_true, Option.some.injEq] at h
        subst h
        obtain ⟨w', h1, h2, h3, h4⟩ := wr_sim R hb hk (Nat.le_of_ble_eq_true hq) (ha hne) hv
        refine ⟨w', h1, h2, fun B hB => ?_, h4⟩
        rcases h3 B hB with h3 | h3
        · exact .inl h3
        · exact .inr ⟨b, _, List.mem_singleton.2 rfl, h3⟩
    · cases h
theorem ldK_len : ∀ {n o b : Nat} {L : List Value}, ldK N0 κ b n o = some L → L.length = n
  | 0, o, b, L, h => by simp only [ldK, Option.some.injEq] at h; subst h; rfl
  | n + 1, o, b, L, h => by
    simp only [ldK] at h
    split at h
    · rename_i v hv
      cases hk : okL N0 b v with
      | false => rw [hk] at h; cases h
      | true =>
        rw [hk] at h
        simp only [cond_true] at h
        split at h
        · rename_i l hl
          simp only [Option.some.injEq] at h
          subst h
          simp [ldK_len hl]
        · cases h
    · cases h
theorem lenV_sim {x x' : Value} {n : Nat} (hx : VR N0 ρ x x') (h : lenV x = some n) : Builtin.lenOf x' = pure n := by
  unfold lenV at h
  split at h
  · simp only [Option.some.injEq] at h
    subst h
    cases hx with | one h1 => cases h1 with | one h2 => cases h2 <;> rfl
  · simp only [Option.some.injEq] at h
    subst h
    cases hx with | one h1 => cases h1 with | one h2 => cases h2; rfl
  · cases h
theorem news_sim (R : RelK P N0 w0 ρ κ w) {x x' : Value} {size n : Nat} {news : List Value} {rd : List Nat} (hx : VR N0 ρ x x') (h : newsE N0 κ size x n = some (news, rd)) :
    ∃ news', F2 (CR N0 ρ) news news' ∧ news.length = n * size ∧ ∀ W : World, W.heap = w.heap → (Builtin.firstCells size n x').run P W = .ok news'.toArray W := by
  unfold newsE at h
  split at h
  · rename_i l cp
    cases hb : Nat.beq n 0 with
    | false => rw [hb] at h; cases h
    | true =>
      rw [hb] at h
      simp only [cond_true, Option.some.injEq, Prod.mk.injEq] at h
      obtain ⟨rfl, rfl⟩ := h
      have := hx.closed_eq rfl
      subst this
      have hn := Nat.eq_of_beq_eq_true hb
      subst hn
      exact ⟨[], .nil, by simp, fun W _ => rfl⟩
  · rename_i b of l cp
    cases hb : Nat.ble n l with
    | false => rw [hb] at h; cases h
    | true =>
      rw [hb] at h
      simp only [cond_true] at h
      have hnl := Nat.le_of_ble_eq_true hb
      split at h
      · rename_i L hL
        simp only [Option.some.injEq, Prod.mk.injEq] at h
        obtain ⟨rfl, rfl⟩ := h
        cases hx with | one h1 => cases h1 with | one h2 => cases h2 with | sl h3 =>
        by_cases hz : n * size = 0
        · rw [hz] at hL
          simp only [ldK, Option.some.injEq] at hL
          subst hL
          refine ⟨[], .nil, by simp [hz], fun W _ => ?_⟩
          simp only [Builtin.firstCells, hz]
          rfl
        · have hl : l ≠ 0 := by intro e; apply hz; have : n = 0 := by omega
                                rw [this]; simp
          obtain ⟨L', g1, g2, g3⟩ := ldK_sim R _ _ _ _ (h3.ar hl) hL
          refine ⟨L', g1, g2, fun W hW => ?_⟩
          have g4 : ∀ (j : Nat) (v : Value), L'[j]? = some v → W.cell? (Addr.add _ j) = some v := fun j v hj => by
            have := g3 j v hj
            simpa only [World.cell?, hW] using this
          have := run_ldK (P := P) g4
          rw [← g1.len, g2] at this
          exact this
      · cases h
  · rename_i s
    cases hb : (Nat.beq n s.size && Nat.beq size 1) with
    | false => rw [hb] at h; cases h
    | true =>
      rw [hb] at h
      simp only [cond_true, Option.some.injEq, Prod.mk.injEq] at h
      simp only [Bool.and_eq_true] at hb
      obtain ⟨rfl, rfl⟩ := h
      have hn := Nat.eq_of_beq_eq_true hb.1
      have hs := Nat.eq_of_beq_eq_true hb.2
      subst hn
      subst hs
      have := hx.closed_eq rfl
      subst this
      refine ⟨_, f2_of_flat ?_, by simp, fun W _ => ?_⟩
      · rw [List.all_eq_true]
        intro y hy
        obtain ⟨q, _, rfl⟩ := List.mem_map.1 hy
        rfl
      · simp only [Builtin.firstCells, Sem.run_pure]
        congr 1
        apply Array.ext'
        have e1 : s.extract 0 s.size = s := by simp
        simp [e1]
  · cases h
theorem run_append_room {t u ty e : TypeId} {i : TypeInfo} {du : TypeDesc} (ht : P.underlying t = some (.slice e)) (hu : P.underlying u = some du) (hdu : isSlD du = true) (hi : P.info? e = some i)
    {base : Option Addr} {sLen sCap n : Nat} {x : Value} (hx : Builtin.lenOf x = pure n) {news : List Value} (hfn : (Builtin.firstCells i.size n x).run P w = .ok news.toArray w) (hr : sLen + n ≤ sCap) :
    (Builtin.append_ #[t, u] ty #[.slice base sLen sCap, x]).run P w = match base with
      | none => .ok (.slice none (sLen + n) sCap) w
      | some ad => ((storeCells (ad.add (sLen * i.size)) news).run P w).andThen fun _ w' => .ok (.slice (some ad) (sLen + n) sCap) w' := by
  cases du <;> simp only [isSlD, Bool.false_eq_true] at hdu <;> cases base <;> simp [Builtin.append_, run_underlying ht, run_underlying hu, sizeOf, typeInfo, hi, hx, hr, hfn]
theorem run_append_grow {t u ty e : TypeId} {i : TypeInfo} {z : Value} {du : TypeDesc} (ht : P.underlying t = some (.slice e)) (hu : P.underlying u = some du) (hdu : isSlD du = true) (hi : P.info? e = some i) (hz : i.zero = some z)
    {base : Option Addr} {sLen sCap n : Nat} {x : Value} (hx : Builtin.lenOf x = pure n) {olds news : List Value} (hfo : ∀ W : World, W.heap = w.heap → (Builtin.firstCells i.size sLen (.slice base sLen sCap)).run P W = .ok olds.toArray W)
    (hfn : ∀ W : World, W.heap = w.heap → (Builtin.firstCells i.size n x).run P W = .ok news.toArray W) (hb0 : 0 < i.bytes) (hg : sCap < sLen + n) (hl : (sLen + n) * i.bytes ≤ 140737488355328) :
    (Builtin.append_ #[t, u] ty #[.slice base sLen sCap, x]).run P w = .ok (.slice (some ⟨w.heap.size, 0, none⟩) (sLen + n) (grownCap w (sLen + n) sCap e))
        (w.drew.alloc (.cells (olds.toArray ++ news.toArray ++ Builtin.zeroCells z.cells (grownCap w (sLen + n) sCap e - (sLen + n))) e)) := by
  have h1 : sLen + n ≤ 140737488355328 := Nat.le_trans (Nat.le_mul_of_pos_right _ hb0) hl
  have hn : ¬ (sLen + n ≤ sCap) := by omega
  have h63' : ¬ (9223372036854775807 < ((sLen : Int) + (n : Int))) := by omega
  have hnx : Builtin.nextslicecap (sLen + n) sCap * i.bytes ≤ 281474976710656 := by
    have := nextslicecap_le hg
    have := Nat.mul_le_mul_right i.bytes this
    rw [Nat.mul_assoc] at this
    omega
  have h48' : ¬ (281474976710656 < Builtin.nextslicecap (sLen + n) sCap * i.bytes) := by omega
  have hf := hfn w.drew rfl
  have hfo' := hfo w.drew rfl
  have hb0' : i.bytes ≠ 0 := by omega
  cases du <;> simp only [isSlD, Bool.false_eq_true] at hdu <;> simp [Builtin.append_, run_underlying ht, run_underlying hu, sizeOf, typeInfo, zeroValue, hi, hz, hx, hn, h63', h48', hb0', Question.forced, hf, hfo', newRow, grownCap] <;> (congr 2; apply Array.ext'; simp)
end
end Go.Proofs.Ytbonmmpdpahhfaa.Can
