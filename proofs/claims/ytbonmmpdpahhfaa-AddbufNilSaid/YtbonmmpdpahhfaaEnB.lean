/- The engine, merged part B. No law, no condition. -/
import Derived.Test.YtbonmmpdpahhfaaEnA
import Derived.Tactics
/- The engine, ninth part: stores, copies and appends. No law, no condition. -/
namespace Go.Proofs.Ytbonmmpdpahhfaa.Can
open Go.RowKit
set_option linter.unusedVariables false
set_option linter.unusedSimpArgs false

/-- what an operation does to canonical memory -/
structure Dl where
  v : Value
  ups : List (Nat × Obj)
  nw : Option Obj
  rd : List Nat
def rowAt (N0 : Nat) (κ : Kap) (b : Nat) : Option (Array Value × TypeId × Nat) := bif Nat.ble N0 b then (match κ b with
  | some (.cells cs e (k, 0)) => some (cs, e, k)
  | _ => none) else none
/-- vs written to block b from o on -/
def putE (N0 : Nat) (κ : Kap) (b o : Nat) (vs : List Value) : Option (List (Nat × Obj)) := match vs with
  | [] => some []
  | vs => match rowAt N0 κ b with
    | some (cs, e, k) => bif Nat.ble (o + vs.length) cs.size then some [(b, .cells (splice cs o vs) e (k + 1, 0))] else none
    | none => none
/-- the first n elements of a slice or a string -/
def newsE (N0 : Nat) (κ : Kap) (size : Nat) (x : Value) (n : Nat) : Option (List Value × List Nat) := match x with
  | .slice none _ _ => bif Nat.beq n 0 then some ([], []) else none
  | .slice (some ⟨b, o, none⟩) l _ => bif Nat.ble n l then (match ldK N0 κ b (n * size) o with
    | some L => some (L, [b])
    | none => none) else none
  | .string s => bif Nat.beq n s.size && Nat.beq size 1 then some (s.data.toList.map (fun b => .int .u8 b.toNat), []) else none
  | _ => none
def lenV : Value → Option Nat
  | .slice _ l _ => some l
  | .string s => some s.size
  | _ => none
def isIntD : TypeDesc → Bool
  | .int _ => true
  | _ => false
def isSlD : TypeDesc → Bool
  | .slice _ => true
  | .string => true
  | _ => false
/-- an append where there is room; in a new block -/
def roomE (N0 : Nat) (κ : Kap) (e : TypeId) (size : Nat) (A : Option Addr) (l cp n : Nat) (news : List Value) (rd : List Nat) : Option Dl := match A with
  | none => match news with
    | [] => some ⟨.slice none (l + n) cp, [], none, rd⟩
    | _ => none
  | some ⟨b, o, none⟩ => bif rowOk N0 κ b e then (match putE N0 κ b (o + l * size) news with
    | some ups => some ⟨.slice (some ⟨b, o, none⟩) (l + n) cp, ups, none, b :: rd⟩
    | none => none) else none
  | _ => none
def growE (N0 : Nat) (κ : Kap) (e : TypeId) (size m : Nat) (A : Option Addr) (l cp n : Nat) (news : List Value) (rd : List Nat) : Option Dl := match A with
  | none => bif Nat.beq l 0 then some ⟨.slice (some ⟨m, 0, none⟩) (l + n) (l + n), [], some (.cells news.toArray e (0, 0)), rd⟩ else none
  | some ⟨b, o, none⟩ => bif rowOk N0 κ b e then (match ldK N0 κ b (l * size) o with
    | some olds => bif Nat.blt b N0 then some ⟨.slice (some ⟨m, 0, none⟩) (l + n) (l + n), [], some (.cells (olds ++ news).toArray e (0, 0)), b :: rd⟩
      else (match rowAt N0 κ b with
      | some (cs, e', k) => some ⟨.slice (some ⟨m, 0, none⟩) (l + n) (l + n), [(b, .cells #[] e' (k + 1, 1))], some (.cells (olds ++ news).toArray e (0, 0)), b :: rd⟩
      | none => none)
    | none => none) else none
  | _ => none
def isU8D (P : Program) (e : TypeId) : Bool := match P.underlying e with
  | some (.int .u8) => true
  | _ => false
theorem isU8D_spec {P : Program} {e : TypeId} (h : isU8D P e = true) : P.underlying e = some (.int .u8) := by
  unfold isU8D at h
  split at h
  · assumption
  · cases h
def evW (P : Program) (N0 : Nat) (κ : Kap) (ts : Tm) (m : Nat) (o : Oper) : Option Dl :=
  match o.op with
  | .store t x y => match P.info? t, opd ts x, opd ts y with
    | some i, some (.pointer (some ⟨b, of, none⟩)), some v => bif isTup v || !(Nat.beq v.cells.size i.size) then none else
      (match putE N0 κ b of v.cells.toList with
      | some ups => some ⟨undef, ups, none, [b]⟩
      | none => none)
    | _, _, _ => none
  | .call c => match c.callee, c.args.toList, c.argTypes.toList with
    | .builtin .append, [s, x], [t, u] => match P.underlying t, P.underlying u, opd ts s, opd ts x with
      | some (.slice e), some du, some (.slice A l cp), some xv => match P.info? e, lenV xv with
        | some i, some n => match i.zero, newsE N0 κ i.size xv n with
          | some z, some (news, rd) => bif isSlD du && Nat.beq z.cells.size i.size && Nat.blt 0 i.bytes && Nat.blt 0 i.size && Nat.ble ((l + n) * i.bytes) 140737488355328 then
            (bif Nat.ble (l + n) cp then roomE N0 κ e i.size A l cp n news rd else growE N0 κ e i.size m A l cp n news rd) else none
          | _, _ => none
        | _, _ => none
      | _, _, _, _ => none
    | .builtin .copy, [d, x], [t, u] => match P.underlying t, opd ts d, opd ts x with
      | some (.slice e), some (.slice A l cp), some xv => match P.info? e, lenV xv with
        | some i, some n => match newsE N0 κ i.size xv (Nat.min n l) with
          | some (news, rd) => match A with
            | none => some ⟨.int .i64 (Nat.min n l), [], none, rd⟩
            | some ⟨b, of, none⟩ => match putE N0 κ b of news with
              | some ups => some ⟨.int .i64 (Nat.min n l), ups, none, b :: rd⟩
              | none => none
            | _ => none
          | none => none
        | _, _ => none
      | _, _, _ => none
    | _, _, _ => none
  | .convert s d x => match P.underlying s, P.underlying d, opd ts x with
    | some (.slice _), some (.slice e), some (.slice (some ⟨b, of, none⟩) l cp) => bif Nat.beq s d && isU8D P e then (match rowAt N0 κ b with
        | some (cs, e', k) => some ⟨.slice (some ⟨b, of, none⟩) l cp, [(b, .cells cs e' (k + 1, 0))], none, [b]⟩
        | none => none) else none
    | _, _, _ => none
  | _ => none
section
variable {P : Program} {N0 : Nat} {w0 : World} {ρ : Rho} {κ : Kap} {w : World} {ts : Tm} {a : Act} {o : Oper}
def upsK (κ : Kap) : List (Nat × Obj) → Kap
  | [] => κ
  | (b, o) :: r => upsK (upd κ b (some o)) r
theorem rowAt_spec {b : Nat} {cs : Array Value} {e k : Nat} (h : rowAt N0 κ b = some (cs, e, k)) : N0 ≤ b ∧ κ b = some (.cells cs e (k, 0)) := by
  unfold rowAt at h
  cases hb : Nat.ble N0 b with
  | false => rw [hb] at h; cases h
  | true =>
    rw [hb] at h
    simp only [cond_true] at h
    refine ⟨Nat.le_of_ble_eq_true hb, ?_⟩
    split at h
    · rename_i cs1 e1 k1 hk
      simp only [Option.some.injEq, Prod.mk.injEq] at h
      obtain ⟨rfl, rfl, rfl⟩ := h
      exact hk
    · cases h
/-- which real blocks an operation may change -/
def LiveAt (ρ : Rho) (b B : Nat) : Prop := ∃ O n X sz, ρ b = some (.live B O n X sz)
theorem put_sim (R : RelK P N0 w0 ρ κ w) {b of : Nat} {vs vs' : List Value} {ups : List (Nat × Obj)} {a' : Addr} (h : putE N0 κ b of vs = some ups) (ha : vs ≠ [] → AR ρ ⟨b, of, none⟩ a') (hv : F2 (CR N0 ρ) vs vs') :
    ∃ w', (storeCells a' vs').run P w = .ok () w' ∧ RelK P N0 w0 ρ (upsK κ ups) w' ∧ (∀ B, B < w.heap.size → w'.heap[B]? = w.heap[B]? ∨ ∃ z o, (z, o) ∈ ups ∧ LiveAt ρ z B) ∧ w'.heap.size = w.heap.size := by
  unfold putE at h
  split at h
  · simp only [Option.some.injEq] at h
    subst h
    cases hv
    exact ⟨w, rfl, R, fun B _ => .inl rfl, rfl⟩
  · rename_i hne
    split at h
    · rename_i cs e k hr
      obtain ⟨hb, hk⟩ := rowAt_spec hr
      cases hq : Nat.ble (of + vs.length) cs.size with
      | false => rw [hq] at h; cases h
      | true =>
        rw [hq] at h
        simp only [cond_true, Option.some.injEq] at h
        subst h
        obtain ⟨w', h1, h2, h3, h4⟩ := wr_sim R hb hk (Nat.le_of_ble_eq_true hq) (ha hne) hv
        refine ⟨w', h1, h2, fun B hB => ?_, h4⟩
        rcases h3 B hB with h3 | h3
        · exact .inl h3
        · exact .inr ⟨b, _, List.mem_singleton.2 rfl, h3⟩
    · cases h
theorem ldK_len : ∀ {n o b : Nat} {L : List Value}, ldK N0 κ b n o = some L → L.length = n
  | 0, o, b, L, h => by simp only [ldK, Option.some.injEq] at h; subst h; rfl
  | n + 1, o, b, L, h => by
    simp only [ldK] at h
    split at h
    · rename_i v hv
      cases hk : okL N0 b v with
      | false => rw [hk] at h; cases h
      | true =>
        rw [hk] at h
        simp only [cond_true] at h
        split at h
        · rename_i l hl
          simp only [Option.some.injEq] at h
          subst h
          simp [ldK_len hl]
        · cases h
    · cases h
theorem lenV_sim {x x' : Value} {n : Nat} (hx : VR N0 ρ x x') (h : lenV x = some n) : Builtin.lenOf x' = pure n := by
  unfold lenV at h
  split at h
  · simp only [Option.some.injEq] at h
    subst h
    cases hx with | one h1 => cases h1 with | one h2 => cases h2 <;> rfl
  · simp only [Option.some.injEq] at h
    subst h
    cases hx with | one h1 => cases h1 with | one h2 => cases h2; rfl
  · cases h
theorem news_sim (R : RelK P N0 w0 ρ κ w) {x x' : Value} {size n : Nat} {news : List Value} {rd : List Nat} (hx : VR N0 ρ x x') (h : newsE N0 κ size x n = some (news, rd)) :
    ∃ news', F2 (CR N0 ρ) news news' ∧ news.length = n * size ∧ ∀ W : World, W.heap = w.heap → (Builtin.firstCells size n x').run P W = .ok news'.toArray W := by
  unfold newsE at h
  split at h
  · rename_i l cp
    cases hb : Nat.beq n 0 with
    | false => rw [hb] at h; cases h
    | true =>
      rw [hb] at h
      simp only [cond_true, Option.some.injEq, Prod.mk.injEq] at h
      obtain ⟨rfl, rfl⟩ := h
      have := hx.closed_eq rfl
      subst this
      have hn := Nat.eq_of_beq_eq_true hb
      subst hn
      exact ⟨[], .nil, by simp, fun W _ => rfl⟩
  · rename_i b of l cp
    cases hb : Nat.ble n l with
    | false => rw [hb] at h; cases h
    | true =>
      rw [hb] at h
      simp only [cond_true] at h
      have hnl := Nat.le_of_ble_eq_true hb
      split at h
      · rename_i L hL
        simp only [Option.some.injEq, Prod.mk.injEq] at h
        obtain ⟨rfl, rfl⟩ := h
        cases hx with | one h1 => cases h1 with | one h2 => cases h2 with | sl h3 =>
        by_cases hz : n * size = 0
        · rw [hz] at hL
          simp only [ldK, Option.some.injEq] at hL
          subst hL
          refine ⟨[], .nil, by simp [hz], fun W _ => ?_⟩
          simp only [Builtin.firstCells, hz]
          rfl
        · have hl : l ≠ 0 := by intro e; apply hz; have : n = 0 := by omega
                                rw [this]; simp
          obtain ⟨L', g1, g2, g3⟩ := ldK_sim R _ _ _ _ (h3.ar hl) hL
          refine ⟨L', g1, g2, fun W hW => ?_⟩
          have g4 : ∀ (j : Nat) (v : Value), L'[j]? = some v → W.cell? (Addr.add _ j) = some v := fun j v hj => by
            have := g3 j v hj
            simpa only [World.cell?, hW] using this
          have := run_ldK (P := P) g4
          rw [← g1.len, g2] at this
          exact this
      · cases h
  · rename_i s
    cases hb : (Nat.beq n s.size && Nat.beq size 1) with
    | false => rw [hb] at h; cases h
    | true =>
      rw [hb] at h
      simp only [cond_true, Option.some.injEq, Prod.mk.injEq] at h
      simp only [Bool.and_eq_true] at hb
      obtain ⟨rfl, rfl⟩ := h
      have hn := Nat.eq_of_beq_eq_true hb.1
      have hs := Nat.eq_of_beq_eq_true hb.2
      subst hn
      subst hs
      have := hx.closed_eq rfl
      subst this
      refine ⟨_, f2_of_flat ?_, by simp, fun W _ => ?_⟩
      · rw [List.all_eq_true]
        intro y hy
        obtain ⟨q, _, rfl⟩ := List.mem_map.1 hy
        rfl
      · simp only [Builtin.firstCells, Sem.run_pure]
        congr 1
        apply Array.ext'
        have e1 : s.extract 0 s.size = s := by simp
        simp [e1]
  · cases h
theorem run_append_room {t u ty e : TypeId} {i : TypeInfo} {du : TypeDesc} (ht : P.underlying t = some (.slice e)) (hu : P.underlying u = some du) (hdu : isSlD du = true) (hi : P.info? e = some i)
    {base : Option Addr} {sLen sCap n : Nat} {x : Value} (hx : Builtin.lenOf x = pure n) {news : List Value} (hfn : (Builtin.firstCells i.size n x).run P w = .ok news.toArray w) (hr : sLen + n ≤ sCap) :
    (Builtin.append_ #[t, u] ty #[.slice base sLen sCap, x]).run P w = match base with
      | none => .ok (.slice none (sLen + n) sCap) w
      | some ad => ((storeCells (ad.add (sLen * i.size)) news).run P w).andThen fun _ w' => .ok (.slice (some ad) (sLen + n) sCap) w' := by
  cases du <;> simp only [isSlD, Bool.false_eq_true] at hdu <;> cases base <;> simp [Builtin.append_, run_underlying ht, run_underlying hu, sizeOf, typeInfo, hi, hx, hr, hfn]
theorem run_append_grow {t u ty e : TypeId} {i : TypeInfo} {z : Value} {du : TypeDesc} (ht : P.underlying t = some (.slice e)) (hu : P.underlying u = some du) (hdu : isSlD du = true) (hi : P.info? e = some i) (hz : i.zero = some z)
    {base : Option Addr} {sLen sCap n : Nat} {x : Value} (hx : Builtin.lenOf x = pure n) {olds news : List Value} (hfo : ∀ W : World, W.heap = w.heap → (Builtin.firstCells i.size sLen (.slice base sLen sCap)).run P W = .ok olds.toArray W)
    (hfn : ∀ W : World, W.heap = w.heap → (Builtin.firstCells i.size n x).run P W = .ok news.toArray W) (hb0 : 0 < i.bytes) (hg : sCap < sLen + n) (hl : (sLen + n) * i.bytes ≤ 140737488355328) :
    (Builtin.append_ #[t, u] ty #[.slice base sLen sCap, x]).run P w = .ok (.slice (some ⟨w.heap.size, 0, none⟩) (sLen + n) (grownCap w (sLen + n) sCap e))
        (w.drew.alloc (.cells (olds.toArray ++ news.toArray ++ Builtin.zeroCells z.cells (grownCap w (sLen + n) sCap e - (sLen + n))) e)) := by
  have h1 : sLen + n ≤ 140737488355328 := Nat.le_trans (Nat.le_mul_of_pos_right _ hb0) hl
  have hn : ¬ (sLen + n ≤ sCap) := by omega
  have h63' : ¬ (9223372036854775807 < ((sLen : Int) + (n : Int))) := by omega
  have hnx : Builtin.nextslicecap (sLen + n) sCap * i.bytes ≤ 281474976710656 := by
    have := nextslicecap_le hg
    have := Nat.mul_le_mul_right i.bytes this
    rw [Nat.mul_assoc] at this
    omega
  have h48' : ¬ (281474976710656 < Builtin.nextslicecap (sLen + n) sCap * i.bytes) := by omega
  have hf := hfn w.drew rfl
  have hfo' := hfo w.drew rfl
  have hb0' : i.bytes ≠ 0 := by omega
  cases du <;> simp only [isSlD, Bool.false_eq_true] at hdu <;> simp [Builtin.append_, run_underlying ht, run_underlying hu, sizeOf, typeInfo, zeroValue, hi, hz, hx, hn, h63', h48', hb0', Question.forced, hf, hfo', newRow, grownCap] <;> (congr 2; apply Array.ext'; simp)
end
end Go.Proofs.Ytbonmmpdpahhfaa.Can

/- The engine, tenth part: appends in both worlds; all operations but calls in one. No law, no condition. -/
namespace Go.Proofs.Ytbonmmpdpahhfaa.Can
open Go.RowKit
set_option linter.unusedVariables false
set_option linter.unusedSimpArgs false
section
variable {P : Program} {N0 : Nat} {w0 : World} {ρ : Rho} {κ : Kap} {w : World} {ts : Tm} {a : Act} {o : Oper}
theorem new_sim2 (R : RelK P N0 w0 ρ κ w) {m B O n X sz : Nat} (hm : ρ m = none) (hN : N0 ≤ m) (hB : ∀ z O' n' X' sz', N0 ≤ z → ρ z ≠ some (.live B O' n' X' sz')) {cs : Array Value} {e k : Nat}
    (h : ImOk P N0 (upd ρ m (some (.live B O n X sz))) (upd κ m (some (.cells cs e (k, 0)))) w m B O n X sz) :
    RelK P N0 w0 (upd ρ m (some (.live B O n X sz))) (upd κ m (some (.cells cs e (k, 0)))) w := by
  have hext : Ext ρ (upd ρ m (some (.live B O n X sz))) := ext_new hm
  refine ⟨R.n0, R.wb, fun z hz => (upd_ne (by omega)).trans (R.kb z hz), fun z hz => (upd_ne (by omega)).trans (R.old z hz), ?_, ?_, ?_⟩
  · intro z B' O' n' X' sz' hz hz'
    by_cases hzm : z = m
    · subst hzm
      rw [upd_same] at hz'
      simp only [Option.some.injEq, Im.live.injEq] at hz'
      obtain ⟨rfl, rfl, rfl, rfl, rfl⟩ := hz'
      exact h
    · rw [upd_ne hzm] at hz'
      have h1 := R.new z B' O' n' X' sz' hz hz'
      exact h1.mono hext (upd_ne hzm) rfl
  · intro z hz
    by_cases hzm : z = m
    · subst hzm; rw [upd_same] at hz; simp at hz
    · rw [upd_ne hzm] at hz
      obtain ⟨e3, k3, h3⟩ := R.dead z hz
      exact ⟨e3, k3, (upd_ne hzm).trans h3⟩
  · intro b b' B' O1 n1 X1 s1 O2 n2 X2 s2 hb hb' h1 h2
    by_cases e1 : b = m
    · by_cases e2 : b' = m
      · rw [e1, e2]
      · subst e1
        rw [upd_same] at h1
        simp only [Option.some.injEq, Im.live.injEq] at h1
        rw [upd_ne e2] at h2
        obtain ⟨rfl, _⟩ := h1
        exact absurd h2 (hB b' _ _ _ _ hb')
    · by_cases e2 : b' = m
      · subst e2
        rw [upd_same] at h2
        simp only [Option.some.injEq, Im.live.injEq] at h2
        rw [upd_ne e1] at h1
        obtain ⟨rfl, _⟩ := h2
        exact absurd h1 (hB b _ _ _ _ hb)
      · rw [upd_ne e1] at h1
        rw [upd_ne e2] at h2
        exact R.inj b b' B' O1 n1 X1 s1 O2 n2 X2 s2 hb hb' h1 h2
/-- a block that nothing lies in is changed -/
theorem RelK.other (R : RelK P N0 w0 ρ κ w) {B : Nat} {w' : World} (hN : N0 ≤ B) (hB : ∀ z O' n' X' sz', N0 ≤ z → ρ z ≠ some (.live B O' n' X' sz')) (hw : ∀ B', B' ≠ B → w'.heap[B']? = w.heap[B']?) (hs : w'.heap.size = w.heap.size)
    (h1 : w'.os = w.os) (h2 : w'.tape = w.tape) (h3 : w'.output = w.output) : RelK P N0 w0 ρ κ w' :=
  ⟨R.n0, ⟨h1.trans R.wb.os, h2.trans R.wb.tape, h3.trans R.wb.output, by rw [hs]; exact R.wb.size, fun z hz => (hw z (by omega)).trans (R.wb.block z hz)⟩, R.kb, R.old,
    fun b B' O n X sz hb h => (R.new b B' O n X sz hb h).mono (Ext.refl ρ) rfl (hw B' (fun e => by subst e; exact hB b _ _ _ _ hb h)), R.dead, R.inj⟩
theorem fresh_no (R : RelK P N0 w0 ρ κ w) {B : Nat} (h : w.heap.size ≤ B) : ∀ z O' n' X' sz', N0 ≤ z → ρ z ≠ some (.live B O' n' X' sz') := fun z O' n' X' sz' hz hl => by
  have := (R.new z _ _ _ _ _ hz hl).lt
  omega
/-- a new block of a new real block -/
theorem made_sim (R : RelK P N0 w0 ρ κ w) {m : Nat} (hm : ρ m = none) (hN : N0 ≤ m) {w' : World} (hw : Below w.heap.size w w') {cs : List Value} {C : Array Value} {e lo hi X sz : Nat} (h1 : w'.heap[w.heap.size]? = some (.cells C e (lo, hi)))
    (h2 : cs.length + X ≤ C.size) (h3 : lo = hi ∨ cs.length + X ≤ lo) (h4 : ∀ (j : Nat) (x : Value), cs[j]? = some x → ∃ x', C[j]? = some x' ∧ CR N0 ρ x x') (h5 : (P.info? e).map (fun i => i.size) = some sz) :
    RelK P N0 w0 (upd ρ m (some (.live w.heap.size 0 cs.length X sz))) (upd κ m (some (.cells cs.toArray e (0, 0)))) w' := by
  refine new_sim2 (R.same hw) hm hN (fresh_no R (Nat.le_refl _)) ⟨R.wz, cs.toArray, e, 0, C, e, lo, hi, upd_same, by simp, h5, h1, by omega, by omega, fun j v hj => ?_⟩
  obtain ⟨x', g1, g2⟩ := h4 j v (by simpa using hj)
  exact ⟨x', by simpa using g1, g2.mono (ext_new hm)⟩
def kapD (κ : Kap) (m : Nat) (d : Dl) : Kap := match d.nw with
  | none => upsK κ d.ups
  | some ob => upd (upsK κ d.ups) m (some ob)
/-- what an operation comes to in the real world -/
structure OpPost (P : Program) (N0 : Nat) (w0 : World) (ρ : Rho) (κ : Kap) (w : World) (m : Nat) (d : Dl) (run : Result Next) (v' : Value) (w' : World) (ρ' : Rho) : Prop where
  run : run = .ok (.value v') w' ∨ (run = .ok .skip w' ∧ v' = undef)
  rel : RelK P N0 w0 ρ' (kapD κ m d) w'
  val : VR N0 ρ' d.v v'
  ext : Ext ρ ρ'
  same : ∀ z, z ≠ m → (∀ ob, (z, ob) ∉ d.ups) → ρ' z = ρ z
  newN : d.nw = none → ρ' m = ρ m
  newS : d.nw ≠ none → ∃ B O n X sz, ρ' m = some (.live B O n X sz) ∧ (w.heap.size ≤ B ∨ ∃ z ob, (z, ob) ∈ d.ups ∧ LiveAt ρ z B)
  frame : ∀ B, B < w.heap.size → w'.heap[B]? = w.heap[B]? ∨ ∃ z ob, (z, ob) ∈ d.ups ∧ LiveAt ρ z B
  size : w.heap.size ≤ w'.heap.size
  chg : ∀ z ob, (z, ob) ∈ d.ups → ρ' z = ρ z ∨ ρ' z = some .dead
def evD (P : Program) (N0 : Nat) (κ : Kap) (ts : Tm) (m : Nat) (o : Oper) : Option Dl :=
  match evP P ts o with
  | some v => some ⟨v, [], none, []⟩
  | none => match evL P N0 κ ts o with
    | some (v, rd) => some ⟨v, [], none, rd⟩
    | none => match evA P ts m o with
      | some (cs, e, v) => some ⟨v, [], some (.cells cs.toArray e (0, 0)), []⟩
      | none => evW P N0 κ ts m o
theorem post_same (R : RelK P N0 w0 ρ κ w) {m : Nat} {v v' : Value} {rd : List Nat} {run : Result Next} (hr : run = .ok (.value v') w) (hv : VR N0 ρ v v') : OpPost P N0 w0 ρ κ w m ⟨v, [], none, rd⟩ run v' w ρ :=
  ⟨.inl hr, R, hv, Ext.refl ρ, fun _ _ _ => rfl, fun _ => rfl, fun h => absurd rfl h, fun _ _ => .inl rfl, Nat.le_refl _, fun _ _ h => (by cases h)⟩
theorem post_new (R : RelK P N0 w0 ρ κ w) {m : Nat} (hm : ρ m = none) (hN : N0 ≤ m) {run : Result Next} {cs : List Value} {e : TypeId} {v : Value} (h : AOut P N0 ρ w run cs e m v) :
    ∃ v' w' ρ', OpPost P N0 w0 ρ κ w m ⟨v, [], some (.cells cs.toArray e (0, 0)), []⟩ run v' w' ρ' := by
  obtain ⟨w', C, lo, hi, X, sz, v', h1, h2, h3, h4, h5, h6, h7, h8⟩ := h
  refine ⟨v', w', upd ρ m (some (.live w.heap.size 0 cs.length X sz)), .inl h1, made_sim R hm hN h2 h3 h4 h5 h6 h7, ?_, ext_new hm, fun z hz _ => upd_ne hz, (fun h => by cases h), fun _ => ⟨w.heap.size, 0, cs.length, X, sz, upd_same, .inl (Nat.le_refl _)⟩, fun B hB => .inl (h2.block B hB), h2.size, fun _ _ h => (by cases h)⟩
  rcases h8 with ⟨rfl, rfl⟩ | ⟨l, cp, cp', rfl, rfl, h8⟩
  · exact .one (.one (.ptr ⟨rfl, rfl, .inr ⟨w.heap.size, 0, cs.length, X, sz, upd_same, rfl⟩⟩))
  · refine .one (.one (.sl ⟨rfl, rfl, .inr ⟨w.heap.size, 0, cs.length, X, sz, 0, upd_same, rfl, .inl rfl, ?_⟩⟩))
    rcases h8 with h8 | ⟨h8, h9⟩
    · exact .inl ⟨h8, rfl⟩
    · exact .inr ⟨hN, h8, by simpa using h9⟩
theorem undef_VR : VR N0 ρ undef undef := .tup (xs := []) (ys := []) .nil
/-- an append where there is room, canonically and really -/
theorem room_sim (R : RelK P N0 w0 ρ κ w) {m : Nat} {e : TypeId} {i : TypeInfo} (hi : P.info? e = some i) {A : Option Addr} {l cp n : Nat} {news news' : List Value} {rd : List Nat} {d : Dl} (hs0 : 0 < i.size)
    (h : roomE N0 κ e i.size A l cp n news rd = some d) (hn : F2 (CR N0 ρ) news news') (hnl : news.length = n * i.size) (hc : l + n ≤ cp) {s' : Value} (hs : VR N0 ρ (.slice A l cp) s') {run : Result Next}
    (hrun : ∀ base cp', s' = .slice base l cp' → l + n ≤ cp' → run = match base with
      | none => .ok (.value (.slice none (l + n) cp')) w
      | some ad => ((storeCells (ad.add (l * i.size)) news').run P w).andThen fun _ w' => .ok (.value (.slice (some ad) (l + n) cp')) w') :
    ∃ v' w' ρ', OpPost P N0 w0 ρ κ w m d run v' w' ρ' := by
  unfold roomE at h
  split at h
  · split at h
    · simp only [Option.some.injEq] at h
      subst h
      have := hs.closed_eq rfl
      subst this
      exact ⟨_, w, ρ, post_same R (hrun none cp rfl hc) (.one (.one (.nils _ _)))⟩
    · cases h
  · rename_i b of
    cases hr : rowOk N0 κ b e with
    | false => rw [hr] at h; cases h
    | true =>
      rw [hr] at h
      simp only [cond_true] at h
      split at h
      · rename_i ups hups
        simp only [Option.some.injEq] at h
        subst h
        cases hs with | one h1 => cases h1 with | one h2 => cases h2 with | sl h3 =>
        rename_i ad' cp'
        obtain ⟨hnd, _⟩ := rowOk_live R hr
        have h3' := h3
        obtain ⟨_, hsp, h4⟩ := h3
        rcases h4 with h4 | ⟨B, O, nn, X, sz, dd, h4, rfl, h6, h7⟩
        · exact absurd h4 hnd
        · have hcp : cp ≤ cp' := by rcases h7 with h7 | h7 <;> omega
          have hadd : news ≠ [] → AR ρ ⟨b, of + l * i.size, none⟩ ((⟨B, O + (of + dd), none⟩ : Addr).add (l * i.size)) := fun hne => by
            have hn0 : n ≠ 0 := fun e => by
              rw [e, Nat.zero_mul] at hnl
              exact hne (List.eq_nil_of_length_eq_zero hnl)
            have hd0 : dd = 0 := by rcases h6 with h6 | h6 <;> omega
            subst hd0
            have : AR ρ ⟨b, of, none⟩ ⟨B, O + (of + 0), none⟩ := ⟨rfl, rfl, .inr ⟨B, O, nn, X, sz, h4, rfl⟩⟩
            exact this.add _
          obtain ⟨w', g1, g2, g3, g4⟩ := put_sim R hups hadd hn
          have hr2 := hrun (some ⟨B, O + (of + dd), none⟩) cp' rfl (by omega)
          simp only [g1, Result.andThen_ok] at hr2
          refine ⟨_, w', ρ, .inl hr2, g2, ?_, Ext.refl ρ, fun _ _ _ => rfl, fun _ => rfl, fun h => absurd rfl h, g3, by omega, fun _ _ _ => .inl rfl⟩
          refine .one (.one (.sl ⟨rfl, rfl, .inr ⟨B, O, nn, X, sz, dd, h4, rfl, ?_, h7⟩⟩))
          rcases h6 with h6 | h6
          · exact .inl h6
          · exact .inr ⟨by omega, h6.2⟩
      · cases h
  · cases h
end
end Go.Proofs.Ytbonmmpdpahhfaa.Can

/- The engine, eleventh part: an append that makes a new block canonically; writes; all operations but calls. No law, no condition. -/
namespace Go.Proofs.Ytbonmmpdpahhfaa.Can
open Go.RowKit
set_option linter.unusedVariables false
set_option linter.unusedSimpArgs false
section
variable {P : Program} {N0 : Nat} {w0 : World} {ρ : Rho} {κ : Kap} {w : World} {ts : Tm} {a : Act} {o : Oper}
theorem zeroCells_size (z : Array Value) (n : Nat) : (Builtin.zeroCells z n).size = n * z.size := by simp [Builtin.zeroCells]
/-- the real append makes a block, too -/
theorem grow_made (R : RelK P N0 w0 ρ κ w) {m : Nat} (hm : ρ m = none) (hN : N0 ≤ m) {e : TypeId} {i : TypeInfo} {z : Value} (hi : P.info? e = some i) (hzs : z.cells.size = i.size) {need cap : Nat} (hcap : need ≤ cap)
    {cs cs' : List Value} (hf : F2 (CR N0 ρ) cs cs') (hl : cs.length = need * i.size) :
    ∃ ρ', RelK P N0 w0 ρ' (upd κ m (some (.cells cs.toArray e (0, 0)))) (w.drew.alloc (.cells (cs'.toArray ++ Builtin.zeroCells z.cells (cap - need)) e)) ∧
      VR N0 ρ' (.slice (some ⟨m, 0, none⟩) need need) (.slice (some ⟨w.heap.size, 0, none⟩) need cap) ∧ ρ' = upd ρ m (some (.live w.heap.size 0 cs.length ((cap - need) * i.size) i.size)) := by
  refine ⟨_, made_sim R hm hN (w' := w.drew.alloc (.cells (cs'.toArray ++ Builtin.zeroCells z.cells (cap - need)) e)) (C := cs'.toArray ++ Builtin.zeroCells z.cells (cap - need)) (lo := 0) (hi := 0) (X := (cap - need) * i.size) (sz := i.size) ?_ ?_ ?_ ?_ ?_ (by rw [hi]; rfl), ?_, rfl⟩
  · have := below_push w.drew (.cells (cs'.toArray ++ Builtin.zeroCells z.cells (cap - need)) e)
    exact ⟨this.os, this.tape, this.output, this.size, this.block⟩
  · show (w.drew.heap.push _)[w.heap.size]? = _
    have : w.drew.heap = w.heap := rfl
    rw [this]
    simp
  · rw [Array.size_append, zeroCells_size, hzs]
    simp [hf.len]
  · exact .inl rfl
  · intro j x hj
    obtain ⟨y, h1, h2⟩ := hf.get j x hj
    refine ⟨y, ?_, h2⟩
    have : j < cs'.length := (List.getElem?_eq_some_iff.1 h1).1
    rw [Array.getElem?_append_left (by simpa using this)]
    simpa using h1
  · refine .one (.one (.sl ⟨rfl, rfl, .inr ⟨w.heap.size, 0, cs.length, (cap - need) * i.size, i.size, 0, upd_same, rfl, .inl rfl, .inr ⟨hN, hcap, ?_⟩⟩⟩))
    rw [hl, ← Nat.add_mul]
    simp only [Nat.zero_add]
    exact Nat.mul_le_mul_right _ (by omega)
theorem grow_sim (R : RelK P N0 w0 ρ κ w) {m : Nat} (hm : ρ m = none) (hN : N0 ≤ m) (hκ : κ m = none) {t u ty e : TypeId} {i : TypeInfo} {z : Value} {du : TypeDesc} (ht : P.underlying t = some (.slice e)) (hu : P.underlying u = some du) (hdu : isSlD du = true)
    (hi : P.info? e = some i) (hz : i.zero = some z) (hzs : z.cells.size = i.size) (hb0 : 0 < i.bytes) (hs0 : 0 < i.size) {A : Option Addr} {l cp n : Nat} {news : List Value} {rd : List Nat} {d : Dl}
    (h : growE N0 κ e i.size m A l cp n news rd = some d) (hnl : news.length = n * i.size) (hg : cp < l + n) (hl : (l + n) * i.bytes ≤ 140737488355328) {s' x' : Value} (hs : VR N0 ρ (.slice A l cp) s')
    (hx : Builtin.lenOf x' = pure n) (hnw : ∃ news', F2 (CR N0 ρ) news news' ∧ ∀ W : World, W.heap = w.heap → (Builtin.firstCells i.size n x').run P W = .ok news'.toArray W) :
    ∃ v' w' ρ', OpPost P N0 w0 ρ κ w m d (((Builtin.append_ #[t, u] ty #[s', x']).run P w).andThen fun v w' => .ok (.value v) w') v' w' ρ' := by
  obtain ⟨news', hn, hfn⟩ := hnw
  unfold growE at h
  split at h
  · cases hq : Nat.beq l 0 with
    | false => rw [hq] at h; cases h
    | true =>
      rw [hq] at h
      simp only [cond_true, Option.some.injEq] at h
      subst h
      have hl0 := Nat.eq_of_beq_eq_true hq
      subst hl0
      have := hs.closed_eq rfl
      subst this
      have hrun := run_append_grow (P := P) (w := w) (ty := ty) ht hu hdu hi hz (base := none) (sLen := 0) (sCap := cp) hx (olds := []) (fun W _ => rfl) hfn hb0 hg hl
      have hap : (([] : List Value).toArray ++ news'.toArray : Array Value) = news'.toArray := by apply Array.ext'; simp
      rw [hap] at hrun
      obtain ⟨ρ', g1, g2, g3⟩ := grow_made R hm hN hi hzs (grownCap_ge w (0 + n) cp e) hn (by rw [hnl, Nat.zero_add])
      refine ⟨_, _, ρ', .inl (by rw [hrun]; rfl), g1, g2, g3 ▸ ext_new hm, fun y hy _ => by rw [g3]; exact upd_ne hy, (fun h => by cases h), fun _ => ⟨w.heap.size, 0, _, _, _, by rw [g3]; exact upd_same, .inl (Nat.le_refl _)⟩, fun B hB => .inl ?_, ?_, fun _ _ h => (by cases h)⟩
      · exact (below_push w.drew _).block B hB
      · exact (below_push w.drew _).size
  · rename_i b of
    cases hr : rowOk N0 κ b e with
    | false => rw [hr] at h; cases h
    | true =>
      rw [hr] at h
      simp only [cond_true] at h
      split at h
      · rename_i olds hol
        have holl := ldK_len hol
        obtain ⟨hnd, hszr⟩ := rowOk_live R hr
        cases hs with | one h1 => cases h1 with | one h2 => cases h2 with | sl h3 =>
        rename_i ad' cp'
        obtain ⟨_, hsp, h4⟩ := h3
        rcases h4 with h4 | ⟨B, O, nn, X, sz, dd, h4, rfl, h6, h7⟩
        · exact absurd h4 hnd
        · -- the old cells
          have holds : ∃ olds', F2 (CR N0 ρ) olds olds' ∧ (∀ (j : Nat) (v : Value), olds'[j]? = some v → w.cell? ⟨B, O + (of + dd) + j, none⟩ = some v) ∧ ∀ W : World, W.heap = w.heap → (Builtin.firstCells i.size l (.slice (some ⟨B, O + (of + dd), none⟩) l cp')).run P W = .ok olds'.toArray W := by
            by_cases hl0 : l * i.size = 0
            · rw [hl0] at hol
              simp only [ldK, Option.some.injEq] at hol
              subst hol
              refine ⟨[], .nil, fun j v h => by simp at h, fun W _ => ?_⟩
              simp only [Builtin.firstCells, hl0]
              rfl
            · have hd0 : dd = 0 := by
                rcases h6 with h6 | h6
                · exact h6
                · rw [h6.1, Nat.zero_mul] at hl0; exact absurd rfl hl0
              subst hd0
              have hAR : AR ρ ⟨b, of, none⟩ ⟨B, O + (of + 0), none⟩ := ⟨rfl, rfl, .inr ⟨B, O, nn, X, sz, h4, rfl⟩⟩
              obtain ⟨L', q1, q2, q3⟩ := ldK_sim R _ _ _ _ hAR hol
              refine ⟨L', q1, fun j v hj => by have := q3 j v hj; rwa [add_eq rfl] at this, fun W hW => ?_⟩
              have q4 : ∀ (j : Nat) (v : Value), L'[j]? = some v → W.cell? (Addr.add _ j) = some v := fun j v hj => by
                have := q3 j v hj
                simpa only [World.cell?, hW] using this
              have := run_ldK (P := P) q4
              rw [← q1.len, q2] at this
              exact this
          obtain ⟨olds', o1, o2, o3⟩ := holds
          have hcat : F2 (CR N0 ρ) (olds ++ news) (olds' ++ news') := o1.app hn
          have hcl : (olds ++ news).length = (l + n) * i.size := by rw [List.length_append, holl, hnl, Nat.add_mul]
          have hap : (olds'.toArray ++ news'.toArray : Array Value) = (olds' ++ news').toArray := by apply Array.ext'; simp
          cases hbN : Nat.blt b N0 with
          | true =>
            rw [hbN] at h
            simp only [cond_true, Option.some.injEq] at h
            subst h
            have hb : b < N0 := by simpa [Nat.blt_eq] using hbN
            have hex : cp' = cp := by
              rcases h7 with h7 | h7
              · exact h7.1
              · have := h7.1; simp only at this; omega
            have hrun := run_append_grow (P := P) (w := w) (ty := ty) ht hu hdu hi hz hx o3 hfn hb0 (by omega) hl
            rw [hap] at hrun
            obtain ⟨ρ', g1, g2, g3⟩ := grow_made R hm hN hi hzs (grownCap_ge w (l + n) cp' e) hcat hcl
            refine ⟨_, _, ρ', .inl (by rw [hrun]; rfl), g1, g2, g3 ▸ ext_new hm, fun y hy _ => by rw [g3]; exact upd_ne hy, (fun h => by cases h), fun _ => ⟨w.heap.size, 0, _, _, _, by rw [g3]; exact upd_same, .inl (Nat.le_refl _)⟩, fun B hB => .inl ?_, ?_, fun _ _ h => (by cases h)⟩
            · exact (below_push w.drew _).block B hB
            · exact (below_push w.drew _).size
          | false =>
            rw [hbN] at h
            simp only [cond_false] at h
            split at h
            · rename_i cs e' k hrow
              simp only [Option.some.injEq] at h
              subst h
              obtain ⟨hb, hk⟩ := rowAt_spec hrow
              have hbm : b ≠ m := fun e => by rw [e, hκ] at hk; cases hk
              have hmb : m ≠ b := Ne.symm hbm
              have R1 := kill_sim R hb (e := e') (k := k + 1)
              have hm1 : upd ρ b (some Im.dead) m = none := by rw [upd_ne hmb]; exact hm
              have hext1 : Ext ρ (upd ρ b (some Im.dead)) := ext_dead
              by_cases hroom : l + n ≤ cp'
              · -- really there is room
                have hslk : of + dd + cp' * sz ≤ nn + X := by
                  rcases h7 with h7 | h7
                  · omega
                  · have := h7.2.2; simp only at this; omega
                have hsz : i.size = sz := by
                  have := hszr hb B O nn X sz h4
                  rw [hi] at this
                  simpa using this
                obtain ⟨q0, cs2, e2, k2, C, e3, lo, hi2, q1, q2, q3, q4, q5, q6, q7⟩ := R.new b B O nn X sz hb h4
                have hlen2 : news'.length = n * i.size := by rw [← hn.len, hnl]
                have hmul : (l + n) * i.size ≤ cp' * sz := by rw [hsz]; exact Nat.mul_le_mul_right _ hroom
                rw [Nat.add_mul] at hmul
                obtain ⟨w', r1, r2, r3, r4, r5, r6, r7⟩ := run_storeCells P news' w B (O + (of + dd) + l * i.size) 0 C e3 lo hi2 q4 (by omega) (fun j hj => by have := fz_no q6 (of + dd + l * i.size + j) (by omega); rwa [show O + (of + dd) + l * i.size + 0 + j = O + (of + dd + l * i.size + j) by omega]) (fun y hy => by
                  obtain ⟨j, hj, rfl⟩ := List.mem_iff_getElem.1 hy
                  have hj' : j < news.length := by rw [hn.len]; exact hj
                  obtain ⟨x, hx1, hx2⟩ := hn.get j news[j] (by simp [hj'])
                  have : x = news'[j] := by simpa [hj] using hx1.symm
                  exact this ▸ hx2.oneCell.2)
                have hnoB : ∀ y O' n' X' sz', N0 ≤ y → upd ρ b (some Im.dead) y ≠ some (.live B O' n' X' sz') := fun y O' n' X' sz' hy hl' => by
                  by_cases hyb : y = b
                  · subst hyb; rw [upd_same] at hl'; simp at hl'
                  · rw [upd_ne hyb] at hl'
                    exact hyb (R.inj y b B O' n' X' sz' O nn X sz hy hb hl' h4)
                have R2 := R1.other q0 hnoB r3 r4 r5 r6 r7
                have hrun := run_append_room (P := P) (w := w) (ty := ty) ht hu hdu hi (base := some ⟨B, O + (of + dd), none⟩) hx (hfn w rfl) hroom
                simp only [add_eq (a := (⟨B, O + (of + dd), none⟩ : Addr)) rfl, r1, Result.andThen_ok] at hrun
                have R3 := new_sim2 R2 (m := m) (B := B) (O := O + (of + dd)) (n := (olds ++ news).length) (X := nn + X - (of + dd) - (l + n) * i.size) (sz := sz) (cs := (olds ++ news).toArray) (e := e) (k := 0) hm1 hN hnoB
                  ⟨q0, (olds ++ news).toArray, e, 0, splice C (O + (of + dd) + l * i.size + 0) news', e3, lo, hi2, upd_same, by simp, by rw [hi]; simp [hsz], r2, by rw [splice_size, hcl, Nat.add_mul]; omega, (by rw [hcl, Nat.add_mul]; omega), fun j v hj => by
                    rw [splice_get _ _ _ _ (by omega)]
                    have hext3 : Ext ρ (upd (upd ρ b (some Im.dead)) m (some (.live B (O + (of + dd)) (olds ++ news).length (nn + X - (of + dd) - (l + n) * i.size) sz))) := hext1.trans (ext_new hm1)
                    simp only [List.getElem?_toArray] at hj
                    by_cases hjl : j < l * i.size
                    · rw [if_neg (by omega)]
                      rw [List.getElem?_append_left (by rw [holl]; exact hjl)] at hj
                      obtain ⟨y, y1, y2⟩ := o1.get j v hj
                      have hc := o2 j y y1
                      simp only [World.cell?, q4] at hc
                      exact ⟨y, by simpa using hc, y2.mono hext3⟩
                    · rw [List.getElem?_append_right (by rw [holl]; omega), holl] at hj
                      obtain ⟨y, y1, y2⟩ := hn.get _ v hj
                      have hlt : j - l * i.size < news'.length := (List.getElem?_eq_some_iff.1 y1).1
                      rw [if_pos (by omega), show O + (of + dd) + j - (O + (of + dd) + l * i.size + 0) = j - l * i.size by omega]
                      exact ⟨y, y1, y2.mono hext3⟩⟩
                refine ⟨.slice (some ⟨B, O + (of + dd), none⟩) (l + n) cp', w', _, .inl (by rw [hrun]; rfl), R3, ?_, hext1.trans (ext_new hm1), ?_, fun h => (by cases h), fun _ => ⟨B, _, _, _, _, upd_same, .inr ⟨b, _, List.mem_singleton.2 rfl, O, nn, X, sz, h4⟩⟩, ?_, by omega, fun y ob hy => .inr (by have e1 := List.mem_singleton.1 hy; simp only [Prod.mk.injEq] at e1; rw [e1.1, upd_ne hbm]; exact upd_same)⟩
                · refine .one (.one (.sl ⟨rfl, rfl, .inr ⟨B, O + (of + dd), _, _, sz, 0, upd_same, rfl, .inl rfl, .inr ⟨hN, hroom, ?_⟩⟩⟩))
                  rw [hcl, Nat.add_mul]
                  simp only [Nat.zero_add]
                  omega
                · intro y hy hno
                  rw [upd_ne hy]
                  have : y ≠ b := fun e => hno _ (by rw [e]; exact List.mem_singleton.2 rfl)
                  exact upd_ne this
                · intro B' hB'
                  by_cases heB : B' = B
                  · subst heB; exact .inr ⟨b, _, List.mem_singleton.2 rfl, O, nn, X, sz, h4⟩
                  · exact .inl (r3 B' heB)
              · have hrun := run_append_grow (P := P) (w := w) (ty := ty) ht hu hdu hi hz hx o3 hfn hb0 (by omega) hl
                rw [hap] at hrun
                obtain ⟨ρ', g1, g2, g3⟩ := grow_made R1 hm1 hN hi hzs (grownCap_ge w (l + n) cp' e) (f2_imp (fun _ _ h => h.mono hext1) hcat) hcl
                refine ⟨_, _, ρ', .inl (by rw [hrun]; rfl), g1, g2, hext1.trans (g3 ▸ ext_new hm1), fun y hy hno => ?_, fun h => (by cases h), fun _ => ⟨w.heap.size, 0, _, _, _, by rw [g3]; exact upd_same, .inl (Nat.le_refl _)⟩, fun B hB => .inl ?_, ?_, fun y ob hy => .inr (by have e1 := List.mem_singleton.1 hy; simp only [Prod.mk.injEq] at e1; rw [e1.1, g3, upd_ne hbm]; exact upd_same)⟩
                · rw [g3, upd_ne hy]
                  have : y ≠ b := fun e => hno _ (by rw [e]; exact List.mem_singleton.2 rfl)
                  exact upd_ne this
                · exact (below_push w.drew _).block B hB
                · exact (below_push w.drew _).size
            · cases h
      · cases h
  · cases h
end
end Go.Proofs.Ytbonmmpdpahhfaa.Can

/- The engine, twelfth part: all operations but calls in one. No law, no condition. -/
namespace Go.Proofs.Ytbonmmpdpahhfaa.Can
open Go.RowKit
set_option linter.unusedVariables false
set_option linter.unusedSimpArgs false
section
variable {P : Program} {N0 : Nat} {w0 : World} {ρ : Rho} {κ : Kap} {w : World} {ts : Tm} {a : Act} {o : Oper}
theorem lenV_nt {x : Value} {n : Nat} (h : lenV x = some n) : isTup x = false := by
  unfold lenV at h
  split at h <;> first | rfl | cases h
theorem isSlD_t {t : TypeId} {e : TypeId} (h : P.underlying t = some (.slice e)) : True := trivial
theorem growE_nw {e size m : Nat} {A : Option Addr} {l cp n : Nat} {news : List Value} {rd : List Nat} {d : Dl} (h : growE N0 κ e size m A l cp n news rd = some d) : d.nw ≠ none := by
  unfold growE at h
  split at h
  · cases hq : Nat.beq l 0 <;> rw [hq] at h
    · cases h
    · simp only [cond_true, Option.some.injEq] at h; subst h; simp
  · rename_i b of
    cases hr : rowOk N0 κ b e <;> rw [hr] at h
    · cases h
    · simp only [cond_true] at h
      split at h
      · cases hbN : Nat.blt b N0 <;> rw [hbN] at h
        · simp only [cond_false] at h
          split at h
          · simp only [Option.some.injEq] at h; subst h; simp
          · cases h
        · simp only [cond_true, Option.some.injEq] at h; subst h; simp
      · cases h
  · cases h
theorem mark_sim (R : RelK P N0 w0 ρ κ w) {b B O n X sz : Nat} {cs : Array Value} {e k : Nat} (hb : N0 ≤ b) (hk : κ b = some (.cells cs e (k, 0))) (h2 : ρ b = some (.live B O n X sz)) (of : Nat) :
    ∃ w', (markStringish ⟨B, of, none⟩).run P w = .ok () w' ∧ RelK P N0 w0 ρ (upd κ b (some (.cells cs e (k + 1, 0)))) w' ∧ (∀ B', B' ≠ B → w'.heap[B']? = w.heap[B']?) ∧ w'.heap.size = w.heap.size := by
  obtain ⟨q0, cs', e1, k1, C, e', lo, hi, q1, q2, q3, q4, q5, q6, q7⟩ := R.new b B O n X sz hb h2
  rw [hk] at q1
  simp only [Option.some.injEq, Obj.cells.injEq, Prod.mk.injEq] at q1
  obtain ⟨rfl, rfl, rfl, -⟩ := q1
  have hrun : (markStringish ⟨B, of, none⟩).run P w = .ok () (w.freeze ⟨B, C.size, none⟩ 1) := by
    have hs : w.shape? B = some (e', C.size) := by unfold World.shape?; rw [q4]
    unfold markStringish
    simp only [Sem.run_bind, run_shape, hs, Result.andThen_ok, run_freeze]
  have r3 : ∀ B', B' ≠ B → (w.freeze ⟨B, C.size, none⟩ 1).heap[B']? = w.heap[B']? := fun B' hB => by
    simp only [World.freeze, Nat.one_ne_zero, if_false, Array.getElem?_modify]
    rw [if_neg (fun h => hB h.symm)]
  have r4 : (w.freeze ⟨B, C.size, none⟩ 1).heap.size = w.heap.size := by simp [World.freeze]
  have r2 : ∃ lo' hi', (w.freeze ⟨B, C.size, none⟩ 1).heap[B]? = some (.cells C e' (lo', hi')) ∧ (lo' = hi' ∨ O + n + X ≤ lo') := by
    simp only [World.freeze, Nat.one_ne_zero, if_false, Array.getElem?_modify, if_true, q4, Option.map_some]
    cases hq : lo == hi with
    | true => exact ⟨C.size, C.size + 1, rfl, .inr q5⟩
    | false =>
      have hne : lo ≠ hi := by simpa using hq
      exact ⟨min lo C.size, max hi (C.size + 1), rfl, .inr (by omega)⟩
  obtain ⟨lo', hi', r2, r5⟩ := r2
  refine ⟨_, hrun, ?_, r3, r4⟩
  refine ⟨R.n0, ⟨R.wb.os, R.wb.tape, R.wb.output, by rw [r4]; exact R.wb.size, fun z hz => (r3 z (by omega)).trans (R.wb.block z hz)⟩, fun z hz => (upd_ne (by omega)).trans (R.kb z hz), R.old, ?_, ?_, R.inj⟩
  · intro z B' O' n' X' sz' hz hz'
    by_cases hzb : z = b
    · subst hzb
      rw [h2] at hz'
      simp only [Option.some.injEq, Im.live.injEq] at hz'
      obtain ⟨rfl, rfl, rfl, rfl, rfl⟩ := hz'
      exact ⟨q0, cs, e, k + 1, C, e', lo', hi', upd_same, q2, q3, r2, q5, r5, q7⟩
    · obtain ⟨p0, cs2, e2, k2, C2, e2', lo2, hi2, p1, p2, p3, p4, p5⟩ := R.new z B' O' n' X' sz' hz hz'
      have hB : B' ≠ B := fun he => hzb (R.inj z b B' O' n' X' sz' O n X sz hz hb hz' (he ▸ h2))
      exact ⟨p0, cs2, e2, k2, C2, e2', lo2, hi2, by rw [upd_ne hzb]; exact p1, p2, p3, by rw [r3 _ hB]; exact p4, p5⟩
  · intro z hz
    obtain ⟨e3, k3, h3⟩ := R.dead z hz
    have : z ≠ b := fun he => by subst he; rw [hk] at h3; simp at h3
    exact ⟨e3, k3, by rw [upd_ne this]; exact h3⟩
theorem evW_sim (R : RelK P N0 w0 ρ κ w) (T : TR N0 ρ ts a.tmps) {m : Nat} (hN : N0 ≤ m) {d : Dl} (hm : d.nw ≠ none → ρ m = none) (hκ : d.nw ≠ none → κ m = none) (h : evW P N0 κ ts m o = some d) : ∃ v' w' ρ', OpPost P N0 w0 ρ κ w m d ((execOp a.eval o).run P w) v' w' ρ' := by
  unfold evW at h
  split at h
  · rename_i t x y hop
    split at h
    · rename_i i b of v hi hx hy
      cases hb : (isTup v || !(Nat.beq v.cells.size i.size)) with
      | true => rw [hb] at h; cases h
      | false =>
        rw [hb] at h
        simp only [cond_false] at h
        simp only [Bool.or_eq_false_iff, Bool.not_eq_false'] at hb
        split at h
        · rename_i ups hups
          simp only [Option.some.injEq] at h
          subst h
          obtain ⟨ad', h1, h2⟩ := opd_ptr T hx
          have h3 := (opd_one T hy (fun cs hc => by subst hc; exact absurd hb.1 (by simp [isTup]))).cells
          have hsz : (a.eval y).cells.size = i.size := by
            have e1 := h3.len
            have e2 := Nat.eq_of_beq_eq_true hb.2
            simp only [Array.length_toList] at e1
            omega
          obtain ⟨w', g1, g2, g3, g4⟩ := put_sim R hups (fun _ => h2) h3
          refine ⟨undef, w', ρ, .inr ⟨?_, rfl⟩, g2, undef_VR, Ext.refl ρ, fun _ _ _ => rfl, fun _ => rfl, fun h => absurd rfl h, g3, by omega, fun _ _ _ => .inl rfl⟩
          unfold execOp; rw [hop]
          simp only [h1, Instr.storeAt, Instr.sureAddr, storeVar, Sem.run_bind, Sem.run_pure, Result.andThen_ok, sizeOf_run hi, Sem.run_ite]
          rw [if_neg (by rw [hsz]; simp)]
          simp only [Sem.run_pure, Result.andThen_ok, Sem.run_bind, g1]
        · cases h
    · cases h
  · rename_i c hop
    split at h
    · -- append
      rename_i s x t u hcal hargs htys
      split at h
      · rename_i e du A l cp xv ht hu hs hx
        split at h
        · rename_i i n hi hn
          split at h
          · rename_i z news rd hz hnews
            cases hb : (isSlD du && Nat.beq z.cells.size i.size && Nat.blt 0 i.bytes && Nat.blt 0 i.size && Nat.ble ((l + n) * i.bytes) 140737488355328) with
            | false => rw [hb] at h; cases h
            | true =>
              rw [hb] at h
              simp only [cond_true] at h
              simp only [Bool.and_eq_true, Nat.blt_eq] at hb
              obtain ⟨⟨⟨⟨b1, b2⟩, b3⟩, b4⟩, b5⟩ := hb
              have b2 := Nat.eq_of_beq_eq_true b2
              have b5 := Nat.le_of_ble_eq_true b5
              have e1 : c.args = #[s, x] := Array.ext' hargs
              have e2 : c.argTypes = #[t, u] := Array.ext' htys
              have hxr := lenV_sim (opd_sim T hx) hn
              obtain ⟨news', n1, n2, n3⟩ := news_sim R (opd_sim T hx) hnews
              have hrun : (execOp a.eval o).run P w = ((Builtin.append_ #[t, u] o.type #[a.eval s, a.eval x]).run P w).andThen fun v w' => .ok (.value v) w' := by
                unfold execOp; rw [hop]
                simp only [resolve, hcal, e1, e2, invoke, builtin, Sem.run_bind, Sem.run_pure, Result.andThen_ok, List.map_toArray, List.map_cons, List.map_nil]
              cases hroom : Nat.ble (l + n) cp with
              | true =>
                rw [hroom] at h
                simp only [cond_true] at h
                refine room_sim R hi b4 h n1 n2 (Nat.le_of_ble_eq_true hroom) (opd_sim T hs) ?_
                intro base cp' hsv hle
                have h6 := run_append_room (P := P) (w := w) (ty := o.type) ht hu b1 hi (base := base) hxr (n3 w rfl) hle
                rw [hrun, hsv, h6]
                cases base with
                | none => rfl
                | some ad =>
                  simp only
                  cases (storeCells (ad.add (l * i.size)) news').run P w <;> rfl
              | false =>
                rw [hroom] at h
                simp only [cond_false] at h
                have hlt : cp < l + n := by
                  rcases Nat.lt_or_ge cp (l + n) with h | h
                  · exact h
                  · rw [Nat.ble_eq_true_of_le h] at hroom; cases hroom
                rw [hrun]
                have hnw := growE_nw h
                exact grow_sim R (hm hnw) hN (hκ hnw) ht hu b1 hi hz b2 b3 b4 h n2 hlt b5 (opd_sim T hs) hxr ⟨news', n1, n3⟩
          · cases h
        · cases h
      · cases h
    · -- copy
      rename_i dd x t u hcal hargs htys
      split at h
      · rename_i e A l cp xv ht hs hx
        split at h
        · rename_i i n hi hn
          split at h
          · rename_i news rd hnews
            have e1 : c.args = #[dd, x] := Array.ext' hargs
            have e2 : c.argTypes = #[t, u] := Array.ext' htys
            have hxr := lenV_sim (opd_sim T hx) hn
            obtain ⟨news', n1, n2, n3⟩ := news_sim R (opd_sim T hx) hnews
            have hrun : ∀ base cp', a.eval dd = .slice base l cp' → (execOp a.eval o).run P w = match base with
                | none => .ok (.value (.int .i64 (Nat.min n l))) w
                | some ad => ((storeCells ad news').run P w).andThen fun _ w' => .ok (.value (.int .i64 (Nat.min n l))) w' := by
              intro base cp' hb
              unfold execOp; rw [hop]
              cases base with
              | none => simp [resolve, hcal, e1, e2, invoke, builtin, hb, Builtin.copy_, run_underlying ht, hxr, sizeOf_run hi, n3 w rfl, goInt]
              | some ad =>
                simp [resolve, hcal, e1, e2, invoke, builtin, hb, Builtin.copy_, run_underlying ht, hxr, sizeOf_run hi, n3 w rfl, goInt]
                cases (storeCells ad news').run P w <;> rfl
            split at h
            · simp only [Option.some.injEq] at h
              subst h
              have hsv := (opd_sim T hs).closed_eq rfl
              exact ⟨_, w, ρ, post_same R (hrun none cp hsv) (.one (.one (.int _ _)))⟩
            · rename_i b of
              split at h
              · rename_i ups hups
                simp only [Option.some.injEq] at h
                subst h
                have hsr := opd_sim T hs
                generalize hsv : a.eval dd = sv at hsr
                cases hsr with | one h1 => cases h1 with | one h2 => cases h2 with | sl h3 =>
                rename_i ad' cp'
                have har : news ≠ [] → AR ρ ⟨b, of, none⟩ ad' := fun hne => h3.ar (fun hl0 => by
                  apply hne
                  rw [hl0] at n2
                  exact List.eq_nil_of_length_eq_zero (by simpa using n2))
                obtain ⟨w', g1, g2, g3, g4⟩ := put_sim R hups har n1
                have hr2 := hrun (some ad') cp' hsv
                simp only [g1, Result.andThen_ok] at hr2
                exact ⟨_, w', ρ, .inl hr2, g2, .one (.one (.int _ _)), Ext.refl ρ, fun _ _ _ => rfl, fun _ => rfl, fun h => absurd rfl h, g3, by omega, fun _ _ _ => .inl rfl⟩
              · cases h
            · cases h
          · cases h
        · cases h
      · cases h
    · cases h
  · -- a conversion of bytes into bytes
    rename_i s d1 x hop
    split at h
    · rename_i e0 e1 b of l cp hs hd hx
      cases hq : (Nat.beq s d1 && isU8D P e1) with
      | false => rw [hq] at h; cases h
      | true =>
        rw [hq] at h
        simp only [cond_true] at h
        simp only [Bool.and_eq_true] at hq
        have hsd := Nat.eq_of_beq_eq_true hq.1
        have he := isU8D_spec hq.2
        subst hsd
        have he01 : e0 = e1 := by rw [hs] at hd; cases hd; rfl
        subst he01
        split at h
        · rename_i cs e' k hr
          obtain ⟨hb, hk⟩ := rowAt_spec hr
          simp only [Option.some.injEq] at h
          subst h
          have hsr := opd_sim T hx
          generalize hsv : a.eval x = sv at hsr
          cases hsr with | one h1 => cases h1 with | one h2 => cases h2 with | sl h3 =>
          rename_i ad' cp'
          obtain ⟨g0, g1, g2⟩ := h3
          rcases g2 with g2 | ⟨B, O, n, X, sz, dd, g2, g3, g4, g5⟩
          · obtain ⟨e3, k3, h4⟩ := R.dead _ g2
            simp only at h4
            rw [hk] at h4
            simp at h4
          · simp only at g2 g3
            obtain ⟨w', j1, j2, j3, j4⟩ := mark_sim R hb hk g2 (O + (of + dd))
            have hrun : (execOp a.eval o).run P w = .ok (.value (.slice (some ad') l cp')) w' := by
              unfold execOp; rw [hop]
              simp only [hsv]
              unfold convert
              simp only [Sem.run_bind, run_underlying hs, run_underlying hd, Result.andThen_ok, beq_self_eq_true, run_underlying he, g3, j1, Sem.run_pure]
            refine ⟨_, w', ρ, .inl hrun, j2, .one (.one (.sl ⟨g0, g1, .inr ⟨B, O, n, X, sz, dd, g2, g3, g4, g5⟩⟩)), Ext.refl ρ, fun _ _ _ => rfl, fun _ => rfl, fun h => absurd rfl h, fun B' hB' => ?_, by omega, fun _ _ _ => .inl rfl⟩
            by_cases hbb : B' = B
            · subst hbb
              exact .inr ⟨b, _, List.mem_singleton.2 rfl, ⟨O, n, X, sz, g2⟩⟩
            · exact .inl (j3 B' hbb)
        · cases h
    · cases h
  · cases h
theorem evD_sim (R : RelK P N0 w0 ρ κ w) (T : TR N0 ρ ts a.tmps) {m : Nat} (hN : N0 ≤ m) {d : Dl} (hm : d.nw ≠ none → ρ m = none) (hκ : d.nw ≠ none → κ m = none) (h : evD P N0 κ ts m o = some d) : ∃ v' w' ρ', OpPost P N0 w0 ρ κ w m d ((execOp a.eval o).run P w) v' w' ρ' := by
  unfold evD at h
  split at h
  · rename_i v hv
    simp only [Option.some.injEq] at h
    subst h
    obtain ⟨v', h1, h2⟩ := evP_sim (P := P) T hv w
    exact ⟨v', w, ρ, post_same R h1 h2⟩
  · split at h
    · rename_i v rd hv
      simp only [Option.some.injEq] at h
      subst h
      obtain ⟨v', h1, h2⟩ := evL_sim R T hv
      exact ⟨v', w, ρ, post_same R h1 h2⟩
    · split at h
      · rename_i cs e v hv
        simp only [Option.some.injEq] at h
        subst h
        exact post_new R (hm (by simp)) hN (evA_sim T hv)
      · exact evW_sim R T hN hm hκ h
end
end Go.Proofs.Ytbonmmpdpahhfaa.Can

/- The engine, thirteenth part: steps of the canonical world; calls. No law, no condition. -/
namespace Go.Proofs.Ytbonmmpdpahhfaa.Can
open Go.RowKit
set_option linter.unusedVariables false
set_option linter.unusedSimpArgs false

def setO (c : World) (b : Nat) (o : Obj) : World := { c with heap := c.heap.setIfInBounds b o }
def upsC (c : World) : List (Nat × Obj) → World
  | [] => c
  | (b, o) :: r => upsC (setO c b o) r
def apC (c : World) (d : Dl) : World := match d.nw with
  | none => upsC c d.ups
  | some ob => (upsC c d.ups).alloc ob
def stamp : Option Obj → Nat
  | some (.cells _ _ (k, _)) => k
  | _ => 0
/-- the updates of an operation: of rows that are there, each with a higher stamp -/
def GoodUps (N0 : Nat) (κ : Kap) (ups : List (Nat × Obj)) : Prop := ups = [] ∨ ∃ b ob cs e k cs' e' f, ups = [(b, ob)] ∧ N0 ≤ b ∧ κ b = some (.cells cs e (k, 0)) ∧ ob = .cells cs' e' (k + 1, f)
section
variable {P : Program} {N0 : Nat} {w0 : World} {ρ ρ' ρ'' : Rho} {κ : Kap} {c c' c'' w w' w'' : World} {ts : Tm} {a : Act} {o : Oper}
theorem putE_good {b of : Nat} {vs : List Value} {ups : List (Nat × Obj)} (h : putE N0 κ b of vs = some ups) : GoodUps N0 κ ups := by
  unfold putE at h
  split at h
  · simp only [Option.some.injEq] at h; exact .inl h.symm
  · split at h
    · rename_i cs e k hr
      obtain ⟨h1, h2⟩ := rowAt_spec hr
      cases hq : Nat.ble (of + vs.length) cs.size with
      | false => rw [hq] at h; cases h
      | true =>
        rw [hq] at h
        simp only [cond_true, Option.some.injEq] at h
        exact .inr ⟨b, _, cs, e, k, _, _, 0, h.symm, h1, h2, rfl⟩
    · cases h
theorem cond_some {α : Type} {b : Bool} {x : Option α} {d : α} (h : (bif b then x else none) = some d) : b = true ∧ x = some d := by
  cases b
  · cases h
  · exact ⟨rfl, h⟩
theorem cond_none {α : Type} {b : Bool} {x : Option α} {d : α} (h : (bif b then none else x) = some d) : b = false ∧ x = some d := by
  cases b
  · exact ⟨rfl, h⟩
  · cases h
theorem cond_or {α : Type} {b : Bool} {x y : Option α} {d : α} (h : (bif b then x else y) = some d) : (b = true ∧ x = some d) ∨ (b = false ∧ y = some d) := by
  cases b
  · exact .inr ⟨rfl, h⟩
  · exact .inl ⟨rfl, h⟩
theorem roomE_good {e size : Nat} {A : Option Addr} {l cp n : Nat} {news : List Value} {rd : List Nat} {d : Dl} (h : roomE N0 κ e size A l cp n news rd = some d) : GoodUps N0 κ d.ups := by
  unfold roomE at h
  split at h
  · split at h
    · simp only [Option.some.injEq] at h; subst h; exact .inl rfl
    · cases h
  · have h := (cond_some h).2
    split at h
    · rename_i hups
      simp only [Option.some.injEq] at h; subst h; exact putE_good hups
    · cases h
  · cases h
theorem growE_good {e size m : Nat} {A : Option Addr} {l cp n : Nat} {news : List Value} {rd : List Nat} {d : Dl} (h : growE N0 κ e size m A l cp n news rd = some d) : GoodUps N0 κ d.ups := by
  unfold growE at h
  split at h
  · have h := (cond_some h).2
    simp only [Option.some.injEq] at h; subst h; exact .inl rfl
  · have h := (cond_some h).2
    split at h
    · rcases cond_or h with ⟨_, h⟩ | ⟨_, h⟩
      · simp only [Option.some.injEq] at h; subst h; exact .inl rfl
      · split at h
        · rename_i cs e' k hr
          obtain ⟨h1, h2⟩ := rowAt_spec hr
          simp only [Option.some.injEq] at h; subst h
          exact .inr ⟨_, _, cs, e', k, _, _, 1, rfl, h1, h2, rfl⟩
        · cases h
    · cases h
  · cases h
theorem evW_good {m : Nat} {d : Dl} (h : evW P N0 κ ts m o = some d) : GoodUps N0 κ d.ups := by
  unfold evW at h
  split at h
  · split at h
    · have h := (cond_none h).2
      split at h
      · rename_i hups
        simp only [Option.some.injEq] at h
        subst h
        exact putE_good hups
      · cases h
    · cases h
  · split at h
    · split at h
      · split at h
        · split at h
          · have h := (cond_some h).2
            rcases cond_or h with ⟨_, h⟩ | ⟨_, h⟩
            · exact roomE_good h
            · exact growE_good h
          · cases h
        · cases h
      · cases h
    · split at h
      · split at h
        · split at h
          · split at h
            · simp only [Option.some.injEq] at h; subst h; exact .inl rfl
            · split at h
              · rename_i hups
                simp only [Option.some.injEq] at h; subst h; exact putE_good hups
              · cases h
            · cases h
          · cases h
        · cases h
      · cases h
    · cases h
  · split at h
    · have h := (cond_some h).2
      split at h
      · rename_i cs e' k hr
        obtain ⟨h1, h2⟩ := rowAt_spec hr
        simp only [Option.some.injEq] at h; subst h
        exact .inr ⟨_, _, cs, e', k, _, _, 0, rfl, h1, h2, rfl⟩
      · cases h
    · cases h
  · cases h
theorem evD_good {m : Nat} {d : Dl} (h : evD P N0 κ ts m o = some d) : GoodUps N0 κ d.ups := by
  unfold evD at h
  split at h
  · simp only [Option.some.injEq] at h; subst h; exact .inl rfl
  · split at h
    · simp only [Option.some.injEq] at h; subst h; exact .inl rfl
    · split at h
      · simp only [Option.some.injEq] at h; subst h; exact .inl rfl
      · exact evW_good h
theorem kof_setO {b : Nat} {x o' : Obj} (hb : Kof c b = some x) : Kof (setO c b o') = upd (Kof c) b (some o') := kof_set c b o' (Array.getElem?_eq_some_iff.1 hb).1
theorem kof_ap {d : Dl} (g : GoodUps N0 (Kof c) d.ups) : Kof (apC c d) = kapD (Kof c) c.heap.size d ∧ (upsC c d.ups).heap.size = c.heap.size := by
  have h : Kof (upsC c d.ups) = upsK (Kof c) d.ups ∧ (upsC c d.ups).heap.size = c.heap.size := by
    rcases g with g | ⟨b, ob, cs, e, k, cs', e', f, g, h1, h2, h3⟩
    · rw [g]; exact ⟨rfl, rfl⟩
    · rw [g]
      exact ⟨kof_setO h2, by simp [upsC, setO]⟩
  refine ⟨?_, h.2⟩
  unfold apC kapD
  cases d.nw with
  | none => exact h.1
  | some ob => simp only; rw [kof_alloc, h.1, h.2]

/-- what a piece of the run does to both worlds -/
structure St (ρ : Rho) (c w : World) (ρ' : Rho) (c' w' : World) : Prop where
  cs : c.heap.size ≤ c'.heap.size
  ws : w.heap.size ≤ w'.heap.size
  ch : ∀ b, b < c.heap.size → c'.heap[b]? = c.heap[b]? ∨ stamp c.heap[b]? < stamp c'.heap[b]?
  ext : ∀ b, b < c.heap.size → ρ' b = ρ b ∨ (stamp c.heap[b]? < stamp c'.heap[b]? ∧ ρ' b = some .dead)
  frame : ∀ B, B < w.heap.size → w'.heap[B]? = w.heap[B]? ∨ ∃ b, b < c.heap.size ∧ LiveAt ρ b B ∧ stamp c.heap[b]? < stamp c'.heap[b]?
  new : ∀ b B, c.heap.size ≤ b → LiveAt ρ' b B → w.heap.size ≤ B ∨ ∃ b0, b0 < c.heap.size ∧ LiveAt ρ b0 B ∧ stamp c.heap[b0]? < stamp c'.heap[b0]?
  tot : ∀ b, c.heap.size ≤ b → b < c'.heap.size → ρ' b ≠ none
theorem St.refl (h : ∀ b, ρ b ≠ none → b < c.heap.size) : St ρ c w ρ c w :=
  ⟨Nat.le_refl _, Nat.le_refl _, fun _ _ => .inl rfl, fun _ _ => .inl rfl, fun _ _ => .inl rfl, fun b B hb hl => by
    obtain ⟨O, n, X, sz, h1⟩ := hl
    have := h b (by rw [h1]; simp)
    omega, fun b h1 h2 => by omega⟩
theorem St.up (h : St ρ c w ρ' c' w') {b : Nat} (hb : b < c.heap.size) : stamp c.heap[b]? ≤ stamp c'.heap[b]? := by
  rcases h.ch b hb with h | h
  · rw [h]; exact Nat.le_refl _
  · omega
theorem St.back (h : St ρ c w ρ' c' w') {b B : Nat} (hb : b < c.heap.size) (hl : LiveAt ρ' b B) : LiveAt ρ b B := by
  rcases h.ext b hb with e | ⟨_, e⟩
  · obtain ⟨O, n, X, sz, h1⟩ := hl
    exact ⟨O, n, X, sz, e ▸ h1⟩
  · obtain ⟨O, n, X, sz, h1⟩ := hl
    rw [e] at h1
    cases h1
theorem St.trans (h : St ρ c w ρ' c' w') (k : St ρ' c' w' ρ'' c'' w'') : St ρ c w ρ'' c'' w'' := by
  have hfr : ∀ b, b < c.heap.size → stamp c'.heap[b]? < stamp c''.heap[b]? → stamp c.heap[b]? < stamp c''.heap[b]? := fun b hb hl => Nat.lt_of_le_of_lt (h.up hb) hl
  have hnew : ∀ b B, b < c'.heap.size → LiveAt ρ' b B → stamp c'.heap[b]? < stamp c''.heap[b]? → w.heap.size ≤ B ∨ ∃ b0, b0 < c.heap.size ∧ LiveAt ρ b0 B ∧ stamp c.heap[b0]? < stamp c''.heap[b0]? := by
    intro b B hb hl hs
    by_cases hbc : b < c.heap.size
    · exact .inr ⟨b, hbc, h.back hbc hl, hfr b hbc hs⟩
    · rcases h.new b B (by omega) hl with h1 | ⟨b0, h1, h2, h3⟩
      · exact .inl h1
      · exact .inr ⟨b0, h1, h2, Nat.lt_of_lt_of_le h3 (k.up (Nat.lt_of_lt_of_le h1 h.cs))⟩
  refine ⟨Nat.le_trans h.cs k.cs, Nat.le_trans h.ws k.ws, ?_, ?_, ?_, ?_, ?_⟩
  · intro b hb
    have hb' := Nat.lt_of_lt_of_le hb h.cs
    rcases k.ch b hb' with h1 | h1
    · rcases h.ch b hb with h2 | h2
      · exact .inl (h1.trans h2)
      · exact .inr (by rw [h1]; exact h2)
    · exact .inr (hfr b hb h1)
  · intro b hb
    have hb' := Nat.lt_of_lt_of_le hb h.cs
    rcases k.ext b hb' with h1 | ⟨h1, h2⟩
    · rcases h.ext b hb with h2 | ⟨h2, h3⟩
      · exact .inl (h1.trans h2)
      · exact .inr ⟨Nat.lt_of_lt_of_le h2 (k.up hb'), h1.trans h3⟩
    · exact .inr ⟨hfr b hb h1, h2⟩
  · intro B hB
    rcases k.frame B (Nat.lt_of_lt_of_le hB h.ws) with h1 | ⟨b, h1, h2, h3⟩
    · rcases h.frame B hB with h2 | ⟨b, h2, h3, h4⟩
      · exact .inl (h1.trans h2)
      · exact .inr ⟨b, h2, h3, Nat.lt_of_lt_of_le h4 (k.up (Nat.lt_of_lt_of_le h2 h.cs))⟩
    · rcases hnew b B h1 h2 h3 with h4 | h4
      · omega
      · exact .inr h4
  · intro b B hb hl
    by_cases hbc : b < c'.heap.size
    · have hl' := k.back hbc hl
      rcases h.new b B hb hl' with h1 | ⟨b0, h1, h2, h3⟩
      · exact .inl h1
      · exact .inr ⟨b0, h1, h2, Nat.lt_of_lt_of_le h3 (k.up (Nat.lt_of_lt_of_le h1 h.cs))⟩
    · rcases k.new b B (by omega) hl with h1 | ⟨b0, h1, h2, h3⟩
      · exact .inl (Nat.le_trans h.ws h1)
      · exact hnew b0 B h1 h2 h3
  · intro b h1 h2
    by_cases hb : b < c'.heap.size
    · have h3 := h.tot b h1 hb
      rcases k.ext b hb with h4 | ⟨_, h4⟩
      · rw [h4]; exact h3
      · rw [h4]; simp
    · exact k.tot b (by omega) h2
theorem St.toExt (h : St ρ c w ρ' c' w') (hd : ∀ b, ρ b ≠ none → b < c.heap.size) : Ext ρ ρ' := fun b hb => by
  rcases h.ext b (hd b hb) with h1 | ⟨_, h1⟩
  · exact .inl h1
  · exact .inr h1
/-- an operation's outcome, seen as a step -/
theorem post_step (R : Rel P N0 w0 ρ c w) {d : Dl} (g : GoodUps N0 (Kof c) d.ups) {run : Result Next} {v' : Value} (h : OpPost P N0 w0 ρ (Kof c) w c.heap.size d run v' w' ρ') : Rel P N0 w0 ρ' (apC c d) w' ∧ St ρ c w ρ' (apC c d) w' := by
  obtain ⟨hk, hsz⟩ := kof_ap (N0 := N0) g
  have hdm : ρ c.heap.size = none := by
    cases hq : ρ c.heap.size with
    | none => rfl
    | some x => have := R.dom c.heap.size (by rw [hq]; simp); omega
  have hsize : (d.nw = none → (apC c d).heap.size = c.heap.size) ∧ (d.nw ≠ none → (apC c d).heap.size = c.heap.size + 1) := by
    unfold apC
    cases d.nw with
    | none => exact ⟨fun _ => hsz, fun h => absurd rfl h⟩
    | some ob => exact ⟨(fun h => by cases h), fun _ => by simp [hsz]⟩
  have hle : c.heap.size ≤ (apC c d).heap.size := by
    by_cases hn : d.nw = none
    · rw [hsize.1 hn]; exact Nat.le_refl _
    · rw [hsize.2 hn]; omega
  have hb : ∀ b, b < c.heap.size → (apC c d).heap[b]? = upsK (Kof c) d.ups b := fun b hb => by
    show Kof (apC c d) b = _
    rw [hk]
    unfold kapD
    cases d.nw with
    | none => rfl
    | some ob => exact upd_ne (by omega)
  have hin : ∀ z ob, (z, ob) ∈ d.ups → z < c.heap.size ∧ stamp c.heap[z]? < stamp (apC c d).heap[z]? := fun z ob hz => by
    rcases g with g | ⟨b, ob1, cs, e, k, cs', e', f, g, h1, h2, h3⟩
    · rw [g] at hz; cases hz
    · rw [g] at hz
      have hz := List.mem_singleton.1 hz
      simp only [Prod.mk.injEq] at hz
      obtain ⟨rfl, rfl⟩ := hz
      have hlt : z < c.heap.size := (Array.getElem?_eq_some_iff.1 h2).1
      refine ⟨hlt, ?_⟩
      rw [hb z hlt, g, h3]
      have h2' : c.heap[z]? = some (.cells cs e (k, 0)) := h2
      rw [h2']
      simp only [upsK, upd_same, stamp]
      omega
  have hnin : ∀ b, b < c.heap.size → (∀ ob, (b, ob) ∉ d.ups) → (apC c d).heap[b]? = c.heap[b]? := fun b hlt hno => by
    rw [hb b hlt]
    rcases g with g | ⟨b1, ob1, cs, e, k, cs', e', f, g, h1, h2, h3⟩
    · rw [g]; rfl
    · rw [g] at hno ⊢
      have : b ≠ b1 := fun e => hno ob1 (by rw [e]; exact List.mem_singleton.2 rfl)
      simp only [upsK]
      exact upd_ne this
  refine ⟨⟨by rw [hk]; exact h.rel, ?_, Nat.le_trans R.cz hle⟩, ⟨hle, h.size, ?_, ?_, ?_, ?_, ?_⟩⟩
  · intro b hb
    by_cases hbm : b = c.heap.size
    · subst hbm
      by_cases hn : d.nw = none
      · exact absurd ((h.newN hn).trans hdm) hb
      · rw [hsize.2 hn]; omega
    · by_cases hu : ∀ ob, (b, ob) ∉ d.ups
      · rw [h.same b hbm hu] at hb
        exact Nat.lt_of_lt_of_le (R.dom b hb) hle
      · obtain ⟨ob, hob⟩ : ∃ ob, (b, ob) ∈ d.ups := Classical.byContradiction fun hc => hu fun ob hm => hc ⟨ob, hm⟩
        exact Nat.lt_of_lt_of_le (hin b ob hob).1 hle
  · intro b hlt
    by_cases hu : ∀ ob, (b, ob) ∉ d.ups
    · exact .inl (hnin b hlt hu)
    · obtain ⟨ob, hob⟩ : ∃ ob, (b, ob) ∈ d.ups := Classical.byContradiction fun hc => hu fun ob hm => hc ⟨ob, hm⟩
      exact .inr (hin b ob hob).2
  · intro b hlt
    by_cases hu : ∀ ob, (b, ob) ∉ d.ups
    · exact .inl (h.same b (by omega) hu)
    · obtain ⟨ob, hob⟩ : ∃ ob, (b, ob) ∈ d.ups := Classical.byContradiction fun hc => hu fun ob hm => hc ⟨ob, hm⟩
      rcases h.chg b ob hob with h1 | h1
      · exact .inl h1
      · exact .inr ⟨(hin b ob hob).2, h1⟩
  · intro B hB
    rcases h.frame B hB with h1 | ⟨z, ob, h1, h2⟩
    · exact .inl h1
    · exact .inr ⟨z, (hin z ob h1).1, h2, (hin z ob h1).2⟩
  · intro b B hb1 hl
    by_cases hbm : b = c.heap.size
    · subst hbm
      by_cases hn : d.nw = none
      · obtain ⟨O, n, X, sz, h1⟩ := hl
        rw [h.newN hn, hdm] at h1; cases h1
      · obtain ⟨B1, O, n, X, sz, h1, h2⟩ := h.newS hn
        obtain ⟨O2, n2, X2, sz2, h3⟩ := hl
        rw [h1] at h3
        simp only [Option.some.injEq, Im.live.injEq] at h3
        obtain ⟨rfl, _⟩ := h3
        rcases h2 with h2 | ⟨z, ob, h4, h5⟩
        · exact .inl h2
        · exact .inr ⟨z, (hin z ob h4).1, h5, (hin z ob h4).2⟩
    · exfalso
      have hu : ∀ ob, (b, ob) ∉ d.ups := fun ob hm => by have := (hin b ob hm).1; omega
      obtain ⟨O2, n2, X2, sz2, h3⟩ := hl
      rw [h.same b hbm hu] at h3
      have := R.dom b (by rw [h3]; simp)
      omega
  · intro b h1 h2
    by_cases hn : d.nw = none
    · rw [hsize.1 hn] at h2; omega
    · rw [hsize.2 hn] at h2
      obtain ⟨B1, O, n, X, sz, h3, _⟩ := h.newS hn
      have : b = c.heap.size := by omega
      rw [this, h3]
      simp
end
end Go.Proofs.Ytbonmmpdpahhfaa.Can

/- The engine, fourteenth part: one operation, calls among them; operations one behind the other. No law, no condition. -/
namespace Go.Proofs.Ytbonmmpdpahhfaa.Can
open Go.RowKit
set_option linter.unusedVariables false
set_option linter.unusedSimpArgs false

abbrev CallE := FuncId → List Value → World → Option (Value × World)
def SoundC (P : Program) (N0 : Nat) (w0 : World) (C : CallE) : Prop :=
  ∀ (f : FuncId) (args : List Value) (c : World) (v : Value) (c' : World), C f args c = some (v, c') → (∀ (xs : Array Value) (W : World), (callFunc f xs).run P W = .ok (.enter f xs) W) ∧
    ∀ (ρ : Rho) (w : World) (args' : List Value), Rel P N0 w0 ρ c w → F2 (VR N0 ρ) args args' → Calls P f args'.toArray w fun e w' => ∃ v' ρ', e = .returned v' ∧ Rel P N0 w0 ρ' c' w' ∧ VR N0 ρ' v v' ∧ St ρ c w ρ' c' w'
def vals (ts : Tm) : List Operand → Option (List Value)
  | [] => some []
  | x :: xs => match opd ts x with
    | some v => match vals ts xs with
      | some l => some (v :: l)
      | none => none
    | none => none
structure FP where
  rd : List Nat
  wr : List Nat
  cl : Bool
def evOpD (P : Program) (N0 : Nat) (ts : Tm) (c : World) (o : Oper) : Option (Value × World × FP) := match evD P N0 (Kof c) ts c.heap.size o with
  | some d => some (d.v, apC c d, ⟨d.rd, d.ups.map (fun x => x.1), false⟩)
  | none => none
def evOp (P : Program) (N0 : Nat) (C : CallE) (ts : Tm) (c : World) (o : Oper) : Option (Value × World × FP) :=
  match o.op with
  | .call cl => match cl.callee with
    | .value f => match opd ts f, vals ts cl.args.toList with
      | some (.func (.func g) first captured), some xs => bif first.toList.isEmpty then (match C g (xs ++ captured.toList) c with
        | some (v, c') => some (v, c', ⟨[], [], true⟩)
        | none => none) else none
      | _, _ => none
    | _ => evOpD P N0 ts c o
  | _ => evOpD P N0 ts c o
def wantE (ops : Array Oper) (ts : Tm) (o : Oper) : Option Bool := match o.guard with
  | none => some true
  | some (j, want) => match ops[j]? with
    | none => some false
    | some oj => match oj.dst with
      | none => some false
      | some d => match tget ts d with
        | .bool b => some (b == want)
        | v => bif known v then some false else none
def putT (ts : Tm) (dst : Option Tmp) (v : Value) : Tm := match dst with
  | some d => (d, v) :: ts
  | none => ts
def dstOk (nt : Nat) (dst : Option Tmp) : Bool := match dst with
  | some d => Nat.blt d nt
  | none => true
def evOps (P : Program) (N0 : Nat) (C : CallE) (nt : Nat) (ops : Array Oper) : List Oper → Tm → World → Option (Tm × World)
  | [], ts, c => some (ts, c)
  | o :: r, ts, c => bif dstOk nt o.dst then (match wantE ops ts o with
    | some true => match evOp P N0 C ts c o with
      | some (v, c', _) => evOps P N0 C nt ops r (putT ts o.dst v) c'
      | none => none
    | some false => evOps P N0 C nt ops r (putT ts o.dst undef) c
    | none => none) else none
section
variable {P : Program} {N0 : Nat} {w0 : World} {ρ : Rho} {κ : Kap} {c c' w : World} {ts ts' : Tm} {a : Act} {o : Oper} {C : CallE} {Q : Exit → Act → World → Prop} {next : Act → World → Prop} {ops : Array Oper} {nt : Nat}
theorem vals_sim (T : TR N0 ρ ts a.tmps) : ∀ (xs : List Operand) (l : List Value), vals ts xs = some l → F2 (VR N0 ρ) l (xs.map a.eval)
  | [], l, h => by simp only [vals, Option.some.injEq] at h; subst h; exact .nil
  | x :: xs, l, h => by
    simp only [vals] at h
    split at h
    · rename_i v hx
      split at h
      · rename_i l1 hl
        simp only [Option.some.injEq] at h
        subst h
        exact .cons (opd_sim T hx) (vals_sim T xs l1 hl)
      · cases h
    · cases h
theorem f2_ptrs : ∀ {cs cs' : List Addr}, F2 (AR ρ) cs cs' → F2 (VR N0 ρ) (cs.map ptrV) (cs'.map ptrV)
  | _, _, .nil => .nil
  | _, _, .cons h t => .cons (.one (.one (.ptr h))) (f2_ptrs t)
theorem Rel.dnone (R : Rel P N0 w0 ρ c w) : ρ c.heap.size = none := by
  cases hq : ρ c.heap.size with
  | none => rfl
  | some x => have := R.dom c.heap.size (by rw [hq]; simp); omega
theorem kof_none (c : World) : Kof c c.heap.size = none := by simp [Kof]
/-- what may follow an operation -/
def Nxt (P : Program) (N0 : Nat) (w0 : World) (ρ : Rho) (c w : World) (v : Value) (c' : World) (K : Value → World → Prop) : Prop :=
  ∀ (v' : Value) (w' : World) (ρ' : Rho), Rel P N0 w0 ρ' c' w' → VR N0 ρ' v v' → St ρ c w ρ' c' w' → K v' w'
theorem evOpD_sim (R : Rel P N0 w0 ρ c w) (T : TR N0 ρ ts a.tmps) {v : Value} {fp : FP} (h : evOpD P N0 ts c o = some (v, c', fp)) (hn : Nxt P N0 w0 ρ c w v c' fun v' w' => next (a.put o.dst v') w') : o.wp P a w next Q := by
  unfold evOpD at h
  split at h
  · rename_i d hd
    simp only [Option.some.injEq, Prod.mk.injEq] at h
    obtain ⟨rfl, rfl, rfl⟩ := h
    obtain ⟨v', w', ρ', hp⟩ := evD_sim R.k T R.cz (fun _ => R.dnone) (fun _ => kof_none c) hd
    obtain ⟨h1, h2⟩ := post_step R (evD_good hd) hp
    have h3 := hn v' w' ρ' h1 hp.val h2
    unfold Oper.wp
    rcases hp.run with hr | ⟨hr, rfl⟩
    · rw [hr]; exact h3
    · rw [hr]; exact h3
  · cases h
theorem evOp_sim (hC : SoundC P N0 w0 C) (R : Rel P N0 w0 ρ c w) (T : TR N0 ρ ts a.tmps) {v : Value} {fp : FP} (h : evOp P N0 C ts c o = some (v, c', fp)) (hn : Nxt P N0 w0 ρ c w v c' fun v' w' => next (a.put o.dst v') w') : o.wp P a w next Q := by
  unfold evOp at h
  split at h
  · rename_i cl hop
    split at h
    · rename_i f hcal
      split at h
      · rename_i g first captured xs hf hxs
        obtain ⟨hfi, h⟩ := (show first.toList.isEmpty = true ∧ _ from by
          cases hq : first.toList.isEmpty with
          | true => rw [hq] at h; exact ⟨rfl, h⟩
          | false => rw [hq] at h; cases h)
        simp only [cond_true] at h
        split at h
        · rename_i v1 c1 hc
          simp only [Option.some.injEq, Prod.mk.injEq] at h
          obtain ⟨rfl, rfl, rfl⟩ := h
          obtain ⟨hent, hcalls⟩ := hC _ _ _ _ _ hc
          have hfv := opd_sim T hf
          generalize hy : a.eval f = y at hfv
          have hfirst : first = #[] := by simpa using hfi
          subst hfirst
          obtain ⟨cs, cs', hcs, rfl, hF⟩ : ∃ cs cs' : List Addr, captured = (cs.map ptrV).toArray ∧ y = .func (.func g) #[] (cs'.map ptrV).toArray ∧ F2 (AR ρ) cs cs' := by
            cases hfv with | one h1 => cases h1 with | one h2 => cases h2 with | fn _ h3 => exact ⟨_, _, rfl, rfl, h3⟩
          subst hcs
          have hargs : F2 (VR N0 ρ) (xs ++ (cs.map ptrV).toArray.toList) (cl.args.toList.map a.eval ++ cs'.map ptrV) := (vals_sim T _ _ hxs).app (f2_ptrs hF)
          have hcl := hcalls ρ w _ R hargs
          have hrun : (execOp a.eval o).run P w = .ok (.enter g (cl.args.toList.map a.eval ++ cs'.map ptrV).toArray) w := by
            have e1 : cl.args.map a.eval ++ (cs'.map ptrV).toArray = (cl.args.toList.map a.eval ++ cs'.map ptrV).toArray := by
              apply Array.ext'; simp
            unfold execOp; rw [hop]
            simp only [resolve, hcal, hy, Deferred.ofValue, Sem.run_bind, Sem.run_pure, Result.andThen_ok, invoke, Array.empty_append, e1, hent]
          unfold Oper.wp
          rw [hrun, Oper.upon_enter]
          refine Calls.mono hcl ?_
          rintro e w' ⟨v', ρ', rfl, h1, h2, h3⟩
          exact hn v' w' ρ' h1 h2 h3
        · cases h
      · cases h
    · exact evOpD_sim R T h hn
  · exact evOpD_sim R T h hn
theorem wantE_sim (T : TR N0 ρ ts a.tmps) {b : Bool} (h : wantE ops ts o = some b) : Region.wanted o (yielded ops a.tmps) = b := by
  unfold wantE at h
  unfold Region.wanted
  split at h
  · rename_i hg
    simp only [Option.some.injEq] at h
    rw [hg]; exact h
  · rename_i j want hg
    rw [hg]
    simp only
    unfold yielded
    split at h
    · rename_i hj
      simp only [Option.some.injEq] at h
      rw [hj]; simp only [Option.bind_none]; exact h
    · rename_i oj hj
      rw [hj]
      simp only [Option.bind_some]
      split at h
      · rename_i hd
        simp only [Option.some.injEq] at h
        rw [hd]; simp only [Option.bind_none]; exact h
      · rename_i d hd
        rw [hd]
        simp only [Option.bind_some]
        have hget : ∀ b', a.tmps[d]? = some (.bool b') ↔ a.tmps.getD d undef = .bool b' := by
          intro b'
          by_cases hlt : d < a.tmps.size
          · simp [hlt]
          · simp [hlt, undef]
        split at h
        · rename_i b1 hb1
          simp only [Option.some.injEq] at h
          have := T d (by rw [hb1]; rfl)
          rw [hb1] at this
          have := this.closed_eq rfl
          rw [(hget b1).2 this]
          simpa using h
        · rename_i hnb
          obtain ⟨hk, h⟩ := (show known (tget ts d) = true ∧ _ from by
            cases hq : known (tget ts d) with
            | true => rw [hq] at h; exact ⟨rfl, h⟩
            | false => rw [hq] at h; cases h)
          simp only [cond_true, Option.some.injEq] at h
          have hv := T d hk
          have hno : ∀ b', a.tmps[d]? ≠ some (.bool b') := fun b' he => by
            rw [(hget b').1 he] at hv
            generalize hq : tget ts d = q at hv
            cases hv with
            | one h1 => cases h1 with | one h2 =>
              cases h2
              exact hnb _ hq
          subst h
          cases hq : a.tmps[d]? with
          | none => rfl
          | some u =>
            cases u <;> first | rfl | exact absurd hq (hno _)
theorem put_size {dst : Option Tmp} {v : Value} : (a.put dst v).tmps.size = a.tmps.size := by cases dst <;> simp [Act.put]
theorem put_defers {dst : Option Tmp} {v : Value} : (a.put dst v).defers = a.defers := by cases dst <;> rfl
theorem TR.put (T : TR N0 ρ ts a.tmps) {dst : Option Tmp} {v v' : Value} (hd : dstOk a.tmps.size dst = true) (hv : VR N0 ρ v v') : TR N0 ρ (putT ts dst v) (a.put dst v').tmps := by
  cases dst with
  | none => exact T
  | some d =>
    intro t ht
    simp only [dstOk, Nat.blt_eq] at hd
    simp only [putT, tget] at ht ⊢
    cases hq : Nat.beq d t with
    | true =>
      have := Nat.eq_of_beq_eq_true hq
      subst this
      simp only [hq, cond_true]
      simpa [Act.put, hd] using hv
    | false =>
      have hne : d ≠ t := fun e => by rw [e] at hq; simp at hq
      simp only [hq, cond_false] at ht ⊢
      have := T t ht
      simpa [Act.put, Array.getD_eq_getD_getElem?, Array.getElem?_setIfInBounds_ne hne] using this
theorem evOps_sim (hC : SoundC P N0 w0 C) : ∀ (l : List Oper) (ts : Tm) (c : World) (ts' : Tm) (c' : World), evOps P N0 C nt ops l ts c = some (ts', c') → ∀ (ρ : Rho) (a : Act) (w : World), Rel P N0 w0 ρ c w → TR N0 ρ ts a.tmps → a.tmps.size = nt →
    (∀ (a' : Act) (w' : World) (ρ' : Rho), Rel P N0 w0 ρ' c' w' → TR N0 ρ' ts' a'.tmps → a'.tmps.size = nt → a'.defers = a.defers → St ρ c w ρ' c' w' → Q .normal a' w') → wpList P ops Q l a w
  | [], ts, c, ts', c', h, ρ, a, w, R, T, hs, hq => by
    simp only [evOps, Option.some.injEq, Prod.mk.injEq] at h
    obtain ⟨rfl, rfl⟩ := h
    exact hq a w ρ R T hs rfl (St.refl R.dom)
  | o :: r, ts, c, ts', c', h, ρ, a, w, R, T, hs, hq => by
    simp only [evOps] at h
    obtain ⟨hd, h⟩ := (show dstOk nt o.dst = true ∧ _ from by
      cases hq : dstOk nt o.dst with
      | true => rw [hq] at h; exact ⟨rfl, h⟩
      | false => rw [hq] at h; cases h)
    simp only [cond_true] at h
    have hd' : dstOk a.tmps.size o.dst = true := by rw [hs]; exact hd
    unfold wpList
    split at h
    · rename_i hw
      rw [wantE_sim T hw, if_pos rfl]
      split at h
      · rename_i v c1 fp hop
        refine .inl (evOp_sim hC R T hop ?_)
        intro v' w' ρ' R' hv hst
        have he := hst.toExt R.dom
        exact evOps_sim hC r _ c1 ts' c' h ρ' _ w' R' ((T.mono he).put hd' hv) (put_size.trans hs) fun a' w'' ρ'' R'' T'' hs'' hdf hst'' => hq a' w'' ρ'' R'' T'' hs'' (hdf.trans put_defers) (hst.trans hst'')
      · cases h
    · rename_i hw
      rw [wantE_sim T hw, if_neg (by simp)]
      exact evOps_sim hC r _ c ts' c' h ρ _ w R (T.put hd' undef_VR) (put_size.trans hs) fun a' w'' ρ'' R'' T'' hs'' hdf hst'' => hq a' w'' ρ'' R'' T'' hs'' (hdf.trans put_defers) hst''
    · cases h
end
end Go.Proofs.Ytbonmmpdpahhfaa.Can

/- The engine: an operation looks at no more blocks than it says. No law, no condition. -/
namespace Go.Proofs.Ytbonmmpdpahhfaa.Can
open Go.RowKit
set_option linter.unusedVariables false
set_option linter.unusedSimpArgs false
section
variable {P : Program} {N0 : Nat} {ρ : Rho} {κ κ1 κ2 : Kap} {ts : Tm} {a : Act} {o : Oper}
def Fits (κ1 κ2 : Kap) (b : Nat) : Prop := ∀ x, κ1 b = some x → κ2 b = some x
theorem cellK_mono {b : Nat} (hb : Fits κ1 κ2 b) {of : Nat} {v : Value} (h : cellK κ1 ⟨b, of, none⟩ = some v) : cellK κ2 ⟨b, of, none⟩ = some v := by
  unfold cellK at h ⊢
  simp only at h ⊢
  cases hq : κ1 b with
  | none => rw [hq] at h; cases h
  | some x => rw [hq] at h; rw [hb x hq]; exact h
theorem ldK_mono {b : Nat} (hb : Fits κ1 κ2 b) : ∀ {n of : Nat} {L : List Value}, ldK N0 κ1 b n of = some L → ldK N0 κ2 b n of = some L
  | 0, of, L, h => h
  | n + 1, of, L, h => by
    simp only [ldK] at h ⊢
    split at h
    · rename_i v hv
      rw [cellK_mono hb hv]
      simp only
      cases hk : okL N0 b v with
      | false => rw [hk] at h; cases h
      | true =>
        rw [hk] at h
        simp only [cond_true] at h ⊢
        split at h
        · rename_i l hl
          rw [ldK_mono hb hl]
          exact h
        · cases h
    · cases h
theorem loadE_mono {b : Nat} (hb : Fits κ1 κ2 b) {t : TypeId} {of : Nat} {v : Value} (h : loadE P N0 κ1 t b of = some v) : loadE P N0 κ2 t b of = some v := by
  unfold loadE at h ⊢
  cases hd : P.underlying t with
  | none => rw [hd] at h; cases h
  | some d =>
    rw [hd] at h
    simp only at h ⊢
    cases hg : isAggD d with
    | true =>
      rw [hg] at h
      simp only [cond_true] at h ⊢
      cases hi : P.info? t with
      | none => rw [hi] at h; cases h
      | some i =>
        rw [hi] at h
        simp only at h ⊢
        cases hl : ldK N0 κ1 b i.size of with
        | none => rw [hl] at h; cases h
        | some L => rw [hl] at h; rw [ldK_mono hb hl]; exact h
    | false =>
      rw [hg] at h
      simp only [cond_false] at h ⊢
      cases hc : cellK κ1 ⟨b, of, none⟩ with
      | none => rw [hc] at h; cases h
      | some u => rw [hc] at h; rw [cellK_mono hb hc]; exact h
theorem rowOk_mono {b : Nat} (hb : Fits κ1 κ2 b) {e : TypeId} (h : rowOk N0 κ1 b e = true) : rowOk N0 κ2 b e = true := by
  unfold rowOk at h ⊢
  simp only [Bool.or_eq_true] at h ⊢
  rcases h with h | h
  · exact .inl h
  · right
    cases hq : κ1 b with
    | none => rw [hq] at h; cases h
    | some x => rw [hq] at h; rw [hb x hq]; exact h
theorem rowAt_mono {b : Nat} (hb : Fits κ1 κ2 b) {r : Array Value × TypeId × Nat} (h : rowAt N0 κ1 b = some r) : rowAt N0 κ2 b = some r := by
  unfold rowAt at h ⊢
  obtain ⟨h1, h⟩ := cond_some h
  rw [h1]
  simp only [cond_true]
  cases hq : κ1 b with
  | none => rw [hq] at h; cases h
  | some x => rw [hq] at h; rw [hb x hq]; exact h
theorem putE_mono {b of : Nat} (hb : Fits κ1 κ2 b) {vs : List Value} {ups : List (Nat × Obj)} (h : putE N0 κ1 b of vs = some ups) : putE N0 κ2 b of vs = some ups := by
  cases vs with
  | nil => exact h
  | cons v vs =>
    simp only [putE] at h ⊢
    cases hr : rowAt N0 κ1 b with
    | none => rw [hr] at h; cases h
    | some r => rw [hr] at h; rw [rowAt_mono hb hr]; exact h
theorem newsE_mono {size n : Nat} {x : Value} {news : List Value} {rd : List Nat} (h : newsE N0 κ1 size x n = some (news, rd)) (hb : ∀ b ∈ rd, Fits κ1 κ2 b) : newsE N0 κ2 size x n = some (news, rd) := by
  unfold newsE at h ⊢
  split at h
  · exact h
  · obtain ⟨h1, h⟩ := cond_some h
    rw [h1]
    simp only [cond_true]
    split at h
    · rename_i L hL
      simp only [Option.some.injEq, Prod.mk.injEq] at h
      obtain ⟨rfl, rfl⟩ := h
      rw [ldK_mono (hb _ (by simp)) hL]
    · cases h
  · exact h
  · cases h
theorem cutE_mono {t : TypeId} {x v : Value} {lo hi : Option Int} {rd : List Nat} (h : cutE P N0 κ1 t x lo hi = some (v, rd)) (hb : ∀ b ∈ rd, Fits κ1 κ2 b) : cutE P N0 κ2 t x lo hi = some (v, rd) := by
  unfold cutE at h ⊢
  split at h
  · exact h
  · split at h
    · obtain ⟨h1, h⟩ := cond_some h
      simp only [Option.some.injEq, Prod.mk.injEq] at h
      obtain ⟨rfl, rfl⟩ := h
      simp only [Bool.and_eq_true] at h1
      rw [rowOk_mono (hb _ (by simp)) h1.1, h1.2]
      rfl
    · cases h
  · exact h
  · cases h
theorem evL_mono {v : Value} {rd : List Nat} (h : evL P N0 κ1 ts o = some (v, rd)) (hb : ∀ b ∈ rd, Fits κ1 κ2 b) : evL P N0 κ2 ts o = some (v, rd) := by
  unfold evL at h ⊢
  split at h
  · split at h
    · split at h
      · rename_i u hu
        simp only [Option.some.injEq, Prod.mk.injEq] at h
        obtain ⟨rfl, rfl⟩ := h
        rw [loadE_mono (hb _ (by simp)) hu]
      · cases h
    · cases h
  · split at h
    · split at h
      · split at h
        · rename_i L hL
          split at h
          · rename_i ns hns
            simp only [Option.some.injEq, Prod.mk.injEq] at h
            obtain ⟨rfl, rfl⟩ := h
            rw [ldK_mono (hb _ (by simp)) hL]
            simp only [hns]
          · cases h
        · cases h
      · cases h
    · cases h
  · split at h
    · exact cutE_mono h hb
    · cases h
  · cases h
theorem roomE_mono {e size : Nat} {A : Option Addr} {l cp n : Nat} {news : List Value} {rd : List Nat} {d : Dl} (h : roomE N0 κ1 e size A l cp n news rd = some d) (hb : ∀ b ∈ d.rd, Fits κ1 κ2 b) : roomE N0 κ2 e size A l cp n news rd = some d := by
  unfold roomE at h ⊢
  split at h
  · exact h
  · obtain ⟨h1, h⟩ := cond_some h
    split at h
    · rename_i ups hups
      simp only [Option.some.injEq] at h
      subst h
      rw [rowOk_mono (hb _ (by simp)) h1, putE_mono (hb _ (by simp)) hups]
      rfl
    · cases h
  · cases h
theorem growE_mono {e size m : Nat} {A : Option Addr} {l cp n : Nat} {news : List Value} {rd : List Nat} {d : Dl} (h : growE N0 κ1 e size m A l cp n news rd = some d) (hb : ∀ b ∈ d.rd, Fits κ1 κ2 b) : growE N0 κ2 e size m A l cp n news rd = some d := by
  unfold growE at h ⊢
  split at h
  · exact h
  · rename_i b of
    obtain ⟨h1, h⟩ := cond_some h
    split at h
    · rename_i olds hol
      have hbb : Fits κ1 κ2 b := by
        rcases cond_or h with ⟨_, h⟩ | ⟨_, h⟩
        · simp only [Option.some.injEq] at h; subst h; exact hb _ (by simp)
        · split at h
          · simp only [Option.some.injEq] at h; subst h; exact hb _ (by simp)
          · cases h
      rw [rowOk_mono hbb h1, ldK_mono hbb hol]
      simp only [cond_true]
      rcases cond_or h with ⟨h2, h⟩ | ⟨h2, h⟩
      · rw [h2]; exact h
      · rw [h2]
        simp only [cond_false]
        split at h
        · rename_i cs e' k hr
          rw [rowAt_mono hbb hr]
          exact h
        · cases h
    · cases h
  · cases h
theorem roomE_rd {e size : Nat} {A : Option Addr} {l cp n : Nat} {news : List Value} {rd : List Nat} {d : Dl} (h : roomE N0 κ e size A l cp n news rd = some d) : ∀ b ∈ rd, b ∈ d.rd := by
  unfold roomE at h
  split at h
  · split at h
    · simp only [Option.some.injEq] at h; subst h; exact fun b hb => hb
    · cases h
  · obtain ⟨h1, h⟩ := cond_some h
    split at h
    · simp only [Option.some.injEq] at h; subst h; exact fun b hb => List.mem_cons_of_mem _ hb
    · cases h
  · cases h
theorem growE_rd {e size m : Nat} {A : Option Addr} {l cp n : Nat} {news : List Value} {rd : List Nat} {d : Dl} (h : growE N0 κ e size m A l cp n news rd = some d) : ∀ b ∈ rd, b ∈ d.rd := by
  unfold growE at h
  split at h
  · obtain ⟨h1, h⟩ := cond_some h
    simp only [Option.some.injEq] at h; subst h; exact fun b hb => hb
  · obtain ⟨h1, h⟩ := cond_some h
    split at h
    · rcases cond_or h with ⟨_, h⟩ | ⟨_, h⟩
      · simp only [Option.some.injEq] at h; subst h; exact fun b hb => List.mem_cons_of_mem _ hb
      · split at h
        · simp only [Option.some.injEq] at h; subst h; exact fun b hb => List.mem_cons_of_mem _ hb
        · cases h
    · cases h
  · cases h
theorem evW_mono {m : Nat} {d : Dl} (h : evW P N0 κ1 ts m o = some d) (hb : ∀ b ∈ d.rd, Fits κ1 κ2 b) : evW P N0 κ2 ts m o = some d := by
  unfold evW at h ⊢
  split at h
  · split at h
    · obtain ⟨h1, h⟩ := cond_none h
      rw [h1]
      simp only [cond_false]
      split at h
      · rename_i ups hups
        simp only [Option.some.injEq] at h
        subst h
        rw [putE_mono (hb _ (by simp)) hups]
      · cases h
    · cases h
  · split at h
    · split at h
      · split at h
        · split at h
          · rename_i z news rd hz hnews
            obtain ⟨h1, h⟩ := cond_some h
            have hrd : ∀ b ∈ rd, Fits κ1 κ2 b := by
              rcases cond_or h with ⟨_, h⟩ | ⟨_, h⟩
              · exact fun b hm => hb b (roomE_rd h b hm)
              · exact fun b hm => hb b (growE_rd h b hm)
            rw [newsE_mono hnews hrd, hz]
            simp only [h1, cond_true]
            rcases cond_or h with ⟨h2, h⟩ | ⟨h2, h⟩
            · rw [h2]; exact roomE_mono h hb
            · rw [h2]; exact growE_mono h hb
          · cases h
        · cases h
      · cases h
    · split at h
      · split at h
        · split at h
          · rename_i news rd hnews
            have hrd : ∀ b ∈ rd, Fits κ1 κ2 b := by
              split at h
              · simp only [Option.some.injEq] at h; subst h; exact hb
              · split at h
                · simp only [Option.some.injEq] at h; subst h; exact fun b hm => hb b (List.mem_cons_of_mem _ hm)
                · cases h
              · cases h
            rw [newsE_mono hnews hrd]
            simp only
            split at h
            · exact h
            · split at h
              · rename_i ups hups
                simp only [Option.some.injEq] at h
                subst h
                rw [putE_mono (hb _ (by simp)) hups]
              · cases h
            · cases h
          · cases h
        · cases h
      · cases h
    · cases h
  · split at h
    · obtain ⟨h1, h⟩ := cond_some h
      rw [h1]
      simp only [cond_true]
      split at h
      · rename_i cs e' k hr
        simp only [Option.some.injEq] at h
        subst h
        rw [rowAt_mono (hb _ (by simp)) hr]
      · cases h
    · cases h
  · cases h
theorem evA_evL {m : Nat} {r : List Value × TypeId × Value} (h : evA P ts m o = some r) : evL P N0 κ ts o = none := by
  unfold evA at h
  split at h
  · rename_i hop; unfold evL; rw [hop]
  · rename_i hop; unfold evL; rw [hop]
  · rename_i hop; unfold evL; rw [hop]
  · rename_i hop; unfold evL; rw [hop]
  · rename_i hop
    unfold evL; rw [hop]
    split at h
    · rename_i e b hs hd hx
      simp only [hs, hd]
    · cases h
  · cases h
theorem evW_evL {m : Nat} {d : Dl} (h : evW P N0 κ1 ts m o = some d) : evL P N0 κ2 ts o = none := by
  unfold evW at h
  split at h
  · rename_i hop; unfold evL; rw [hop]
  · rename_i hop; unfold evL; rw [hop]
  · rename_i s d1 x hop
    split at h
    · rename_i hs hd hx
      unfold evL; rw [hop]
      simp only [hs, hd]
    · cases h
  · cases h
theorem evD_mono {m : Nat} {d : Dl} (h : evD P N0 κ1 ts m o = some d) (hb : ∀ b ∈ d.rd, Fits κ1 κ2 b) : evD P N0 κ2 ts m o = some d := by
  unfold evD at h ⊢
  split at h
  · exact h
  · split at h
    · rename_i v rd hv
      simp only [Option.some.injEq] at h
      subst h
      rw [evL_mono hv hb]
    · split at h
      · rename_i hA
        rw [evA_evL hA]
        exact h
      · rename_i hA
        rw [evW_evL h]
        simp only
        exact evW_mono h hb
/-! ### the blocks that are looked at lie somewhere -/
theorem ar_dom {ad ad' : Addr} (h : AR ρ ad ad') : ρ ad.block ≠ none := by
  obtain ⟨_, _, h⟩ := h
  rcases h with h | ⟨_, _, _, _, _, h, _⟩ <;> rw [h] <;> simp
theorem slr_dom {ad ad' : Addr} {l cp cp' : Nat} (h : SlR N0 ρ ad l cp ad' cp') : ρ ad.block ≠ none := by
  obtain ⟨_, _, h⟩ := h
  rcases h with h | ⟨_, _, _, _, _, _, h, _⟩ <;> rw [h] <;> simp
theorem opd_sl_dom (T : TR N0 ρ ts a.tmps) {x : Operand} {b of l cp : Nat} (h : opd ts x = some (.slice (some ⟨b, of, none⟩) l cp)) : ρ b ≠ none := by
  rcases opd_slice T h with ⟨h0, _⟩ | ⟨ad, ad', cp', h0, _, h2⟩
  · cases h0
  · simp only [Option.some.injEq] at h0
    subst h0
    exact slr_dom h2
theorem opd_pt_dom (T : TR N0 ρ ts a.tmps) {x : Operand} {b of : Nat} (h : opd ts x = some (.pointer (some ⟨b, of, none⟩))) : ρ b ≠ none := by
  obtain ⟨_, _, h2⟩ := opd_ptr T h
  exact ar_dom h2
theorem newsE_dom (T : TR N0 ρ ts a.tmps) {size n : Nat} {y : Operand} {x : Value} {news : List Value} {rd : List Nat} (hx : opd ts y = some x) (h : newsE N0 κ size x n = some (news, rd)) : ∀ b ∈ rd, ρ b ≠ none := by
  unfold newsE at h
  split at h
  · obtain ⟨h1, h⟩ := cond_some h
    simp only [Option.some.injEq, Prod.mk.injEq] at h
    obtain ⟨_, rfl⟩ := h
    exact fun b hb => by cases hb
  · obtain ⟨h1, h⟩ := cond_some h
    split at h
    · simp only [Option.some.injEq, Prod.mk.injEq] at h
      obtain ⟨_, rfl⟩ := h
      intro b hb
      rw [List.mem_singleton.1 hb]
      exact opd_sl_dom T hx
    · cases h
  · obtain ⟨h1, h⟩ := cond_some h
    simp only [Option.some.injEq, Prod.mk.injEq] at h
    obtain ⟨_, rfl⟩ := h
    exact fun b hb => by cases hb
  · cases h
theorem evL_dom (T : TR N0 ρ ts a.tmps) {v : Value} {rd : List Nat} (h : evL P N0 κ ts o = some (v, rd)) : ∀ b ∈ rd, ρ b ≠ none := by
  unfold evL at h
  split at h
  · split at h
    · rename_i hx
      split at h
      · simp only [Option.some.injEq, Prod.mk.injEq] at h
        obtain ⟨_, rfl⟩ := h
        intro b hb
        rw [List.mem_singleton.1 hb]
        exact opd_pt_dom T hx
      · cases h
    · cases h
  · split at h
    · rename_i hx
      split at h
      · split at h
        · split at h
          · simp only [Option.some.injEq, Prod.mk.injEq] at h
            obtain ⟨_, rfl⟩ := h
            intro b hb
            rw [List.mem_singleton.1 hb]
            exact opd_sl_dom T hx
          · cases h
        · cases h
      · cases h
    · cases h
  · split at h
    · rename_i u l hh hx hl hh'
      unfold cutE at h
      split at h
      · split at h
        · simp only [Option.some.injEq, Prod.mk.injEq] at h
          obtain ⟨_, rfl⟩ := h
          exact fun b hb => by cases hb
        · cases h
      · split at h
        · obtain ⟨h1, h⟩ := cond_some h
          simp only [Option.some.injEq, Prod.mk.injEq] at h
          obtain ⟨_, rfl⟩ := h
          intro b hb
          rw [List.mem_singleton.1 hb]
          exact opd_sl_dom T hx
        · cases h
      · split at h
        · simp only [Option.some.injEq, Prod.mk.injEq] at h
          obtain ⟨_, rfl⟩ := h
          exact fun b hb => by cases hb
        · cases h
      · cases h
    · cases h
  · cases h
theorem putE_in {b of : Nat} {vs : List Value} {ups : List (Nat × Obj)} (h : putE N0 κ b of vs = some ups) : ∀ z ob, (z, ob) ∈ ups → z = b := by
  unfold putE at h
  split at h
  · simp only [Option.some.injEq] at h; subst h; exact fun z ob hz => by cases hz
  · split at h
    · obtain ⟨_, h⟩ := cond_some h
      simp only [Option.some.injEq] at h; subst h
      intro z ob hz
      have := List.mem_singleton.1 hz
      simp only [Prod.mk.injEq] at this
      exact this.1
    · cases h
theorem evW_dom (T : TR N0 ρ ts a.tmps) {m : Nat} {d : Dl} (h : evW P N0 κ ts m o = some d) : (∀ b ∈ d.rd, ρ b ≠ none) ∧ ∀ z ob, (z, ob) ∈ d.ups → z ∈ d.rd := by
  unfold evW at h
  split at h
  · split at h
    · rename_i hx hy
      obtain ⟨h1, h⟩ := cond_none h
      split at h
      · rename_i ups hups
        simp only [Option.some.injEq] at h
        subst h
        refine ⟨fun b hb => ?_, fun z ob hz => ?_⟩
        · rw [List.mem_singleton.1 hb]
          exact opd_pt_dom T hx
        · rw [putE_in hups z ob hz]; simp
      · cases h
    · cases h
  · split at h
    · split at h
      · rename_i ht hu hs hx
        split at h
        · split at h
          · rename_i z news rd hz hnews
            obtain ⟨h1, h⟩ := cond_some h
            have hrd := newsE_dom T hx hnews
            rcases cond_or h with ⟨h2, h⟩ | ⟨h2, h⟩
            · unfold roomE at h
              split at h
              · split at h
                · simp only [Option.some.injEq] at h; subst h
                  exact ⟨hrd, fun z ob hz => by cases hz⟩
                · cases h
              · obtain ⟨_, h⟩ := cond_some h
                split at h
                · rename_i ups hups
                  simp only [Option.some.injEq] at h; subst h
                  refine ⟨fun b hb => ?_, fun z ob hz => by rw [putE_in hups z ob hz]; simp⟩
                  rcases List.mem_cons.1 hb with rfl | hb
                  · exact opd_sl_dom T hs
                  · exact hrd b hb
                · cases h
              · cases h
            · unfold growE at h
              split at h
              · obtain ⟨_, h⟩ := cond_some h
                simp only [Option.some.injEq] at h; subst h
                exact ⟨hrd, fun z ob hz => by cases hz⟩
              · obtain ⟨_, h⟩ := cond_some h
                split at h
                · rcases cond_or h with ⟨_, h⟩ | ⟨_, h⟩
                  · simp only [Option.some.injEq] at h; subst h
                    refine ⟨fun b1 hb => ?_, fun z ob hz => by cases hz⟩
                    rcases List.mem_cons.1 hb with e | hb
                    · rw [e]; exact opd_sl_dom T hs
                    · exact hrd b1 hb
                  · split at h
                    · simp only [Option.some.injEq] at h; subst h
                      refine ⟨fun b1 hb => ?_, fun z ob hz => ?_⟩
                      · rcases List.mem_cons.1 hb with e | hb
                        · rw [e]; exact opd_sl_dom T hs
                        · exact hrd b1 hb
                      have := List.mem_singleton.1 hz
                      simp only [Prod.mk.injEq] at this
                      rw [this.1]; simp
                    · cases h
                · cases h
              · cases h
          · cases h
        · cases h
      · cases h
    · split at h
      · rename_i ht hs hx
        split at h
        · split at h
          · rename_i news rd hnews
            have hrd := newsE_dom T hx hnews
            split at h
            · simp only [Option.some.injEq] at h; subst h
              exact ⟨hrd, fun z ob hz => by cases hz⟩
            · split at h
              · rename_i ups hups
                simp only [Option.some.injEq] at h; subst h
                refine ⟨fun b hb => ?_, fun z ob hz => by rw [putE_in hups z ob hz]; simp⟩
                rcases List.mem_cons.1 hb with rfl | hb
                · exact opd_sl_dom T hs
                · exact hrd b hb
              · cases h
            · cases h
          · cases h
        · cases h
      · cases h
    · cases h
  · split at h
    · rename_i hs hd hx
      obtain ⟨h1, h⟩ := cond_some h
      split at h
      · rename_i cs e' k hr
        simp only [Option.some.injEq] at h; subst h
        refine ⟨fun b hb => ?_, fun z ob hz => ?_⟩
        · rw [List.mem_singleton.1 hb]
          exact opd_sl_dom T hx
        · have := List.mem_singleton.1 hz
          simp only [Prod.mk.injEq] at this
          simp [this.1]
      · cases h
    · cases h
  · cases h
theorem evD_dom (T : TR N0 ρ ts a.tmps) {m : Nat} {d : Dl} (h : evD P N0 κ ts m o = some d) : (∀ b ∈ d.rd, ρ b ≠ none) ∧ ∀ z ob, (z, ob) ∈ d.ups → z ∈ d.rd := by
  unfold evD at h
  split at h
  · simp only [Option.some.injEq] at h; subst h; exact ⟨(fun b hb => by cases hb), fun z ob hz => by cases hz⟩
  · split at h
    · rename_i hv
      simp only [Option.some.injEq] at h; subst h
      exact ⟨evL_dom T hv, fun z ob hz => by cases hz⟩
    · split at h
      · simp only [Option.some.injEq] at h; subst h; exact ⟨(fun b hb => by cases hb), fun z ob hz => by cases hz⟩
      · exact evW_dom T h
end
end Go.Proofs.Ytbonmmpdpahhfaa.Can
