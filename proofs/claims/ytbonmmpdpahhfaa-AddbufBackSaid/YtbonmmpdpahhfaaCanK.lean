/- The engine, in the form that is used: what follows is handed along. No law, no condition. -/
import Derived.Test.YtbonmmpdpahhfaaCan16
namespace Go.Proofs.Ytbonmmpdpahhfaa.Can
open Go.RowKit
set_option linter.unusedVariables false
set_option linter.unusedSimpArgs false

section
variable {R α : Type}
@[irreducible] def bnd (o : Option α) (k : α → Option R) : Option R := match o with
  | some v => k v
  | none => none
@[irreducible] def test (b : Bool) (x y : Option R) : Option R := match b with
  | true => x
  | false => y
theorem bnd_some (v : α) (k : α → Option R) : bnd (some v) k = k v := by unfold bnd; rfl
theorem bnd_spec {o : Option α} {k : α → Option R} {r : R} (h : bnd o k = some r) : ∃ v, o = some v ∧ k v = some r := by
  unfold bnd at h
  cases o with
  | none => cases h
  | some v => exact ⟨v, rfl, h⟩
theorem test_true (x y : Option R) : test true x y = x := by unfold test; rfl
theorem test_false (x y : Option R) : test false x y = y := by unfold test; rfl
theorem test_spec {b : Bool} {x y : Option R} {r : R} (h : test b x y = some r) : (b = true ∧ x = some r) ∨ (b = false ∧ y = some r) := by
  unfold test at h
  cases b
  · exact .inr ⟨rfl, h⟩
  · exact .inl ⟨rfl, h⟩
theorem test_pos {b : Bool} {x y : Option R} (h : b = true) : test b x y = x := by rw [h, test_true]
theorem test_neg {b : Bool} {x y : Option R} (h : b = false) : test b x y = y := by rw [h, test_false]
theorem bnd_eq {o : Option α} {k : α → Option R} {v : α} {r : Option R} (h : o = some v) (h2 : k v = r) : bnd o k = r := by rw [h, bnd_some, h2]
theorem test_t {b : Bool} {x y r : Option R} (h : b = true) (h2 : x = r) : test b x y = r := by rw [h, test_true, h2]
theorem test_f {b : Bool} {x y r : Option R} (h : b = false) (h2 : y = r) : test b x y = r := by rw [h, test_false, h2]
end
/-- a store -/
def stE (P : Program) (N0 : Nat) (c : World) (t : TypeId) (b o : Nat) (v : Value) : Option (World × List Nat) := match P.info? t with
  | some i => bif isTup v || !(Nat.beq v.cells.size i.size) then none else (match putE N0 (Kof c) b o v.cells.toList with
    | some ups => some (upsC c ups, ups.map (fun x => x.1))
    | none => none)
  | none => none
def mk1 (c : World) (cs : List Value) (e : TypeId) : World := c.alloc (.cells cs.toArray e (0, 0))
def evOpK {R : Type} (P : Program) (N0 : Nat) (C : CallE) (ts : Tm) (c : World) (o : Oper) (k : Value → World → FP → Option R) : Option R :=
  match o.op with
  | .load t x => match opd ts x with
    | some (.pointer (some ⟨b, of, none⟩)) => bnd (loadE P N0 (Kof c) t b of) fun v => k v c ⟨[b], [], false⟩
    | _ => none
  | .store t x y => match opd ts x, opd ts y with
    | some (.pointer (some ⟨b, of, none⟩)), some v => bnd (stE P N0 c t b of v) fun r => k undef r.1 ⟨[b], r.2, false⟩
    | _, _ => none
  | .alloc e => match evA P ts c.heap.size o with
    | some (cs, e, v) => k v (mk1 c cs e) fp0
    | none => none
  | .box e _ => match evA P ts c.heap.size o with
    | some (cs, e, v) => k v (mk1 c cs e) fp0
    | none => none
  | .indexAddr t x i => match P.underlying t, opd ts x, opd ts i with
    | some (.slice e), some (.slice (some ⟨b, of, none⟩) l _), some (.int _ n) => match P.info? e with
      | some ie => test (decide (0 ≤ n) && decide (n < l)) (k (.pointer (some ⟨b, of + n.toNat * ie.size, none⟩)) c fp0) none
      | none => none
    | some (.array m e), some (.pointer (some ⟨b, of, none⟩)), some (.int _ n) => match P.info? e with
      | some ie => test (decide (0 ≤ n) && decide (n < m)) (k (.pointer (some ⟨b, of + n.toNat * ie.size, none⟩)) c fp0) none
      | none => none
    | _, _, _ => none
  | .index _ _ _ => bnd (evP P ts o) fun v => k v c fp0
  | .pick b x y => match opd ts b with
    | some (.bool t) => test t (bnd (opd ts x) fun v => k v c fp0) (bnd (opd ts y) fun v => k v c fp0)
    | _ => none
  | .slice _ _ _ _ _ => bnd (evOp P N0 C ts c o) fun r => k r.1 r.2.1 r.2.2
  | .makeSlice _ _ _ => bnd (evOp P N0 C ts c o) fun r => k r.1 r.2.1 r.2.2
  | .buildSlice _ _ _ => match evA P ts c.heap.size o with
    | some (cs, e, v) => k v (mk1 c cs e) fp0
    | none => none
  | .convert _ _ _ => bnd (evOp P N0 C ts c o) fun r => k r.1 r.2.1 r.2.2
  | .call cl => match cl.callee with
    | .value f => match opd ts f, vals ts cl.args.toList with
      | some (.func (.func g) first captured), some xs => bif first.toList.isEmpty then bnd (C g (xs ++ captured.toList) c) (fun r => k r.1 r.2 ⟨[], [], true⟩) else none
      | _, _ => none
    | .builtin .append => bnd (evOp P N0 C ts c o) fun r => k r.1 r.2.1 r.2.2
    | .builtin .copy => bnd (evOp P N0 C ts c o) fun r => k r.1 r.2.1 r.2.2
    | _ => match evP P ts o with
      | some v => k v c fp0
      | none => none
  | _ => match evP P ts o with
    | some v => k v c fp0
    | none => none
def evOpsK {R : Type} (P : Program) (N0 : Nat) (C : CallE) (nt : Nat) (ops : Array Oper) : List Oper → Tm → World → (Tm → World → Option R) → Option R
  | [], ts, c, k => k ts c
  | o :: r, ts, c, k => bif dstOk nt o.dst then (match o.guard with
    | none => evOpK P N0 C ts c o fun v c' _ => evOpsK P N0 C nt ops r (putT ts o.dst v) c' k
    | some _ => match wantE ops ts o with
      | some b => test b (evOpK P N0 C ts c o fun v c' _ => evOpsK P N0 C nt ops r (putT ts o.dst v) c' k) (evOpsK P N0 C nt ops r (putT ts o.dst undef) c k)
      | none => none) else none
section
variable {P : Program} {N0 : Nat} {C : CallE} {ts : Tm} {c : World} {o : Oper} {R : Type} {k : Value → World → FP → Option R} {r : R}
theorem evP_op {v : Value} (h : evP P ts o = some v) : evD P N0 (Kof c) ts c.heap.size o = some ⟨v, [], none, []⟩ := by unfold evD; rw [h]
theorem evOp_of_D (hno : ∀ cl f, o.op = .call cl → cl.callee ≠ .value f) : evOp P N0 C ts c o = evOpD P N0 ts c o := by
  unfold evOp
  split
  · rename_i cl hop
    split
    · rename_i f hf; exact absurd hf (hno cl f hop)
    · rfl
  · rfl
theorem evOp_P (hno : ∀ cl f, o.op = .call cl → cl.callee ≠ .value f) {v : Value} (h : evP P ts o = some v) : evOp P N0 C ts c o = some (v, c, fp0) := by
  rw [evOp_of_D hno]
  unfold evOpD
  rw [evP_op h]
  rfl
theorem evOp_A (hno : ∀ cl f, o.op = .call cl → cl.callee ≠ .value f) (hP : evP P ts o = none) {cs : List Value} {e : TypeId} {v : Value} (h : evA P ts c.heap.size o = some (cs, e, v)) : evOp P N0 C ts c o = some (v, mk1 c cs e, fp0) := by
  rw [evOp_of_D hno]
  unfold evOpD evD
  rw [hP, evA_evL h]
  simp only [h]
  rfl
theorem evOpK_spec (h : evOpK P N0 C ts c o k = some r) : ∃ v c' fp, evOp P N0 C ts c o = some (v, c', fp) ∧ k v c' fp = some r := by
  unfold evOpK at h
  split at h
  · rename_i t x hop
    have hno : ∀ cl f, o.op = .call cl → cl.callee ≠ .value f := fun cl f he => by rw [hop] at he; cases he
    split at h
    · rename_i b of hx
      obtain ⟨v, h1, h2⟩ := bnd_spec h
      refine ⟨v, c, ⟨[b], [], false⟩, ?_, h2⟩
      rw [evOp_of_D hno]
      have hP : evP P ts o = none := by unfold evP; rw [hop]
      have hL : evL P N0 (Kof c) ts o = some (v, [b]) := by unfold evL; rw [hop]; simp only [hx, h1]
      unfold evOpD evD
      rw [hP, hL]
      rfl
    · cases h
  · rename_i t x y hop
    have hno : ∀ cl f, o.op = .call cl → cl.callee ≠ .value f := fun cl f he => by rw [hop] at he; cases he
    split at h
    · rename_i b of v hx hy
      obtain ⟨⟨c', wl⟩, h1, h2⟩ := bnd_spec h
      unfold stE at h1
      split at h1
      · rename_i i hi
        obtain ⟨h3, h4⟩ := cond_none h1
        split at h4
        · rename_i ups hups
          simp only [Option.some.injEq, Prod.mk.injEq] at h4
          obtain ⟨rfl, rfl⟩ := h4
          refine ⟨undef, upsC c ups, ⟨[b], ups.map (fun x => x.1), false⟩, ?_, h2⟩
          rw [evOp_of_D hno]
          have hP : evP P ts o = none := by unfold evP; rw [hop]
          have hL : evL P N0 (Kof c) ts o = none := by unfold evL; rw [hop]
          have hA : evA P ts c.heap.size o = none := by unfold evA; rw [hop]
          have hW : evW P N0 (Kof c) ts c.heap.size o = some ⟨undef, ups, none, [b]⟩ := by
            unfold evW; rw [hop]
            simp only [hi, hx, hy, h3, cond_false, hups]
          unfold evOpD evD
          rw [hP, hL, hA]
          simp only [hW]
          rfl
        · cases h4
      · cases h1
    · cases h
  · rename_i e hop
    have hno : ∀ cl f, o.op = .call cl → cl.callee ≠ .value f := fun cl f he => by rw [hop] at he; cases he
    split at h
    · rename_i cs e1 v hA
      exact ⟨v, _, _, evOp_A hno (by unfold evP; rw [hop]) hA, h⟩
    · cases h
  · rename_i e x hop
    have hno : ∀ cl f, o.op = .call cl → cl.callee ≠ .value f := fun cl f he => by rw [hop] at he; cases he
    split at h
    · rename_i cs e1 v hA
      exact ⟨v, _, _, evOp_A hno (by unfold evP; rw [hop]) hA, h⟩
    · cases h
  · rename_i t x i hop
    have hno : ∀ cl f, o.op = .call cl → cl.callee ≠ .value f := fun cl f he => by rw [hop] at he; cases he
    split at h
    · rename_i e b of l cp kk n hd hx hi
      split at h
      · rename_i ie hie
        rcases test_spec h with ⟨h1, h2⟩ | ⟨_, h2⟩
        · refine ⟨_, c, _, evOp_P hno ?_, h2⟩
          unfold evP; rw [hop]
          simp only [hx, hi, indexAddrE, hd, hie, h1, cond_true]
        · cases h2
      · cases h
    · rename_i m e b of kk n hd hx hi
      split at h
      · rename_i ie hie
        rcases test_spec h with ⟨h1, h2⟩ | ⟨_, h2⟩
        · refine ⟨_, c, _, evOp_P hno ?_, h2⟩
          unfold evP; rw [hop]
          simp only [hx, hi, indexAddrE, hd, hie, h1, cond_true]
        · cases h2
      · cases h
    · cases h
  · rename_i hop
    have hno : ∀ cl f, o.op = .call cl → cl.callee ≠ .value f := fun cl f he => by rw [hop] at he; cases he
    obtain ⟨v, h1, h2⟩ := bnd_spec h
    exact ⟨v, c, _, evOp_P hno h1, h2⟩
  · rename_i b x y hop
    have hno : ∀ cl f, o.op = .call cl → cl.callee ≠ .value f := fun cl f he => by rw [hop] at he; cases he
    split at h
    · rename_i t hb
      rcases test_spec h with ⟨h1, h2⟩ | ⟨h1, h2⟩
      · obtain ⟨v, h3, h4⟩ := bnd_spec h2
        refine ⟨v, c, _, evOp_P hno ?_, h4⟩
        unfold evP; rw [hop]
        simp only [hb, h1, cond_true, h3]
      · obtain ⟨v, h3, h4⟩ := bnd_spec h2
        refine ⟨v, c, _, evOp_P hno ?_, h4⟩
        unfold evP; rw [hop]
        simp only [hb, h1, cond_false, h3]
    · cases h
  · obtain ⟨⟨v, c', fp⟩, h1, h2⟩ := bnd_spec h
    exact ⟨v, c', fp, h1, h2⟩
  · obtain ⟨⟨v, c', fp⟩, h1, h2⟩ := bnd_spec h
    exact ⟨v, c', fp, h1, h2⟩
  · rename_i hop
    have hno : ∀ cl f, o.op = .call cl → cl.callee ≠ .value f := fun cl f he => by rw [hop] at he; cases he
    split at h
    · rename_i cs e1 v hA
      exact ⟨v, _, _, evOp_A hno (by unfold evP; rw [hop]) hA, h⟩
    · cases h
  · obtain ⟨⟨v, c', fp⟩, h1, h2⟩ := bnd_spec h
    exact ⟨v, c', fp, h1, h2⟩
  · rename_i cl hop
    split at h
    · rename_i f hcal
      split at h
      · rename_i g first captured xs hf hxs
        obtain ⟨hfi, h⟩ := cond_some h
        obtain ⟨⟨v, c'⟩, h1, h2⟩ := bnd_spec h
        refine ⟨v, c', ⟨[], [], true⟩, ?_, h2⟩
        unfold evOp
        rw [hop]
        simp only [hcal, hf, hxs, hfi, cond_true, h1]
      · cases h
    · obtain ⟨⟨v, c', fp⟩, h1, h2⟩ := bnd_spec h
      exact ⟨v, c', fp, h1, h2⟩
    · obtain ⟨⟨v, c', fp⟩, h1, h2⟩ := bnd_spec h
      exact ⟨v, c', fp, h1, h2⟩
    · rename_i hn1 hn2 hn3
      split at h
      · rename_i v hv
        exact ⟨v, c, _, evOp_P (fun cl' f he => by rw [hop] at he; cases he; exact hn1 f) hv, h⟩
      · cases h
  · rename_i hn1 hn2 hn3 hn4 hn5 hn6 hn7 hn8 hn9 hn10 hn11 hn12
    split at h
    · rename_i v hv
      exact ⟨v, c, _, evOp_P (fun cl f he => absurd he (hn12 cl)) hv, h⟩
    · cases h
end
theorem evOpsK_spec {P : Program} {N0 : Nat} {C : CallE} {nt : Nat} {ops : Array Oper} {R : Type} {k : Tm → World → Option R} {r : R} : ∀ (l : List Oper) (ts : Tm) (c : World), evOpsK P N0 C nt ops l ts c k = some r → ∃ ts' c', evOps P N0 C nt ops l ts c = some (ts', c') ∧ k ts' c' = some r
  | [], ts, c, h => ⟨ts, c, rfl, h⟩
  | o :: l, ts, c, h => by
    simp only [evOpsK] at h
    obtain ⟨hd, h⟩ := cond_some h
    simp only [evOps, hd, cond_true]
    split at h
    · rename_i hg
      obtain ⟨v, c', fp, h1, h2⟩ := evOpK_spec h
      obtain ⟨ts', c'', h3, h4⟩ := evOpsK_spec l _ _ h2
      refine ⟨ts', c'', ?_, h4⟩
      have hw : wantE ops ts o = some true := by unfold wantE; rw [hg]
      rw [hw]
      simp only [h1]
      exact h3
    · split at h
      · rename_i b hw
        rw [hw]
        rcases test_spec h with ⟨h1, h2⟩ | ⟨h1, h2⟩
        · subst h1
          obtain ⟨v, c', fp, h3, h4⟩ := evOpK_spec h2
          obtain ⟨ts', c'', h5, h6⟩ := evOpsK_spec l _ _ h4
          refine ⟨ts', c'', ?_, h6⟩
          simp only [h3]
          exact h5
        · subst h1
          exact evOpsK_spec l _ _ h2
      · cases h
/-- a region that draws its order -/
def evTrK {R : Type} (P : Program) (N0 : Nat) (C : CallE) (nt : Nat) (ops : Array Oper) : List Oper → Tm → World → (List Rc → Option R) → Option R
  | [], _, _, k => k []
  | o :: r, ts, c, k => bif dstOk nt o.dst then (match wantE ops (prune (o.looksAt ops) ts) o with
    | some b => test b (evOpK P N0 C (prune (o.looksAt ops) ts) c o fun v c' fp => match fp.cl with
        | true => test (cleanB c c') (evTrK P N0 C nt ops r (putT ts o.dst v) c' fun l => k (⟨v, c', fp⟩ :: l)) none
        | false => evTrK P N0 C nt ops r (putT ts o.dst v) c' fun l => k (⟨v, c', fp⟩ :: l))
      (evTrK P N0 C nt ops r (putT ts o.dst undef) c fun l => k (⟨undef, c, fp0⟩ :: l))
    | none => none) else none
theorem evTrK_spec {P : Program} {N0 : Nat} {C : CallE} {nt : Nat} {ops : Array Oper} {R : Type} {r : R} : ∀ (l : List Oper) (ts : Tm) (c : World) (k : List Rc → Option R), evTrK P N0 C nt ops l ts c k = some r → ∃ rs, evTr P N0 C nt ops l ts c = some rs ∧ k rs = some r
  | [], ts, c, k, h => ⟨[], rfl, h⟩
  | o :: l, ts, c, k, h => by
    simp only [evTrK] at h
    obtain ⟨hd, h⟩ := cond_some h
    simp only [evTr, hd, cond_true]
    split at h
    · rename_i b hw
      rw [hw]
      rcases test_spec h with ⟨h1, h2⟩ | ⟨h1, h2⟩
      · subst h1
        obtain ⟨v, c', fp, h3, h4⟩ := evOpK_spec h2
        simp only [h3]
        split at h4
        · rename_i hcl
          rcases test_spec h4 with ⟨h5, h6⟩ | ⟨_, h6⟩
          · rw [h5, Bool.or_true, cond_true]
            obtain ⟨rs, h7, h8⟩ := evTrK_spec l _ _ _ h6
            exact ⟨⟨v, c', fp⟩ :: rs, by rw [h7], h8⟩
          · cases h6
        · rename_i hcl
          rw [hcl]
          simp only [Bool.not_false, Bool.true_or, cond_true]
          obtain ⟨rs, h7, h8⟩ := evTrK_spec l _ _ _ h4
          exact ⟨⟨v, c', fp⟩ :: rs, by rw [h7], h8⟩
      · subst h1
        obtain ⟨rs, h7, h8⟩ := evTrK_spec l _ _ _ h2
        exact ⟨⟨undef, c, fp0⟩ :: rs, by simp only [h7], h8⟩
    · cases h
def evDrawnK {R : Type} (P : Program) (N0 : Nat) (C : CallE) (nt : Nat) (ops : Array Oper) (ts : Tm) (c : World) (k : Tm → World → Option R) : Option R :=
  evTrK P N0 C nt ops ops.toList ts c fun l => test (chk ops (masks ops.toList []) (l.map (fun x => x.fp))) (k (runT ops.toList l ts) (lastC l c)) none
theorem evDrawnK_spec {P : Program} {N0 : Nat} {C : CallE} {nt : Nat} {ops : Array Oper} {ts : Tm} {c : World} {R : Type} {r : R} {k : Tm → World → Option R} (h : evDrawnK P N0 C nt ops ts c k = some r) : ∃ ts' c', evDrawn P N0 C nt ops ts c = some (ts', c') ∧ k ts' c' = some r := by
  unfold evDrawnK at h
  obtain ⟨rs, h1, h2⟩ := evTrK_spec _ _ _ _ h
  rcases test_spec h2 with ⟨h3, h4⟩ | ⟨_, h4⟩
  · refine ⟨_, _, ?_, h4⟩
    unfold evDrawn
    rw [h1]
    simp only [h3, cond_true]
  · cases h4
def evCodeK {R : Type} (X : Cx) : Code → Tm → World → (Ex → Tm → World → Option R) → Option R
  | .skip, ts, c, k => k .normal ts c
  | .label _, ts, c, k => k .normal ts c
  | .region _ ops false, ts, c, k => evOpsK X.P X.N0 X.C X.nt ops ops.toList ts c (k .normal)
  | .region _ ops true, ts, c, k => evDrawnK X.P X.N0 X.C X.nt ops ts c (k .normal)
  | .seq x y, ts, c, k => evCodeK X x ts c fun e ts' c' => match e with
    | .normal => evCodeK X y ts' c' k
    | .exit i => k (.exit i) ts' c'
    | .ret => k .ret ts' c'
  | .cond x t e, ts, c, k => match opd ts x with
    | some (.bool b) => test b (evCodeK X t ts c k) (evCodeK X e ts c k)
    | _ => none
  | .block id b, ts, c, k => evCodeK X b ts c fun e ts' c' => match e with
    | .exit i => bif Nat.beq i id then k .normal ts' c' else k (.exit i) ts' c'
    | .normal => k .normal ts' c'
    | .ret => k .ret ts' c'
  | .scope b, ts, c, k => evCodeK X b ts c k
  | .loop b, ts, c, k => bnd (evLoop (X.keep (firstId b)) (evCode X b) X.L ts c) fun r => k r.1 r.2.1 r.2.2
  | .exit id, ts, c, k => k (.exit id) ts c
  | .ret, ts, c, k => k .ret ts c
  | _, _, _, _ => none
theorem evCodeK_spec {X : Cx} {R : Type} {r : R} : ∀ (code : Code) (ts : Tm) (c : World) (k : Ex → Tm → World → Option R), evCodeK X code ts c k = some r → ∃ e ts' c', evCode X code ts c = some (e, ts', c') ∧ k e ts' c' = some r := by
  intro code
  induction code with
  | skip => intro ts c k h; exact ⟨_, _, _, rfl, h⟩
  | label l => intro ts c k h; exact ⟨_, _, _, rfl, h⟩
  | exit id => intro ts c k h; exact ⟨_, _, _, rfl, h⟩
  | ret => intro ts c k h; exact ⟨_, _, _, rfl, h⟩
  | region id ops draw =>
    intro ts c k h
    cases draw with
    | false =>
      obtain ⟨ts', c', h1, h2⟩ := evOpsK_spec _ _ _ h
      exact ⟨_, _, _, by simp only [evCode, h1], h2⟩
    | true =>
      obtain ⟨ts', c', h1, h2⟩ := evDrawnK_spec h
      exact ⟨_, _, _, by simp only [evCode, h1], h2⟩
  | seq x y ihx ihy =>
    intro ts c k h
    obtain ⟨e, ts', c', h1, h2⟩ := ihx _ _ _ h
    cases e with
    | normal =>
      obtain ⟨e2, ts2, c2, h3, h4⟩ := ihy _ _ _ h2
      exact ⟨e2, ts2, c2, by simp only [evCode, h1]; exact h3, h4⟩
    | exit i => exact ⟨_, _, _, by simp only [evCode, h1], h2⟩
    | ret => exact ⟨_, _, _, by simp only [evCode, h1], h2⟩
  | cond x t f iht ihf =>
    intro ts c k h
    simp only [evCodeK] at h
    split at h
    · rename_i b hb
      rcases test_spec h with ⟨h1, h2⟩ | ⟨h1, h2⟩
      · obtain ⟨e2, ts2, c2, h3, h4⟩ := iht _ _ _ h2
        exact ⟨e2, ts2, c2, by simp only [evCode, hb, h1]; exact h3, h4⟩
      · obtain ⟨e2, ts2, c2, h3, h4⟩ := ihf _ _ _ h2
        exact ⟨e2, ts2, c2, by simp only [evCode, hb, h1]; exact h3, h4⟩
    · cases h
  | block id b ih =>
    intro ts c k h
    obtain ⟨e, ts', c', h1, h2⟩ := ih _ _ _ h
    cases e with
    | normal => exact ⟨_, _, _, by simp only [evCode, h1], h2⟩
    | exit i =>
      simp only at h2
      cases hq : Nat.beq i id with
      | true => rw [hq] at h2; exact ⟨_, _, _, by simp only [evCode, h1, hq, cond_true], h2⟩
      | false => rw [hq] at h2; exact ⟨_, _, _, by simp only [evCode, h1, hq, cond_false], h2⟩
    | ret => exact ⟨_, _, _, by simp only [evCode, h1], h2⟩
  | scope b ih =>
    intro ts c k h
    obtain ⟨e, ts', c', h1, h2⟩ := ih _ _ _ h
    exact ⟨e, ts', c', by simp only [evCode, h1], h2⟩
  | loop b ih =>
    intro ts c k h
    obtain ⟨⟨e, ts', c'⟩, h1, h2⟩ := bnd_spec h
    exact ⟨e, ts', c', by simp only [evCode, h1], h2⟩
  | _ => intro ts c k h; simp [evCodeK] at h
def resK {R : Type} (P : Program) (N0 : Nat) (c : World) (ts : Tm) : List ResultVar → (List Value → Option R) → Option R
  | [], k => k []
  | .tmp t :: r, k => bif known (tget ts t) && !(isTup (tget ts t)) then resK P N0 c ts r (fun l => k (tget ts t :: l)) else none
  | .cell t ty :: r, k => match tget ts t with
    | .pointer (some ⟨b, o, none⟩) => bnd (loadE P N0 (Kof c) ty b o) fun v => resK P N0 c ts r (fun l => k (v :: l))
    | _ => none
theorem resK_spec {P : Program} {N0 : Nat} {c : World} {ts : Tm} {R : Type} {r : R} : ∀ (rs : List ResultVar) (k : List Value → Option R), resK P N0 c ts rs k = some r → ∃ vs, resL P N0 (Kof c) ts rs = some vs ∧ k vs = some r
  | [], k, h => ⟨[], rfl, h⟩
  | .tmp t :: rs, k, h => by
    simp only [resK] at h
    obtain ⟨h1, h2⟩ := cond_some h
    obtain ⟨vs, h3, h4⟩ := resK_spec rs _ h2
    exact ⟨_, by simp only [resL, resE, h1, cond_true, h3], h4⟩
  | .cell t ty :: rs, k, h => by
    simp only [resK] at h
    split at h
    · rename_i b o hb
      obtain ⟨v, h1, h2⟩ := bnd_spec h
      obtain ⟨vs, h3, h4⟩ := resK_spec rs _ h2
      exact ⟨_, by simp only [resL, resE, hb, h1, h3], h4⟩
    · cases h
def retK (P : Program) (N0 : Nat) (rs : List ResultVar) (e : Ex) (ts : Tm) (c : World) : Option (Value × World) := match e with
  | .exit _ => none
  | .normal => resK P N0 c ts rs fun vs => some (resV vs, c)
  | .ret => resK P N0 c ts rs fun vs => some (resV vs, c)
/-- a function's answer, by a walk through its code -/
theorem evFun_K {P : Program} {N0 : Nat} {G : Glob} {n : Nat} {f : FuncId} {F : FD} {args : List Value} {c : World} {r : Value × World} (he : G.ext f = none) (hF : G.code f = some F) (hl : Nat.ble args.length F.nt = true)
    (h : evCodeK ⟨P, N0, evFun P N0 G n, n, F.nt, F.keep⟩ F.body (argT 0 args) c (retK P N0 F.results) = some r) : evFun P N0 G (n + 1) f args c = some r := by
  obtain ⟨e, ts, c', h1, h2⟩ := evCodeK_spec _ _ _ _ h
  simp only [evFun, he, hF, hl, cond_true, h1]
  cases e with
  | exit i => cases h2
  | normal =>
    obtain ⟨vs, h3, h4⟩ := resK_spec _ _ h2
    simp only [h3]
    exact h4
  | ret =>
    obtain ⟨vs, h3, h4⟩ := resK_spec _ _ h2
    simp only [h3]
    exact h4
end Go.Proofs.Ytbonmmpdpahhfaa.Can
