/- The engine, merged part D. No law, no condition. -/
import Derived.Test.YtbonmmpdpahhfaaEnC
import Lean
/- The engine, in the form that is used: what follows is handed along. No law, no condition. -/
namespace Go.Proofs.Ytbonmmpdpahhfaa.Can
open Go.RowKit
set_option linter.unusedVariables false
set_option linter.unusedSimpArgs false

section
variable {R α : Type}
@[irreducible] def bnd (o : Option α) (k : α → Option R) : Option R := match o with
  | some v => k v
  | none => none
@[irreducible] def test (b : Bool) (x y : Option R) : Option R := match b with
  | true => x
  | false => y
theorem bnd_some (v : α) (k : α → Option R) : bnd (some v) k = k v := by unfold bnd; rfl
theorem bnd_spec {o : Option α} {k : α → Option R} {r : R} (h : bnd o k = some r) : ∃ v, o = some v ∧ k v = some r := by
  unfold bnd at h
  cases o with
  | none => cases h
  | some v => exact ⟨v, rfl, h⟩
theorem test_true (x y : Option R) : test true x y = x := by unfold test; rfl
theorem test_false (x y : Option R) : test false x y = y := by unfold test; rfl
theorem test_spec {b : Bool} {x y : Option R} {r : R} (h : test b x y = some r) : (b = true ∧ x = some r) ∨ (b = false ∧ y = some r) := by
  unfold test at h
  cases b
  · exact .inr ⟨rfl, h⟩
  · exact .inl ⟨rfl, h⟩
theorem test_pos {b : Bool} {x y : Option R} (h : b = true) : test b x y = x := by rw [h, test_true]
theorem test_neg {b : Bool} {x y : Option R} (h : b = false) : test b x y = y := by rw [h, test_false]
theorem bnd_eq {o : Option α} {k : α → Option R} {v : α} {r : Option R} (h : o = some v) (h2 : k v = r) : bnd o k = r := by rw [h, bnd_some, h2]
theorem test_t {b : Bool} {x y r : Option R} (h : b = true) (h2 : x = r) : test b x y = r := by rw [h, test_true, h2]
theorem test_f {b : Bool} {x y r : Option R} (h : b = false) (h2 : y = r) : test b x y = r := by rw [h, test_false, h2]
end
/-- a store -/
def stE (P : Program) (N0 : Nat) (c : World) (t : TypeId) (b o : Nat) (v : Value) : Option (World × List Nat) := match P.info? t with
  | some i => bif isTup v || !(Nat.beq v.cells.size i.size) then none else (match putE N0 (Kof c) b o v.cells.toList with
    | some ups => some (upsC c ups, ups.map (fun x => x.1))
    | none => none)
  | none => none
def mk1 (c : World) (cs : List Value) (e : TypeId) : World := c.alloc (.cells cs.toArray e (0, 0))
/-- calls that hand on -/
abbrev CallK (R : Type) := FuncId → List Value → World → (Value → World → Option R) → Option R
def CKok {R : Type} (C : CallE) (CK : CallK R) : Prop := ∀ g xs c k r, CK g xs c k = some r → ∃ v c', C g xs c = some (v, c') ∧ k v c' = some r
def evOpK {R : Type} (P : Program) (N0 : Nat) (C : CallE) (CK : CallK R) (ts : Tm) (c : World) (o : Oper) (k : Value → World → FP → Option R) : Option R :=
  match o.op with
  | .load t x => match opd ts x with
    | some (.pointer (some ⟨b, of, none⟩)) => bnd (loadE P N0 (Kof c) t b of) fun v => k v c ⟨[b], [], false⟩
    | _ => none
  | .store t x y => match opd ts x, opd ts y with
    | some (.pointer (some ⟨b, of, none⟩)), some v => bnd (stE P N0 c t b of v) fun r => k undef r.1 ⟨[b], r.2, false⟩
    | _, _ => none
  | .alloc e => match evA P ts c.heap.size o with
    | some (cs, e, v) => k v (mk1 c cs e) fp0
    | none => none
  | .box e _ => match evA P ts c.heap.size o with
    | some (cs, e, v) => k v (mk1 c cs e) fp0
    | none => none
  | .indexAddr t x i => match P.underlying t, opd ts x, opd ts i with
    | some (.slice e), some (.slice (some ⟨b, of, none⟩) l _), some (.int _ n) => match P.info? e with
      | some ie => test (decide (0 ≤ n) && decide (n < l)) (k (.pointer (some ⟨b, of + n.toNat * ie.size, none⟩)) c fp0) none
      | none => none
    | some (.array m e), some (.pointer (some ⟨b, of, none⟩)), some (.int _ n) => match P.info? e with
      | some ie => test (decide (0 ≤ n) && decide (n < m)) (k (.pointer (some ⟨b, of + n.toNat * ie.size, none⟩)) c fp0) none
      | none => none
    | _, _, _ => none
  | .index _ _ _ => bnd (evP P ts o) fun v => k v c fp0
  | .pick b x y => match opd ts b with
    | some (.bool t) => test t (bnd (opd ts x) fun v => k v c fp0) (bnd (opd ts y) fun v => k v c fp0)
    | _ => none
  | .slice _ _ _ _ _ => bnd (evOp P N0 C ts c o) fun r => k r.1 r.2.1 r.2.2
  | .makeSlice _ _ _ => bnd (evOp P N0 C ts c o) fun r => k r.1 r.2.1 r.2.2
  | .buildSlice _ _ _ => match evA P ts c.heap.size o with
    | some (cs, e, v) => k v (mk1 c cs e) fp0
    | none => none
  | .convert _ _ _ => bnd (evOp P N0 C ts c o) fun r => k r.1 r.2.1 r.2.2
  | .call cl => match cl.callee with
    | .value f => match opd ts f, vals ts cl.args.toList with
      | some (.func (.func g) first captured), some xs => bif first.toList.isEmpty then CK g (xs ++ captured.toList) c (fun v c' => k v c' ⟨[], [], true⟩) else none
      | _, _ => none
    | .builtin .append => bnd (evOp P N0 C ts c o) fun r => k r.1 r.2.1 r.2.2
    | .builtin .copy => bnd (evOp P N0 C ts c o) fun r => k r.1 r.2.1 r.2.2
    | _ => match evP P ts o with
      | some v => k v c fp0
      | none => none
  | _ => match evP P ts o with
    | some v => k v c fp0
    | none => none
def evOpsK {R : Type} (P : Program) (N0 : Nat) (C : CallE) (CK : CallK R) (nt : Nat) (ops : Array Oper) : List Oper → Tm → World → (Tm → World → Option R) → Option R
  | [], ts, c, k => k ts c
  | o :: r, ts, c, k => bif dstOk nt o.dst then (match o.guard with
    | none => evOpK P N0 C CK ts c o fun v c' _ => evOpsK P N0 C CK nt ops r (putT ts o.dst v) c' k
    | some _ => match wantE ops ts o with
      | some b => test b (evOpK P N0 C CK ts c o fun v c' _ => evOpsK P N0 C CK nt ops r (putT ts o.dst v) c' k) (evOpsK P N0 C CK nt ops r (putT ts o.dst undef) c k)
      | none => none) else none
section
variable {P : Program} {N0 : Nat} {C : CallE} {ts : Tm} {c : World} {o : Oper} {R : Type} {CK : CallK R} {k : Value → World → FP → Option R} {r : R}
theorem evP_op {v : Value} (h : evP P ts o = some v) : evD P N0 (Kof c) ts c.heap.size o = some ⟨v, [], none, []⟩ := by unfold evD; rw [h]
theorem evOp_of_D (hno : ∀ cl f, o.op = .call cl → cl.callee ≠ .value f) : evOp P N0 C ts c o = evOpD P N0 ts c o := by
  unfold evOp
  split
  · rename_i cl hop
    split
    · rename_i f hf; exact absurd hf (hno cl f hop)
    · rfl
  · rfl
theorem evOp_P (hno : ∀ cl f, o.op = .call cl → cl.callee ≠ .value f) {v : Value} (h : evP P ts o = some v) : evOp P N0 C ts c o = some (v, c, fp0) := by
  rw [evOp_of_D hno]
  unfold evOpD
  rw [evP_op h]
  rfl
theorem evOp_A (hno : ∀ cl f, o.op = .call cl → cl.callee ≠ .value f) (hP : evP P ts o = none) {cs : List Value} {e : TypeId} {v : Value} (h : evA P ts c.heap.size o = some (cs, e, v)) : evOp P N0 C ts c o = some (v, mk1 c cs e, fp0) := by
  rw [evOp_of_D hno]
  unfold evOpD evD
  rw [hP, evA_evL h]
  simp only [h]
  rfl
theorem evOpK_spec (hCK : CKok C CK) (h : evOpK P N0 C CK ts c o k = some r) : ∃ v c' fp, evOp P N0 C ts c o = some (v, c', fp) ∧ k v c' fp = some r := by
  unfold evOpK at h
  split at h
  · rename_i t x hop
    have hno : ∀ cl f, o.op = .call cl → cl.callee ≠ .value f := fun cl f he => by rw [hop] at he; cases he
    split at h
    · rename_i b of hx
      obtain ⟨v, h1, h2⟩ := bnd_spec h
      refine ⟨v, c, ⟨[b], [], false⟩, ?_, h2⟩
      rw [evOp_of_D hno]
      have hP : evP P ts o = none := by unfold evP; rw [hop]
      have hL : evL P N0 (Kof c) ts o = some (v, [b]) := by unfold evL; rw [hop]; simp only [hx, h1]
      unfold evOpD evD
      rw [hP, hL]
      rfl
    · cases h
  · rename_i t x y hop
    have hno : ∀ cl f, o.op = .call cl → cl.callee ≠ .value f := fun cl f he => by rw [hop] at he; cases he
    split at h
    · rename_i b of v hx hy
      obtain ⟨⟨c', wl⟩, h1, h2⟩ := bnd_spec h
      unfold stE at h1
      split at h1
      · rename_i i hi
        obtain ⟨h3, h4⟩ := cond_none h1
        split at h4
        · rename_i ups hups
          simp only [Option.some.injEq, Prod.mk.injEq] at h4
          obtain ⟨rfl, rfl⟩ := h4
          refine ⟨undef, upsC c ups, ⟨[b], ups.map (fun x => x.1), false⟩, ?_, h2⟩
          rw [evOp_of_D hno]
          have hP : evP P ts o = none := by unfold evP; rw [hop]
          have hL : evL P N0 (Kof c) ts o = none := by unfold evL; rw [hop]
          have hA : evA P ts c.heap.size o = none := by unfold evA; rw [hop]
          have hW : evW P N0 (Kof c) ts c.heap.size o = some ⟨undef, ups, none, [b]⟩ := by
            unfold evW; rw [hop]
            simp only [hi, hx, hy, h3, cond_false, hups]
          unfold evOpD evD
          rw [hP, hL, hA]
          simp only [hW]
          rfl
        · cases h4
      · cases h1
    · cases h
  · rename_i e hop
    have hno : ∀ cl f, o.op = .call cl → cl.callee ≠ .value f := fun cl f he => by rw [hop] at he; cases he
    split at h
    · rename_i cs e1 v hA
      exact ⟨v, _, _, evOp_A hno (by unfold evP; rw [hop]) hA, h⟩
    · cases h
  · rename_i e x hop
    have hno : ∀ cl f, o.op = .call cl → cl.callee ≠ .value f := fun cl f he => by rw [hop] at he; cases he
    split at h
    · rename_i cs e1 v hA
      exact ⟨v, _, _, evOp_A hno (by unfold evP; rw [hop]) hA, h⟩
    · cases h
  · rename_i t x i hop
    have hno : ∀ cl f, o.op = .call cl → cl.callee ≠ .value f := fun cl f he => by rw [hop] at he; cases he
    split at h
    · rename_i e b of l cp kk n hd hx hi
      split at h
      · rename_i ie hie
        rcases test_spec h with ⟨h1, h2⟩ | ⟨_, h2⟩
        · refine ⟨_, c, _, evOp_P hno ?_, h2⟩
          unfold evP; rw [hop]
          simp only [hx, hi, indexAddrE, hd, hie, h1, cond_true]
        · cases h2
      · cases h
    · rename_i m e b of kk n hd hx hi
      split at h
      · rename_i ie hie
        rcases test_spec h with ⟨h1, h2⟩ | ⟨_, h2⟩
        · refine ⟨_, c, _, evOp_P hno ?_, h2⟩
          unfold evP; rw [hop]
          simp only [hx, hi, indexAddrE, hd, hie, h1, cond_true]
        · cases h2
      · cases h
    · cases h
  · rename_i hop
    have hno : ∀ cl f, o.op = .call cl → cl.callee ≠ .value f := fun cl f he => by rw [hop] at he; cases he
    obtain ⟨v, h1, h2⟩ := bnd_spec h
    exact ⟨v, c, _, evOp_P hno h1, h2⟩
  · rename_i b x y hop
    have hno : ∀ cl f, o.op = .call cl → cl.callee ≠ .value f := fun cl f he => by rw [hop] at he; cases he
    split at h
    · rename_i t hb
      rcases test_spec h with ⟨h1, h2⟩ | ⟨h1, h2⟩
      · obtain ⟨v, h3, h4⟩ := bnd_spec h2
        refine ⟨v, c, _, evOp_P hno ?_, h4⟩
        unfold evP; rw [hop]
        simp only [hb, h1, cond_true, h3]
      · obtain ⟨v, h3, h4⟩ := bnd_spec h2
        refine ⟨v, c, _, evOp_P hno ?_, h4⟩
        unfold evP; rw [hop]
        simp only [hb, h1, cond_false, h3]
    · cases h
  · obtain ⟨⟨v, c', fp⟩, h1, h2⟩ := bnd_spec h
    exact ⟨v, c', fp, h1, h2⟩
  · obtain ⟨⟨v, c', fp⟩, h1, h2⟩ := bnd_spec h
    exact ⟨v, c', fp, h1, h2⟩
  · rename_i hop
    have hno : ∀ cl f, o.op = .call cl → cl.callee ≠ .value f := fun cl f he => by rw [hop] at he; cases he
    split at h
    · rename_i cs e1 v hA
      exact ⟨v, _, _, evOp_A hno (by unfold evP; rw [hop]) hA, h⟩
    · cases h
  · obtain ⟨⟨v, c', fp⟩, h1, h2⟩ := bnd_spec h
    exact ⟨v, c', fp, h1, h2⟩
  · rename_i cl hop
    split at h
    · rename_i f hcal
      split at h
      · rename_i g first captured xs hf hxs
        obtain ⟨hfi, h⟩ := cond_some h
        obtain ⟨v, c', h1, h2⟩ := hCK _ _ _ _ _ h
        refine ⟨v, c', ⟨[], [], true⟩, ?_, h2⟩
        unfold evOp
        rw [hop]
        simp only [hcal, hf, hxs, hfi, cond_true, h1]
      · cases h
    · obtain ⟨⟨v, c', fp⟩, h1, h2⟩ := bnd_spec h
      exact ⟨v, c', fp, h1, h2⟩
    · obtain ⟨⟨v, c', fp⟩, h1, h2⟩ := bnd_spec h
      exact ⟨v, c', fp, h1, h2⟩
    · rename_i hn1 hn2 hn3
      split at h
      · rename_i v hv
        exact ⟨v, c, _, evOp_P (fun cl' f he => by rw [hop] at he; cases he; exact hn1 f) hv, h⟩
      · cases h
  · rename_i hn1 hn2 hn3 hn4 hn5 hn6 hn7 hn8 hn9 hn10 hn11 hn12
    split at h
    · rename_i v hv
      exact ⟨v, c, _, evOp_P (fun cl f he => absurd he (hn12 cl)) hv, h⟩
    · cases h
end
theorem evOpsK_spec {P : Program} {N0 : Nat} {C : CallE} {nt : Nat} {ops : Array Oper} {R : Type} {CK : CallK R} (hCK : CKok C CK) {k : Tm → World → Option R} {r : R} : ∀ (l : List Oper) (ts : Tm) (c : World), evOpsK P N0 C CK nt ops l ts c k = some r → ∃ ts' c', evOps P N0 C nt ops l ts c = some (ts', c') ∧ k ts' c' = some r
  | [], ts, c, h => ⟨ts, c, rfl, h⟩
  | o :: l, ts, c, h => by
    simp only [evOpsK] at h
    obtain ⟨hd, h⟩ := cond_some h
    simp only [evOps, hd, cond_true]
    split at h
    · rename_i hg
      obtain ⟨v, c', fp, h1, h2⟩ := evOpK_spec hCK h
      obtain ⟨ts', c'', h3, h4⟩ := evOpsK_spec hCK l _ _ h2
      refine ⟨ts', c'', ?_, h4⟩
      have hw : wantE ops ts o = some true := by unfold wantE; rw [hg]
      rw [hw]
      simp only [h1]
      exact h3
    · split at h
      · rename_i b hw
        rw [hw]
        rcases test_spec h with ⟨h1, h2⟩ | ⟨h1, h2⟩
        · subst h1
          obtain ⟨v, c', fp, h3, h4⟩ := evOpK_spec hCK h2
          obtain ⟨ts', c'', h5, h6⟩ := evOpsK_spec hCK l _ _ h4
          refine ⟨ts', c'', ?_, h6⟩
          simp only [h3]
          exact h5
        · subst h1
          exact evOpsK_spec hCK l _ _ h2
      · cases h
/-- a region that draws its order -/
def evTrK {R : Type} (P : Program) (N0 : Nat) (C : CallE) (CK : CallK R) (nt : Nat) (ops : Array Oper) : List Oper → Tm → World → (List Rc → Option R) → Option R
  | [], _, _, k => k []
  | o :: r, ts, c, k => bif dstOk nt o.dst then (match wantE ops (prune (o.looksAt ops) ts) o with
    | some b => test b (evOpK P N0 C CK (prune (o.looksAt ops) ts) c o fun v c' fp => match fp.cl with
        | true => test (cleanB c c') (evTrK P N0 C CK nt ops r (putT ts o.dst v) c' fun l => k (⟨v, c', fp⟩ :: l)) none
        | false => evTrK P N0 C CK nt ops r (putT ts o.dst v) c' fun l => k (⟨v, c', fp⟩ :: l))
      (evTrK P N0 C CK nt ops r (putT ts o.dst undef) c fun l => k (⟨undef, c, fp0⟩ :: l))
    | none => none) else none
theorem evTrK_spec {P : Program} {N0 : Nat} {C : CallE} {nt : Nat} {ops : Array Oper} {R : Type} {CK : CallK R} (hCK : CKok C CK) {r : R} : ∀ (l : List Oper) (ts : Tm) (c : World) (k : List Rc → Option R), evTrK P N0 C CK nt ops l ts c k = some r → ∃ rs, evTr P N0 C nt ops l ts c = some rs ∧ k rs = some r
  | [], ts, c, k, h => ⟨[], rfl, h⟩
  | o :: l, ts, c, k, h => by
    simp only [evTrK] at h
    obtain ⟨hd, h⟩ := cond_some h
    simp only [evTr, hd, cond_true]
    split at h
    · rename_i b hw
      rw [hw]
      rcases test_spec h with ⟨h1, h2⟩ | ⟨h1, h2⟩
      · subst h1
        obtain ⟨v, c', fp, h3, h4⟩ := evOpK_spec hCK h2
        simp only [h3]
        split at h4
        · rename_i hcl
          rcases test_spec h4 with ⟨h5, h6⟩ | ⟨_, h6⟩
          · rw [h5, Bool.or_true, cond_true]
            obtain ⟨rs, h7, h8⟩ := evTrK_spec hCK l _ _ _ h6
            exact ⟨⟨v, c', fp⟩ :: rs, by rw [h7], h8⟩
          · cases h6
        · rename_i hcl
          rw [hcl]
          simp only [Bool.not_false, Bool.true_or, cond_true]
          obtain ⟨rs, h7, h8⟩ := evTrK_spec hCK l _ _ _ h4
          exact ⟨⟨v, c', fp⟩ :: rs, by rw [h7], h8⟩
      · subst h1
        obtain ⟨rs, h7, h8⟩ := evTrK_spec hCK l _ _ _ h2
        exact ⟨⟨undef, c, fp0⟩ :: rs, by simp only [h7], h8⟩
    · cases h
def evDrawnK {R : Type} (P : Program) (N0 : Nat) (C : CallE) (CK : CallK R) (nt : Nat) (ops : Array Oper) (ts : Tm) (c : World) (k : Tm → World → Option R) : Option R :=
  evTrK P N0 C CK nt ops ops.toList ts c fun l => test (chk ops (masks ops.toList []) (l.map (fun x => x.fp))) (k (runT ops.toList l ts) (lastC l c)) none
theorem evDrawnK_spec {P : Program} {N0 : Nat} {C : CallE} {nt : Nat} {ops : Array Oper} {ts : Tm} {c : World} {R : Type} {CK : CallK R} (hCK : CKok C CK) {r : R} {k : Tm → World → Option R} (h : evDrawnK P N0 C CK nt ops ts c k = some r) : ∃ ts' c', evDrawn P N0 C nt ops ts c = some (ts', c') ∧ k ts' c' = some r := by
  unfold evDrawnK at h
  obtain ⟨rs, h1, h2⟩ := evTrK_spec hCK _ _ _ _ h
  rcases test_spec h2 with ⟨h3, h4⟩ | ⟨_, h4⟩
  · refine ⟨_, _, ?_, h4⟩
    unfold evDrawn
    rw [h1]
    simp only [h3, cond_true]
  · cases h4
def evLoopK {R : Type} (ks : List Nat) (f : Tm → World → (Ex → Tm → World → Option R) → Option R) : Nat → Tm → World → (Ex → Tm → World → Option R) → Option R
  | 0, _, _, _ => none
  | n + 1, ts, c, k => f (prune ks ts) c fun e ts' c' => match e with
    | .normal => evLoopK ks f n ts' c' k
    | .exit i => k (.exit i) ts' c'
    | .ret => k .ret ts' c'
theorem evLoopK_spec {R : Type} {ks : List Nat} {f : Tm → World → (Ex → Tm → World → Option R) → Option R} {g : Tm → World → Option (Ex × Tm × World)}
    (hf : ∀ ts c k r, f ts c k = some r → ∃ e ts' c', g ts c = some (e, ts', c') ∧ k e ts' c' = some r) : ∀ (n : Nat) (ts : Tm) (c : World) (k : Ex → Tm → World → Option R) (r : R), evLoopK ks f n ts c k = some r →
    ∃ e ts' c', evLoop ks g n ts c = some (e, ts', c') ∧ k e ts' c' = some r
  | 0, ts, c, k, r, h => by cases h
  | n + 1, ts, c, k, r, h => by
    simp only [evLoopK] at h
    obtain ⟨e, ts', c', h1, h2⟩ := hf _ _ _ _ h
    simp only [evLoop, h1]
    cases e with
    | normal => exact evLoopK_spec hf n _ _ _ _ h2
    | exit i => exact ⟨_, _, _, rfl, h2⟩
    | ret => exact ⟨_, _, _, rfl, h2⟩
def evCodeK {R : Type} (X : Cx) (CK : CallK R) : Code → Tm → World → (Ex → Tm → World → Option R) → Option R
  | .skip, ts, c, k => k .normal ts c
  | .label _, ts, c, k => k .normal ts c
  | .region _ ops false, ts, c, k => evOpsK X.P X.N0 X.C CK X.nt ops ops.toList ts c (k .normal)
  | .region _ ops true, ts, c, k => evDrawnK X.P X.N0 X.C CK X.nt ops ts c (k .normal)
  | .seq x y, ts, c, k => evCodeK X CK x ts c fun e ts' c' => match e with
    | .normal => evCodeK X CK y ts' c' k
    | .exit i => k (.exit i) ts' c'
    | .ret => k .ret ts' c'
  | .cond x t e, ts, c, k => match opd ts x with
    | some (.bool b) => test b (evCodeK X CK t ts c k) (evCodeK X CK e ts c k)
    | _ => none
  | .block id b, ts, c, k => evCodeK X CK b ts c fun e ts' c' => match e with
    | .exit i => bif Nat.beq i id then k .normal ts' c' else k (.exit i) ts' c'
    | .normal => k .normal ts' c'
    | .ret => k .ret ts' c'
  | .scope b, ts, c, k => evCodeK X CK b ts c k
  | .loop b, ts, c, k => evLoopK (X.keep (firstId b)) (evCodeK X CK b) X.L ts c k
  | .exit id, ts, c, k => k (.exit id) ts c
  | .ret, ts, c, k => k .ret ts c
  | _, _, _, _ => none
theorem evCodeK_spec {X : Cx} {R : Type} {CK : CallK R} (hCK : CKok X.C CK) : ∀ (code : Code) (ts : Tm) (c : World) (k : Ex → Tm → World → Option R) (r : R), evCodeK X CK code ts c k = some r → ∃ e ts' c', evCode X code ts c = some (e, ts', c') ∧ k e ts' c' = some r := by
  intro code
  induction code with
  | skip => intro ts c k r h; exact ⟨_, _, _, rfl, h⟩
  | label l => intro ts c k r h; exact ⟨_, _, _, rfl, h⟩
  | exit id => intro ts c k r h; exact ⟨_, _, _, rfl, h⟩
  | ret => intro ts c k r h; exact ⟨_, _, _, rfl, h⟩
  | region id ops draw =>
    intro ts c k r h
    cases draw with
    | false =>
      obtain ⟨ts', c', h1, h2⟩ := evOpsK_spec hCK _ _ _ h
      exact ⟨_, _, _, by simp only [evCode, h1], h2⟩
    | true =>
      obtain ⟨ts', c', h1, h2⟩ := evDrawnK_spec hCK h
      exact ⟨_, _, _, by simp only [evCode, h1], h2⟩
  | seq x y ihx ihy =>
    intro ts c k r h
    obtain ⟨e, ts', c', h1, h2⟩ := ihx _ _ _ _ h
    cases e with
    | normal =>
      obtain ⟨e2, ts2, c2, h3, h4⟩ := ihy _ _ _ _ h2
      exact ⟨e2, ts2, c2, by simp only [evCode, h1]; exact h3, h4⟩
    | exit i => exact ⟨_, _, _, by simp only [evCode, h1], h2⟩
    | ret => exact ⟨_, _, _, by simp only [evCode, h1], h2⟩
  | cond x t f iht ihf =>
    intro ts c k r h
    simp only [evCodeK] at h
    split at h
    · rename_i b hb
      rcases test_spec h with ⟨h1, h2⟩ | ⟨h1, h2⟩
      · obtain ⟨e2, ts2, c2, h3, h4⟩ := iht _ _ _ _ h2
        exact ⟨e2, ts2, c2, by simp only [evCode, hb, h1]; exact h3, h4⟩
      · obtain ⟨e2, ts2, c2, h3, h4⟩ := ihf _ _ _ _ h2
        exact ⟨e2, ts2, c2, by simp only [evCode, hb, h1]; exact h3, h4⟩
    · cases h
  | block id b ih =>
    intro ts c k r h
    obtain ⟨e, ts', c', h1, h2⟩ := ih _ _ _ _ h
    cases e with
    | normal => exact ⟨_, _, _, by simp only [evCode, h1], h2⟩
    | exit i =>
      simp only at h2
      cases hq : Nat.beq i id with
      | true => rw [hq] at h2; exact ⟨_, _, _, by simp only [evCode, h1, hq, cond_true], h2⟩
      | false => rw [hq] at h2; exact ⟨_, _, _, by simp only [evCode, h1, hq, cond_false], h2⟩
    | ret => exact ⟨_, _, _, by simp only [evCode, h1], h2⟩
  | scope b ih =>
    intro ts c k r h
    obtain ⟨e, ts', c', h1, h2⟩ := ih _ _ _ _ h
    exact ⟨e, ts', c', by simp only [evCode, h1], h2⟩
  | loop b ih =>
    intro ts c k r h
    simp only [evCodeK] at h
    obtain ⟨e, ts', c', h1, h2⟩ := evLoopK_spec ih _ _ _ _ _ h
    exact ⟨e, ts', c', by simp only [evCode, h1], h2⟩
  | _ => intro ts c k r h; simp [evCodeK] at h
def resK {R : Type} (P : Program) (N0 : Nat) (c : World) (ts : Tm) : List ResultVar → (List Value → Option R) → Option R
  | [], k => k []
  | .tmp t :: r, k => bif known (tget ts t) && !(isTup (tget ts t)) then resK P N0 c ts r (fun l => k (tget ts t :: l)) else none
  | .cell t ty :: r, k => match tget ts t with
    | .pointer (some ⟨b, o, none⟩) => bnd (loadE P N0 (Kof c) ty b o) fun v => resK P N0 c ts r (fun l => k (v :: l))
    | _ => none
theorem resK_spec {P : Program} {N0 : Nat} {c : World} {ts : Tm} {R : Type} {r : R} : ∀ (rs : List ResultVar) (k : List Value → Option R), resK P N0 c ts rs k = some r → ∃ vs, resL P N0 (Kof c) ts rs = some vs ∧ k vs = some r
  | [], k, h => ⟨[], rfl, h⟩
  | .tmp t :: rs, k, h => by
    simp only [resK] at h
    obtain ⟨h1, h2⟩ := cond_some h
    obtain ⟨vs, h3, h4⟩ := resK_spec rs _ h2
    exact ⟨_, by simp only [resL, resE, h1, cond_true, h3], h4⟩
  | .cell t ty :: rs, k, h => by
    simp only [resK] at h
    split at h
    · rename_i b o hb
      obtain ⟨v, h1, h2⟩ := bnd_spec h
      obtain ⟨vs, h3, h4⟩ := resK_spec rs _ h2
      exact ⟨_, by simp only [resL, resE, hb, h1, h3], h4⟩
    · cases h
/-- what follows a function's answer -/
def retK {R : Type} (P : Program) (N0 : Nat) (rs : List ResultVar) (k : Value → World → Option R) (e : Ex) (ts : Tm) (c : World) : Option R := match e with
  | .exit _ => none
  | .normal => resK P N0 c ts rs fun vs => k (resV vs) c
  | .ret => resK P N0 c ts rs fun vs => k (resV vs) c
/-- a function, handing on -/
def evFunK {R : Type} (P : Program) (N0 : Nat) (G : Glob) : Nat → CallK R
  | 0 => fun _ _ _ _ => none
  | n + 1 => fun f args c k => match G.ext f with
    | some F => bnd (F args c) fun r => k r.1 r.2
    | none => match G.code f with
      | some F => bif Nat.ble args.length F.nt then evCodeK ⟨P, N0, evFun P N0 G n, n, F.nt, F.keep⟩ (evFunK P N0 G n) F.body (argT 0 args) c (retK P N0 F.results k) else none
      | none => none
theorem evFunK_ok {R : Type} {P : Program} {N0 : Nat} {G : Glob} : ∀ n, CKok (evFun P N0 G n) (evFunK (R := R) P N0 G n)
  | 0 => fun g xs c k r h => by cases h
  | n + 1 => fun f args c k r h => by
    simp only [evFunK] at h
    simp only [evFun]
    split at h
    · rename_i F hF
      obtain ⟨⟨v, c'⟩, h1, h2⟩ := bnd_spec h
      exact ⟨v, c', by simp only [hF]; exact h1, h2⟩
    · rename_i hF
      split at h
      · rename_i F hG
        obtain ⟨hl, h⟩ := cond_some h
        simp only [hF, hG, hl, cond_true]
        obtain ⟨e, ts, c', h1, h2⟩ := evCodeK_spec (X := ⟨P, N0, evFun P N0 G n, n, _, _⟩) (evFunK_ok n) _ _ _ _ _ h
        simp only [h1]
        cases e with
        | exit i => cases h2
        | normal =>
          obtain ⟨vs, h3, h4⟩ := resK_spec _ _ h2
          simp only [h3]
          exact ⟨_, _, rfl, h4⟩
        | ret =>
          obtain ⟨vs, h3, h4⟩ := resK_spec _ _ h2
          simp only [h3]
          exact ⟨_, _, rfl, h4⟩
      · cases h
/-- a call's answer, by a run that hands on -/
theorem evFun_of_K {R : Type} {P : Program} {N0 : Nat} {G : Glob} {n : Nat} {f : FuncId} {args : List Value} {c : World} {k : Value → World → Option R} {r : R} (h : evFunK P N0 G n f args c k = some r) :
    ∃ v c', evFun P N0 G n f args c = some (v, c') ∧ k v c' = some r := evFunK_ok n _ _ _ _ _ h
end Go.Proofs.Ytbonmmpdpahhfaa.Can

/- The engine: calls without addresses are run once, in the empty world. No law, no condition. -/
namespace Go.Proofs.Ytbonmmpdpahhfaa.Can
open Go.RowKit
set_option linter.unusedVariables false
set_option linter.unusedSimpArgs false
def W0 : World := { heap := #[], tape := fun _ _ => 0, drawn := 0, os := default, output := #[] }
def emp (w : World) : World := { w with heap := #[] }
theorem rel_emp (P : Program) (c w : World) (hc : c.heap.size = 0) : Rel P 0 (emp w) (fun _ => none) c w := by
  refine ⟨⟨rfl, ⟨rfl, rfl, rfl, by show 0 ≤ _; omega, fun k hk => by omega⟩, fun b hb => by omega, fun b hb => by omega, ?_, ?_, ?_⟩, fun b hb => absurd rfl hb, by omega⟩
  · intro b B O n X sz hb h; cases h
  · intro b h; cases h
  · intro b b' B O n X sz O' n' X' sz' hb hb' h; cases h
theorem st_below {c c' w w' : World} {ρ' : Rho} {P : Program} (hc : c.heap.size = 0) (R : Rel P 0 (emp w) ρ' c' w') (h : St (fun _ => none) c w ρ' c' w') : Below w.heap.size w w' :=
  ⟨R.k.wb.os, R.k.wb.tape, R.k.wb.output, h.ws, fun k hk => by
    rcases h.frame k hk with h | ⟨b, hb, _⟩
    · exact h
    · omega⟩
theorem f2_closed {N0 : Nat} {ρ : Rho} : ∀ {xs : List Value}, xs.all closed = true → F2 (VR N0 ρ) xs xs
  | [], _ => .nil
  | x :: xs, h => by
    simp only [List.all_cons, Bool.and_eq_true] at h
    exact .cons (.one (.of_closed h.1)) (f2_closed h.2)
theorem calls_of_empty {P : Program} {G : Glob} (g : ∀ w0 : World, w0.heap = #[] → GOk P 0 w0 G) {n : Nat} {f : FuncId} {args : List Value} {v : Value} {c c' : World} (hc : c.heap.size = 0)
    (h : evFun P 0 G n f args c = some (v, c')) (hargs : args.all closed = true) (hv : closed v = true) (w : World) : Calls P f args.toArray w fun e w' => e = .returned v ∧ Below w.heap.size w w' := by
  obtain ⟨_, hcl⟩ := evFun_sim (g (emp w) rfl) n f args c v c' h
  refine Calls.mono (hcl _ w args (rel_emp P c w hc) (f2_closed hargs)) ?_
  rintro e w' ⟨v', ρ', rfl, h1, h2, h3⟩
  exact ⟨by rw [h2.closed_eq hv], st_below hc h1 h3⟩
/-- the part of 'GOk' that asks nothing of the world -/
theorem gok_of (P : Program) (G : Glob) (N0 : Nat) (w0 : World) (hm : P.follows .mixedOrders = true) (he : ∀ f, G.ext f = none)
    (hc : ∀ f F, G.code f = some F → (∃ fn, P.funcs[f]? = some fn ∧ fn.body = some F.body ∧ fn.ntmps = F.nt ∧ fn.results = F.results.toArray) ∧ ∀ (xs : Array Value) (W : World), (callFunc f xs).run P W = .ok (.enter f xs) W) : GOk P N0 w0 G :=
  ⟨hm, hc, fun f args c v c' h => by simp only [he f] at h; cases h⟩
/-- all the functions of the program, no contract -/
def globOf (P : Program) (keep : Nat → List Nat) : Glob where
  ext := fun _ => none
  code := fun f => match P.funcs[f]? with
    | some fn => match fn.body with
      | some b => some ⟨b, fn.ntmps, fn.results.toList, keep⟩
      | none => none
    | none => none
def noNum (P : Program) : Bool := P.funcs.toList.all fun fn => !(fn.name == "runtime.NumGoroutine")
theorem code_of {P : Program} (hn : noNum P = true) {keep : Nat → List Nat} (f : FuncId) (F : FD) (h : (globOf P keep).code f = some F) :
    (∃ fn, P.funcs[f]? = some fn ∧ fn.body = some F.body ∧ fn.ntmps = F.nt ∧ fn.results = F.results.toArray) ∧ ∀ (xs : Array Value) (W : World), (callFunc f xs).run P W = .ok (.enter f xs) W := by
  simp only [globOf] at h
  cases hf : P.funcs[f]? with
  | none => rw [hf] at h; cases h
  | some fn =>
    rw [hf] at h
    simp only at h
    cases hb : fn.body with
    | none => rw [hb] at h; cases h
    | some b =>
      rw [hb] at h
      simp only [Option.some.injEq] at h
      subst h
      have hm : fn ∈ P.funcs.toList := by
        obtain ⟨h1, h2⟩ := Array.getElem?_eq_some_iff.1 hf
        rw [← h2]
        exact Array.getElem_mem_toList _
      have hq := List.all_eq_true.1 hn fn hm
      have hq : (fn.name == "runtime.NumGoroutine") = false := by simpa using hq
      refine ⟨⟨fn, rfl, hb, rfl, by simp⟩, fun xs W => ?_⟩
      simp [callFunc, go_sem, hf, hb]
      simpa using hq
theorem gok_glob {P : Program} (hm : P.follows .mixedOrders = true) (hn : noNum P = true) (keep : Nat → List Nat) (N0 : Nat) (w0 : World) : GOk P N0 w0 (globOf P keep) :=
  gok_of P _ N0 w0 hm (fun _ => rfl) (code_of hn)
end Go.Proofs.Ytbonmmpdpahhfaa.Can

/- The engine: calls that never read the slices that they are handed; what is known of a canonical world. No law, no condition. -/
namespace Go.Proofs.Ytbonmmpdpahhfaa.Can
open Go.RowKit
set_option linter.unusedVariables false
set_option linter.unusedSimpArgs false
/-- a world with one block that nobody may read: it stands for all that the arguments point to -/
def W1 : World := { W0 with heap := #[.cells #[] 0 (0, 1)] }
def rho1 : Rho := fun b => if b = 0 then some .dead else none
theorem rel_dead (P : Program) (w : World) : Rel P 0 (emp w) rho1 W1 w := by
  refine ⟨⟨rfl, ⟨rfl, rfl, rfl, by show 0 ≤ _; omega, fun k hk => by omega⟩, fun b hb => by omega, fun b hb => by omega, ?_, ?_, ?_⟩, fun b hb => ?_, by omega⟩
  · intro b B O n X sz hb h; unfold rho1 at h; split at h <;> cases h
  · intro b h
    unfold rho1 at h
    split at h
    · rename_i hb; subst hb; exact ⟨0, 0, rfl⟩
    · cases h
  · intro b b' B O n X sz O' n' X' sz' hb hb' h; unfold rho1 at h; split at h <;> cases h
  · unfold rho1 at hb
    split at hb
    · rename_i h0; subst h0; show 0 < 1; omega
    · exact absurd rfl hb
/-- a slice that is not read -/
theorem dead_slice {a : Addr} (h : a.spot = none) (l cp cp' : Nat) : VR 0 rho1 (.slice (some ⟨0, 0, none⟩) l cp) (.slice (some a) l cp') :=
  .one (.one (.sl ⟨rfl, h, .inl rfl⟩))
theorem calls_of_dead {P : Program} {G : Glob} (g : ∀ w0 : World, w0.heap = #[] → GOk P 0 w0 G) {n : Nat} {f : FuncId} {args args' : List Value} {v : Value} {c' : World}
    (h : evFun P 0 G n f args W1 = some (v, c')) (hargs : F2 (VR 0 rho1) args args') (hv : closed v = true) (w : World) : Calls P f args'.toArray w fun e w' => e = .returned v ∧ Below w.heap.size w w' := by
  obtain ⟨_, hcl⟩ := evFun_sim (g (emp w) rfl) n f args W1 v c' h
  refine Calls.mono (hcl _ w args' (rel_dead P w) hargs) ?_
  rintro e w' ⟨v', ρ', rfl, h1, h2, h3⟩
  refine ⟨by rw [h2.closed_eq hv], ⟨h1.k.wb.os, h1.k.wb.tape, h1.k.wb.output, h3.ws, fun k hk => ?_⟩⟩
  rcases h3.frame k hk with h | ⟨b, hb, hl, _⟩
  · exact h
  · obtain ⟨O, n, X, sz, hl⟩ := hl
    unfold rho1 at hl
    split at hl <;> cases hl
/-! ### canonical worlds -/
section
variable {P : Program} {N0 : Nat} {c : World}
theorem size_mk1 (c : World) (cs : List Value) (e : TypeId) : (mk1 c cs e).heap.size = c.heap.size + 1 := Array.size_push ..
theorem kof_mk1 (c : World) (cs : List Value) (e : TypeId) {b : Nat} (hb : b = c.heap.size) : Kof (mk1 c cs e) b = some (.cells cs.toArray e (0, 0)) := by
  subst hb
  exact Array.getElem?_push_size
theorem kof_mk1_old (c : World) (cs : List Value) (e : TypeId) {b : Nat} (hb : b < c.heap.size) : Kof (mk1 c cs e) b = Kof c b := by
  show (c.heap.push _)[b]? = c.heap[b]?
  rw [Array.getElem?_push, if_neg (by omega)]
/-- a load looks at the one block -/
theorem loadE_of {κ : Kap} {b : Nat} {o : Obj} (h : κ b = some o) (t : TypeId) (of : Nat) {v : Value} (hv : loadE P N0 (fun _ => some o) t b of = some v) : loadE P N0 κ t b of = some v :=
  loadE_mono (κ1 := fun _ => some o) (fun x hx => by simp only [Option.some.injEq] at hx; rw [h, hx]) hv
theorem cleanB_of {c c' : World} (h : ∀ b, b < c.heap.size → c'.heap[b]? = c.heap[b]?) : cleanB c c' = true := by
  unfold cleanB
  refine List.all_eq_true.2 fun b hb => ?_
  rw [h b (List.mem_range.1 hb)]
  exact Nat.beq_refl _
theorem cleanB_mk1 (c : World) (cs : List Value) (e : TypeId) : cleanB c (mk1 c cs e) = true := cleanB_of fun b hb => kof_mk1_old c cs e hb
end
/-! ### contracts of functions that are not evaluated: closed arguments, a closed answer -/
/-- closed, or several closed ones -/
def closedV : Value → Bool
  | .tuple vs => vs.toList.all closed
  | v => closed v
theorem f2_closed1 {N0 : Nat} {ρ : Rho} : ∀ {xs : List Value}, xs.all closed = true → F2 (VR1 N0 ρ) xs xs
  | [], _ => .nil
  | x :: xs, h => by
    simp only [List.all_cons, Bool.and_eq_true] at h
    exact .cons (.of_closed h.1) (f2_closed1 h.2)
theorem f2_closed1_eq {N0 : Nat} {ρ : Rho} : ∀ {xs ys : List Value}, F2 (VR1 N0 ρ) xs ys → xs.all closed = true → ys = xs
  | _, _, .nil, _ => rfl
  | _, _, .cons a b, h => by
    simp only [List.all_cons, Bool.and_eq_true] at h
    rw [a.closed_eq h.1, f2_closed1_eq b h.2]
theorem VR.of_closedV {N0 : Nat} {ρ : Rho} {v : Value} (h : closedV v = true) : VR N0 ρ v v := by
  cases v <;> first | exact .one (.of_closed h) | (rename_i vs; exact .tup (xs := vs.toList) (ys := vs.toList) (f2_closed1 h))
theorem VR.closedV_eq {N0 : Nat} {ρ : Rho} {v v' : Value} (h : VR N0 ρ v v') (hc : closedV v = true) : v' = v := by
  cases h with
  | one h => exact h.closed_eq (by cases h with | one h => cases h <;> exact hc | agg h => exact hc)
  | tup h => rw [f2_closed1_eq h (by simpa [closedV] using hc)]
theorem calls_of_emptyV {P : Program} {G : Glob} (g : ∀ w0 : World, w0.heap = #[] → GOk P 0 w0 G) {n : Nat} {f : FuncId} {args : List Value} {v : Value} {c c' : World} (hc : c.heap.size = 0)
    (h : evFun P 0 G n f args c = some (v, c')) (hargs : args.all closed = true) (hv : closedV v = true) (w : World) : Calls P f args.toArray w fun e w' => e = .returned v ∧ Below w.heap.size w w' := by
  obtain ⟨_, hcl⟩ := evFun_sim (g (emp w) rfl) n f args c v c' h
  refine Calls.mono (hcl _ w args (rel_emp P c w hc) (f2_closed hargs)) ?_
  rintro e w' ⟨v', ρ', rfl, h1, h2, h3⟩
  exact ⟨by rw [h2.closedV_eq hv], st_below hc h1 h3⟩
/-- by a run that hands on -/
theorem calls_of_K {P : Program} {G : Glob} (g : ∀ w0 : World, w0.heap = #[] → GOk P 0 w0 G) {n : Nat} {f : FuncId} {args : List Value} {v : Value}
    (h : evFunK (R := Value) P 0 G n f args W0 (fun v _ => some v) = some v) (hargs : args.all closed = true) (hv : closedV v = true) (w : World) : Calls P f args.toArray w fun e w' => e = .returned v ∧ Below w.heap.size w w' := by
  obtain ⟨u, c', h1, h2⟩ := evFun_of_K h
  simp only [Option.some.injEq] at h2
  subst h2
  exact calls_of_emptyV g rfl h1 hargs hv w
theorem calls_of_deadK {P : Program} {G : Glob} (g : ∀ w0 : World, w0.heap = #[] → GOk P 0 w0 G) {n : Nat} {f : FuncId} {args args' : List Value} {v : Value}
    (h : evFunK (R := Value) P 0 G n f args W1 (fun v _ => some v) = some v) (hargs : F2 (VR 0 rho1) args args') (hv : closed v = true) (w : World) : Calls P f args'.toArray w fun e w' => e = .returned v ∧ Below w.heap.size w w' := by
  obtain ⟨u, c', h1, h2⟩ := evFun_of_K h
  simp only [Option.some.injEq] at h2
  subst h2
  exact calls_of_dead g h1 hargs hv w
def extOf (fs : FuncId → Option (List Value → Option Value)) (f : FuncId) : Option (List Value → World → Option (Value × World)) := match fs f with
  | some F => some fun args c => match F args with
    | some v => bif args.all closed && closedV v then some (v, c) else none
    | none => none
  | none => none
def globE (P : Program) (keep : Nat → List Nat) (fs : FuncId → Option (List Value → Option Value)) : Glob where
  ext := extOf fs
  code := (globOf P keep).code
theorem closed_args {N0 : Nat} {ρ : Rho} : ∀ {xs ys : List Value}, F2 (VR N0 ρ) xs ys → xs.all closed = true → ys = xs
  | _, _, .nil, _ => rfl
  | _, _, .cons a b, h => by
    simp only [List.all_cons, Bool.and_eq_true] at h
    rw [a.closed_eq h.1, closed_args b h.2]
theorem gok_ext {P : Program} (hm : P.follows .mixedOrders = true) (hn : noNum P = true) (keep : Nat → List Nat) (fs : FuncId → Option (List Value → Option Value))
    (hfs : ∀ f F, fs f = some F → (∀ (xs : Array Value) (W : World), (callFunc f xs).run P W = .ok (.enter f xs) W) ∧ ∀ args v, F args = some v → ∀ w, Calls P f args.toArray w fun e w' => e = .returned v ∧ Below w.heap.size w w')
    (N0 : Nat) (w0 : World) : GOk P N0 w0 (globE P keep fs) := by
  refine ⟨hm, code_of hn, fun f args c v c' h => ?_⟩
  simp only [globE, extOf] at h
  split at h
  · rename_i F0 hF0
    split at hF0
    · rename_i F hF
      simp only [Option.some.injEq] at hF0
      subst hF0
      obtain ⟨h1, h2⟩ := hfs f F hF
      simp only at h
      split at h
      · rename_i u hu
        obtain ⟨h3, h4⟩ := cond_some h
        simp only [Option.some.injEq, Prod.mk.injEq] at h4
        obtain ⟨rfl, rfl⟩ := h4
        simp only [Bool.and_eq_true] at h3
        refine ⟨h1, fun ρ w args' R ha => ?_⟩
        rw [closed_args ha h3.1]
        refine Calls.mono (h2 args u hu w) ?_
        rintro e w' ⟨rfl, hb⟩
        refine ⟨u, ρ, rfl, ⟨R.k.same hb, R.dom, R.cz⟩, .of_closedV h3.2, Nat.le_refl _, hb.size, fun _ _ => .inl rfl, fun _ _ => .inl rfl, fun B hB => .inl (hb.block B hB), ?_, fun b h1 h2 => by omega⟩
        intro b B hcb hl
        obtain ⟨O, n, X, sz, hl⟩ := hl
        have := R.dom b (by rw [hl]; simp)
        omega
      · cases h
    · cases hF0
  · cases h
/-! ### contracts of functions that read what they are handed, and answer something closed -/
def extM (ms : FuncId → Option (List Value → World → Option Value)) (f : FuncId) : Option (List Value → World → Option (Value × World)) := match ms f with
  | some F => some fun args c => match F args c with
    | some v => bif closedV v then some (v, c) else none
    | none => none
  | none => none
def globM (P : Program) (keep : Nat → List Nat) (ms : FuncId → Option (List Value → World → Option Value)) : Glob where
  ext := extM ms
  code := (globOf P keep).code
def SoundM (P : Program) (f : FuncId) (F : List Value → World → Option Value) : Prop :=
  (∀ (xs : Array Value) (W : World), (callFunc f xs).run P W = .ok (.enter f xs) W) ∧ ∀ args c v, F args c = some v → ∀ N0 w0 ρ w args', Rel P N0 w0 ρ c w → F2 (VR N0 ρ) args args' →
    Calls P f args'.toArray w fun e w' => e = .returned v ∧ Below w.heap.size w w'
theorem gok_extM {P : Program} (hm : P.follows .mixedOrders = true) (hn : noNum P = true) (keep : Nat → List Nat) (ms : FuncId → Option (List Value → World → Option Value))
    (hms : ∀ f F, ms f = some F → SoundM P f F) (N0 : Nat) (w0 : World) : GOk P N0 w0 (globM P keep ms) := by
  refine ⟨hm, code_of hn, fun f args c v c' h => ?_⟩
  simp only [globM, extM] at h
  split at h
  · rename_i F0 hF0
    split at hF0
    · rename_i F hF
      simp only [Option.some.injEq] at hF0
      subst hF0
      obtain ⟨h1, h2⟩ := hms f F hF
      simp only at h
      split at h
      · rename_i u hu
        obtain ⟨h3, h4⟩ := cond_some h
        simp only [Option.some.injEq, Prod.mk.injEq] at h4
        obtain ⟨rfl, rfl⟩ := h4
        refine ⟨h1, fun ρ w args' R ha => ?_⟩
        refine Calls.mono (h2 args c u hu N0 w0 ρ w args' R ha) ?_
        rintro e w' ⟨rfl, hb⟩
        refine ⟨u, ρ, rfl, ⟨R.k.same hb, R.dom, R.cz⟩, .of_closedV h3, Nat.le_refl _, hb.size, fun _ _ => .inl rfl, fun _ _ => .inl rfl, fun B hB => .inl (hb.block B hB), ?_, fun b h1 h2 => by omega⟩
        intro b B hcb hl
        obtain ⟨O, n, X, sz, hl⟩ := hl
        have := R.dom b (by rw [hl]; simp)
        omega
      · cases h
    · cases hF0
  · cases h
/-- a contract with closed arguments as one of this kind -/
theorem soundM_closed {P : Program} {f : FuncId} {F : List Value → Option Value} (he : ∀ (xs : Array Value) (W : World), (callFunc f xs).run P W = .ok (.enter f xs) W)
    (h : ∀ args v, F args = some v → ∀ w, Calls P f args.toArray w fun e w' => e = .returned v ∧ Below w.heap.size w w') : SoundM P f (fun args _ => bif args.all closed then F args else none) := by
  refine ⟨he, fun args c v hv N0 w0 ρ w args' R ha => ?_⟩
  obtain ⟨h1, h2⟩ := cond_some hv
  rw [closed_args ha h1]
  exact h args v h2 w
end Go.Proofs.Ytbonmmpdpahhfaa.Can

/- The engine: a tactic that lets the kernel run the evaluator and steps over what it cannot decide by facts. No law, no condition. -/
namespace Go.Proofs.Ytbonmmpdpahhfaa.Can
open Lean Meta Elab Tactic
/-- the places at which a term in weak head normal form hangs, from without to within: the term there, and the whole with a hole for it -/
partial def hangs (env : Environment) (lctx : LocalContext) (e : Lean.Expr) (ctx0 : Lean.Expr → Lean.Expr) (fuel : Nat) : MetaM (Array (Lean.Expr × Lean.Expr)) := do
  -- answers pairs (major, whole with loose bvar 0 in the major's place)
  let rec go (e : Lean.Expr) (ctx : Lean.Expr → Lean.Expr) (acc : Array (Lean.Expr × Lean.Expr)) : Nat → MetaM (Array (Lean.Expr × Lean.Expr))
    | 0 => return acc
    | n + 1 => do
      let e ← ofExceptKernelException (Kernel.whnf env lctx e)
      match e with
      | .proj s i x => go x (fun z => ctx (.proj s i z)) (acc.push (x, ctx (.proj s i (.bvar 0)))) n
      | _ =>
        match e.getAppFn with
        | .proj s i x =>
          let as := e.getAppArgs
          go x (fun z => ctx (mkAppN (.proj s i z) as)) (acc.push (x, ctx (mkAppN (.proj s i (.bvar 0)) as))) n
        | .const c us => do
          match env.find? c with
          | some (.recInfo v) =>
            let as := e.getAppArgs
            let i := v.getMajorIdx
            if h : i < as.size then
              let m := as[i]
              go m (fun z => ctx (mkAppN (.const c us) (as.set i z))) (acc.push (m, ctx (mkAppN (.const c us) (as.set i (.bvar 0))))) n
            else return acc
          | _ => return acc
        | _ => return acc
  go e ctx0 #[] fuel
/-- where a run that has ended differs from what is wanted -/
partial def ends (env : Environment) (lctx : LocalContext) (e rhs : Lean.Expr) (ctx : Lean.Expr → Lean.Expr) : Nat → MetaM (Option (Lean.Expr × (Lean.Expr → Lean.Expr)))
  | 0 => return some (e, ctx)
  | n + 1 => do
    if ← ofExceptKernelException (Kernel.isDefEq env lctx e rhs) then return none
    let e ← ofExceptKernelException (Kernel.whnf env lctx e)
    let r ← ofExceptKernelException (Kernel.whnf env lctx rhs)
    match e.getAppFn, r.getAppFn with
    | .const c _, .const d _ =>
      if c == d && env.isConstructor c && e.getAppNumArgs == r.getAppNumArgs then
        let as := e.getAppArgs
        let bs := r.getAppArgs
        for i in [0:as.size] do
          if let some q ← ends env lctx as[i]! bs[i]! (fun z => ctx (mkAppN e.getAppFn (as.set! i z))) n then return some q
        return none
      else return some (e, ctx)
    | _, _ => return some (e, ctx)
partial def kwalk (goal : MVarId) (facts : Array Lean.Expr) : Nat → MetaM Unit
  | 0 => throwError "kwalk: no fuel"
  | fuel + 1 => goal.withContext do
    let env ← getEnv
    let lctx ← getLCtx
    let ty := (← instantiateMVars (← goal.getType)).consumeMData
    let some (α, lhs, rhs) := ty.eq? | throwError "kwalk: no equation"
    let e ← ofExceptKernelException (Kernel.whnf env lctx lhs)
    let hd := e.getAppFn
    if let .const c _ := hd then
      if env.isConstructor c then
        if ← ofExceptKernelException (Kernel.isDefEq env lctx e rhs) then
          goal.assign (← mkEqRefl rhs)
          return
    let hs ← match ← ends env lctx e rhs id 40 with
      | some (e', ctx) => do pure (#[(e', ctx (.bvar 0))] ++ (← hangs env lctx e' ctx 40))
      | none => hangs env lctx e id 40
    for k in [0:hs.size] do
      let (m, whole) := hs[k]!
      let mt ← inferType m
      for h in facts do
        let ht ← instantiateMVars (← inferType h)
        let some (β, a, b) := ht.eq? | continue
        unless β.getAppFn == (← whnfR mt).getAppFn do continue
        if ← ofExceptKernelException (Kernel.isDefEq env lctx m a) then
          let x : Lean.Expr := .fvar ⟨← mkFreshId⟩
          let whole := ((whole.instantiate1 m).replace fun t => if t == m then some x else none).abstract #[x]
          let F := Lean.Expr.lam `z β whole .default
          let new := whole.instantiate1 b
          let rest ← mkFreshExprSyntheticOpaqueMVar (mkApp3 (.const ``Eq [← getLevel α]) α new rhs)
          let c := mkAppN (.const ``congrArg [← getLevel β, ← getLevel α]) #[β, α, a, b, F, h]
          goal.assign (mkAppN (.const ``Eq.trans [← getLevel α]) #[α, whole.instantiate1 a, new, rhs, c, rest])
          kwalk rest.mvarId! facts fuel
          return
    let mut msg : List MessageData := []
    for (m, _) in hs do
      let s := toString (← ppExpr m)
      if s.length < 1500 then msg := msg ++ [m!"{indentExpr m}"] else msg := msg ++ [m!"  (long, {s.length}) {s.take 200}"]
    throwError "kwalk: hangs at{MessageData.joinSep msg (m!"\n-- ")}"
syntax (name := kwalkStx) "kwalk" "[" term,* "]" : tactic
@[tactic kwalkStx] def evalKwalk : Tactic := fun stx => do
  match stx with
  | `(tactic| kwalk [$ts,*]) => do
    let goal ← getMainGoal
    goal.withContext do
      let fs ← ts.getElems.mapM fun t => Term.withSynthesize (Term.elabTerm t none)
      let fs ← fs.mapM instantiateMVars
      kwalk goal fs 400
      replaceMainGoal []
  | _ => throwUnsupportedSyntax
end Go.Proofs.Ytbonmmpdpahhfaa.Can
