/- The second engine, merged part D. No law, no condition. -/
import Derived.Test.YtpjlgjhkdligfaaVgC
namespace Go.Proofs.Ytpjlgjhkdligfaa.Vg
open Go.RowKit
set_option linter.unusedVariables false
set_option linter.unusedSimpArgs false

/-- nothing to be shown here: the run does not come through -/
inductive Stuck (l : List Nat) (ts : Tv) (H : List VO) : Prop
theorem Stuck.elim {l : List Nat} {ts : Tv} {H : List VO} {C : Prop} (h : Stuck l ts H) : C := nomatch h
def brP (t : Bool) (A B : Prop) : Prop := Bool.rec (motive := fun _ => Prop) B A t
theorem brP_intro {t : Bool} {A B : Prop} (h1 : t = true → A) (h2 : t = false → B) : brP t A B := by
  cases t with
  | true => exact h1 rfl
  | false => exact h2 rfl
/-- what is to be shown of some operations, and then -/
def Ck : List Nat → List Prop → Prop → Prop
  | [], _, X => X
  | c :: cs, qs, X => (asm 4000 c qs).1 ∧ Ck cs (asm 4000 c qs).2.2 X
theorem ck {X : Prop} : ∀ {cs : List Nat} {qs : List Prop}, AllP qs → X → Ck cs qs X
  | [], _, _, h => h
  | c :: cs, qs, hq, h => ⟨(asm_ok 4000 c qs hq).1, ck (asm_ok 4000 c qs hq).2 h⟩
def boolOf : TV → Option Bool
  | .o (.c (.f (.v (.bool b)))) => some b
  | _ => none
def eqB (b : Bool) : TV := .o (.c (.f (.v (.bool b))))
def splitAlt (k : List Bool → Option TV → Prop) : Alt → List Bool → Prop
  | .one r _, pth => match boolOf r with
    | some t => Bool.rec (motive := fun _ => Prop) (k pth (some (eqB false))) (k pth (some (eqB true))) t
    | none => k pth none
  | .br t a b, pth => Bool.rec (motive := fun _ => Prop) (splitAlt k b (pth ++ [false])) (splitAlt k a (pth ++ [true])) t
def fnC (ts : Tv) : Cmd → Cmd
  | .fn G => G ts
  | c => c
def dOps (P : Program) (nt : Nat) (ops : Array Oper) (cm : List (Nat × Cmd)) : List Oper → Nat → Tv → List VO → List Nat
  | [], _, _, _ => [905]
  | o :: r, i, ts, H => bif dstOk nt o.dst then (match wantE ops (prune (o.looksAt ops) ts) o with
    | some true => match evO P (hp H) H.length (prune (o.looksAt ops) ts) (cmdAt cm i) o with
      | some d => bif okD H.length d then dOps P nt ops cm r (i + 1) (putT ts o.dst d.v) (apD H d) else [i, 903]
      | none => [i]
    | some false => dOps P nt ops cm r (i + 1) (putT ts o.dst undefT) H
    | none => [i, 904]) else [i, 902]
def wpReg (P : Program) (nt id : Nat) (ops : Array Oper) (draw : Bool) (Q : Tv → List VO → Prop) : List Nat → List (Nat × Cmd) → Tv → List VO → Prop
  | [], cm, ts, H => match evReg P nt ops draw cm ts H with
    | some (ts', H', q) => q ∧ Q ts' H'
    | none => Stuck (id :: dOps P nt ops cm ops.toList 0 ts H) ts H
  | j :: js, cm, ts, H => match evTr P nt ops cm (ops.toList.take j) 0 ts H, ops[j]? with
    | some l, some o => match wantE ops (prune (o.looksAt ops) (runT ops.toList l ts)) o with
      | some false => wpReg P nt id ops draw Q js cm ts H
      | some true => match fnC (prune (o.looksAt ops) (runT ops.toList l ts)) (cmdAt cm j) with
        | .tb T _ _ => match tabE P (hp (lastH l H)) (lastH l H).length (prune (o.looksAt ops) (runT ops.toList l ts)) T o with
          | some (_, alt) => splitAlt (fun pth w => wpReg P nt id ops draw Q js ((j, .tb T pth w) :: cm) ts H) alt []
          | none => Stuck [id, 950 + 1, j] ts H
        | c => match evO P (hp (lastH l H)) (lastH l H).length (prune (o.looksAt ops) (runT ops.toList l ts)) c o with
          | some d => match boolOf d.v with
            | some t => Bool.rec (motive := fun _ => Prop) (wpReg P nt id ops draw Q js ((j, .eq (eqB false)) :: cm) ts H) (wpReg P nt id ops draw Q js ((j, .eq (eqB true)) :: cm) ts H) t
            | none => wpReg P nt id ops draw Q js cm ts H
          | none => Stuck [id, 950 + 2, j] ts H
      | none => Stuck [id, 950 + 3, j] ts H
    | _, _ => Stuck [id, 950 + 4, j] ts H
/-- a loop, as it is told -/
structure LInv where
  ι : Type
  pre : ι → Prop
  ts : ι → Tv
  H : ι → List VO
  μ : ι → Nat
inductive LO where
  | un (fuel : Nat) (keep : List Nat)
  | inv (gs : List Gh) (keep : List Nat) (L : LInv)
  | invs (gs : List Gh) (keep : List Nat) (Ls : List LInv)
  | rf (keep : List Nat) (N : Nat) (el : Nat → List T1) (L : RInv)
structure OrcW where
  cm : Nat → List (Nat × Cmd)
  sp : Nat → List Nat
  gh : Nat → List Gh
  lp : Nat → LO
  eg : List Gh
def kids (κ : Hp) : List Nat → List Nat
  | [] => []
  | o :: r => (match κ o with
    | some (.bx cs _) => cvLs cs
    | _ => []) ++ kids κ r
def gcG (s : Nat) (keep : List Nat) (ts : Tv) (H : List VO) : List Gh :=
  [.sel (reach (hp H) 4000 (kids (hp H) (List.range s) ++ tvLs (keep.map (tget ts))) (List.range s)) keep]
def wpGs (s id : Nat) (gs : List Gh) (ts : Tv) (H : List VO) (k : Tv → List VO → Prop) : Prop := match evGs s gs ts H with
  | some (t, h, q) => q ∧ k t h
  | none => Stuck [id, 955] ts H
def wpU (s id : Nat) (keep : List Nat) (f : Tv → List VO → (Ex → Tv → List VO → Prop) → Prop) (Q : Ex → Tv → List VO → Prop) : Nat → Tv → List VO → Prop
  | 0, ts, H => wpGs s id (gcG s keep ts H) ts H fun t0 h0 => Stuck [id, 956] t0 h0
  | n + 1, ts, H => wpGs s id (gcG s keep ts H) ts H fun t0 h0 => f t0 h0 fun e t h => match e with
    | .normal => wpU s id keep f Q n t h
    | .exit i => Q (.exit i) t h
    | .ret => Q .ret t h
def wpI (s id : Nat) (gs : List Gh) (keep : List Nat) (L : LInv) (f : Tv → List VO → (Ex → Tv → List VO → Prop) → Prop) (ts : Tv) (H : List VO) (Q : Ex → Tv → List VO → Prop) : Prop :=
  (wpGs s id gs ts H fun ts H => wpGs s id (gcG s keep ts H) ts H fun t0 h0 => ∃ i, L.pre i ∧ t0 = L.ts i ∧ h0 = L.H i) ∧
  ∀ i, L.pre i → f (L.ts i) (L.H i) fun e t h => match e with
    | .normal => wpGs s id (gcG s keep t h) t h fun t' h' => ∃ j, L.pre j ∧ L.μ j < L.μ i ∧ t' = L.ts j ∧ h' = L.H j
    | .exit k => Q (.exit k) t h
    | .ret => Q .ret t h
/-- one of some shapes -/
def anyL : List LInv → Tv → List VO → Prop
  | [], _, _ => False
  | L :: r, t, h => (∃ i, L.pre i ∧ t = L.ts i ∧ h = L.H i) ∨ anyL r t h
def anyM (m : Nat) : List LInv → Tv → List VO → Prop
  | [], _, _ => False
  | L :: r, t, h => (∃ j, L.pre j ∧ L.μ j < m ∧ t = L.ts j ∧ h = L.H j) ∨ anyM m r t h
def allL (g : LInv → Prop) : List LInv → Prop
  | [] => True
  | L :: r => g L ∧ allL g r
def wpJ (s id : Nat) (gs : List Gh) (keep : List Nat) (Ls : List LInv) (f : Tv → List VO → (Ex → Tv → List VO → Prop) → Prop) (ts : Tv) (H : List VO) (Q : Ex → Tv → List VO → Prop) : Prop :=
  (wpGs s id gs ts H fun ts H => wpGs s id (gcG s keep ts H) ts H fun t0 h0 => anyL Ls t0 h0) ∧
  allL (fun L => ∀ i, L.pre i → f (L.ts i) (L.H i) fun e t h => match e with
    | .normal => wpGs s id (gcG s keep t h) t h fun t' h' => anyM (L.μ i) Ls t' h'
    | .exit k => Q (.exit k) t h
    | .ret => Q .ret t h) Ls
def wpC (P : Program) (nt : Nat) (O : OrcW) : Code → Bool → Nat → Tv → List VO → (Ex → Tv → List VO → Prop) → Prop
  | .skip, inn, s, ts, H, Q => Q .normal ts H
  | .label _, inn, s, ts, H, Q => Q .normal ts H
  | .region id ops draw, inn, s, ts, H, Q => wpGs s id (O.gh id) ts H fun t0 h0 => wpReg P nt id ops draw (Q .normal) (O.sp id) (O.cm id) t0 h0
  | .seq x y, inn, s, ts, H, Q => wpC P nt O x inn s ts H fun e t h => match e with
    | .normal => wpC P nt O y inn s t h Q
    | .exit i => Q (.exit i) t h
    | .ret => Q .ret t h
  | .cond c x y, inn, s, ts, H, Q => match opd ts c with
    | .o (.c (.f (.v (.bool t)))) => Bool.rec (motive := fun _ => Prop) (wpC P nt O y inn s ts H Q) (wpC P nt O x inn s ts H Q) t
    | _ => Stuck [firstId x, 957] ts H
  | .block id b, inn, s, ts, H, Q => wpC P nt O b inn s ts H fun e t h => match e with
    | .exit i => bif Nat.beq i id then Q .normal t h else Q (.exit i) t h
    | .normal => Q .normal t h
    | .ret => Q .ret t h
  | .loop b, inn, s, ts, H, Q => match O.lp (firstId b) with
    | .un fuel keep => wpU s (firstId b) keep (fun t h k => wpC P nt O b inn s t h k) Q fuel ts H
    | .inv gs keep L => wpI s (firstId b) gs keep L (fun t h k => wpC P nt O b inn s t h k) ts H Q
    | .rf _ _ _ _ => Stuck [firstId b, 966] ts H
    | .invs gs keep Ls => wpJ s (firstId b) gs keep Ls (fun t h k => wpC P nt O b inn s t h k) ts H Q
  | .rangeFunc g ps x b, inn, s, ts, H, Q => match inn, O.lp (firstId b), opd ts g with
    | false, .rf keep N el L, .o (.c (.fn gf [(o, 0)])) => (match H[o]? with
      | some (.bx [.f c] _) => bif ps.toList.all (fun p => Nat.blt p nt) then
          ItC P gf [c] N el ∧ wpGs s (firstId b) (gcG s keep ts (H.set o .dead)) ts (H.set o .dead) fun t0 h0 =>
            (∃ i, L.pre i ∧ L.at_ i = 0 ∧ h0 = L.H i) ∧
            (∀ i, L.pre i ∧ L.at_ i < N → bif Nat.beq (el (L.at_ i)).length ps.size then wpC P nt O x true h0.length (putP ps.toList (el (L.at_ i)) t0) (L.H i) (fun e t h => match e with
              | .normal => wpC P nt O b true h0.length t h fun e t h => match e with
                | .normal => wpGs h0.length (firstId b) (gcG h0.length [] t h) t h fun _ h' => ∃ j, L.pre j ∧ L.at_ j = L.at_ i + 1 ∧ h' = L.H j
                | .exit k => Q (.exit k) t0 h
                | .ret => Q .ret t0 h
              | _ => Stuck [firstId b, 961] t h) else Stuck [firstId b, 962] ts H) ∧
            ∀ i, L.pre i ∧ L.at_ i = N → Q .normal t0 (L.H i)
        else Stuck [firstId b, 963] ts H
      | _ => Stuck [firstId b, 964] ts H)
    | _, _, _ => Stuck [firstId b, 965] ts H
  | .scope b, inn, s, ts, H, Q => wpC P nt O b inn s ts H Q
  | .exit id, inn, s, ts, H, Q => Q (.exit id) ts H
  | .ret, inn, s, ts, H, Q => Q .ret ts H
  | x, inn, s, ts, H, _ => Stuck [firstId x, 958] ts H
section
variable {inn : Bool} {P : Program} {nt s : Nat} {O : OrcW} {K : Kap} {β : Bt} {a : Act} {w : World} {ts ts' : Tv} {H H' : List VO}
theorem rec_cases {A B : Prop} : ∀ {t : Bool}, Bool.rec (motive := fun _ => Prop) B A t → (t = true ∧ A) ∨ (t = false ∧ B)
  | true, h => .inl ⟨rfl, h⟩
  | false, h => .inr ⟨rfl, h⟩
theorem splitAlt_some {k : List Bool → Option TV → Prop} : ∀ (alt : Alt) (pth : List Bool), splitAlt k alt pth → ∃ p w, k p w
  | .one r _, pth, h => by
    simp only [splitAlt] at h
    split at h
    · rcases rec_cases h with ⟨_, h⟩ | ⟨_, h⟩
      · exact ⟨_, _, h⟩
      · exact ⟨_, _, h⟩
    · exact ⟨_, _, h⟩
  | .br t a b, pth, h => by
    simp only [splitAlt] at h
    rcases rec_cases h with ⟨_, h⟩ | ⟨_, h⟩
    · exact splitAlt_some a _ h
    · exact splitAlt_some b _ h
theorem wpReg_sim (hm : P.follows .mixedOrders = true) {id : Nat} {ops : Array Oper} {draw : Bool} {Q : Tv → List VO → Prop} : ∀ (js : List Nat) (cm : List (Nat × Cmd)) (ts : Tv) (H : List VO), wpReg P nt id ops draw Q js cm ts H → VW inn P nt s (.region id ops draw) ts H fun e t h => e = .normal ∧ Q t h
  | [], cm, ts, H, h => by
    simp only [wpReg] at h
    split at h
    · rename_i ts2 H2 q2 h2
      intro ro hro nn K β a w R T hs Qx hQ
      refine reg_sim hm h2 h.1 R T hs ?_
      intro a2 w2 K2 β2 R2 T2 s2 d2 l2 f2
      exact hQ .normal _ _ a2 w2 K2 β2 ⟨rfl, h.2⟩ R2 T2 s2 (.eq d2) (LeS.of_le l2) f2
    · exact h.elim
  | j :: js, cm, ts, H, h => by
    simp only [wpReg] at h
    split at h
    · split at h
      · exact wpReg_sim hm js _ _ _ h
      · split at h
        · split at h
          · obtain ⟨p, w, h⟩ := splitAlt_some _ _ h
            exact wpReg_sim hm js _ _ _ h
          · exact h.elim
        · split at h
          · split at h
            · rcases rec_cases h with ⟨_, h⟩ | ⟨_, h⟩
              · exact wpReg_sim hm js _ _ _ h
              · exact wpReg_sim hm js _ _ _ h
            · exact wpReg_sim hm js _ _ _ h
          · exact h.elim
      · exact h.elim
    · exact h.elim
theorem VW.seqQ {x y : Code} {Q : Ex → Tv → List VO → Prop} (h : VW inn P nt s x ts H fun e t h => match e with
    | .normal => VW inn P nt s y t h Q
    | .exit i => Q (.exit i) t h
    | .ret => Q .ret t h) : VW inn P nt s (.seq x y) ts H Q := by
  intro ro hro nn K β a w R T hs Qx hQ
  refine wpIn_seq (h ro hro nn K β a w R T hs _ ?_)
  intro e t1 h1 a1 w1 K1 β1 q1 R1 T1 s1 d1 l1 f1
  cases e with
  | normal =>
    refine q1 ro hro nn K1 β1 a1 w1 R1 T1 s1 Qx ?_
    intro e2 t2 h2 a2 w2 K2 β2 q2 R2 T2 s2 d2 l2 f2
    exact hQ e2 t2 h2 a2 w2 K2 β2 q2 R2 T2 s2 (d2.trans d1 R1 f1 f2) (l1.trans l2) (f1.trans f2)
  | exit i => exact hQ (.exit i) t1 h1 a1 w1 K1 β1 q1 R1 T1 s1 d1 l1 f1
  | ret => exact hQ .ret t1 h1 a1 w1 K1 β1 q1 R1 T1 s1 d1 l1 f1
theorem VW.blockQ {id : Nat} {b : Code} {Q : Ex → Tv → List VO → Prop} (h : VW inn P nt s b ts H fun e t h => match e with
    | .exit i => bif Nat.beq i id then Q .normal t h else Q (.exit i) t h
    | .normal => Q .normal t h
    | .ret => Q .ret t h) : VW inn P nt s (.block id b) ts H Q := by
  intro ro hro nn K β a w R T hs Qx hQ
  refine wpIn_block (h ro hro nn K β a w R T hs _ ?_)
  intro e t1 h1 a1 w1 K1 β1 q1 R1 T1 s1 d1 l1 f1
  cases e with
  | normal => exact hQ .normal t1 h1 a1 w1 K1 β1 q1 R1 T1 s1 d1 l1 f1
  | ret => exact hQ .ret t1 h1 a1 w1 K1 β1 q1 R1 T1 s1 d1 l1 f1
  | exit i =>
    cases hq : Nat.beq i id with
    | true =>
      simp only [hq, cond_true] at q1
      show Exit.inBlock id Qx (.exit i) a1 w1
      simp only [Exit.inBlock]
      rw [if_pos (Nat.eq_of_beq_eq_true hq)]
      exact hQ .normal t1 h1 a1 w1 K1 β1 q1 R1 T1 s1 d1 l1 f1
    | false =>
      simp only [hq, cond_false] at q1
      show Exit.inBlock id Qx (.exit i) a1 w1
      simp only [Exit.inBlock]
      rw [if_neg (fun e => by rw [e] at hq; simp at hq)]
      exact hQ (.exit i) t1 h1 a1 w1 K1 β1 q1 R1 T1 s1 d1 l1 f1
theorem VW.scopeQ {b : Code} {Q : Ex → Tv → List VO → Prop} (h : VW inn P nt s b ts H Q) : VW inn P nt s (.scope b) ts H Q := by
  intro ro hro nn K β a w R T hs Qx hQ
  refine wpIn_scope_straight (h ro hro nn K β a w R T hs _ ?_)
  intro e t1 h1 a1 w1 K1 β1 q1 R1 T1 s1 d1 l1 f1
  have := hQ e t1 h1 a1 w1 K1 β1 q1 R1 T1 s1 d1 l1 f1
  cases e <;> exact this
theorem VW.hereQ {code : Code} {e : Ex} {Q : Ex → Tv → List VO → Prop} (hq : Q e ts H) (h : ∀ (ro : Option Nat) (nn : Nat) (Qx : Exit → Act → World → Prop) (a : Act) (w : World), Qx e.toExit a w → code.wpIn (FW ro) nn P Qx a w) : VW inn P nt s code ts H Q := by
  intro ro hro nn K β a w R T hs Qx hQ
  exact h ro nn Qx a w (hQ e ts H a w K β hq R T hs (.eq rfl) LeS.refl (Fr.refl _ _ _ _))
theorem VW.gs {code : Code} {Q : Ex → Tv → List VO → Prop} {id : Nat} {gs : List Gh} {k : Tv → List VO → Prop} (h : wpGs s id gs ts H k) (hk : ∀ t h, k t h → VW inn P nt s code t h Q) : VW inn P nt s code ts H Q := by
  unfold wpGs at h
  split at h
  · rename_i t0 h0 q0 hg
    exact VW.before hg h.1 (hk _ _ h.2)
  · exact h.elim
/-- told otherwise at the end, whichever it is -/
theorem VW.endQ {code : Code} {Q Q' : Ex → Tv → List VO → Prop} (h : VW inn P nt s code ts H Q) (hq : ∀ e t h, Q e t h → Q' e t h ∨ ∃ gs t' h' q, evGs s gs t h = some (t', h', q) ∧ q ∧ Q' e t' h') : VW inn P nt s code ts H Q' := by
  intro ro hro nn K β a w R T hs Qx hQ
  refine h ro hro nn K β a w R T hs Qx ?_
  intro e1 t2 h2 a1 w1 K1 β1 q1 R1 T1 s1 d1 l1 f1
  rcases hq _ _ _ q1 with q2 | ⟨gs, t', h', q, hg, hqq, q2⟩
  · exact hQ e1 t2 h2 a1 w1 K1 β1 q2 R1 T1 s1 d1 l1 f1
  · obtain ⟨K2, β2, R2, T2, l2, f2⟩ := ghosts_sim hg hqq R1 T1
    exact hQ _ _ _ a1 w1 K2 β2 q2 R2 T2 s1 (d1.up R1 f2) (l1.trans l2) (f1.trans f2)
theorem wpU_sim {f : Tv → List VO → (Ex → Tv → List VO → Prop) → Prop} {b : Code} {id : Nat} {keep : List Nat} {Q : Ex → Tv → List VO → Prop} (hf : ∀ ts H Q, f ts H Q → VW inn P nt s b ts H Q) : ∀ (n : Nat) (ts : Tv) (H : List VO), wpU s id keep f Q n ts H →
    ∀ ro, (inn = false → ro = none) → ∀ nn K β a w, VRel P K (hp H) β w → TR P K (hp H) β ts a.tmps → a.tmps.size = nt → ∀ Qx : Exit → Act → World → Prop,
    (∀ (e : Ex) (ts' : Tv) (H' : List VO) (a' : Act) (w' : World) (K' : Kap) (β' : Bt), Q e ts' H' → VRel P K' (hp H') β' w' → TR P K' (hp H') β' ts' a'.tmps → a'.tmps.size = nt → Df K' w a a' w' → LeS s (hp H) β (hp H') β' → Fr K (hp H) β w K' (hp H') β' w' → Qx e.toExit a' w') → Code.roundsIn (FW ro) nn P b Qx n a w
  | 0, ts, H, h, _, _, _, _, _, _, _, _, _, _, _, _ => by
    simp only [wpU, wpGs] at h
    split at h
    · exact h.2.elim
    · exact h.elim
  | n + 1, ts, H, h, ro, hro, nn, K, β, a, w, R, T, hs, Qx, hQ => by
    rw [roundsIn_succ]
    simp only [wpU] at h
    unfold wpGs at h
    split at h
    · rename_i t0 h0 q0 hg
      obtain ⟨K2, β2, R2, T2, l2, f2⟩ := ghosts_sim hg h.1 R T
      refine hf _ _ _ h.2 ro hro nn K2 β2 a w R2 T2 hs _ ?_
      intro e t1 h1 a1 w1 K1 β1 q1 R1 T1 s1 d1 l1 f1
      cases e with
      | normal => exact wpU_sim hf n t1 h1 q1 ro hro nn K1 β1 a1 w1 R1 T1 s1 Qx fun e3 t3 h3 a3 w3 K3 β3 q3 R3 T3 s3 d3 l3 f3 => hQ e3 t3 h3 a3 w3 K3 β3 q3 R3 T3 s3 (d3.trans d1 R1 f1 f3) (l2.trans (l1.trans l3)) (f2.trans (f1.trans f3))
      | exit i => exact hQ (.exit i) t1 h1 a1 w1 K1 β1 q1 R1 T1 s1 d1 (l2.trans l1) (f2.trans f1)
      | ret => exact hQ .ret t1 h1 a1 w1 K1 β1 q1 R1 T1 s1 d1 (l2.trans l1) (f2.trans f1)
    · exact h.elim
theorem wpI_sim {f : Tv → List VO → (Ex → Tv → List VO → Prop) → Prop} {b : Code} {id : Nat} {gs : List Gh} {keep : List Nat} {L : LInv} {Q : Ex → Tv → List VO → Prop} (hf : ∀ ts H Q, f ts H Q → VW inn P nt s b ts H Q) (h : wpI s id gs keep L f ts H Q) : VW inn P nt s (.loop b) ts H Q := by
  obtain ⟨h0, hb⟩ := h
  refine VW.gs h0 ?_
  intro ta ha h0
  refine VW.gs h0 ?_
  rintro t1 h1 ⟨i, hi, rfl, rfl⟩
  have key := VW.loop (P := P) (nt := nt) (s := s) (b := b) (Q := Q) (ι := { i : L.ι // L.pre i }) (fun i => (L.ts i.1, L.H i.1)) (fun i => L.μ i.1) (fun i => by
    refine VW.endQ (hf _ _ _ (hb i.1 i.2)) ?_
    intro e t h hq
    cases e with
    | normal =>
      right
      simp only at hq
      unfold wpGs at hq
      split at hq
      · rename_i t' h' q' hg
        obtain ⟨hq1, j, hj, hm, e1, e2⟩ := hq
        exact ⟨_, t', h', q', hg, hq1, .inl ⟨rfl, ⟨j, hj⟩, hm, e1, e2⟩⟩
      · exact hq.elim
    | exit k => exact .inl (.inr ⟨(fun h => nomatch h), hq⟩)
    | ret => exact .inl (.inr ⟨(fun h => nomatch h), hq⟩))
  exact key ⟨i, hi⟩
theorem anyL_out : ∀ {Ls : List LInv} {t : Tv} {h : List VO}, anyL Ls t h → ∃ L, L ∈ Ls ∧ ∃ i : L.ι, L.pre i ∧ t = L.ts i ∧ h = L.H i
  | [], _, _, h => h.elim
  | L :: r, t, h, hh => by
    rcases hh with hh | hh
    · exact ⟨L, List.mem_cons_self .., hh⟩
    · obtain ⟨L', h1, h2⟩ := anyL_out hh
      exact ⟨L', List.mem_cons_of_mem _ h1, h2⟩
theorem anyM_out {m : Nat} : ∀ {Ls : List LInv} {t : Tv} {h : List VO}, anyM m Ls t h → ∃ L, L ∈ Ls ∧ ∃ i : L.ι, L.pre i ∧ L.μ i < m ∧ t = L.ts i ∧ h = L.H i
  | [], _, _, h => h.elim
  | L :: r, t, h, hh => by
    rcases hh with hh | hh
    · exact ⟨L, List.mem_cons_self .., hh⟩
    · obtain ⟨L', h1, h2⟩ := anyM_out hh
      exact ⟨L', List.mem_cons_of_mem _ h1, h2⟩
theorem allL_out {g : LInv → Prop} : ∀ {Ls : List LInv}, allL g Ls → ∀ L ∈ Ls, g L
  | [], _, _, h => by cases h
  | L :: r, h, L', hm => by
    rcases List.mem_cons.1 hm with rfl | hm
    · exact h.1
    · exact allL_out h.2 L' hm
theorem wpJ_sim {f : Tv → List VO → (Ex → Tv → List VO → Prop) → Prop} {b : Code} {id : Nat} {gs : List Gh} {keep : List Nat} {Ls : List LInv} {Q : Ex → Tv → List VO → Prop} (hf : ∀ ts H Q, f ts H Q → VW inn P nt s b ts H Q) (h : wpJ s id gs keep Ls f ts H Q) : VW inn P nt s (.loop b) ts H Q := by
  obtain ⟨h0, hb⟩ := h
  have hb := allL_out hb
  refine VW.gs h0 ?_
  intro ta ha h0
  refine VW.gs h0 ?_
  intro t1 h1 h2
  obtain ⟨L0, hL0, i, hi, rfl, rfl⟩ := anyL_out h2
  have key := VW.loop (P := P) (nt := nt) (s := s) (b := b) (Q := Q) (ι := { x : (L : LInv) × L.ι // x.1 ∈ Ls ∧ x.1.pre x.2 }) (fun x => (x.1.1.ts x.1.2, x.1.1.H x.1.2)) (fun x => x.1.1.μ x.1.2) (fun x => by
    refine VW.endQ (hf _ _ _ (hb x.1.1 x.2.1 x.1.2 x.2.2)) ?_
    intro e t h hq
    cases e with
    | normal =>
      right
      simp only at hq
      unfold wpGs at hq
      split at hq
      · rename_i t' h' q' hg
        obtain ⟨hq1, hq2⟩ := hq
        obtain ⟨L2, hL2, j, hj, hm, e1, e2⟩ := anyM_out hq2
        exact ⟨_, t', h', q', hg, hq1, .inl ⟨rfl, ⟨⟨L2, j⟩, hL2, hj⟩, hm, e1, e2⟩⟩
      · exact hq.elim
    | exit k => exact .inl (.inr ⟨(fun h => nomatch h), hq⟩)
    | ret => exact .inl (.inr ⟨(fun h => nomatch h), hq⟩))
  exact key ⟨⟨L0, i⟩, hL0, hi⟩
theorem cond_prop {b : Bool} {A B : Prop} (hB : B → False) (h : bif b then A else B) : b = true ∧ A := by
  cases b with
  | true => exact ⟨rfl, h⟩
  | false => exact (hB h).elim
theorem wpC_sim (hm : P.follows .mixedOrders = true) : ∀ (code : Code) (inn : Bool) (s : Nat) (ts : Tv) (H : List VO) (Q : Ex → Tv → List VO → Prop), wpC P nt O code inn s ts H Q → VW inn P nt s code ts H Q := by
  intro code
  induction code with
  | skip => intro inn s ts H Q h; exact .hereQ h fun _ _ Qx a w h => wpIn_skip h
  | label l => intro inn s ts H Q h; exact .hereQ h fun _ _ Qx a w h => wpIn_label h
  | exit id => intro inn s ts H Q h; exact .hereQ h fun _ _ Qx a w h => wpIn_exit h
  | ret => intro inn s ts H Q h; exact .hereQ h fun _ _ Qx a w h => wpIn_ret h
  | region id ops draw =>
    intro inn s ts H Q h
    simp only [wpC] at h
    refine VW.gs h fun t0 h0 hk => ?_
    refine VW.mono (wpReg_sim hm _ _ _ _ hk) ?_
    rintro e t h ⟨rfl, hq⟩
    exact hq
  | seq x y ihx ihy =>
    intro inn s ts H Q h
    simp only [wpC] at h
    refine VW.seqQ (VW.mono (ihx _ _ _ _ _ h) ?_)
    intro e t h hq
    cases e with
    | normal => exact ihy _ _ _ _ _ hq
    | exit i => exact hq
    | ret => exact hq
  | cond c x y ihx ihy =>
    intro inn s ts H Q h
    simp only [wpC] at h
    split at h
    · rename_i t hc
      intro ro hro nn K β a w R T hs Qx hQ
      have hcv := opd_atom T hc
      rcases rec_cases h with ⟨rfl, h⟩ | ⟨rfl, h⟩
      · exact wpIn_cond_true hcv (ihx _ _ _ _ _ h ro hro nn K β a w R T hs Qx hQ)
      · exact wpIn_cond_false hcv (ihy _ _ _ _ _ h ro hro nn K β a w R T hs Qx hQ)
    · exact h.elim
  | block id b ih =>
    intro inn s ts H Q h
    simp only [wpC] at h
    exact VW.blockQ (ih _ _ _ _ _ h)
  | loop b ih =>
    intro inn s ts H Q h
    simp only [wpC] at h
    split at h
    · rename_i fuel keep _
      intro ro hro nn K β a w R T hs Qx hQ
      exact wpIn_loop_rounds fuel (wpU_sim (fun ts H Q h => ih inn s ts H Q h) fuel ts H h ro hro nn K β a w R T hs Qx hQ)
    · exact wpI_sim (fun ts H Q h => ih inn s ts H Q h) h
    · exact h.elim
    · exact wpJ_sim (fun ts H Q h => ih inn s ts H Q h) h
  | rangeFunc g ps x b ihx ihb =>
    intro inn s ts H Q h
    simp only [wpC] at h
    split at h
    · rename_i keep N el L gf o hlp hg
      split at h
      · rename_i c ty hHo
        obtain ⟨hps, h⟩ := cond_prop Stuck.elim h
        obtain ⟨it, h⟩ := h
        unfold wpGs at h
        split at h
        · rename_i t0 h0 q0 hgs
          obtain ⟨hq0, hi0, hr, hd⟩ := h
          intro ro hro nn K β a w R T hs Qx hQ
          obtain rfl := hro rfl
          have hcr := opd_c T hg
          generalize hy : a.eval g = y at hcr
          cases hcr with
          | dead hx _ _ => cases hx
          | fn _ hads =>
            cases hads with | cons hp1 hp2 =>
            cases hp2
            rename_i ad
            rcases hp1 with hdd | ⟨hlv, B, X, hb, rfl⟩
            · rw [show hp H o = H[o]? from rfl, hHo] at hdd
              cases hdd
            · have hO := R.ob o _ hHo
              rw [hb] at hO
              obtain ⟨B', X', C, e, lo, hi, p1, p2, p3, p4, p5⟩ := hO
              cases p1
              have hBl : B < w.heap.size := (Array.getElem?_eq_some_iff.1 p2).1
              obtain ⟨R1, le1⟩ := rel_kill R (b := o) hHo
              have f0 := Fr.kill R (o := o)
              have T1 := T.mono le1
              rw [← hp_set hHo] at R1 T1 f0 le1
              obtain ⟨K2, β2, R2, T2, l2, f2⟩ := ghosts_sim hgs hq0 R1 T1
              have l02 : LeS s (hp H) β (hp h0) β2 := (LeS.of_le le1).trans l2
              have f02 := f0.trans f2
              refine rf_sim (Q := Q) R2 T2 hs rfl hy p2 (fun j x hj => ?_) (fun o' X2 h1 h2 => ?_) it L (fun i g1 g2 => ?_) hps hi0 (fun i g1 g2 => ?_) (fun i g1 g2 => hd i ⟨g1, g2⟩) ?_
              · cases j with
                | succ j => simp at hj
                | zero =>
                  simp only [List.getElem?_cons_zero, Option.some.injEq] at hj
                  subst hj
                  obtain ⟨v, k1, k2⟩ := p5 0 (.f c) rfl
                  cases k2 with
                  | dead hx _ _ => cases hx
                  | f hf => exact ⟨v, k1, hf.mono f2.k⟩
              · rcases f2.nb o' B X2 h1 h2 with h3 | ⟨o2, X3, h3, h4⟩
                · omega
                · rw [hp_set hHo] at h3
                  rcases live_upd h3 with ⟨_, h5⟩ | ⟨h5, h6⟩
                  · exact h5 rfl
                  · exact h5 (R.inj o2 o B X3 X h6 hlv h4 hb)
              · exact Nat.eq_of_beq_eq_true (cond_prop Stuck.elim (hr i ⟨g1, g2⟩)).1
              · have h1 := (cond_prop Stuck.elim (hr i ⟨g1, g2⟩)).2
                refine VW.mono (ihx _ _ _ _ _ h1) ?_
                intro e t h he
                cases e with
                | exit k => exact he.elim
                | ret => exact he.elim
                | normal =>
                  refine ⟨rfl, VW.mono (ihb _ _ _ _ _ he) ?_⟩
                  intro e t h he
                  cases e with
                  | exit k => exact .inr ⟨(fun h => nomatch h), he⟩
                  | ret => exact .inr ⟨(fun h => nomatch h), he⟩
                  | normal =>
                    left
                    change wpGs _ _ _ _ _ _ at he
                    unfold wpGs at he
                    split at he
                    · rename_i t3 h3 q3 hg3
                      exact ⟨rfl, _, t3, h3, q3, hg3, he.1, he.2⟩
                    · exact he.elim
              · intro e H' a' w' K' β' q1 R3 T3 s3 d3 l3 f3
                exact hQ e t0 H' a' w' K' β' q1 R3 T3 s3 d3 (l02.trans fun z hz x hx => l3 z (List.getElem?_eq_some_iff.1 hx).1 x hx) (f02.trans f3)
        · exact h.elim
      · exact h.elim
    · exact h.elim
  | scope b ih =>
    intro inn s ts H Q h
    simp only [wpC] at h
    exact VW.scopeQ (ih _ _ _ _ _ h)
  | _ => intro inn s ts H Q h; exact Stuck.elim h
end
/-! ### functions -/
/-- the end of a function: what is frozen, what is handed on -/
def endP (P : Program) (s : Nat) (fz : List Nat) (rs : List ResultVar) (ts : Tv) (H : List VO) (Q : TV → List VO → Prop) : Prop :=
  match resL P (hp H) ts rs with
  | some (xs, _) => match (reach (hp H) 4000 (fz.flatMap fun i => t1Ls ((xs.drop i).take 1)) []).filter (fun o => Nat.ble s o) with
    | fo => match evGs s (fo.reverse.map Gh.frz) ts H with
      | some (t2, H2, q2) => match resL P (hp H2) t2 rs with
        | some (xs2, q3) => match reach (hp H2) 4000 (kids (hp H2) (List.range s) ++ t1Ls xs2) (List.range s) with
          | fin => bif nodupB fin && prefB s fin then (match subH (hp H2) fin, renV (posL fin) (resV xs2) with
            | some H', some r => (q2 ∧ q3) ∧ Q r H'
            | _, _ => Stuck [9001] ts H) else Stuck [9002] ts H
        | none => Stuck [9003] ts H
      | none => Stuck [9004] ts H
  | none => Stuck [9005] ts H
/-- told otherwise ahead of the end, where it can be -/
def endG (P : Program) (s : Nat) (eg : List Gh) (fz : List Nat) (rs : List ResultVar) (ts : Tv) (H : List VO) (Q : TV → List VO → Prop) : Prop := match evGs s eg ts H with
  | some (t, h, q) => q ∧ endP P s fz rs t h Q
  | none => endP P s fz rs ts H Q
def wpFn (P : Program) (f : FuncId) (O : OrcW) (fz : List Nat) (as : List TV) (H : List VO) (Q : TV → List VO → Prop) : Prop := match P.funcs[f]? with
  | some fn => match fn.body with
    | some b => bif Nat.ble as.length fn.ntmps then wpC P fn.ntmps O b false H.length (argT 0 as) H (fun e ts H1 => match e with
      | .exit _ => Stuck [9006] ts H1
      | .normal => endG P H.length O.eg fz fn.results.toList ts H1 Q
      | .ret => endG P H.length O.eg fz fn.results.toList ts H1 Q) else Stuck [9007] [] H
    | none => Stuck [9008] [] H
  | none => Stuck [9009] [] H
/-- what a call is known by -/
structure VQ (P : Program) (f : FuncId) (as : List TV) (H : List VO) (Q : TV → List VO → Prop) : Prop where
  ent : ∀ (xs : Array Value) (W : World), (callFunc f xs).run P W = .ok (.enter f xs) W
  run : ∀ (w : World) (K : Kap) (β : Bt) (args : List Value), VRel P K (hp H) β w → F2 (VR P K (hp H) β) as args → Calls P f args.toArray w fun e w' => ∃ r H' v' K' β', Q r H' ∧ e = .returned v' ∧ SP P K (hp H) β w (hp H') r v' w' K' β'
theorem VQ.vc {P : Program} {f : FuncId} {as : List TV} {H H' : List VO} {r : TV} (h : VQ P f as H fun r1 H1 => r1 = r ∧ H1 = H') : VC P f as H r H' := by
  refine ⟨h.1, fun w K β vs R hv => Calls.mono (h.2 w K β vs R hv) ?_⟩
  rintro e w' ⟨r1, H1, v', K', β', ⟨rfl, rfl⟩, rfl, S⟩
  exact ⟨v', K', β', rfl, S⟩
section
variable {inn : Bool} {P : Program} {nt s : Nat} {O : OrcW} {K : Kap} {β : Bt} {a : Act} {w : World} {ts ts' : Tv} {H H' : List VO}
theorem vq_fn (hm : P.follows .mixedOrders = true) (hn : noNum P = true) {f : FuncId} {fz : List Nat} {as : List TV} {Q : TV → List VO → Prop} (h : wpFn P f O fz as H Q) : VQ P f as H Q := by
  unfold wpFn at h
  split at h
  · rename_i fn hf
    split at h
    · rename_i b hb
      cases hle : Nat.ble as.length fn.ntmps with
      | false => rw [hle] at h; exact h.elim
      | true =>
      rw [hle] at h
      simp only [cond_true] at h
      have hle := Nat.le_of_ble_eq_true hle
      refine ⟨enter_of hn hf hb, fun w K β args R hargs => ?_⟩
      have hl := hargs.len
      refine (callsIn_wide (n := 0)).1 (callsIn_of_wp_marks (F := FW none) hf hb trivial ?_)
      have hsz : (args.toArray ++ Array.replicate (fn.ntmps - args.toArray.size) undef).size = fn.ntmps := by
        simp
        omega
      refine wpC_sim hm b false _ _ _ _ h none (fun _ => rfl) 0 K β _ w R (argT_sim hargs _) hsz _ ?_
      have fin : ∀ (ts1 : Tv) (H1 : List VO) (a1 : Act) (w1 : World) (K1 : Kap) (β1 : Bt), endP P H.length fz fn.results.toList ts1 H1 Q → VRel P K1 (hp H1) β1 w1 → TR P K1 (hp H1) β1 ts1 a1.tmps → LeS H.length (hp H) β (hp H1) β1 → Fr K (hp H) β w K1 (hp H1) β1 w1 →
          ∃ v', (results fn a1.tmps).run P w1 = .ok v' w1 ∧ ∃ r H' v2 K' β', Q r H' ∧ v' = v2 ∧ SP P K (hp H) β w (hp H') r v2 w1 K' β' := by
        intro ts1 H1 a1 w1 K1 β1 he R1 T1 l1 f1
        unfold endP at he
        split at he
        · simp only at he
          split at he
          · rename_i t2 H2 q2 hgs
            split at he
            · rename_i xs q3 hres
              generalize hfin : reach (hp H2) 4000 (kids (hp H2) (List.range H.length) ++ t1Ls xs) (List.range H.length) = fin at he
              cases hb2 : (nodupB fin && prefB H.length fin) with
              | false => rw [hb2] at he; exact he.elim
              | true =>
                rw [hb2] at he
                simp only [cond_true, Bool.and_eq_true] at he hb2
                split at he
                · rename_i Hf rf hHf hrf
                  obtain ⟨⟨hq2, hq3⟩, hQ⟩ := he
                  obtain ⟨K2, β2, R2, T2, l2, f2⟩ := ghosts_sim hgs hq2 R1 T1
                  obtain ⟨v', hr, hv⟩ := res_sim (fn := fn) R2 T2 (rs := fn.results.toList) (Array.toArray_toList).symm hres hq3
                  obtain ⟨ro, RS, hlen, hsel⟩ := sub_sim R2 (nodupB_spec hb2.1) hHf
                  have hpre := prefB_spec hb2.2
                  have l12 := l1.trans l2
                  have f12 := f1.trans f2
                  refine ⟨v', hr, rf, Hf, v', K2, bts fin β2, hQ, rfl, RS, hv.ren ro hrf, ⟨f12.k, fun o x hx => ?_⟩, f12.k, f12.bel, f12.blk, fun j B X g1 g2 => ?_, f12.nk, f12.kc⟩
                  · have ho : o < H.length := (List.getElem?_eq_some_iff.1 hx).1
                    have hpo := hpre o ho
                    rcases l12 o ho x hx with h5 | ⟨x', h5, h6, h7⟩
                    · obtain ⟨x2, y, g1, g2, g3⟩ := hsel o o hpo
                      rw [h5] at g1
                      cases g1
                      left
                      show Hf[o]? = _
                      rw [g2, shape_dead g3]
                    · obtain ⟨x2, y, g1, g2, g3⟩ := hsel o o hpo
                      rw [h5] at g1
                      cases g1
                      exact .inr ⟨y, g2, g3.trans h6, by simp [bts, hpo, h7]⟩
                  · obtain ⟨y, st, g3, g4⟩ := g1
                    have hlt : j < fin.length := by
                      have := (List.getElem?_eq_some_iff.1 g3).1
                      omega
                    obtain ⟨x', y', h5, h6, h7⟩ := hsel j fin[j] (by simp [hlt])
                    have : y' = y := by
                      have g3' : Hf[j]? = some y := g3
                      rw [h6] at g3'
                      exact Option.some.inj g3'
                    subst this
                    exact f12.nb fin[j] B X ⟨x', st, h5, h7 ▸ g4⟩ (by simpa [bts, hlt] using g2)
                · exact he.elim
            · exact he.elim
          · exact he.elim
        · exact he.elim
      have fin2 : ∀ (ts1 : Tv) (H1 : List VO) (a1 : Act) (w1 : World) (K1 : Kap) (β1 : Bt), endG P H.length O.eg fz fn.results.toList ts1 H1 Q → VRel P K1 (hp H1) β1 w1 → TR P K1 (hp H1) β1 ts1 a1.tmps → LeS H.length (hp H) β (hp H1) β1 → Fr K (hp H) β w K1 (hp H1) β1 w1 →
          ∃ v', (results fn a1.tmps).run P w1 = .ok v' w1 ∧ ∃ r H' v2 K' β', Q r H' ∧ v' = v2 ∧ SP P K (hp H) β w (hp H') r v2 w1 K' β' := by
        intro ts1 H1 a1 w1 K1 β1 he R1 T1 l1 f1
        unfold endG at he
        split at he
        · rename_i t2 h2 q2 hgs
          obtain ⟨K2, β2, R2, T2, l2, f2⟩ := ghosts_sim hgs he.1 R1 T1
          exact fin t2 h2 a1 w1 K2 β2 he.2 R2 T2 (l1.trans l2) (f1.trans f2)
        · exact fin ts1 H1 a1 w1 K1 β1 he R1 T1 l1 f1
      intro e t1 hh1 a1 w0 K1 β1 q1 R0' T1 s1 d1 l1 f0
      obtain ⟨ds, hds, hnd, hD⟩ := d1.ex
      have R1' := R0'.take (ds := ds) fun D hm => (hD D hm).2
      have f1 := f0.take (P := P) (ds := ds) fun D hm => (hD D hm).1
      have hds' : a1.defers = ds.map mkD := by rw [hds]; exact List.append_nil _
      have hlv : ∀ {R : Ending → World → Prop}, (∃ v, (results fn a1.tmps).run P (takeAll ds w0) = .ok v (takeAll ds w0) ∧ R (.returned v) (takeAll ds w0)) → LeavesInM (FW none) 0 P fn a1.tmps R a1.defers .returning w0 := fun h => by
        rw [hds']
        exact leaves_marks ds w0 hnd (fun D hm => (hD D hm).2.2) h
      generalize takeAll ds w0 = w1 at R1' f1 hlv
      cases e with
      | exit i => exact q1.elim
      | normal =>
        obtain ⟨v', hr, r, H', v2, K', β', hQ, rfl, S⟩ := fin2 t1 hh1 a1 w1 K1 β1 q1 R1' T1 l1 f1
        exact hlv ⟨v', hr, r, H', v', K', β', hQ, rfl, S⟩
      | ret =>
        obtain ⟨v', hr, r, H', v2, K', β', hQ, rfl, S⟩ := fin2 t1 hh1 a1 w1 K1 β1 q1 R1' T1 l1 f1
        exact hlv ⟨v', hr, r, H', v', K', β', hQ, rfl, S⟩
    · exact h.elim
  · exact h.elim
/-- a function of the program, all its ways -/
theorem vc_wp (hm : P.follows .mixedOrders = true) (hn : noNum P = true) {f : FuncId} (O : OrcW) (fz : List Nat) {as : List TV} {r : TV} {X : Prop} (e : wpFn P f O fz as H (fun r1 H1 => r1 = r ∧ H1 = H') = X) (h : X) : VC P f as H r H' :=
  VQ.vc (vq_fn hm hn (by rw [e]; exact h))
end
end Go.Proofs.Ytpjlgjhkdligfaa.Vg

namespace Go.Proofs.Ytpjlgjhkdligfaa.Vg
open Go.RowKit
set_option linter.unusedVariables false

def tabOf : List (Nat × (List TV → List VO → Option Alt)) → FuncId → List TV → List VO → Option Alt
  | [], _, _, _ => none
  | (k, t) :: r, g, as, H => bif Nat.beq k g then (match t as H with
    | some a => some a
    | none => tabOf r g as H) else tabOf r g as H
def spOf : List (Nat × List Nat) → Nat → List Nat
  | [], _ => []
  | (k, l) :: r, i => bif Nat.beq k i then l else spOf r i
def loOf : List (Nat × LO) → Nat → LO
  | [], _ => .un 0 []
  | (k, l) :: r, i => bif Nat.beq k i then l else loOf r i
def fI (x : Int) : FV := .v (.int .i64 x)
def fB (b : Bool) : FV := .v (.bool b)
theorem brD {p : Prop} [Decidable p] {A B : Prop} (h1 : p → decide p = true → A) (h2 : ¬ p → decide p = false → B) : brP (decide p) A B := by
  by_cases h : p
  · exact brP_intro (fun _ => h1 h (decide_eq_true h)) (fun h' => by rw [decide_eq_true h] at h'; cases h')
  · exact brP_intro (fun h' => (h (of_decide_eq_true h')).elim) (fun _ => h2 h (decide_eq_false h))
theorem brE {a b : Int} {A B : Prop} (h1 : a = b → (a == b) = true → A) (h2 : ¬ a = b → (a == b) = false → B) : brP (a == b) A B := by
  by_cases h : a = b
  · exact brP_intro (fun _ => h1 h (by simp [h])) (fun h' => by simp [h] at h')
  · exact brP_intro (fun h' => (h (by simpa using h')).elim) (fun _ => h2 h (by simp [h]))
theorem brN {a b : Int} {A B : Prop} (h1 : ¬ a = b → (a != b) = true → A) (h2 : a = b → (a != b) = false → B) : brP (a != b) A B := by
  by_cases h : a = b
  · exact brP_intro (fun h' => by simp [h] at h') (fun _ => h2 h (by simp [h]))
  · exact brP_intro (fun _ => h1 h (by simp [h])) (fun h' => (h (by simpa using h')).elim)
theorem allp0 : AllP [] := trivial
theorem allp2 {p : Prop} : ∀ {r : List Prop}, p → AllP r → AllP (p :: r)
  | [], hp, _ => hp
  | _ :: _, hp, hr => ⟨hp, hr⟩
theorem wrap_in {x : Int} (h0 : -9223372036854775808 ≤ x) (h1 : x ≤ 9223372036854775807) : IntKind.i64.wrap x = x := by
  unfold IntKind.wrap
  have h2 : (2 : Int) ^ (IntKind.i64.bits - 1) = 9223372036854775808 := rfl
  have h3 : (2 : Int) ^ IntKind.i64.bits = 18446744073709551616 := rfl
  simp only [h2, h3]
  by_cases h : 0 ≤ x
  · have e : x % 18446744073709551616 = x := by omega
    rw [e]
    split
    · rename_i h4
      simp only [Bool.and_eq_true, decide_eq_true_eq] at h4
      omega
    · rfl
  · have e : x % 18446744073709551616 = x + 18446744073709551616 := by omega
    rw [e]
    split
    · rename_i h4
      omega
    · rename_i h4
      simp only [Bool.and_eq_true, decide_eq_true_eq, not_and] at h4
      exact (h4 rfl (by omega)).elim
/-- a sum that does not go round -/
theorem tI_nw {x : Int} (h0 : -9223372036854775808 ≤ x) (h1 : x ≤ 9223372036854775807) : tI (IntKind.i64.wrap x) = tI x := by rw [wrap_in h0 h1]
theorem tB_of {t b : Bool} (h : t = b) : tB t = tB b := by rw [h]
theorem tB_dd {p q : Prop} [Decidable p] [Decidable q] (h : p ↔ q) : tB (decide p) = tB (decide q) := by rw [decide_eq_decide.2 h]
theorem tB_dt {p : Prop} [Decidable p] (h : p) : tB true = tB (decide p) := by rw [decide_eq_true h]
theorem tB_df {p : Prop} [Decidable p] (h : ¬ p) : tB false = tB (decide p) := by rw [decide_eq_false h]
theorem tB_td {p : Prop} [Decidable p] (h : p) : tB (decide p) = tB true := by rw [decide_eq_true h]
theorem tB_fd {p : Prop} [Decidable p] (h : ¬ p) : tB (decide p) = tB false := by rw [decide_eq_false h]
def txt8 (bs : List Int) : List FV := bs.map u8v
/-- bytes, frozen -/
def byt (z : Option Bool) (bs : List Int) : FV := .sl z (bs.map u8v) bs.length
def ptO : TV → Nat
  | .o (.c (.f (.pt _ off))) => off
  | .o (.c (.rp _ off)) => off
  | _ => 0
theorem ld1 {α : Type} {f : α → FV} {l : List α} {d : α} {i : Nat} (h : i < l.length) : ((l.map f).drop i).take 1 = [f (l.getD i d)] := by
  rw [List.drop_eq_getElem_cons (by simpa using h)]
  simp [List.getD, h]
theorem ld1m {α : Type} {f : α → FV} {l : List α} {d : α} {i : Nat} (h : i < l.length) : ((l.map f).drop (i * 1)).take 1 = [f (l.getD (i * 1) d)] := by
  rw [Nat.mul_one]; exact ld1 h
theorem flat_len {α : Type} {f : α → List FV} {k : Nat} (hk : ∀ a, (f a).length = k) : ∀ l : List α, (l.flatMap f).length = l.length * k
  | [] => by simp
  | a :: l => by rw [List.flatMap_cons, List.length_append, hk, flat_len hk l, List.length_cons, Nat.add_mul, Nat.one_mul, Nat.add_comm]
theorem flat_drop {α : Type} {f : α → List FV} {k : Nat} (hk : ∀ a, (f a).length = k) : ∀ (l : List α) (i : Nat), (l.flatMap f).drop (i * k) = (l.drop i).flatMap f
  | l, 0 => by simp
  | [], i + 1 => by simp
  | a :: l, i + 1 => by
    rw [List.flatMap_cons, Nat.add_mul, Nat.one_mul, Nat.add_comm, List.drop_append, hk, List.drop_eq_nil_of_le (by rw [hk]; omega), List.nil_append, Nat.add_sub_cancel_left, flat_drop hk l i, List.drop_succ_cons]
theorem flat_take {α : Type} {f : α → List FV} {k : Nat} (hk : ∀ a, (f a).length = k) : ∀ (l : List α) (i : Nat), (l.flatMap f).take (i * k) = (l.take i).flatMap f
  | l, 0 => by simp
  | [], i + 1 => by simp
  | a :: l, i + 1 => by
    rw [List.flatMap_cons, Nat.add_mul, Nat.one_mul, Nat.add_comm, List.take_append, hk, List.take_of_length_le (by rw [hk]; omega), Nat.add_sub_cancel_left, flat_take hk l i, List.take_succ_cons, List.flatMap_cons]
theorem ldr {α : Type} {f : α → List FV} {k : Nat} (hk : ∀ a, (f a).length = k) {l : List α} {d : α} {i : Nat} (h : i < l.length) : ((l.flatMap f).drop (i * k)).take k = f (l.getD i d) := by
  rw [flat_drop hk, List.drop_eq_getElem_cons h, List.flatMap_cons, List.take_left' (hk _)]
  simp [List.getD, h]
def ixN : TV → Nat
  | .o (.c (.f (.v (.int _ n)))) => n.toNat
  | _ => 0
def ixI : TV → Int
  | .o (.c (.f (.v (.int _ n)))) => n
  | _ => 0
end Go.Proofs.Ytpjlgjhkdligfaa.Vg

namespace Go.Proofs.Ytpjlgjhkdligfaa.Vg
open Go.RowKit
set_option linter.unusedVariables false
/-- nil or not -/
theorem VC.nil_arg {P : Program} {f : FuncId} {cs : List FV} {n : Nat} {xs : List TV} {H H' : List VO} {r : TV} (h : ∀ z : Bool, (z = true → cs = [] ∧ n = 0) → VC P f (tF (.sl (some z) cs n) :: xs) H r H') : VC P f (tF (.sl none cs n) :: xs) H r H' := by
  by_cases hc : cs = [] ∧ n = 0
  · refine VC.args (as1 := tF (.sl (some false) cs n) :: xs) (as2 := tF (.sl (some true) cs n) :: xs) (fun K κ β vs hv => ?_) (h false (fun h => by cases h)) (h true (fun _ => hc))
    cases hv with
    | cons h1 h2 =>
      cases h1 with | o h1 => cases h1 with | c h1 => cases h1 with
      | dead hx _ _ => cases hx
      | f h1 => exact h1.cases_nil.imp (fun h => .cons (.o (.c (.f h))) h2) (fun h => .cons (.o (.c (.f h))) h2)
  · refine VC.arg (as1 := tF (.sl (some false) cs n) :: xs) (fun K κ β vs hv => ?_) (h false (fun h => by cases h))
    cases hv with
    | cons h1 h2 =>
      cases h1 with | o h1 => cases h1 with | c h1 => cases h1 with
      | dead hx _ _ => cases hx
      | f h1 =>
        rcases h1.cases_nil with h | h
        · exact .cons (.o (.c (.f h))) h2
        · exact (hc ⟨h.true_nil.1, h.true_nil.2.1⟩).elim
theorem VC.arg2 {P : Program} {f : FuncId} {as as1 : List TV} {H H' : List VO} {r : TV} (hc : ∀ w K β vs, VRel P K (hp H) β w → F2 (VR P K (hp H) β) as vs → F2 (VR P K (hp H) β) as1 vs) (h : VC P f as1 H r H') : VC P f as H r H' :=
  ⟨h.1, fun w K β vs R hv => h.2 w K β vs R (hc w K β vs R hv)⟩
/-- an empty cut of a row is an empty slice -/
theorem rs0_sl {P : Program} {K : Kap} {κ : Hp} {β : Bt} {o off k sz : Nat} {v : Value} (hl : ∃ x s, κ o = some x ∧ x.shape = some s) (h : CR P K κ β (.rs o off 0 k sz) v) : CR P K κ β (.f (.sl none [] 0)) v := by
  cases h with
  | dead hx hd _ =>
    cases hx
    obtain ⟨x, s, h1, h2⟩ := hl
    rw [hd] at h1
    cases h1
    cases h2
  | rs _ _ _ _ _ => exact .f (.sl0 fun b hb => by cases hb)
  | rs0 _ _ => exact .f (.sl0 fun b hb => by cases hb)
theorem strOf_go : ∀ (ns : List Int) (r : ByteArray), (ns.foldl (fun r n => r.push (UInt8.ofNat n.toNat)) r).data.toList = r.data.toList ++ ns.map fun n => UInt8.ofNat n.toNat
  | [], r => by simp
  | n :: ns, r => by rw [List.foldl_cons, strOf_go ns]; simp [ByteArray.push]
theorem strOf_list (ns : List Int) : (strOf ns).data.toList = ns.map fun n => UInt8.ofNat n.toNat := by
  unfold strOf; rw [strOf_go]; simp
def Byt (ns : List Int) : Prop := ∀ x ∈ ns, 0 ≤ x ∧ x < 256
theorem u8_back {n : Int} (h : 0 ≤ n ∧ n < 256) : ((UInt8.ofNat n.toNat).toNat : Int) = n := by
  rw [UInt8.toNat_ofNat']
  omega
/-- an original text -/
def sO (o : List Int) : ByteArray := strF (o.map u8v)
theorem sO_list (o : List Int) : (sO o).data.toList = o.map fun n => UInt8.ofNat n.toNat := by unfold sO; rw [strF_u8, strOf_list]
theorem sO_size (o : List Int) : (sO o).size = o.length := by
  have := congrArg List.length (sO_list o)
  rw [List.length_map] at this
  exact this
theorem map_back {f : Int → Int} : ∀ {o : List Int}, (∀ x ∈ o, f x = x) → o.map f = o
  | [], _ => rfl
  | a :: o, h => by rw [List.map_cons, h a (by simp), map_back fun x hx => h x (by simp [hx])]
theorem Byt.drop {o : List Int} (h : Byt o) (a : Nat) : Byt (o.drop a) := fun x hx => h x (List.mem_of_mem_drop hx)
theorem Byt.take {o : List Int} (h : Byt o) (a : Nat) : Byt (o.take a) := fun x hx => h x (List.mem_of_mem_take hx)
theorem Byt.app {o p : List Int} (h : Byt o) (k : Byt p) : Byt (o ++ p) := fun x hx => (List.mem_append.1 hx).elim (h x) (k x)
theorem sO_ext {o : List Int} (h : Byt o) (a b : Nat) : ((sO o).extract a b).data.toList.map (fun x => u8v x.toNat) = ((o.drop a).take (b - a)).map u8v := by
  have e : ((sO o).extract a b).data.toList = ((o.drop a).take (b - a)).map fun n => UInt8.ofNat n.toNat := by
    rw [ByteArray.data_extract, Array.toList_extract, sO_list, List.extract_eq_take_drop, ← List.map_drop, ← List.map_take]
  rw [e, List.map_map]
  refine List.map_congr_left fun x hx => ?_
  simp only [Function.comp]
  rw [u8_back ((h.drop a).take _ x hx)]
theorem sO_ext_size (o : List Int) (a b : Nat) : ((sO o).extract a b).size = ((o.drop a).take (b - a)).length := by
  rw [ByteArray.size_extract, sO_size, List.length_take, List.length_drop]
  omega
theorem sO_inj {o p : List Int} (ho : Byt o) (hp : Byt p) (h : sO o = sO p) : o = p := by
  have := congrArg (fun s : ByteArray => s.data.toList.map fun x => (x.toNat : Int)) h
  simp only [sO_list, List.map_map] at this
  have e : ∀ {l : List Int}, Byt l → l.map ((fun x : UInt8 => (x.toNat : Int)) ∘ fun n => UInt8.ofNat n.toNat) = l := fun {l} hl => map_back (f := (fun x : UInt8 => (x.toNat : Int)) ∘ fun n => UInt8.ofNat n.toNat) fun x hx => u8_back (hl x hx)
  rwa [e ho, e hp] at this
theorem sO_get {o : List Int} (ho : Byt o) {i : Nat} (hi : i < o.length) : (((sO o).get! i).toNat : Int) = o.getD i 0 := by
  have hs : (sO o).data.size = o.length := sO_size o
  have e1 : (sO o).get! i = (sO o).data[i]'(by rw [hs]; exact hi) := by
    show (sO o).data[i]! = _
    rw [getElem!_pos]
  have e2 : (sO o).data[i]'(by rw [hs]; exact hi) = (sO o).data.toList[i]'(by rw [Array.length_toList, hs]; exact hi) := by simp only [Array.getElem_toList]
  have e3 : (sO o).data.toList[i]'(by rw [Array.length_toList, hs]; exact hi) = UInt8.ofNat (o[i]).toNat := by
    simp only [sO_list, List.getElem_map]
  rw [e1, e2, e3, u8_back (ho _ (List.getElem_mem hi))]
  rw [List.getD_eq_getElem?_getD, List.getElem?_eq_getElem hi]
  rfl
end Go.Proofs.Ytpjlgjhkdligfaa.Vg
