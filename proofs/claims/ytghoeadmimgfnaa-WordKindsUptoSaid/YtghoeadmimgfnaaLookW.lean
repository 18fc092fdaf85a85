/- word.look: what is known of the memory while its three lists grow. No law, no condition. -/
import Derived.Test.YtghoeadmimgfnaaHand
import Derived.Test.YtghoeadmimgfnaaAgg
namespace Go.Proofs.Ytghoeadmimgfnaa.Hand
open Go.RowKit Go.Proofs.Ytghoeadmimgfnaa.PWa Go.Proofs.Ytghoeadmimgfnaa.Aggs Go.Proofs.YtghoeadmimgfnaaW.PrintWords Go.Proofs.YtghoeadmimgfnaaW.PrintLast Go.Proofs.YtghoeadmimgfnaaW.PrintMore
set_option linter.unusedVariables false
set_option linter.unusedSimpArgs false

/-- a row of ints of one's own, apart from two others' -/
abbrev OR (W : World) (n : Nat) (a b : Value) (v : Value) (l : List Int) : Prop := Kd.R (Kd.int .i64) 3 W n (fun k => ((n + 4 ≤ k ∧ some k ≠ a.ownBlock) ∧ some k ≠ b.ownBlock)) v l
theorem OR.swap {W : World} {n : Nat} {a b v : Value} {l : List Int} (h : OR W n a b v l) : OR W n b a v l := Kd.R_mono h fun _ hk => ⟨⟨hk.1.1, hk.2⟩, hk.1.2⟩
structure LI (w : World) (b0 b1 : Value) (W : World) (x0 x1 x2 v0 v1 v2 : Value) (l0 l1 l2 : List Int) : Prop where
  hb : Below w.heap.size w W
  sz : w.heap.size + 4 ≤ W.heap.size
  c0 : W.heap[w.heap.size]? = some (.cells #[b0] 22 (0, 0))
  c1 : W.heap[w.heap.size + 1]? = some (.cells #[b1] 4 (0, 0))
  c2 : W.heap[w.heap.size + 1 + 1]? = some (.cells #[.slice none 0 0, .slice none 0 0, .slice none 0 0] 52 (0, 0))
  c3 : W.heap[w.heap.size + 1 + 1 + 1]? = some (.cells #[x0, x1, x2] 52 (0, 0))
  r0 : OR W w.heap.size v1 v2 v0 l0
  r1 : OR W w.heap.size v0 v2 v1 l1
  r2 : OR W w.heap.size v0 v1 v2 l2
section
variable {w : World} {b0 b1 : Value} {W W1 : World} {x0 x1 x2 v0 v1 v2 v : Value} {l0 l1 l2 l : List Int}
theorem LI.step (h : LI w b0 b1 W x0 x1 x2 v0 v1 v2 l0 l1 l2) (hb : Below W.heap.size W W1) : LI w b0 b1 W1 x0 x1 x2 v0 v1 v2 l0 l1 l2 := by
  have := h.sz
  exact ⟨below_step h.hb hb, Nat.le_trans h.sz hb.size, (hb.block _ (by omega)).trans h.c0, (hb.block _ (by omega)).trans h.c1, (hb.block _ (by omega)).trans h.c2, (hb.block _ (by omega)).trans h.c3,
    Kd.R_below h.r0 hb, Kd.R_below h.r1 hb, Kd.R_below h.r2 hb⟩
theorem LI.alloc (h : LI w b0 b1 W x0 x1 x2 v0 v1 v2 l0 l1 l2) (o : Obj) : LI w b0 b1 (W.alloc o) x0 x1 x2 v0 v1 v2 l0 l1 l2 := h.step ((Below.refl _ _).alloc (Nat.le_refl _) o)
theorem LI.drew (h : LI w b0 b1 W x0 x1 x2 v0 v1 v2 l0 l1 l2) : LI w b0 b1 W.drew x0 x1 x2 v0 v1 v2 l0 l1 l2 := h.step (below_drew (Below.refl _ _))
theorem LI.far (h : LI w b0 b1 W x0 x1 x2 v0 v1 v2 l0 l1 l2) {row : Option Nat} (hg : W.grownBy W1 row) (hr : ∀ k, row = some k → w.heap.size + 4 ≤ k) (b : Nat) (hb : b < w.heap.size + 4) : W1.heap[b]? = W.heap[b]? := by
  have := h.sz
  exact hg.block b (by omega) (fun e => by have := hr b e.symm; omega)
/-- the first list grows -/
theorem LI.grow0 (h : LI w b0 b1 W x0 x1 x2 v0 v1 v2 l0 l1 l2) (hR : OR W1 w.heap.size v1 v2 v l) (hB : Below w.heap.size w W1) (hg : W.grownBy W1 v0.ownBlock) (hat : v.ownBlock = v0.ownBlock ∨ ∃ b, v.ownBlock = some b ∧ W.heap.size ≤ b) :
    LI w b0 b1 W1 x0 x1 x2 v v1 v2 l l1 l2 := by
  have hf := h.far hg (fun k hk => (h.r0.1 k hk).1.1)
  exact ⟨hB, Nat.le_trans h.sz hg.size, (hf _ (by omega)).trans h.c0, (hf _ (by omega)).trans h.c1, (hf _ (by omega)).trans h.c2, (hf _ (by omega)).trans h.c3, hR, OR.swap (Kd.R_after h.r1.swap hg hat : OR W1 _ v2 v v1 l1), OR.swap (Kd.R_after h.r2.swap hg hat : OR W1 _ v1 v v2 l2)⟩
theorem LI.grow1 (h : LI w b0 b1 W x0 x1 x2 v0 v1 v2 l0 l1 l2) (hR : OR W1 w.heap.size v0 v2 v l) (hB : Below w.heap.size w W1) (hg : W.grownBy W1 v1.ownBlock) (hat : v.ownBlock = v1.ownBlock ∨ ∃ b, v.ownBlock = some b ∧ W.heap.size ≤ b) :
    LI w b0 b1 W1 x0 x1 x2 v0 v v2 l0 l l2 := by
  have hf := h.far hg (fun k hk => (h.r1.1 k hk).1.1)
  exact ⟨hB, Nat.le_trans h.sz hg.size, (hf _ (by omega)).trans h.c0, (hf _ (by omega)).trans h.c1, (hf _ (by omega)).trans h.c2, (hf _ (by omega)).trans h.c3, OR.swap (Kd.R_after h.r0.swap hg hat : OR W1 _ v2 v v0 l0), hR, (Kd.R_after h.r2 hg hat : OR W1 _ v0 v v2 l2)⟩
theorem LI.grow2 (h : LI w b0 b1 W x0 x1 x2 v0 v1 v2 l0 l1 l2) (hR : OR W1 w.heap.size v0 v1 v l) (hB : Below w.heap.size w W1) (hg : W.grownBy W1 v2.ownBlock) (hat : v.ownBlock = v2.ownBlock ∨ ∃ b, v.ownBlock = some b ∧ W.heap.size ≤ b) :
    LI w b0 b1 W1 x0 x1 x2 v0 v1 v l0 l1 l := by
  have hf := h.far hg (fun k hk => (h.r2.1 k hk).1.1)
  exact ⟨hB, Nat.le_trans h.sz hg.size, (hf _ (by omega)).trans h.c0, (hf _ (by omega)).trans h.c1, (hf _ (by omega)).trans h.c2, (hf _ (by omega)).trans h.c3, (Kd.R_after h.r0 hg hat : OR W1 _ v1 v v0 l0), (Kd.R_after h.r1 hg hat : OR W1 _ v0 v v1 l1), hR⟩
theorem LI.put (h : LI w b0 b1 W x0 x1 x2 v0 v1 v2 l0 l1 l2) (j : Nat) {y0 y1 y2 : Value} (u : Value) (hq : (#[x0, x1, x2] : Array Value).setIfInBounds j u = #[y0, y1, y2]) :
    LI w b0 b1 (W.setCell ⟨w.heap.size + 1 + 1 + 1, j, none⟩ u) y0 y1 y2 v0 v1 v2 l0 l1 l2 := by
  have hs : (W.setCell ⟨w.heap.size + 1 + 1 + 1, j, none⟩ u).heap.size = W.heap.size := by
    simp [World.setCell]
  refine ⟨h.hb.setCell (p := ⟨w.heap.size + 1 + 1 + 1, j, none⟩) (by show w.heap.size ≤ w.heap.size + 1 + 1 + 1; omega) u, by rw [hs]; exact h.sz, blk_far h.c0 (by simp <;> omega) _, blk_far h.c1 (by simp) _, blk_far h.c2 (by simp) _, ?_,
    Kd.R_far h.r0 (fun k hk => by have := hk.1.1; show k ≠ w.heap.size + 1 + 1 + 1; omega) _, Kd.R_far h.r1 (fun k hk => by have := hk.1.1; show k ≠ w.heap.size + 1 + 1 + 1; omega) _, Kd.R_far h.r2 (fun k hk => by have := hk.1.1; show k ≠ w.heap.size + 1 + 1 + 1; omega) _⟩
  exact blk_put h.c3 j u hq
end
section
variable {w : World} {b0 b1 : Value} {W W1 : World} {x0 x1 x2 v0 v1 v2 v : Value} {l0 l1 l2 l : List Int}
theorem LI.s0 (h : LI w b0 b1 W x0 x1 x2 v0 v1 v2 l0 l1 l2) : W.cell? ⟨w.heap.size + 1 + 1 + 1, 0, none⟩ = some x0 := by rw [blk_cell h.c3]; rfl
theorem LI.s1 (h : LI w b0 b1 W x0 x1 x2 v0 v1 v2 l0 l1 l2) : W.cell? ⟨w.heap.size + 1 + 1 + 1, 1, none⟩ = some x1 := by rw [blk_cell h.c3]; rfl
theorem LI.s2 (h : LI w b0 b1 W x0 x1 x2 v0 v1 v2 l0 l1 l2) : W.cell? ⟨w.heap.size + 1 + 1 + 1, 2, none⟩ = some x2 := by rw [blk_cell h.c3]; rfl
theorem LI.fz (h : LI w b0 b1 W x0 x1 x2 v0 v1 v2 l0 l1 l2) (j : Nat) : W.frozen? ⟨w.heap.size + 1 + 1 + 1, j, none⟩ = false := blk_frozen h.c3 j
theorem LI.fr0 (h : LI w b0 b1 W x0 x1 x2 v0 v1 v2 l0 l1 l2) (k : Nat) (hk : W.heap.size ≤ k) : (w.heap.size + 4 ≤ k ∧ some k ≠ v1.ownBlock) ∧ some k ≠ v2.ownBlock := by
  have := h.sz
  exact ⟨⟨by omega, fun e => by have := Kd.R_lt h.r1 k e.symm; omega⟩, fun e => by have := Kd.R_lt h.r2 k e.symm; omega⟩
theorem LI.fr1 (h : LI w b0 b1 W x0 x1 x2 v0 v1 v2 l0 l1 l2) (k : Nat) (hk : W.heap.size ≤ k) : (w.heap.size + 4 ≤ k ∧ some k ≠ v0.ownBlock) ∧ some k ≠ v2.ownBlock := by
  have := h.sz
  exact ⟨⟨by omega, fun e => by have := Kd.R_lt h.r0 k e.symm; omega⟩, fun e => by have := Kd.R_lt h.r2 k e.symm; omega⟩
theorem LI.fr2 (h : LI w b0 b1 W x0 x1 x2 v0 v1 v2 l0 l1 l2) (k : Nat) (hk : W.heap.size ≤ k) : (w.heap.size + 4 ≤ k ∧ some k ≠ v0.ownBlock) ∧ some k ≠ v1.ownBlock := by
  have := h.sz
  exact ⟨⟨by omega, fun e => by have := Kd.R_lt h.r0 k e.symm; omega⟩, fun e => by have := Kd.R_lt h.r1 k e.symm; omega⟩
/-- a block made behind is none of the lists' own -/
theorem LI.ne0 (h : LI w b0 b1 W x0 x1 x2 v0 v1 v2 l0 l1 l2) (k : Nat) (hk : W.heap.size ≤ k) : some k ≠ v0.ownBlock := fun e => by have := Kd.R_lt h.r0 k e.symm; omega
theorem LI.ne1 (h : LI w b0 b1 W x0 x1 x2 v0 v1 v2 l0 l1 l2) (k : Nat) (hk : W.heap.size ≤ k) : some k ≠ v1.ownBlock := fun e => by have := Kd.R_lt h.r1 k e.symm; omega
theorem LI.hs (h : LI w b0 b1 W x0 x1 x2 v0 v1 v2 l0 l1 l2) : w.heap.size ≤ W.heap.size := by have := h.sz; omega
end
/-- the place's own slice of one int, read -/
theorem one_reads {W : World} {g : Nat} {m : Int} (h : W.heap[g]? = some (.cells #[.int .i64 m] 3 (0, 0))) : ReadsRow ((Kd.int .i64).K W) 1 W (some ⟨g, 0, none⟩) 1 [m] := by
  refine ⟨rfl, by omega, fun _ => ⟨_, rfl, fun j p hj => ?_⟩⟩
  match j, hj with
  | 0, hj =>
    simp only [List.getElem?_cons_zero, Option.some.injEq] at hj
    subst hj
    refine ⟨[.int .i64 m], rfl, rfl, fun i u hi => ?_⟩
    match i, hi with
    | 0, hi =>
      simp only [List.getElem?_cons_zero, Option.some.injEq] at hi
      subst hi
      rw [add_plain', blk_cell h]
      rfl
    | i + 1, hi => simp at hi
  | j + 1, hj => simp at hj
theorem int_KM {W W' : World} {base : Nat} {okp : Nat → Prop} : ∀ (x : Int) (cs : List Value), (Kd.int .i64).K W x cs → (Kd.int .i64).M W' base okp x cs := fun _ _ h => h
/-! ### the lists, plain -/
def inWK (k : Int) : Bool := k == 2 || k == 1
def bareK (l : List Int) (big : Bool) (i : Int) : Bool := kindAt l big i == 3 && kindAt l big (i - 1) == 3
def begK (l : List Int) (big : Bool) (i : Int) : Bool := bareK l big i || (inWK (kindAt l big i) && kindAt l big (i - 1) != kindAt l big i)
def endK (l : List Int) (big : Bool) (i : Int) : Bool := inWK (kindAt l big i) && kindAt l big (i + 1) != kindAt l big i
def haltK (l : List Int) (big : Bool) (i : Int) : Bool := bareK l big i || endK l big i
def lst (p : Int → Bool) : Nat → List Int
  | 0 => []
  | m + 1 => if p m = true then lst p m ++ [(m : Int)] else lst p m
theorem lst_len (p : Int → Bool) : ∀ m, (lst p m).length ≤ m
  | 0 => Nat.le_refl _
  | m + 1 => by
    have := lst_len p m
    unfold lst
    split <;> simp <;> omega
theorem LI.cast {w : World} {b0 b1 : Value} {W : World} {x0 x1 x2 v0 v1 v2 : Value} {l0 l1 l2 k0 k1 k2 : List Int} (h : LI w b0 b1 W x0 x1 x2 v0 v1 v2 l0 l1 l2) (e0 : k0 = l0) (e1 : k1 = l1) (e2 : k2 = l2) : LI w b0 b1 W x0 x1 x2 v0 v1 v2 k0 k1 k2 := by
  subst e0 e1 e2
  exact h
set_option maxRecDepth 100000 in
theorem inword_calls (k : Int) (w : World) : Calls Try.prog 31 #[.int .i64 k] w fun e w' => e = .returned (.bool (inWK k)) ∧ Drawn0 w w' := by
  by_cases h : k = 2
  · have hb : (k == 2) = true := beq_iff_eq.mpr h
    have e0 : inWK k = true := by simp [inWK, h]
    rw [e0]
    clear e0 h
    go_enter Try.func31, Try.ntmps31
    go_wp2
    go_ret
    exact ⟨rfl, Drawn0.refl _⟩
  · have hb : (k == 2) = false := beq_eq_false_iff_ne.mpr h
    have e0 : inWK k = (k == 1) := by simp [inWK, h]
    rw [e0]
    clear e0 h
    go_enter Try.func31, Try.ntmps31
    go_wp2
    go_ret
    exact ⟨rfl, Drawn0.refl _⟩
theorem lst_yes {p : Int → Bool} {m : Nat} (h : p m = true) : lst p (m + 1) = lst p m ++ [(m : Int)] := by simp [lst, h]
theorem lst_no {p : Int → Bool} {m : Nat} (h : p m = false) : lst p (m + 1) = lst p m := by simp [lst, h]
theorem info3 : (Try.prog.info? 3).map (fun i => (i.zero, i.size, i.bytes)) = some (some (.int .i64 0), 1, 8) := by kernel_rfl
end Go.Proofs.Ytghoeadmimgfnaa.Hand
