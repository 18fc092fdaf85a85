/- WordKinds, plain: motions hang on the kinds of the bytes alone. No condition. -/
import Derived.Test.YtghoeadmimgfnaaWPlain
import Derived.Test.YtghoeadmimgfnaaAlive
import Derived.Test.YtghoeadmimgfnaaPWbx2
import Derived.Test.YtghoeadmimgfnaaPWbx4
namespace Go.Proofs.Ytghoeadmimgfnaa.Hand
open Go.RowKit Go.Proofs.Ytghoeadmimgfnaa.PWb Go.Proofs.YtghoeadmimgfnaaW.PrintWords
set_option linter.unusedVariables false
set_option linter.unusedSimpArgs false
/-- the byte that takes a byte's place -/
def swapK (os : List Int) (big : Bool) (x : Int) : Int := if cls (rd os x) big = cls x big then rd os x else x
theorem swap_cls (os : List Int) (big : Bool) (x : Int) : cls (swapK os big x) big = cls x big := by
  unfold swapK
  split
  · assumption
  · rfl
theorem kindAt_map (os T : List Int) (big : Bool) (i : Int) : kindAt (T.map (swapK os big)) big i = kindAt T big i := by
  unfold kindAt
  rw [List.length_map]
  split
  · rfl
  · split
    · rfl
    · rename_i h1 h2
      obtain ⟨n, rfl⟩ := Int.eq_ofNat_of_zero_le (show 0 ≤ i by omega)
      rw [rd_nat, rd_nat, List.getElem?_map, List.getElem?_eq_getElem (show n < T.length by omega)]
      exact swap_cls os big _
theorem mvF_map (os T : List Int) (big : Bool) (a n way : Nat) : mvF (T.map (swapK os big)) big a n way = mvF T big a n way := by
  have hk : kindAt (T.map (swapK os big)) big = kindAt T big := funext (kindAt_map os T big)
  have e0 : bareK (T.map (swapK os big)) big = bareK T big := by funext i; unfold bareK; rw [hk]
  have e1 : begK (T.map (swapK os big)) big = begK T big := by funext i; unfold begK; rw [hk, e0]
  have e2 : endK (T.map (swapK os big)) big = endK T big := by funext i; unfold endK; rw [hk]
  have e3 : haltK (T.map (swapK os big)) big = haltK T big := by funext i; unfold haltK; rw [e0, e2]
  unfold mvF
  rw [e1, e2, e3, List.length_map]
theorem mwF_map (os T : List Int) (j : Nat) (key : ByteArray) (hk : kix key = some j) (a n : Int) : mwF (T.map (swapK os (decide (3 < j)))) a n key = mwF T a n key := by
  unfold mwF
  rw [List.length_map, hk]
  simp only [mvF_map]
/-- the first i bytes swapped -/
def swapped (os : List Int) (big : Bool) (T : List Int) (i : Nat) : List Int := (T.take i).map (swapK os big) ++ T.drop i
theorem swapped_len (os : List Int) (big : Bool) (T : List Int) (i : Nat) : (swapped os big T i).length = T.length := by
  unfold swapped
  simp
  omega
theorem swapped_at (os : List Int) (big : Bool) (T : List Int) (i : Nat) (h : i < T.length) : rd (swapped os big T i) (i : Int) = rd T (i : Int) := by
  rw [rd_nat, rd_nat]
  unfold swapped
  rw [List.getElem?_append_right (by simp; omega)]
  simp
  congr 1
  congr 1
  omega
theorem swapped_set (os : List Int) (big : Bool) (T : List Int) (i : Nat) (h : i < T.length) : (swapped os big T i).set i (swapK os big (rd T (i : Int))) = swapped os big T (i + 1) := by
  unfold swapped
  rw [rd_nat]
  apply List.ext_getElem?
  intro k
  simp only [List.getElem?_set, List.length_append, List.length_map, List.length_take, List.length_drop, List.getElem?_append, List.getElem?_map, List.getElem?_take, List.getElem?_drop]
  by_cases hk : i = k
  · subst hk
    simp [h, Nat.min_eq_left (Nat.le_of_lt h), show min (i + 1) T.length = i + 1 by omega]
    omega
  · rw [if_neg hk]
    rcases Nat.lt_or_ge k i with h1 | h1
    · rw [if_pos (by omega), if_pos h1, if_pos (by omega), if_pos (by omega)]
    · rw [if_neg (by omega)]
      by_cases h2 : k < T.length
      · rw [if_neg (by omega)]
        congr 1
        omega
      · rw [List.getElem?_eq_none (by omega)]
        split
        · omega
        · rw [List.getElem?_eq_none (by omega)]
theorem swapped_same (os : List Int) (big : Bool) (T : List Int) (i : Nat) (h : i < T.length) (he : swapK os big (rd T (i : Int)) = rd T (i : Int)) : swapped os big T (i + 1) = swapped os big T i := by
  rw [← swapped_set os big T i h, he]
  apply List.ext_getElem?
  intro k
  rw [List.getElem?_set]
  split
  · rename_i hk
    subst hk
    rw [if_pos (by rw [swapped_len]; exact h)]
    have := swapped_at os big T i h
    rw [rd_nat] at this
    rw [← this, List.getElem?_eq_getElem (by rw [swapped_len]; exact h)]
    rfl
  · rfl
theorem swapped_all (os : List Int) (big : Bool) (T : List Int) : swapped os big T T.length = T.map (swapK os big) := by
  unfold swapped
  simp
theorem swapped_zero (os : List Int) (big : Bool) (T : List Int) : swapped os big T 0 = T := by simp [swapped]
theorem info5 : (Try.prog.info? 5).map (fun i => (i.zero, i.size, i.bytes)) = some (some (.int .u8 0), 1, 1) := by kernel_rfl
/-- a slice made empty -/
theorem empty_R (w : World) (b : Nat) (hb : b ≤ w.heap.size) (h2 : b + 2 ≤ w.heap.size) : Kd.R (Kd.int .u8) 5 (w.alloc (Obj.cells #[] 5)) b (fun k => b + 2 ≤ k) (.slice (some ⟨w.heap.size, 0, none⟩) 0 0) ([] : List Int) := by
  refine ⟨fun k hk => ?_, [], World.ownsRow_made w #[] 0 hb (by simp [maxLen]) rfl, Reps.none _ _⟩
  have : w.heap.size = k := by simpa [Value.ownBlock] using hk
  omega
/-- what is known of the memory while the bytes are swapped -/
structure KI (w : World) (A : Option Addr) (c : Nat) (T : List Int) (a m n : Int) (key : ByteArray) (os : List Int) (big : Bool) (A7 : Option Addr) (c7 : Nat) (W : World) (i : Nat) : Prop where
  a : W.heap[w.heap.size]? = some (.cells #[.slice A T.length c, .int .i64 a, .int .i64 m, .int .i64 n, .string key] 35 (0, 0))
  b : W.heap[w.heap.size + 1]? = some (.cells (nums .u8 os).toArray 42 (0, 0))
  B : Below w.heap.size w W
  r : Kd.R (Kd.int .u8) 5 W w.heap.size (fun k => w.heap.size + 2 ≤ k) (.slice A7 T.length c7) (swapped os big T i)
section
variable {g : Nat} {w : World} {A : Option Addr} {c : Nat} {T : List Int} {a m n : Int} {key : ByteArray} {os : List Int} {big : Bool} {A7 : Option Addr} {c7 : Nat} {W W1 : World} {i : Nat}
theorem KI.step (h : KI w A c T a m n key os big A7 c7 W i) (hb : Below W.heap.size W W1) : KI w A c T a m n key os big A7 c7 W1 i := ⟨blk_below h.a hb, blk_below h.b hb, below_step h.B hb, Kd.R_below h.r hb⟩
theorem KI.at_ (h : KI w A c T a m n key os big A7 c7 W i) (hi : i < T.length) : ∃ g, A7 = some ⟨g, 0, none⟩ ∧ w.heap.size + 2 ≤ g ∧ W.cell? ⟨g, i, none⟩ = some (.int .u8 (rd T (i : Int))) ∧ W.frozen? ⟨g, i, none⟩ = false := by
  obtain ⟨g, cap, e, h1, h2, _⟩ := Kd.R_form h.r (by rw [swapped_len]; omega)
  simp only [Value.slice.injEq, swapped_len] at e
  obtain ⟨rfl, -, rfl⟩ := e
  refine ⟨g, rfl, h.r.1 g (by simp [Value.ownBlock]), ?_⟩
  have hr := h.r
  rw [show T.length = (swapped os big T i).length by rw [swapped_len]] at hr
  have hc := Kd.R_cell (enc := Value.int .u8) (h1 := fun _ => rfl) (0 : Int) hr (i : Int) (by omega) (by rw [swapped_len]; omega)
  rw [Int.toNat_natCast] at hc
  refine ⟨?_, hc.2⟩
  rw [hc.1, ← swapped_at os big T i hi]
  rfl
theorem KI.put (h : KI w A c T a m n key os big (some ⟨g, 0, none⟩) c7 W i) (hi : i < T.length) (hg : w.heap.size + 2 ≤ g) (x : Int) (hx : swapK os big (rd T (i : Int)) = x) :
    KI w A c T a m n key os big (some ⟨g, 0, none⟩) c7 (W.setCell ⟨g, i, none⟩ (.int .u8 x)) (i + 1) := by
  have hr := h.r
  rw [show T.length = (swapped os big T i).length by rw [swapped_len]] at hr
  have hp := (Kd.R_put (enc := Value.int .u8) (h1 := fun _ => rfl) hr (i : Int) x).1
  rw [Int.toNat_natCast, ← hx, swapped_set os big T i hi] at hp
  refine ⟨blk_far h.a (by show w.heap.size ≠ g; omega) _, blk_far h.b (by show w.heap.size + 1 ≠ g; omega) _, h.B.setCell (p := ⟨g, i, none⟩) (by show w.heap.size ≤ g; omega) _, ?_⟩
  rw [swapped_len] at hp
  rw [hx] at hp
  exact hp
theorem KI.same (h : KI w A c T a m n key os big A7 c7 W i) (hi : i < T.length) (he : swapK os big (rd T (i : Int)) = rd T (i : Int)) : KI w A c T a m n key os big A7 c7 W (i + 1) :=
  ⟨h.a, h.b, h.B, by rw [swapped_same os big T i hi he]; exact h.r⟩
theorem KI.other (h : KI w A c T a m n key os big A7 c7 W i) (hos : os.length = 256) (x : Int) (h0 : 0 ≤ x) (h1 : x ≤ 255) : W.cell? ⟨w.heap.size + 1, x.toNat, none⟩ = some (.int .u8 (rd os x)) := by
  rw [blk_cell h.b]
  obtain ⟨k, rfl⟩ := Int.eq_ofNat_of_zero_le h0
  rw [rd_nat, Int.toNat_natCast]
  have hk : k < os.length := by omega
  simp [nums, hk]
end
theorem rd_mem (T : List Int) (i : Nat) (h : i < T.length) : rd T (i : Int) ∈ T := by
  rw [rd_nat, List.getElem?_eq_getElem h]
  exact List.getElem_mem h
theorem of_b (k : Nat) (a : Int) (big : Bool) : PWb.class_Of.f (k + 1) a big = some (cls a big) := by
  have h : PWb.class_Of.f (k + 1) a big = PWa.class_Of.f (k + 1) a big := rfl
  rw [h]
  exact of_eq k a big
end Go.Proofs.Ytghoeadmimgfnaa.Hand
