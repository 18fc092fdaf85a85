/- A bank that is read, as values; what the law BankGets answers. No law, no condition. -/
import Derived.Test.YtaciagpkbdjbpaaCK
import Derived.Test.YtaciagpkbdjbpaaCBk6
namespace Go.Proofs.Ytaciagpkbdjbpaa.Vg
open Go.RowKit Go.Proofs.YtaciagpkbdjbpaaW.PrintWords
set_option linter.unusedVariables false
set_option maxRecDepth 100000
abbrev RD : Kd (Bool × Bool × List Int) := Kd.pair Kd.bool (Kd.pair Kd.bool (Kd.slice 5 (Kd.int .u8)))
theorem rd_pos : 0 < RD.sz := Nat.succ_pos _
abbrev RT := Bool × Bool × List Int
abbrev BD : Kd (RT × RT × List RT × List RT) := Kd.pair RD (Kd.pair RD (Kd.pair (Kd.arr 9 RD rd_pos) (Kd.arr 26 RD rd_pos)))
def fR (x : RT) : List FV := [.v (.bool x.1)] ++ ([.v (.bool x.2.1)] ++ [.sl none (x.2.2.flatMap fun n => [.v (.int .u8 n)]) x.2.2.length])
theorem fR_FK : FK RD fR := FK.pair FK.bool (FK.pair FK.bool (FK.slice FK.int))
def fB (y : RT × RT × List RT × List RT) : List FV := fR y.1 ++ (fR y.2.1 ++ (y.2.2.1.flatMap fR ++ y.2.2.2.flatMap fR))
theorem fB_FK : FK BD fB := FK.pair fR_FK (FK.pair fR_FK (FK.pair (FK.arr fR_FK) (FK.arr fR_FK)))
def regOf (x : RT) : Reg := ⟨x.1, x.2.1, x.2.2⟩
theorem flat_u8 : ∀ l : List Int, (l.flatMap fun n => [FV.v (.int .u8 n)]) = l.map u8v
  | [] => rfl
  | n :: l => by rw [List.flatMap_cons, flat_u8 l]; rfl
theorem fR_cs (x : RT) : (fR x).map .f = (regOf x).cs := by
  unfold fR regOf Reg.cs txt
  rw [flat_u8]
  rfl
def zrt : RT := (false, false, [])
def bankOf (y : RT × RT × List RT × List RT) (i : Nat) : Reg := bif Nat.beq i 0 then regOf y.1 else bif Nat.beq i 1 then regOf y.2.1 else bif Nat.ble i 10 then regOf (y.2.2.1.getD (i - 2) zrt) else regOf (y.2.2.2.getD (i - 11) zrt)
theorem flat_range {α β : Type} (g : α → List β) (z : α) : ∀ xs : List α, xs.flatMap g = (List.range xs.length).flatMap fun i => g (xs.getD i z)
  | [] => rfl
  | x :: xs => by
    rw [List.flatMap_cons, flat_range g z xs, List.length_cons, List.range_succ_eq_map, List.flatMap_cons, List.flatMap_map]
    rfl
theorem bk_parts (B : Nat → Reg) : bk B = (B 0).cs ++ ((B 1).cs ++ (((List.range 9).flatMap fun i => (B (2 + i)).cs) ++ ((List.range 26).flatMap fun i => (B (11 + i)).cs))) := by kernel_rfl
theorem flat_congr {α β : Type} {f g : α → List β} : ∀ {l : List α}, (∀ a ∈ l, f a = g a) → l.flatMap f = l.flatMap g
  | [], _ => rfl
  | a :: l, h => by rw [List.flatMap_cons, List.flatMap_cons, h a (List.mem_cons_self ..), flat_congr fun b hb => h b (List.mem_cons_of_mem _ hb)]
theorem bank_eq (y : RT × RT × List RT × List RT) (h9 : y.2.2.1.length = 9) (h26 : y.2.2.2.length = 26) : (fB y).map .f = bk (bankOf y) := by
  rw [bk_parts]
  unfold fB
  rw [List.map_append, List.map_append, List.map_append, fR_cs, fR_cs, List.map_flatMap, List.map_flatMap]
  rw [flat_range (fun a => (fR a).map CV.f) zrt y.2.2.1, flat_range (fun a => (fR a).map CV.f) zrt y.2.2.2, h9, h26]
  refine congr (congrArg _ rfl) (congr (congrArg _ rfl) (congr (congrArg _ (flat_congr fun i hi => ?_)) (flat_congr fun i hi => ?_)))
  · have := List.mem_range.1 hi
    rw [fR_cs]
    have e0 : Nat.beq (2 + i) 0 = false := by cases hq : Nat.beq (2 + i) 0 with
      | false => rfl
      | true => have := Nat.eq_of_beq_eq_true hq; omega
    have e1 : Nat.beq (2 + i) 1 = false := by cases hq : Nat.beq (2 + i) 1 with
      | false => rfl
      | true => have := Nat.eq_of_beq_eq_true hq; omega
    have e2 : Nat.ble (2 + i) 10 = true := Nat.ble_eq_true_of_le (by omega)
    unfold bankOf
    rw [e0, e1, e2, Nat.add_sub_cancel_left]
    rfl
  · have := List.mem_range.1 hi
    rw [fR_cs]
    have e0 : Nat.beq (11 + i) 0 = false := by cases hq : Nat.beq (11 + i) 0 with
      | false => rfl
      | true => have := Nat.eq_of_beq_eq_true hq; omega
    have e1 : Nat.beq (11 + i) 1 = false := by cases hq : Nat.beq (11 + i) 1 with
      | false => rfl
      | true => have := Nat.eq_of_beq_eq_true hq; omega
    have e2 : Nat.ble (11 + i) 10 = false := by cases hq : Nat.ble (11 + i) 10 with
      | false => rfl
      | true => have := Nat.le_of_ble_eq_true hq; omega
    unfold bankOf
    rw [e0, e1, e2, Nat.add_sub_cancel_left]
    rfl
def rgood (m : Nat) (x : RT) : Prop := x.2.2.length ≤ m
theorem bank_len {m : Nat} {y : RT × RT × List RT × List RT} (h0 : rgood m y.1) (h1 : rgood m y.2.1) (h2 : ∀ x ∈ y.2.2.1, rgood m x) (h3 : ∀ x ∈ y.2.2.2, rgood m x) : ∀ i, (bankOf y i).t.length ≤ m := by
  have key : ∀ (l : List RT), (∀ x ∈ l, rgood m x) → ∀ i, (regOf (l.getD i zrt)).t.length ≤ m := by
    intro l hl i
    rw [List.getD_eq_getElem?_getD]
    cases hq : l[i]? with
    | none => exact Nat.zero_le _
    | some x => exact hl x (List.mem_of_getElem? hq)
  intro i
  unfold bankOf
  cases Nat.beq i 0 with
  | true => exact h0
  | false =>
    cases Nat.beq i 1 with
    | true => exact h1
    | false =>
      cases Nat.ble i 10 with
      | true => exact key _ h2 _
      | false => exact key _ h3 _
theorem u8_of {y : Int} (h : (Lit.int .u8 y).wf = true) : ∃ k : Nat, k < 256 ∧ y = (k : Int) := by
  have : 0 ≤ y ∧ y ≤ 255 := by
    unfold Lit.wf at h
    simpa [IntKind.min, IntKind.max, IntKind.bits, IntKind.signed] using h
  exact ⟨y.toNat, by omega, by omega⟩
theorem gets_row (y : RT × RT × List RT × List RT) (cs : Array Value) (n : Int) (W : World) (hK : BD.K W y cs.toList) (h9 : y.2.2.1.length = 9) (h26 : y.2.2.2.length = 26) (hB : ∀ i, (bankOf y i).t.length ≤ 140737488355328) (hn : (Lit.int .u8 n).wf = true) :
    Calls Try.prog 3 #[.agg cs, .int .u8 n] W fun e w' => e = .returned (.bool true) ∧ Below W.heap.size W w' := by
  obtain ⟨k, hk, rfl⟩ := u8_of hn
  have h1 := cr_map (P := Try.prog) (κ := hp []) (β := fun _ => none) (fB_FK W y _ hK)
  rw [bank_eq y h9 h26] at h1
  exact calls_of_vc (args := [.agg cs, .int .u8 k]) (gets (bankOf y) hB k hk) rfl (.cons (.o (.ag (ds := cs.toList) h1)) (.cons (.o (.c (.f (.v rfl)))) .nil))
end Go.Proofs.Ytaciagpkbdjbpaa.Vg
