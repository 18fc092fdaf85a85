/- A bank's functions, sixth part: awake, and the law BankGets. No law, no condition. -/
import Derived.Test.YtaciagpkbdjbpaaCBk5
namespace Go.Proofs.Ytaciagpkbdjbpaa.Vg
open Go.RowKit
set_option maxRecDepth 100000
set_option linter.unusedVariables false
def zbk : List CV := (List.range 37).flatMap fun _ => zrg
theorem f2_app {α β : Type} {R : α → β → Prop} : ∀ {a : List α} {b : List β} {c : List α} {d : List β}, F2 R a b → F2 R c d → F2 R (a ++ c) (b ++ d)
  | [], [], _, _, .nil, h => h
  | _ :: _, _ :: _, _, _, .cons x y, h => .cons x (f2_app y h)
theorem f2_fm {α β γ : Type} {R : α → β → Prop} {f : γ → List α} {g : γ → List β} : ∀ (l : List γ), (∀ i ∈ l, F2 R (f i) (g i)) → F2 R (l.flatMap f) (l.flatMap g)
  | [], _ => .nil
  | a :: l, h => by
    rw [List.flatMap_cons, List.flatMap_cons]
    exact f2_app (h a (List.mem_cons_self ..)) (f2_fm l fun i hi => h i (List.mem_cons_of_mem _ hi))
theorem zbk_le : TLe (tA zbk) (tA (bk fun _ => zreg)) := .ag (f2_fm _ fun i hi => .cons (.refl _) (.cons (.refl _) (.cons (.f .nil) .nil)))
theorem setB_len {B : Nat → Reg} {p : Nat} {r : Reg} {m : Nat} (h : ∀ i, (B i).t.length ≤ m) (hr : r.t.length ≤ m) : ∀ i, (setB B p r i).t.length ≤ m := by
  intro i
  unfold setB
  cases Nat.beq i p with
  | true => exact hr
  | false =>
    cases Nat.beq i 0 with
    | true => exact hr
    | false => exact h i
def Z0 : Nat → Reg := fun _ => zreg
def B1 : Nat → Reg := setB Z0 11 ⟨true, false, [112]⟩
def B2 : Nat → Reg := setB B1 11 ⟨true, false, [112, 113]⟩
theorem hZ (i : Nat) : (Z0 i).t.length ≤ 140737488355328 := Nat.zero_le _
theorem hB1 : ∀ i, (B1 i).t.length ≤ 140737488355328 := setB_len hZ (by decide)
theorem hB2 : ∀ i, (B2 i).t.length ≤ 140737488355328 := setB_len hB1 (by decide)
def rP : Reg := ⟨true, false, [112]⟩
def rQ : Reg := ⟨true, false, [113]⟩
def rPQ : Reg := ⟨true, false, [112, 113]⟩
theorem put1 : VC Try.prog 16 [tA zbk, tU (97 : Nat), tI 1, tA rP.cs] [] (.tp [.ag (bk B1), .c (cI 0)]) [] :=
  (put_let Z0 rP hZ rfl (by decide) 97 (knd_mem.2 ⟨by decide, rfl⟩) trivial).le_args (.cons zbk_le (.cons (.refl _) (.cons (.refl _) (.cons (.refl _) .nil))))
theorem put2 : VC Try.prog 16 [tA (bk B1), tU (65 : Nat), tI 1, tA rQ.cs] [] (.tp [.ag (bk B2), .c (cI 0)]) [] :=
  put_cap B1 rQ hB1 rfl (by decide) 65 (knd_mem.2 ⟨by decide, rfl⟩) ⟨rfl, rfl, by decide⟩
theorem get1 : VC Try.prog 11 [tA (bk B2), tU (97 : Nat)] [] (.tp [.ag rPQ.cs, .c (cI 0)]) [] :=
  get_t B2 hB2 97 (good_mem.2 ⟨by decide, by decide⟩) rfl
def bP : ByteArray := ⟨#[112]⟩
def bQ : ByteArray := ⟨#[113]⟩
def bPQ : ByteArray := ⟨#[112, 113]⟩
theorem awake  : VC Try.prog 9 ([]) ([]) (tB true) ([]) :=
  vc_q mixed nonum (orc [(1, [(1, .call [] (tA rP.cs) []), (2, .call [] (.tp [.ag (bk B1), .c (cI 0)]) [])]), (2, [(1, .call [] (tA rQ.cs) []), (2, .call [] (.tp [.ag (bk B2), .c (cI 0)]) [])]), (3, [(1, .call [] (.tp [.ag rPQ.cs, .c (cI 0)]) [])]), (4, [(12, .call [] (tA rPQ.cs) []), (13, .call [] (tB true) []), (16, .call [] (tB true) []), (19, .call [] (tB false) [])])]) ([]) ([]) 323911929366659774609492491739076387176959906265986085873981 ([VC Try.prog 23 [tC (.f (.v (.string bP)))] [] (tA rP.cs) [], VC Try.prog 16 [tA zbk, tU (97 : Nat), tI 1, tA rP.cs] [] (.tp [.ag (bk B1), .c (cI 0)]) [], VC Try.prog 23 [tC (.f (.v (.string bQ)))] [] (tA rQ.cs) [], VC Try.prog 16 [tA (bk B1), tU (65 : Nat), tI 1, tA rQ.cs] [] (.tp [.ag (bk B2), .c (cI 0)]) [], VC Try.prog 11 [tA (bk B2), tU (97 : Nat)] [] (.tp [.ag rPQ.cs, .c (cI 0)]) [], VC Try.prog 23 [tC (.f (.v (.string bPQ)))] [] (tA rPQ.cs) [], VC Try.prog 12 [tA rPQ.cs, tA rPQ.cs] [] (tB true) [], VC Try.prog 13 [tU (122 : Nat)] [] (tB true) [], VC Try.prog 13 [tU (95 : Nat)] [] (tB false) []]) (⟨reg bP, put1, reg bQ, put2, get1, reg bPQ, same_refl rPQ, valid 122 (by decide), valid 95 (by decide)⟩) (by kernel_rfl)
theorem same_z  : VC Try.prog 12 ([tA zrg, tA zrg]) ([]) (tB true) ([]) :=
  vc_q mixed nonum (orc []) ([]) ([]) 849000697678635631494619301144 ([]) (trivial) (by kernel_rfl)
theorem gets_n (B : Nat → Reg) : ∀ k : Nat, k ∈ (knd 0) → (True) → VC Try.prog 3 ([tA (bk B), tU k]) ([]) (tB true) ([]) :=
  vc_alll mixed nonum (knd 0) (fun k : Nat => True) (fun k : Nat => [tA (bk B), tU k]) (fun k : Nat => []) (fun k : Nat => []) (fun k : Nat => tB true) (fun k : Nat => orc [(1, [(0, .call [] (tB true) [])]), (3, [(2, .call [] (.tp [.ag zrg, .c (cI 150)]) [])]), (4, [(2, .call [] (.tp [.ag zrg, .c (cI 150)]) [])]), (5, [(2, .call [] (tB true) []), (10, .call [] (tB (!(Nat.beq (srt k) 0))) []), (12, .call [] (tB (!(Nat.beq (srt k) 0))) [])])]) (fun k : Nat => []) (fun k : Nat => []) (fun k : Nat => [10321892964031404194340199843475103480915348057200].getD (((fun k => 0)) k) 0) (fun k : Nat => [[VC Try.prog 9 [] [] (tB true) [], VC Try.prog 10 [tA (bk B), tU k] [] (.tp [.ag zrg, .c (cI 150)]) [], VC Try.prog 11 [tA (bk B), tU k] [] (.tp [.ag zrg, .c (cI 150)]) [], VC Try.prog 12 [tA zrg, tA zrg] [] (tB true) [], VC Try.prog 13 [tU k] [] (tB (!(Nat.beq (srt k) 0))) [], VC Try.prog 14 [tU k] [] (tB (!(Nat.beq (srt k) 0))) []]].getD (((fun k => 0)) k) []) (fun k hk hp => allP_getD fun c hc => match c, hc with | 0, hc => ⟨awake, rget_n B k hk trivial, get_n B k hk trivial, same_z, valid k (knd_mem.1 hk).1, rvalid k (knd_mem.1 hk).1⟩ | _ + 1, hc => trivial) (by kernel_rfl)
theorem gets_f (B : Nat → Reg) : ∀ k : Nat, k ∈ (good) → ((B (plc k)).s = false) → VC Try.prog 3 ([tA (bk B), tU k]) ([]) (tB true) ([]) :=
  vc_alll mixed nonum (good) (fun k : Nat => (B (plc k)).s = false) (fun k : Nat => [tA (bk B), tU k]) (fun k : Nat => []) (fun k : Nat => []) (fun k : Nat => tB true) (fun k : Nat => orc [(1, [(0, .call [] (tB true) [])]), (3, [(2, .call [] (.tp [.ag zrg, .c (cI 151)]) [])]), (4, [(2, .call [] (.tp [.ag zrg, .c (cI 151)]) [])]), (5, [(2, .call [] (tB true) []), (10, .call [] (tB (!(Nat.beq (srt k) 0))) []), (12, .call [] (tB (!(Nat.beq (srt k) 0))) [])])]) (fun k : Nat => []) (fun k : Nat => []) (fun k : Nat => [10321892964031404194340199843475103480915348057200].getD (((fun k => 0)) k) 0) (fun k : Nat => [[VC Try.prog 9 [] [] (tB true) [], VC Try.prog 10 [tA (bk B), tU k] [] (.tp [.ag zrg, .c (cI 151)]) [], VC Try.prog 11 [tA (bk B), tU k] [] (.tp [.ag zrg, .c (cI 151)]) [], VC Try.prog 12 [tA zrg, tA zrg] [] (tB true) [], VC Try.prog 13 [tU k] [] (tB (!(Nat.beq (srt k) 0))) [], VC Try.prog 14 [tU k] [] (tB (!(Nat.beq (srt k) 0))) []]].getD (((fun k => 0)) k) []) (fun k hk hp => allP_getD fun c hc => match c, hc with | 0, hc => ⟨awake, rget_f B k hk hp, get_f B k hk hp, same_z, valid k (good_mem.1 hk).1, rvalid k (good_mem.1 hk).1⟩ | _ + 1, hc => trivial) (by kernel_rfl)
theorem gets_t (B : Nat → Reg) (hB : ∀ i, (B i).t.length ≤ 140737488355328) : ∀ k : Nat, k ∈ (good) → ((B (plc k)).s = true) → VC Try.prog 3 ([tA (bk B), tU k]) ([]) (tB true) ([]) :=
  vc_alll mixed nonum (good) (fun k : Nat => (B (plc k)).s = true) (fun k : Nat => [tA (bk B), tU k]) (fun k : Nat => []) (fun k : Nat => []) (fun k : Nat => tB true) (fun k : Nat => orc [(1, [(0, .call [] (tB true) [])]), (3, [(2, .call [] (.tp [.ag (B (plc k)).cs, .c (cI 0)]) [])]), (4, [(2, .call [] (.tp [.ag (B (plc k)).cs, .c (cI 0)]) [])]), (5, [(2, .call [] (tB true) []), (10, .call [] (tB (!(Nat.beq (srt k) 0))) []), (12, .call [] (tB (!(Nat.beq (srt k) 0))) [])])]) (fun k : Nat => []) (fun k : Nat => []) (fun k : Nat => [10321892964031404194340199843475103480915348057200].getD (((fun k => 0)) k) 0) (fun k : Nat => [[VC Try.prog 9 [] [] (tB true) [], VC Try.prog 10 [tA (bk B), tU k] [] (.tp [.ag (B (plc k)).cs, .c (cI 0)]) [], VC Try.prog 11 [tA (bk B), tU k] [] (.tp [.ag (B (plc k)).cs, .c (cI 0)]) [], VC Try.prog 12 [tA (B (plc k)).cs, tA (B (plc k)).cs] [] (tB true) [], VC Try.prog 13 [tU k] [] (tB (!(Nat.beq (srt k) 0))) [], VC Try.prog 14 [tU k] [] (tB (!(Nat.beq (srt k) 0))) []]].getD (((fun k => 0)) k) []) (fun k hk hp => allP_getD fun c hc => match c, hc with | 0, hc => ⟨awake, rget_t B hB k hk hp, get_t B hB k hk hp, same_refl _, valid k (good_mem.1 hk).1, rvalid k (good_mem.1 hk).1⟩ | _ + 1, hc => trivial) (by kernel_rfl)
theorem gets (B : Nat → Reg) (hB : ∀ i, (B i).t.length ≤ 140737488355328) (k : Nat) (hk : k < 256) : VC Try.prog 3 [tA (bk B), tU k] [] (tB true) [] := by
  by_cases h0 : srt k = 0
  · exact gets_n B k (knd_mem.2 ⟨hk, h0⟩) trivial
  · cases hs : (B (plc k)).s with
    | false => exact gets_f B k (good_mem.2 ⟨hk, h0⟩) hs
    | true => exact gets_t B hB k (good_mem.2 ⟨hk, h0⟩) hs
end Go.Proofs.Ytaciagpkbdjbpaa.Vg
