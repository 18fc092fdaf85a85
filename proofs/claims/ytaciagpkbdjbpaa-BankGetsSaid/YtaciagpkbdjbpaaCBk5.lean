/- A bank's functions, fifth part: what is put behind. No law, no condition. -/
import Derived.Test.YtaciagpkbdjbpaaVgC
import Derived.Test.YtaciagpkbdjbpaaCBk4
namespace Go.Proofs.Ytaciagpkbdjbpaa.Vg
open Go.RowKit
set_option maxRecDepth 100000
set_option linter.unusedVariables false
theorem clone_g (t : List Int) (h : t.length ≤ 140737488355328) : VC Try.prog 32 ([tF (.sl (some false) (t.map u8v) t.length)]) ([]) (tC (.rw 0 t.length)) ([.fx (t.map u8v) 5]) :=
  vc_q mixed nonum (orc []) ([]) ([0]) 37118655033961220 ([(t.map u8v).length = t.length * 1, t.length * 1 ≤ 140737488355328]) (⟨(show (t.map u8v).length = t.length * 1 from by rw [List.length_map, Nat.mul_one]), (show t.length * 1 ≤ 140737488355328 from by omega)⟩) (by kernel_rfl)
theorem clone_own (t : List Int) (h : t.length ≤ 140737488355328) : VC Try.prog 32 [tF (txt t)] [] (tC (.rw 0 t.length)) [.fx (t.map u8v) 5] := by
  cases t with
  | nil =>
    refine VC.args (as1 := [tF (.sl (some false) [] 0)]) (as2 := [tF (.sl (some true) [] 0)]) (fun K κ β vs hv => ?_) (clone_g [] h) (VC.phantom (H' := []) 5 clone_t)
    cases hv with | cons h1 h2 => cases h2 with | nil => cases h1 with | o h1 => cases h1 with | c h1 => cases h1 with
    | f h1 =>
      rcases FR.cases_nil h1 with h1 | h1
      · exact .inl (.cons (.o (.c (.f h1))) .nil)
      · exact .inr (.cons (.o (.c (.f h1))) .nil)
    | dead hx hd h1 => cases hx
  | cons x t =>
    refine (clone_g (x :: t) h).arg fun K κ β vs hv => ?_
    cases hv with | cons h1 h2 => cases h2 with | nil => cases h1 with | o h1 => cases h1 with | c h1 => cases h1 with
    | f h1 =>
      rcases FR.cases_nil h1 with h1 | h1
      · exact .cons (.o (.c (.f h1))) .nil
      · cases (FR.true_nil h1).1
    | dead hx hd h1 => cases hx
theorem behind_f0 (o r : Reg) (h : o.t.length + r.t.length ≤ 140737488355328) (ho : o.l = false) (hr : r.l = false) : VC Try.prog 31 ([tA o.cs, tA r.cs]) ([]) (tA [cB true, cB false, .f (.sl none (o.t.map u8v ++ r.t.map u8v) (o.t.length + r.t.length))]) ([]) :=
  vc_q mixed nonum (orc [(1, [(2, .call [] (tC (.rw 0 o.t.length)) [.fx (o.t.map u8v) 5])]), (2, [(1, eB false), (4, eB false)])]) ([.frz 4]) ([]) 5174375000058446465236824028416772782730433510726668829 ([VC Try.prog 32 [tF (txt o.t)] [] (tC (.rw 0 o.t.length)) [.fx (o.t.map u8v) 5], tB o.l = tB false, tB r.l = tB false, (r.t.map u8v).length = r.t.length * 1, (o.t.length + r.t.length) * 1 ≤ 140737488355328]) (⟨clone_own o.t (by omega), congrArg tB ho, congrArg tB hr, (show (r.t.map u8v).length = r.t.length * 1 from by rw [List.length_map, Nat.mul_one]), (show (o.t.length + r.t.length) * 1 ≤ 140737488355328 from by omega)⟩) (by kernel_rfl)
theorem behind_ff (o r : Reg) (h : o.t.length + r.t.length ≤ 140737488355328) (ho : o.l = false) (hr : r.l = false) : VC Try.prog 31 [tA o.cs, tA r.cs] [] (tA (Reg.cs ⟨true, false, o.t ++ r.t⟩)) [] := by
  have := behind_f0 o r h ho hr
  unfold Reg.cs txt
  rw [List.map_append, List.length_append]
  exact this
theorem reg (s : ByteArray) : VC Try.prog 23 ([tC (.f (.v (.string s)))]) ([]) (tA [cB true, cB false, .f (.sl none (s.data.toList.map fun x => u8v x.toNat) s.size)]) ([]) :=
  vc_q mixed nonum (orc []) ([.frz 1]) ([]) 592850206214 ([]) (trivial) (by kernel_rfl)
def setB (B : Nat → Reg) (p : Nat) (r : Reg) (i : Nat) : Reg := bif Nat.beq i p then r else bif Nat.beq i 0 then r else B i
theorem put_let (B : Nat → Reg) (r : Reg) (hB : ∀ i, (B i).t.length ≤ 140737488355328) (hl : r.l = false) (hn : r.t.length ≤ 65536) : ∀ k : Nat, k ∈ (knd 4) → (True) → VC Try.prog 16 ([tA (bk B), tU k, tI 1, tA r.cs]) ([]) (.tp [.ag (bk (setB B (plc k) ⟨true, r.l, r.t⟩)), .c (cI 0)]) ([]) :=
  vc_alll mixed nonum (knd 4) (fun k : Nat => True) (fun k : Nat => [tA (bk B), tU k, tI 1, tA r.cs]) (fun k : Nat => []) (fun k : Nat => []) (fun k : Nat => .tp [.ag (bk (setB B (plc k) ⟨true, r.l, r.t⟩)), .c (cI 0)]) (fun k : Nat => orc [(1, [(1, .call [] (.tp [.c (cI (srt k)), .c (cI (num k))]) [])]), (6, [(3, eB false)]), (8, [(1, eB false)]), (10, [(1, .call [] (tA (bk B)) [])]), (12, [(1, .call [0] (tC (.rp 0 (3 * plc k))) [.bx (bk B) 28])]), (22, [(2, .call [] (tA (Reg.cs ⟨true, r.l, r.t⟩)) [])]), (23, [(1, .call [] (tA (Reg.cs ⟨true, r.l, r.t⟩)) [])])]) (fun k : Nat => []) (fun k : Nat => []) (fun k : Nat => [89591906856371053365430423570727044355208412240489712579547966542727354714932669498072717174783491224148152406283].getD (((fun k => 0)) k) 0) (fun k : Nat => [[VC Try.prog 27 [tU k] [] (.tp [.c (cI (srt k)), .c (cI (num k))]) [], tB (decide ((r.t.length : Int) > 65536)) = tB false, tB r.l = tB false, VC Try.prog 30 [tA (bk B)] [] (tA (bk B)) [], VC Try.prog 25 [tC (.rp 0 0), tU k] [.bx (bk B) 28] (tC (.rp 0 (3 * plc k))) [.bx (bk B) 28], VC Try.prog 26 [tA (Reg.cs ⟨true, r.l, r.t⟩)] [] (tA (Reg.cs ⟨true, r.l, r.t⟩)) [], VC Try.prog 26 [tA (Reg.cs ⟨true, r.l, r.t⟩)] [] (tA (Reg.cs ⟨true, r.l, r.t⟩)) []]].getD (((fun k => 0)) k) []) (fun k hk hp => allP_getD fun c hc => match c, hc with | 0, hc => ⟨sort k (knd_mem.1 hk).1, congrArg tB (decide_eq_false (by omega)), congrArg tB hl, whole B hB, (show VC Try.prog 25 [tC (.rp 0 0), tU k] [.bx (bk B) 28] (tC (.rp 0 (3 * plc k))) [.bx (bk B) 28] from by have h := knd_mem.1 hk; have := at_ B k h.1; rw [h.2] at this; exact this), copied ⟨true, r.l, r.t⟩ (Nat.le_trans hn (by decide)), copied ⟨true, r.l, r.t⟩ (Nat.le_trans hn (by decide))⟩ | _ + 1, hc => trivial) (by kernel_rfl)
theorem put_cap (B : Nat → Reg) (r : Reg) (hB : ∀ i, (B i).t.length ≤ 140737488355328) (hl : r.l = false) (hn : r.t.length ≤ 65536) : ∀ k : Nat, k ∈ (knd 5) → ((B (plc k)).s = true ∧ (B (plc k)).l = false ∧ (B (plc k)).t.length + r.t.length ≤ 65536) → VC Try.prog 16 ([tA (bk B), tU k, tI 1, tA r.cs]) ([]) (.tp [.ag (bk (setB B (plc k) ⟨true, false, (B (plc k)).t ++ r.t⟩)), .c (cI 0)]) ([]) :=
  vc_alll mixed nonum (knd 5) (fun k : Nat => (B (plc k)).s = true ∧ (B (plc k)).l = false ∧ (B (plc k)).t.length + r.t.length ≤ 65536) (fun k : Nat => [tA (bk B), tU k, tI 1, tA r.cs]) (fun k : Nat => []) (fun k : Nat => []) (fun k : Nat => .tp [.ag (bk (setB B (plc k) ⟨true, false, (B (plc k)).t ++ r.t⟩)), .c (cI 0)]) (fun k : Nat => orc [(1, [(1, .call [] (.tp [.c (cI (srt k)), .c (cI (num k))]) [])]), (6, [(3, eB false)]), (8, [(1, eB false)]), (10, [(1, .call [] (tA (bk B)) [])]), (12, [(1, .call [0] (tC (.rp 0 (3 * plc k))) [.bx (bk B) 28])]), (13, [(6, eB true)]), (14, [(4, .call [] (tA (Reg.cs ⟨true, false, (B (plc k)).t ++ r.t⟩)) [])]), (15, [(3, eB false)]), (22, [(2, .call [] (tA (Reg.cs ⟨true, false, (B (plc k)).t ++ r.t⟩)) [])]), (23, [(1, .call [] (tA (Reg.cs ⟨true, false, (B (plc k)).t ++ r.t⟩)) [])])]) (fun k : Nat => []) (fun k : Nat => []) (fun k : Nat => [166015612162589237833405890655809876472961994716311008234020914677713361045897845411532346565871134791139361335800409154557722190].getD (((fun k => 0)) k) 0) (fun k : Nat => [[VC Try.prog 27 [tU k] [] (.tp [.c (cI (srt k)), .c (cI (num k))]) [], tB (decide ((r.t.length : Int) > 65536)) = tB false, tB r.l = tB false, VC Try.prog 30 [tA (bk B)] [] (tA (bk B)) [], VC Try.prog 25 [tC (.rp 0 0), tU k] [.bx (bk B) 28] (tC (.rp 0 (3 * plc k))) [.bx (bk B) 28], tB (B (plc k)).s = tB true, VC Try.prog 31 [tA (B (plc k)).cs, tA (Reg.cs ⟨true, r.l, r.t⟩)] [] (tA (Reg.cs ⟨true, false, (B (plc k)).t ++ r.t⟩)) [], tB (decide ((((B (plc k)).t ++ r.t).length : Int) > 65536)) = tB false, VC Try.prog 26 [tA (Reg.cs ⟨true, false, (B (plc k)).t ++ r.t⟩)] [] (tA (Reg.cs ⟨true, false, (B (plc k)).t ++ r.t⟩)) [], VC Try.prog 26 [tA (Reg.cs ⟨true, false, (B (plc k)).t ++ r.t⟩)] [] (tA (Reg.cs ⟨true, false, (B (plc k)).t ++ r.t⟩)) []]].getD (((fun k => 0)) k) []) (fun k hk hp => allP_getD fun c hc => match c, hc with | 0, hc => ⟨sort k (knd_mem.1 hk).1, congrArg tB (decide_eq_false (by omega)), congrArg tB hl, whole B hB, (show VC Try.prog 25 [tC (.rp 0 0), tU k] [.bx (bk B) 28] (tC (.rp 0 (3 * plc k))) [.bx (bk B) 28] from by have h := knd_mem.1 hk; have := at_ B k h.1; rw [h.2] at this; exact this), congrArg tB hp.1, behind_ff (B (plc k)) ⟨true, r.l, r.t⟩ (Nat.le_trans hp.2.2 (by decide)) hp.2.1 hl, congrArg tB (decide_eq_false (by rw [List.length_append]; omega)), copied _ (by simp only [List.length_append]; omega), copied _ (by simp only [List.length_append]; omega)⟩ | _ + 1, hc => trivial) (by kernel_rfl)
end Go.Proofs.Ytaciagpkbdjbpaa.Vg
