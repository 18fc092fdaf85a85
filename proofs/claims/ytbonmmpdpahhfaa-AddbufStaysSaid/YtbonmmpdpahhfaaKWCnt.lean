/- bytes.Count at a line end. No law, no condition. -/
import Derived.Test.YtbonmmpdpahhfaaKWA
import Derived.Shelf.Bytes.SlCountOne
import Derived.Laws.Externs
import Derived.WalkKit
namespace Go.Proofs.Ytbonmmpdpahhfaa.Vg
open Go.RowKit
set_option linter.unusedVariables false
set_option linter.unusedSimpArgs false
/-- how many line ends -/
def nls (p : List Int) : Nat := (p.filter (fun x => x == 10)).length
theorem cnt_nls : ∀ {p : List Int}, Byt p → Lib.countByte (Lib.bytesOf p) (10 : Int).toNat.toUInt8 = nls p
  | [], _ => rfl
  | x :: p, h => by
    have ih := cnt_nls (p := p) fun y hy => h y (by simp [hy])
    have hx := h x (by simp)
    have e : ((UInt8.ofNat x.toNat) == ((10 : Int).toNat.toUInt8)) = (x == 10) := by
      have hb : ((UInt8.ofNat x.toNat).toNat : Int) = x := u8_back hx
      cases hq : (x == 10) with
      | true =>
        have : x = 10 := by simpa using hq
        subst this
        rfl
      | false =>
        have hne : ¬ x = 10 := by simpa using hq
        refine beq_eq_false_iff_ne.2 fun he => hne ?_
        rw [he] at hb
        exact hb.symm
    show List.count _ ((UInt8.ofNat x.toNat) :: Lib.bytesOf p) = ((x :: p).filter (fun x => x == 10)).length
    rw [List.count_cons, e, List.filter_cons]
    have ih2 : List.count (10 : Int).toNat.toUInt8 (Lib.bytesOf p) = (p.filter (fun x => x == 10)).length := ih
    rw [ih2]
    cases x == 10 <;> rfl
theorem cellW {w : World} {K : Kap} (hK : ∀ b x, K b = some x → w.heap[b]? = some x) {a : Addr} {v : Value} (h : cellK K a = some v) : w.cell? a = some v := by
  unfold cellK at h
  unfold World.cell?
  split at h
  · rename_i c e f hq
    rw [hK _ _ hq]
    exact h
  · cases h
set_option maxHeartbeats 2000000 in
set_option maxRecDepth 1000000 in
theorem count_run (A : Option Addr) (n c0 b o c1 : Nat) (xs : List Int) (hx : xs.length = n) (cv : Int) (w : World) (hA : ∀ i, i < n → ∃ a, A = some a ∧ w.cell? (a.add i) = some (.int .u8 (xs.getD i 0))) (hs2 : w.cell? ⟨b, o, none⟩ = some (.int .u8 cv)) : Calls Try.prog 28 #[.slice A n c0, .slice (some ⟨b, o, none⟩) 1 c1] w fun e w' => e = .returned (.int .i64 (Lib.countByte (Lib.bytesOf xs) cv.toNat.toUInt8)) ∧ w' = w := by
  cases A with
  | some a =>
    have hA' : ∀ i, i < n → w.cell? (a.add i) = some (.int .u8 (xs.getD i 0)) := fun i hi => by
      obtain ⟨a', e, h⟩ := hA i hi
      cases e
      exact h
    clear hA
    go_enter Try.func28, Try.ntmps28
    go_wp2
    rw [run_callFunc_extern Try.func37 (by kernel_rfl) (by kernel_rfl) (by kernel_rfl) (e := Extern.BytealgCount.count) (by kernel_rfl), Lib.run_countAt w a n c0 xs hx hA' cv]
    simp only [Result.andThen]
    rw [Oper.upon_value]
    go_wp2
    go_ret
    exact ⟨rfl, rfl⟩
  | none =>
    have h0 : n = 0 := by
      rcases Nat.eq_zero_or_pos n with h | h
      · exact h
      · obtain ⟨a, e, _⟩ := hA 0 h
        cases e
    subst h0
    have hxs : xs = [] := List.eq_nil_of_length_eq_zero hx
    subst hxs
    clear hA hx
    go_enter Try.func28, Try.ntmps28
    go_wp2
    rw [run_callFunc_extern Try.func37 (by kernel_rfl) (by kernel_rfl) (by kernel_rfl) (e := Extern.BytealgCount.count) (by kernel_rfl), Lib.run_countNil w 0 c0 cv]
    simp only [Result.andThen]
    rw [Oper.upon_value]
    go_wp2
    go_ret
    exact ⟨rfl, rfl⟩
theorem count (p : List Int) (hb : Byt p) : VC Try.prog 28 [tF (byt none p), tC (.rw 0 1)] [.fx [u8v 10] 5] (tI (nls p)) [.fx [u8v 10] 5] := by
  refine ⟨enters nonum (by kernel_rfl), fun w K β vs R hv => ?_⟩
  obtain ⟨v0, v1, rfl⟩ : ∃ v0 v1, vs = [v0, v1] := by
    cases hv with | cons h1 h2 => cases h2 with | cons h2 h3 => cases h3; exact ⟨_, _, rfl⟩
  cases hv with | cons h1 h2 => cases h2 with | cons h2 h3 =>
  cases h1 with | o h1 => cases h1 with | c h1 => cases h2 with | o h2 => cases h2 with | c h2 =>
  cases h2 with
  | dead hx hd _ => cases hx; simp [hp] at hd
  | rw hx hs hz hL hn hc hb' =>
    rename_i B X c L ty sz x
    have hO := R.ob 0 (.fx [u8v 10] 5) rfl
    rw [hb'] at hO
    rcases hO with ⟨q, _⟩ | ⟨B', X', C, e, lo, hi, p1, p2, p3, p4, p5⟩
    · cases q
    · cases p1
      obtain ⟨v, g1, g2⟩ := p5 0 (u8v 10) rfl
      cases g2 with | v _ =>
      have hcell : w.cell? ⟨B, 0, none⟩ = some (.int .u8 10) := by
        unfold World.cell?
        simp only [p2]
        simpa using g1
      have key : ∀ (A : Option Addr) (c0 : Nat), (∀ i, i < p.length → ∃ a, A = some a ∧ w.cell? (a.add i) = some (.int .u8 (p.getD i 0))) → Calls Try.prog 28 [Value.slice A p.length c0, Value.slice (some ⟨B, 0, none⟩) 1 c].toArray w fun e w' => ∃ v' K' β', e = .returned v' ∧ SP Try.prog K (hp [.fx [u8v 10] 5]) β w (hp [.fx [u8v 10] 5]) (tI (nls p)) v' w' K' β' := by
        intro A c0 hA
        refine Calls.mono (count_run A p.length c0 B 0 c p rfl 10 w hA hcell) ?_
        rintro e w' ⟨rfl, rfl⟩
        rw [cnt_nls hb]
        exact ⟨_, K, β, rfl, R, .o (.c (.f (.v rfl))), Le.refl _ _ _, Fr.refl _ _ _ _⟩
      cases h1 with
      | dead hx _ _ => cases hx
      | f h1 =>
        unfold byt at h1
        generalize hl : p.length = n at h1
        generalize hcs : p.map u8v = cs at h1
        cases h1 with
        | sl0 h =>
          rename_i A c0
          have := key A c0 (fun i hi => by omega)
          rw [hl] at this
          exact this
        | sl us hz' hn' h3 h4 =>
          rename_i ad c0
          have := key (some ad) c0 (fun i hi => ⟨ad, rfl, by
            have hx : cs[i]? = some (u8v (p.getD i 0)) := by
              rw [← hcs, List.getElem?_map, List.getD_eq_getElem?_getD, List.getElem?_eq_getElem hi]
              rfl
            have h5 := h4 i _ hx
            have h6 := cellW R.kw (h3 i _ hx)
            generalize us i = u at h5 h6
            cases h5 with | v _ => exact h6⟩)
          rw [hl] at this
          exact this
end Go.Proofs.Ytbonmmpdpahhfaa.Vg
