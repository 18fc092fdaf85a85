/- Joining along the edges, of trees. No law, no condition. -/
import Derived.Test.YtpjlgjhkdligfaaKSB
namespace Go.Proofs.Ytpjlgjhkdligfaa.Vg
open Go.RowKit
set_option maxRecDepth 100000
set_option linter.unusedVariables false
set_option linter.unusedSimpArgs false
def Tr.blk (t : Tr) : Int := blkF (enc t)
def Tr.red (t : Tr) : Bool := redF (enc t)
theorem blk_nd (q : Pc) (c : Bool) (a b : Tr) : (Tr.nd q c a b).blk = bif c then a.blk else a.blk + 1 := rfl
theorem red_nd (q : Pc) (c : Bool) (a b : Tr) : (Tr.nd q c a b).red = c := rfl
theorem blk_nil : Tr.nil.blk = 0 := rfl
theorem red_nil : Tr.nil.red = false := rfl
theorem blk_pos {t : Tr} (h : t.Ok) : 0 ≤ t.blk := (sums_t h).b0
/-- as many black nodes on each way down -/
def Tr.Bal : Tr → Prop
  | .nil => True
  | .nd _ _ l r => l.Bal ∧ r.Bal ∧ l.blk = r.blk
def onR : Tr → Pc → Tr → Tr
  | .nil, p, r => .nd p true .nil r
  | .nd q c a b, p, r => bif !c && (a.blk + 1 == r.blk) then .nd p true (.nd q c a b) r else match onR b p r with
    | .nd mp mc ma mb => bif !c && (mc && mb.red) then .nd mp true (.nd q false a ma) mb.bk else .nd q c a (.nd mp mc ma mb)
    | .nil => .nil
def onL : Tr → Pc → Tr → Tr
  | l, p, .nil => .nd p true l .nil
  | l, p, .nd q c a b => bif !c && (l.blk == a.blk + 1) then .nd p true l (.nd q c a b) else match onL l p a with
    | .nd mp mc ma mb => bif !c && (mc && ma.red) then .nd mp true ma.bk (.nd q false mb b) else .nd q c (.nd mp mc ma mb) b
    | .nil => .nil
theorem isT_of {t : Tr} (h : t.Ok) (hn : t.num ≤ 1073741824) : isT (enc t) := ⟨t, rfl, h, hn⟩
theorem isT_nd {q : Pc} {c : Bool} {a b : Tr} (h : (Tr.nd q c a b).Ok) (hn : (Tr.nd q c a b).num ≤ 1073741824) : isT (mkF c (enc a) q (enc b)) := isT_of (t := .nd q c a b) h hn
structure Jn (f : FuncId) (l r : Tr) (p : Pc) (t : Tr) : Prop where
  vc : VC Try.prog f [tF (enc l), tA p.cs, tF (enc r)] [] (tF (enc t)) []
  ok : t.Ok
  num : t.num = l.num + 1 + r.num
  ne : ∃ mp mc ma mb, t = .nd mp mc ma mb
theorem bk_eq {q : Pc} {c : Bool} {a b : Tr} : (Tr.nd q c a b).bk = .nd q false a b := rfl
theorem onR_ok : ∀ (l : Tr) (p : Pc) (r : Tr), l.Ok → r.Ok → Fit p → l.num + 1 + r.num ≤ 1073741824 → l.Bal → r.blk ≤ l.blk → Jn 76 l r p (onR l p r)
  | .nil, p, r, hl, hr, hp, hn, hb, hk => by
    refine ⟨?_, ⟨hp, trivial, hr⟩, rfl, p, true, .nil, r, rfl⟩
    have h0 := blk_pos hr
    rw [blk_nil] at hk
    have hn1 : 0 + 1 + r.num ≤ 1073741824 := hn
    have hz : isT (enc r) := isT_of hr (by omega)
    exact onR_n p (enc r) hz hp (show r.blk = 0 by omega)
  | .nd q c a b, p, r, hl, hr, hp, hn, hb, hk => by
    have hnl : (Tr.nd q c a b).num = a.num + 1 + b.num := rfl
    rw [hnl] at hn
    have hbb := hb.2.2
    have hlT : isT (mkF c (enc a) q (enc b)) := isT_nd hl (by rw [hnl]; omega)
    have haT : isT (enc a) := isT_of hl.2.1 (by omega)
    have hbT : isT (enc b) := isT_of hl.2.2 (by omega)
    have hrT : isT (enc r) := isT_of hr (by omega)
    have hcT : ∀ t : Tr, t.Ok → a.num + 1 + t.num ≤ 1073741824 → isT (mkF false (enc a) q (enc t)) := fun t h1 h2 => isT_nd (q := q) (c := false) (a := a) (b := t) ⟨hl.1, hl.2.1, h1⟩ h2
    by_cases h0 : c = false ∧ a.blk + 1 = r.blk
    · obtain ⟨rfl, h1⟩ := h0
      have e : onR (.nd q false a b) p r = .nd p true (.nd q false a b) r := by
        simp [onR, h1]
      rw [e]
      refine ⟨?_, ⟨hp, hl, hr⟩, rfl, p, true, _, r, rfl⟩
      have hnT : isT (enc .nil) := isT_of (t := .nil) trivial (Nat.zero_le _)
      have := onR_d false (enc a) (enc b) q p q (enc r) false (enc .nil) (enc .nil) haT hbT hrT hnT hnT hlT (isT_nd (q := q) (c := false) (a := .nil) (b := .nil) ⟨hl.1, trivial, trivial⟩ (show 0 + 1 + 0 ≤ 1073741824 from by decide)) hp hl.1 hl.1 (hcT .nil trivial (by rw [show Tr.nil.num = 0 from rfl]; omega)) (fun h => absurd ⟨rfl, h1⟩ h)
      rwa [← onRF_1 (lc := false) (x := enc a) (y := enc b) (lp := q) (p := p) (mp := q) (z := enc r) (mc := false) (mx := enc .nil) (my := enc .nil) rfl h1] at this
    · have hk2 : r.blk ≤ b.blk := by
        rw [← hbb]
        rw [blk_nd] at hk
        cases c with
        | true => exact hk
        | false =>
          have h1 : ¬ a.blk + 1 = r.blk := fun h => h0 ⟨rfl, h⟩
          simp only [cond_false] at hk
          omega
      obtain ⟨hv, hok, hnum, mp, mc, ma, mb, hm⟩ := onR_ok b p r hl.2.2 hr hp (by omega) hb.2.1 hk2
      rw [hm] at hv hok hnum
      have hnm : (Tr.nd mp mc ma mb).num = ma.num + 1 + mb.num := rfl
      rw [hnm] at hnum
      have hmaT : isT (enc ma) := isT_of hok.2.1 (by omega)
      have hmbT : isT (enc mb) := isT_of hok.2.2 (by omega)
      have hcond : (!c && (a.blk + 1 == r.blk)) = false := by
        cases c with
        | true => rfl
        | false =>
          have h1 : ¬ a.blk + 1 = r.blk := fun h => h0 ⟨rfl, h⟩
          simpa using h1
      have e : onR (.nd q c a b) p r = bif !c && (mc && mb.red) then .nd mp true (.nd q false a ma) mb.bk else .nd q c a (.nd mp mc ma mb) := by
        simp only [onR, hcond, hm, cond_false]
      have hd := onR_d c (enc a) (enc b) q p mp (enc r) mc (enc ma) (enc mb) haT hbT hrT hmaT hmbT hlT (isT_nd hok (by rw [hnm]; omega)) hp hl.1 hok.1 (hcT ma hok.2.1 (by omega)) (fun _ => hv)
      have hE : onRF c (enc a) (enc b) q p mp (enc r) mc (enc ma) (enc mb) = enc (bif !c && (mc && mb.red) then .nd mp true (.nd q false a ma) mb.bk else .nd q c a (.nd mp mc ma mb)) := by
        have hc1 : (!c && (blkF (mkF c (enc a) q (enc b)) == blkF (enc r))) = false := by
          cases c with
          | true => rfl
          | false => exact hcond
        unfold onRF
        rw [hc1]
        simp only [cond_false]
        show (bif !c && (mc && mb.red) then _ else _) = _
        cases (!c && (mc && mb.red)) with
        | true => simp only [cond_true, bkT_enc]; rfl
        | false => rfl
      rw [hE] at hd
      rw [e]
      refine ⟨hd, ?_, ?_, ?_⟩
      · cases (!c && (mc && mb.red)) with
        | true => exact ⟨hok.1, ⟨hl.1, hl.2.1, hok.2.1⟩, bk_Ok hok.2.2⟩
        | false => exact ⟨hl.1, hl.2.1, hok⟩
      · cases (!c && (mc && mb.red)) with
        | true =>
          show (Tr.nd q false a ma).num + 1 + mb.bk.num = _
          rw [bk_num, show (Tr.nd q false a ma).num = a.num + 1 + ma.num from rfl, hnl]
          omega
        | false =>
          show a.num + 1 + (Tr.nd mp mc ma mb).num = _
          rw [hnm, hnl]
          omega
      · cases (!c && (mc && mb.red)) with
        | true => exact ⟨mp, true, .nd q false a ma, mb.bk, rfl⟩
        | false => exact ⟨q, c, a, .nd mp mc ma mb, rfl⟩
theorem onL_ok (l : Tr) (p : Pc) : ∀ (r : Tr), l.Ok → r.Ok → Fit p → l.num + 1 + r.num ≤ 1073741824 → r.Bal → l.blk ≤ r.blk → Jn 77 l r p (onL l p r)
  | .nil, hl, hr, hp, hn, hb, hk => by
    have e : onL l p .nil = .nd p true l .nil := by unfold onL; rfl
    rw [e]
    refine ⟨?_, ⟨hp, hl, trivial⟩, rfl, p, true, l, .nil, rfl⟩
    have h0 := blk_pos hl
    rw [blk_nil] at hk
    have hn1 : l.num + 1 + 0 ≤ 1073741824 := hn
    have hz : isT (enc l) := isT_of hl (by omega)
    exact onL_n p (enc l) hz hp (show l.blk = 0 by omega)
  | .nd q c a b, hl, hr, hp, hn, hb, hk => by
    have hnl : (Tr.nd q c a b).num = a.num + 1 + b.num := rfl
    rw [hnl] at hn
    have hrT : isT (mkF c (enc a) q (enc b)) := isT_nd hr (by rw [hnl]; omega)
    have haT : isT (enc a) := isT_of hr.2.1 (by omega)
    have hbT : isT (enc b) := isT_of hr.2.2 (by omega)
    have hlT : isT (enc l) := isT_of hl (by omega)
    have hcT : ∀ t : Tr, t.Ok → t.num + 1 + b.num ≤ 1073741824 → isT (mkF false (enc t) q (enc b)) := fun t h1 h2 => isT_nd (q := q) (c := false) (a := t) (b := b) ⟨hr.1, h1, hr.2.2⟩ h2
    by_cases h0 : c = false ∧ l.blk = a.blk + 1
    · obtain ⟨rfl, h1⟩ := h0
      have e : onL l p (.nd q false a b) = .nd p true l (.nd q false a b) := by
        simp [onL, h1]
      rw [e]
      refine ⟨?_, ⟨hp, hl, hr⟩, rfl, p, true, l, _, rfl⟩
      have hnT : isT (enc .nil) := isT_of (t := .nil) trivial (Nat.zero_le _)
      have := onL_d false (enc a) (enc b) q p q (enc l) false (enc .nil) (enc .nil) haT hbT hlT hnT hnT hrT (isT_nd (q := q) (c := false) (a := .nil) (b := .nil) ⟨hr.1, trivial, trivial⟩ (show 0 + 1 + 0 ≤ 1073741824 from by decide)) hp hr.1 hr.1 (hcT .nil trivial (by rw [show Tr.nil.num = 0 from rfl]; omega)) (fun h => absurd ⟨rfl, h1⟩ h)
      rwa [← onLF_1 (w := enc l) (p := p) (x := enc a) (rp := q) (y := enc b) (mc := false) (mx := enc .nil) (mp := q) (my := enc .nil) h1] at this
    · have hk2 : l.blk ≤ a.blk := by
        rw [blk_nd] at hk
        cases c with
        | true => exact hk
        | false =>
          have h1 : ¬ l.blk = a.blk + 1 := fun h => h0 ⟨rfl, h⟩
          simp only [cond_false] at hk
          omega
      obtain ⟨hv, hok, hnum, mp, mc, ma, mb, hm⟩ := onL_ok l p a hl hr.2.1 hp (by omega) hb.1 hk2
      rw [hm] at hv hok hnum
      have hnm : (Tr.nd mp mc ma mb).num = ma.num + 1 + mb.num := rfl
      rw [hnm] at hnum
      have hmaT : isT (enc ma) := isT_of hok.2.1 (by omega)
      have hmbT : isT (enc mb) := isT_of hok.2.2 (by omega)
      have hcond : (!c && (l.blk == a.blk + 1)) = false := by
        cases c with
        | true => rfl
        | false =>
          have h1 : ¬ l.blk = a.blk + 1 := fun h => h0 ⟨rfl, h⟩
          simpa using h1
      have e : onL l p (.nd q c a b) = bif !c && (mc && ma.red) then .nd mp true ma.bk (.nd q false mb b) else .nd q c (.nd mp mc ma mb) b := by
        simp only [onL, hcond, hm, cond_false]
      have hd := onL_d c (enc a) (enc b) q p mp (enc l) mc (enc ma) (enc mb) haT hbT hlT hmaT hmbT hrT (isT_nd hok (by rw [hnm]; omega)) hp hr.1 hok.1 (hcT mb hok.2.2 (by omega)) (fun _ => hv)
      have hE : onLF (enc l) p c (enc a) q (enc b) mc (enc ma) mp (enc mb) = enc (bif !c && (mc && ma.red) then .nd mp true ma.bk (.nd q false mb b) else .nd q c (.nd mp mc ma mb) b) := by
        have hc1 : (!c && (blkF (enc l) == blkF (mkF c (enc a) q (enc b)))) = false := by
          cases c with
          | true => rfl
          | false => exact hcond
        unfold onLF
        rw [hc1]
        simp only [cond_false]
        show (bif !c && (mc && ma.red) then _ else _) = _
        cases (!c && (mc && ma.red)) with
        | true => simp only [cond_true, bkT_enc]; rfl
        | false => rfl
      rw [hE] at hd
      rw [e]
      refine ⟨hd, ?_, ?_, ?_⟩
      · cases (!c && (mc && ma.red)) with
        | true => exact ⟨hok.1, bk_Ok hok.2.1, hr.1, hok.2.2, hr.2.2⟩
        | false => exact ⟨hr.1, hok, hr.2.2⟩
      · cases (!c && (mc && ma.red)) with
        | true =>
          show ma.bk.num + 1 + (Tr.nd q false mb b).num = _
          rw [bk_num, show (Tr.nd q false mb b).num = mb.num + 1 + b.num from rfl, hnl]
          omega
        | false =>
          show (Tr.nd mp mc ma mb).num + 1 + b.num = _
          rw [hnm, hnl]
          omega
      · cases (!c && (mc && ma.red)) with
        | true => exact ⟨mp, true, ma.bk, .nd q false mb b, rfl⟩
        | false => exact ⟨q, c, .nd mp mc ma mb, b, rfl⟩
end Go.Proofs.Ytpjlgjhkdligfaa.Vg
