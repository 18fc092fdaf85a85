/- What a row's readings give, kind by kind: a value that reads as data is read by its kind; its bulk. No law, no condition. -/
import Derived.Test.YtpjlgjhkdligfaaRows
import Derived.Test.YtpjlgjhkdligfaaWWords
import Derived.Test.YtpjlgjhkdligfaaWArr
import Derived.DataReads
import Derived.DataElems
import Derived.ChangeArms
namespace Go.Proofs.Ytpjlgjhkdligfaa.OpensW
open Go.Proofs.YtpjlgjhkdligfaaW.PrintWords
set_option linter.unusedVariables false

theorem bulk_one {H : Type} (d : DataW H) : 1 ≤ Rows.uptoBulk d := by
  cases d with
  | lit l => cases l <;> simp [Rows.uptoBulk]
  | _ => simp [Rows.uptoBulk]
theorem bulk_mem {H : Type} {d : DataW H} {l : List (DataW H)} (h : d ∈ l) : Rows.uptoBulk d ≤ Rows.uptoBulkAll l := by
  induction l with
  | nil => cases h
  | cons x r ih =>
    simp only [Rows.uptoBulkAll]
    rcases List.mem_cons.1 h with e | e
    · subst e; omega
    · have := ih e; omega

/-- The sum of what f says of a list's elements. -/
def sumOf {α : Type} (f : α → Nat) : List α → Nat
  | [] => 0
  | x :: l => f x + sumOf f l
theorem sumOf_le {α H : Type} (f : α → Nat) : ∀ (xs : List α) (ds : List (DataW H)), xs.length = ds.length → (∀ (i : Nat) (x : α) (d : DataW H), xs[i]? = some x → ds[i]? = some d → f x ≤ Rows.uptoBulk d) → sumOf f xs ≤ Rows.uptoBulkAll ds
  | [], ds, _, _ => by simp [sumOf]
  | x :: xs, [], h, _ => by simp at h
  | x :: xs, d :: ds, h, hf => by
    have h0 := hf 0 x d rfl rfl
    have h1 := sumOf_le f xs ds (by simpa using h) (fun i y e hy he => hf (i + 1) y e (by simpa using hy) (by simpa using he))
    simp only [sumOf, Rows.uptoBulkAll]
    omega

theorem weights_mem {H : Type} {P : Program} {e : TypeId} {d : DataW H} {l : List (DataW H)} {n : Nat} (h : d ∈ l) (hn : n ∈ d.weights P e) : n ∈ DataW.weightsAll P e l := by
  induction l with
  | nil => cases h
  | cons x r ih =>
    simp only [DataW.weightsAll, List.mem_append]
    rcases List.mem_cons.1 h with rfl | h
    · exact .inl hn
    · exact .inr (ih h)
/-- Whatever reads as data at type t is read by d; 'good' and 'bulk' are told of what is read. -/
structure Reads {α : Type} (P : Program) (t : TypeId) (d : Kd α) (good : α → Prop) (bulk : α → Nat) : Prop where
  sz : P.cellsOf t = d.sz
  rd : ∀ {H : Type} {enc : TypeId × Value → H} {w : World} {fuel : Nat} {cs : List Value} {x : DataW H × List MemPlace},
    DataW.trod enc P w 0 (fun _ => true) true fuel t cs = some x → (∀ n ∈ x.1.weights P t, n ≤ reachBytes) → ∃ y, d.K w y cs ∧ good y ∧ bulk y ≤ Rows.uptoBulk x.1

theorem Reads.int {P : Program} {t : TypeId} {k : IntKind} (hu : P.underlying t = some (.int k)) (hc : P.cellsOf t = 1) :
    Reads P t (Kd.int k) (fun x => (Lit.int k x).wf = true) (fun _ => 1) where
  sz := hc
  rd := fun h hwt => by
    obtain ⟨n, rfl, rfl, hw⟩ := DataW.trod_int hu h
    exact ⟨n, rfl, hw, by simp [Rows.uptoBulk]⟩
theorem Reads.bool {P : Program} {t : TypeId} (hu : P.underlying t = some .bool) (hc : P.cellsOf t = 1) : Reads P t Kd.bool (fun _ => True) (fun _ => 1) where
  sz := hc
  rd := fun h hwt => by
    obtain ⟨n, rfl, rfl⟩ := DataW.trod_bool hu h
    exact ⟨n, rfl, trivial, by simp [Rows.uptoBulk]⟩
theorem Reads.string {P : Program} {t : TypeId} (hu : P.underlying t = some .string) (hc : P.cellsOf t = 1) : Reads P t Kd.string (fun s => s.size ≤ reachBytes) (fun s => s.size + 1) where
  sz := hc
  rd := fun h hwt => by
    obtain ⟨s, rfl, rfl, hs⟩ := DataW.trod_string hu h
    exact ⟨s, rfl, hwt _ (by simp [DataW.weights]), by simp [Rows.uptoBulk]⟩
theorem Reads.iso {α β : Type} {P : Program} {t : TypeId} {d : Kd α} {good : α → Prop} {bulk : α → Nat} (h : Reads P t d good bulk) (f : β → α) (g : α → β) (hfg : ∀ a, f (g a) = a) :
    Reads P t (Kd.iso d f) (fun y => good (f y)) (fun y => bulk (f y)) where
  sz := h.sz
  rd := fun hx hwt => by
    obtain ⟨y, h1, h2, h3⟩ := h.rd hx hwt
    exact ⟨g y, by show d.K _ (f (g y)) _; rw [hfg]; exact h1, by rw [hfg]; exact h2, by rw [hfg]; exact h3⟩

theorem cells?_get {w : World} {a : Addr} {n : Nat} {c : List Value} (h : w.cells? 0 a n = some c) : c.length = n ∧ ∀ i u, c[i]? = some u → w.cell? (a.add i) = some u := by
  unfold World.cells? at h
  rw [if_pos (Nat.zero_le _)] at h
  have hl := mapM_some_length h
  rw [List.length_range] at hl
  refine ⟨hl, fun i u hu => ?_⟩
  have hi : i < n := by
    have := (List.getElem?_eq_some_iff.1 hu).1
    omega
  rw [mapM_some_get h i i (by rw [List.getElem?_range hi]), hu]

theorem pick {α : Type} {p : Nat → α → Prop} : ∀ n, (∀ i, i < n → ∃ y, p i y) → ∃ ys : List α, ys.length = n ∧ ∀ i, i < n → ∃ y, ys[i]? = some y ∧ p i y
  | 0, _ => ⟨[], rfl, fun i hi => by omega⟩
  | n + 1, h => by
    obtain ⟨ys, hl, hys⟩ := pick n (fun i hi => h i (by omega))
    obtain ⟨y, k⟩ := h n (by omega)
    refine ⟨ys ++ [y], by simp [hl], fun i hi => ?_⟩
    by_cases hin : i < n
    · obtain ⟨y', k0, k'⟩ := hys i hin
      exact ⟨y', by rw [List.getElem?_append_left (by omega)]; exact k0, k'⟩
    · obtain rfl : i = n := by omega
      exact ⟨y, by rw [List.getElem?_append_right (by omega)]; simp [hl], k⟩

theorem Reads.slice {α : Type} {P : Program} {t e : TypeId} {d : Kd α} {good : α → Prop} {bulk : α → Nat} (hu : P.underlying t = some (.slice e)) (hc : P.cellsOf t = 1) (h : Reads P e d good bulk) :
    Reads P t (Kd.slice e d) (fun xs => xs.length * P.bytesOf e ≤ reachBytes ∧ ∀ x ∈ xs, good x) (fun xs => sumOf bulk xs + 1) where
  sz := hc
  rd := fun {H enc w fuel cs x} hx hwt => by
    cases fuel with
    | zero => simp [DataW.trod] at hx
    | succ fuel =>
      unfold DataW.trod at hx
      simp only [hu] at hx
      match cs, hx with
      | [.slice none 0 0], hx =>
        simp at hx
        subst hx
        exact ⟨[], ⟨none, 0, rfl, Nat.le_refl _, by simp, by simp, fun h => by simp at h⟩, ⟨by simp, by simp⟩, by simp [sumOf, Rows.uptoBulk]⟩
      | [.slice (some a) len cap], hx =>
        simp only [] at hx
        split at hx
        · rename_i hb
          obtain ⟨elems, he, hx⟩ := Option.bind_eq_some_iff.1 hx
          obtain ⟨rest, hr, hx⟩ := Option.map_eq_some_iff.1 hx
          subst hx
          have hlen := mapM_some_length he
          rw [List.length_range] at hlen
          have hex : ∀ i, i < len → ∃ y c dd, d.K w y c ∧ good y ∧ bulk y ≤ Rows.uptoBulk dd ∧ c.length = d.sz ∧ (elems[i]?).map (·.1) = some dd ∧ ∀ j u, c[j]? = some u → w.cell? (a.add (i * d.sz + j)) = some u := by
            intro i hi
            have hg := mapM_some_get he i i (by rw [List.getElem?_range hi])
            obtain ⟨y0, hy0⟩ : ∃ y0, elems[i]? = some y0 := ⟨elems[i], List.getElem?_eq_getElem (by omega)⟩
            rw [hy0] at hg
            obtain ⟨c, hc1, hc2⟩ := Option.bind_eq_some_iff.1 hg
            obtain ⟨hcl, hcell⟩ := cells?_get hc1
            obtain ⟨y, k1, k2, k3⟩ := h.rd hc2 (fun n hn => hwt n (by
              simp only [DataW.weights, hu]
              refine List.mem_cons_of_mem _ (List.mem_append_left _ (weights_mem (List.mem_of_getElem? (i := i) ?_) hn))
              rw [List.getElem?_map, hy0]
              rfl))
            refine ⟨y, c, y0.1, k1, k2, k3, by rw [hcl, h.sz], by rw [hy0]; rfl, fun j u hu => ?_⟩
            have := hcell j u hu
            rwa [Addr.add_add, h.sz] at this
          have hpick := pick (p := fun i y => ∃ c dd, d.K w y c ∧ good y ∧ bulk y ≤ Rows.uptoBulk dd ∧ c.length = d.sz ∧ (elems[i]?).map (·.1) = some dd ∧ ∀ j u, c[j]? = some u → w.cell? (a.add (i * d.sz + j)) = some u) len hex
          obtain ⟨ys, hl, hys⟩ := hpick
          refine ⟨ys, ⟨some a, cap, by rw [hl], by rw [hl]; exact hb.2.1, ?_⟩, ?_, ?_⟩
          · refine ⟨rfl, by have := hb.2.2; simp only [maxLen] at this; omega, fun _ => ⟨a, rfl, fun j p hj => ?_⟩⟩
            have hjl : j < len := by have := (List.getElem?_eq_some_iff.1 hj).1; omega
            obtain ⟨y, k0, c, dd, k1, _, _, k4, _, k6⟩ := hys j hjl
            rw [k0] at hj
            cases hj
            exact ⟨c, k4, k1, k6⟩
          · refine ⟨?_, ?_⟩
            · refine Nat.le_trans ?_ (hwt _ (by simp only [DataW.weights, hu]; exact List.mem_cons_self))
              refine Nat.mul_le_mul_right _ ?_
              simp only [List.length_map]
              omega
            intro z hz
            obtain ⟨j, hjl, rfl⟩ := List.getElem_of_mem hz
            obtain ⟨y, k0, c, dd, _, k2, _⟩ := hys j (by omega)
            rw [List.getElem?_eq_getElem hjl] at k0
            cases k0
            exact k2
          · simp only [Rows.uptoBulk]
            have := sumOf_le (H := H) bulk ys (elems.map (·.1)) (by simp; omega) (fun i z dd hz hd => by
              have hil : i < len := by have := (List.getElem?_eq_some_iff.1 hz).1; omega
              obtain ⟨y, k0, c, dd', _, _, k3, _, k5, _⟩ := hys i hil
              rw [k0] at hz
              cases hz
              rw [List.getElem?_map, k5] at hd
              cases hd
              exact k3)
            omega
        · cases hx

/-- Arrays. -/
theorem Reads.arr {α : Type} {P : Program} {t e n : Nat} {d : Kd α} {hs : 0 < d.sz} {good : α → Prop} {bulk : α → Nat} (hu : P.underlying t = some (.array n e)) (hc : P.cellsOf t = n * d.sz) (h : Reads P e d good bulk) :
    Reads P t (Kd.arr n d hs) (fun xs => xs.length = n ∧ ∀ x ∈ xs, good x) (fun xs => sumOf bulk xs + 1) where
  sz := hc
  rd := fun {H enc w fuel cs x} hx hwt => by
    cases fuel with
    | zero => simp [DataW.trod] at hx
    | succ fuel =>
      unfold DataW.trod at hx
      simp only [hu] at hx
      split at hx
      · rename_i hl
        obtain ⟨xs, he, hx⟩ := Option.map_eq_some_iff.1 hx
        subst hx
        have hlen := mapM_some_length he
        rw [List.length_range] at hlen
        have hex : ∀ i, i < n → ∃ y dd, d.K w y ((cs.drop (i * d.sz)).take d.sz) ∧ good y ∧ bulk y ≤ Rows.uptoBulk dd ∧ (xs[i]?).map (·.1) = some dd := by
          intro i hi
          have hg := mapM_some_get he i i (by rw [List.getElem?_range hi])
          obtain ⟨y0, hy0⟩ : ∃ y0, xs[i]? = some y0 := ⟨xs[i], List.getElem?_eq_getElem (by omega)⟩
          rw [hy0] at hg
          obtain ⟨y, k1, k2, k3⟩ := h.rd hg (fun n hn => hwt n (by
            simp only [DataW.weights, hu]
            refine weights_mem (List.mem_of_getElem? (i := i) ?_) hn
            rw [List.getElem?_map, hy0]
            rfl))
          exact ⟨y, y0.1, by rw [h.sz] at k1; exact k1, k2, k3, by rw [hy0]; rfl⟩
        obtain ⟨ys, hl2, hys⟩ := pick (p := fun i y => ∃ dd, d.K w y ((cs.drop (i * d.sz)).take d.sz) ∧ good y ∧ bulk y ≤ Rows.uptoBulk dd ∧ (xs[i]?).map (·.1) = some dd) n hex
        refine ⟨ys, ⟨hl2, by rw [hl, hc, hl2], fun j p hj => ?_⟩, ⟨hl2, ?_⟩, ?_⟩
        · have hjl : j < n := by have := (List.getElem?_eq_some_iff.1 hj).1; omega
          obtain ⟨y, k0, dd, k1, _⟩ := hys j hjl
          rw [k0] at hj
          cases hj
          exact k1
        · intro z hz
          obtain ⟨j, hjl, rfl⟩ := List.getElem_of_mem hz
          obtain ⟨y, k0, dd, _, k2, _⟩ := hys j (by omega)
          rw [List.getElem?_eq_getElem hjl] at k0
          cases k0
          exact k2
        · simp only [Rows.uptoBulk]
          have := sumOf_le (H := H) bulk ys (xs.map (·.1)) (by simp; omega) (fun i z dd hz hd => by
            have hil : i < n := by have := (List.getElem?_eq_some_iff.1 hz).1; omega
            obtain ⟨y, k0, dd', _, _, k3, k5⟩ := hys i hil
            rw [k0] at hz
            cases hz
            rw [List.getElem?_map, k5] at hd
            cases hd
            exact k3)
          omega
      · cases hx
/-- An array of numbers: its cells. -/
theorem arr_nums {n : Nat} {k : IntKind} {hs : 0 < (Kd.int k).sz} {w : World} {xs : List Int} {cs : List Value} (h : (Kd.arr n (Kd.int k) hs).K w xs cs) : cs = nums k xs := by
  obtain ⟨_, h1, h2⟩ := h
  apply List.ext_getElem?
  intro i
  have hsz : (Kd.int k).sz = 1 := rfl
  rw [hsz, Nat.mul_one] at h1
  by_cases hi : i < xs.length
  · have := h2 i _ (List.getElem?_eq_getElem hi)
    have hq : (cs.drop (i * 1)).take 1 = [Value.int k xs[i]] := this
    have hg : ((cs.drop (i * 1)).take 1)[0]? = some (Value.int k xs[i]) := by rw [hq]; rfl
    rw [List.getElem?_take, if_pos (by omega), List.getElem?_drop, Nat.mul_one, Nat.add_zero] at hg
    rw [hg]
    simp [nums, hi]
  · rw [List.getElem?_eq_none (by omega), List.getElem?_eq_none (by simp [nums]; omega)]

/-- The fields from cell 'off' on, one behind the other. -/
structure ReadsF {α : Type} (P : Program) (fs : List Field) (off : Nat) (d : Kd α) (good : α → Prop) (bulk : α → Nat) : Prop where
  rd : ∀ {H : Type} {enc : TypeId × Value → H} {w : World} {fuel : Nat} {cs : List Value} {xs : List (DataW H × List MemPlace)},
    fs.mapM (fun f => DataW.trod enc P w 0 (fun _ => true) true fuel f.type ((cs.drop f.offset).take (P.cellsOf f.type))) = some xs → cs.length = off + d.sz → (∀ n ∈ DataW.weightsEach P (fs.map (·.type)) (xs.map (·.1)), n ≤ reachBytes) →
    ∃ y, d.K w y (cs.drop off) ∧ good y ∧ bulk y ≤ Rows.uptoBulkAll (xs.map (·.1))
theorem ReadsF.last {α : Type} {P : Program} {f : Field} {off : Nat} {d : Kd α} {good : α → Prop} {bulk : α → Nat} (hf : f.offset = off) (h : Reads P f.type d good bulk) : ReadsF P [f] off d good bulk where
  rd := fun {H enc w fuel cs xs} hx hl hwt => by
    simp only [List.mapM_cons, List.mapM_nil, Option.pure_def, Option.bind_eq_bind] at hx
    obtain ⟨x, h1, hx⟩ := Option.bind_eq_some_iff.1 hx
    simp at hx
    subst hx
    rw [hf, h.sz, List.take_of_length_le (by simp; omega)] at h1
    obtain ⟨y, k1, k2, k3⟩ := h.rd h1 (fun n hn => hwt n (by simp [DataW.weightsEach, hn]))
    exact ⟨y, k1, k2, by simp [Rows.uptoBulkAll]; omega⟩
theorem ReadsF.cons {α β : Type} {P : Program} {f : Field} {fs : List Field} {off : Nat} {a : Kd α} {b : Kd β} {ga : α → Prop} {gb : β → Prop} {ba : α → Nat} {bb : β → Nat}
    (hf : f.offset = off) (h : Reads P f.type a ga ba) (hr : ReadsF P fs (off + a.sz) b gb bb) : ReadsF P (f :: fs) off (Kd.pair a b) (fun y => ga y.1 ∧ gb y.2) (fun y => ba y.1 + bb y.2) where
  rd := fun {H enc w fuel cs xs} hx hl hwt => by
    simp only [List.mapM_cons, Option.pure_def, Option.bind_eq_bind] at hx
    obtain ⟨x, h1, hx⟩ := Option.bind_eq_some_iff.1 hx
    obtain ⟨ys, h2, hx⟩ := Option.bind_eq_some_iff.1 hx
    simp at hx
    subst hx
    have hl' : cs.length = off + a.sz + b.sz := by rw [hl]; show off + (a.sz + b.sz) = _; omega
    rw [hf, h.sz] at h1
    obtain ⟨y, k1, k2, k3⟩ := h.rd h1 (fun n hn => hwt n (by simp [DataW.weightsEach, hn]))
    obtain ⟨z, m1, m2, m3⟩ := hr.rd h2 hl' (fun n hn => hwt n (by simp only [List.map_cons, DataW.weightsEach]; exact List.mem_append_right _ hn))
    refine ⟨(y, z), ⟨(cs.drop off).take a.sz, cs.drop (off + a.sz), ?_, k1, m1⟩, ⟨k2, m2⟩, by simp [Rows.uptoBulkAll]; omega⟩
    rw [← List.drop_drop, List.take_append_drop]
theorem Reads.struct {α : Type} {P : Program} {t : TypeId} {fs : Array Field} {d : Kd α} {good : α → Prop} {bulk : α → Nat} (hu : P.underlying t = some (.struct fs)) (hc : P.cellsOf t = d.sz) (h : ReadsF P fs.toList 0 d good bulk) :
    Reads P t d good (fun y => bulk y + 1) where
  sz := hc
  rd := fun {H enc w fuel cs x} hx hwt => by
    cases fuel with
    | zero => simp [DataW.trod] at hx
    | succ fuel =>
      unfold DataW.trod at hx
      simp only [hu] at hx
      split at hx
      · rename_i hl
        obtain ⟨xs, h1, hx⟩ := Option.map_eq_some_iff.1 hx
        subst hx
        obtain ⟨y, k1, k2, k3⟩ := h.rd h1 (by rw [hl, hc]; omega) (fun n hn => hwt n (by simp only [DataW.weights, hu]; exact hn))
        exact ⟨y, by simpa using k1, k2, by simp only [Rows.uptoBulk]; omega⟩
      · cases hx

/-- What a row hands over of one argument. -/
theorem Reads.arg {α : Type} {P : Program} {t : TypeId} {d : Kd α} {good : α → Prop} {bulk : α → Nat} (h : Reads P t d good bulk) {H : Type} {enc : TypeId × Value → H} {w : World} {v : Value} {x : DataW H} {ps : List MemPlace}
    (hx : DataW.Trod enc P w 0 (fun _ => true) true t v x ps) (hwt : ∀ n ∈ x.weights P t, n ≤ reachBytes) : ∃ y, d.K w y v.cells.toList ∧ good y ∧ bulk y ≤ Rows.uptoBulk x := by
  obtain ⟨fuel, hf⟩ := hx
  exact h.rd hf hwt
end Go.Proofs.Ytpjlgjhkdligfaa.OpensW
