/- pins: plain facts of Move. No condition. -/
import Derived.Test.YtjmpmcgdfgfmfaaGreat
namespace Go.Proofs.Ytjmpmcgdfgfmfaa.Hand
open Go.RowKit Go.Proofs.Ytjmpmcgdfgfmfaa.Aggs Go.Proofs.YtjmpmcgdfgfmfaaW.PrintWords
/-- where one mark goes -/
def mark1 (es : List S42) (x : Int) : Int := es.foldl (fun x e => behindI e.f0 e.f1.length e.f2.length x) x
theorem moveR_map : ∀ (es : List S42) (l : List Int), moveR es l = l.map (mark1 es)
  | [], l => by
    show l = l.map (fun x => x)
    simp
  | e :: es, l => by
    show moveR es (step1 l e) = _
    rw [moveR_map es, step1, List.map_map]
    rfl
theorem moveR_app (a b : List S42) (l : List Int) : moveR (a ++ b) l = moveR b (moveR a l) := List.foldl_append ..
theorem moveR_get (es : List S42) (l : List Int) (i : Nat) (h : i < l.length) : (moveR es l)[i]?.getD 0 = mark1 es (l[i]?.getD 0) := by
  rw [moveR_map, List.getElem?_map, List.getElem?_eq_getElem h]
  rfl
end Go.Proofs.Ytjmpmcgdfgfmfaa.Hand
