/- pins: small runs of single operations. No condition. -/
import Derived.Test.YtjmpmcgdfgfmfaaMovePure
import Derived.Test.YtjmpmcgdfgfmfaaFits
namespace Go.Proofs.Ytjmpmcgdfgfmfaa.Hand
open Go.RowKit Go.Proofs.Ytjmpmcgdfgfmfaa.Aggs Go.Proofs.YtjmpmcgdfgfmfaaW.PrintWords
section
variable {P : Program}
theorem run_load_one_op {o : Oper} {a : Act} {w : World} (ty : TypeId) (x : Operand) (ho : o.op = .load ty x)
    (ad : Addr) (hx : a.eval x = .pointer (some ad)) (v : Value) (d : TypeDesc) (hc : w.cell? ad = some v)
    (hu : P.underlying ty = some d) (hd : (match d with | .struct _ | .array _ _ => true | _ => false) = false) :
    (execOp a.eval o).run P w = .ok (.value v) w := by
  have hagg : (isAgg ty).run P w = .ok false w := by
    unfold isAgg
    rw [Sem.run_bind, run_underlying hu w]
    cases d <;> simp_all
  have hl : (loadVar ty ad).run P w = .ok v w := by
    simp [loadVar, Sem.run_bind, hagg, hc]
  unfold execOp
  simp only [ho, hx, Instr.loadAt, Instr.sureAddr, Sem.run_bind, Sem.run_pure, Result.andThen_ok, hl]
theorem run_field_op {o : Oper} {a : Act} {w : World} (ty : TypeId) (x : Operand) (f : Nat) (ho : o.op = .field ty x f) (y v : Value) (hx : a.eval x = y) (hr : (Instr.field ty y f).run P w = .ok v w) :
    (execOp a.eval o).run P w = .ok (.value v) w := by
  unfold execOp
  simp only [ho, hx, Sem.run_bind, Result.andThen_ok, hr, Sem.run_pure]
end
theorem field_back (l : List Int) (hl : l.length = 27) (w : World) : (Instr.field 24 (mv l) 1).run Try.prog w = .ok (.int .i64 (l[26]?.getD 0)) w := by
  unfold Instr.field
  rw [Sem.run_bind, run_underlying Try.underlying24 w]
  exact part_int l 26 (by omega) w
end Go.Proofs.Ytjmpmcgdfgfmfaa.Hand
