/- More operations: a pointer held against nil. -/
import Derived.Test.YtgjdmlgdgbehoaaAm20
import Derived.Laws.Pointers
import Derived.Laws.Entries
set_option linter.unusedVariables false
namespace Go.Proofs.Ytgjdmlgdgbehoaa.Am
open Go Go.RowKit
section
variable {P : Program} {w0 : World} {X : List Nat} {H : List Res} {o : Oper} {S : Sl} {K : Value → Prop} {t e : TypeId} {x y : Operand} {yt : TypeId} {p : Option Addr}
theorem ptrEqNil (ho : o.op = .binOp .eql t x y yt) (ht : P.underlying t = some (.pointer e)) (hx : opd S x = some (.pointer p)) (hy : opd S y = some (.pointer none)) (hk : K (.bool p.isNone)) : EscQ P w0 X o S H K := by
  refine ⟨_, fun a w hA hS => ?_, hk⟩
  have hp : P.underlying t = some (.pointer (P.pointee t)) := by rw [ht]; simp [Program.pointee, ht]
  simp [execOp, ho, opd_eval hA hx, opd_eval hA hy, eqGuard_at_pointer, run_eql_pointer_nil w t p hp]
theorem ptrNeNil (ho : o.op = .binOp .neq t x y yt) (ht : P.underlying t = some (.pointer e)) (hx : opd S x = some (.pointer p)) (hy : opd S y = some (.pointer none)) (hk : K (.bool (!p.isNone))) : EscQ P w0 X o S H K := by
  refine ⟨_, fun a w hA hS => ?_, hk⟩
  have hp : P.underlying t = some (.pointer (P.pointee t)) := by rw [ht]; simp [Program.pointee, ht]
  simp [execOp, ho, opd_eval hA hx, opd_eval hA hy, eqGuard_at_pointer, run_neq_pointer_nil w t p hp]
theorem St.blkRg {w : World} {X : List Nat} {H : List Res} (hw : St w0 X H w) {b : Nat} {cs : List Value} {T : Nat} (hm : Res.blk b cs T ∈ H) : w.rangeAt b 0 cs := Rd.blk hm (by simp) w hw
end
end Go.Proofs.Ytgjdmlgdgbehoaa.Am
