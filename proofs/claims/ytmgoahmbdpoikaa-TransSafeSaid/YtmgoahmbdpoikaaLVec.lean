/- The laws of layer 5. -/
import Derived.Test.YtmgoahmbdpoikaaVec2
set_option linter.unusedVariables false
set_option linter.unusedSimpArgs false
set_option maxRecDepth 100000
set_option maxHeartbeats 4000000
namespace Go.Proofs.Ytmgoahmbdpoikaa.Am
open Go Go.RowKit
def raise (b x : Int) : Int := if 4294967295 < b ∨ IntKind.u64.wrap (4294967295 - b) < x then 4294967295 else IntKind.u64.wrap (b + x)
theorem ok_Raise : (match Try.f98.body with | some c => codeOk Try.f98.ntmps c | none => false) = true := by kernel_rfl
theorem en_Raise : ∃ fn, Try.prog.funcs[98]? = some fn ∧ (fn.name == "runtime.NumGoroutine") = false ∧ fn.body.isNone = false := ⟨_, Try.func98, by kernel_rfl, by kernel_rfl⟩
theorem Raise_w (a b c d x : Int) (w : World) : PuAt Try.prog 98 [.agg ⟨[.int .u64 a, .int .u64 b, .int .u64 c, .int .u64 d]⟩, .int .u64 x] (.agg ⟨[.int .u64 a, .int .u64 (raise b x), .int .u64 c, .int .u64 d]⟩) w := by
  refine funcR_pure tyOk wide Try.func98 ok_Raise (Nat.le_of_ble_eq_true rfl) ?_
  repeat' first
    | (conv => whnf
       first
       | intro _
       | (first | refine selSplit (fun h => ?_) (fun h => ?_) | refine condSplit (fun h => ?_) (fun h => ?_)) <;> first | exact (clash (by assumption) h).elim | exact (clash h (by assumption)).elim | (simp only [decide_eq_true_eq, decide_eq_false_iff_not, Bool.not_eq_true', Bool.not_eq_false', Bool.not_true, Bool.not_false, Bool.or_eq_true, Bool.and_eq_true, Bool.or_eq_false_iff, Bool.and_eq_false_iff, beq_iff_eq, beq_eq_false_iff_ne, ne_eq] at h; first | (exfalso; omega) | skip) | skip
       | refine SeqP.go ?_
       | refine cdM ?_
       | exact IsV.mk
       | apply GuardP.mk
       | (first | refine eqlW eqS24 rfl rfl rfl fitM fitM ?_ | refine neqW eqS24 rfl rfl rfl fitM fitM ?_)
       | refine Or.inl ⟨_, _, hasM, ?_⟩
       | refine Or.inl ⟨_, _, _, holeM, rfl, rfl, ?_⟩
       | refine lA ?_
       | refine lA0 ?_
       | refine lA1 ?_
       | refine lO ?_
       | refine lO0 ?_
       | refine lO1 ?_
       | refine lG ?_
       | refine lG0 ?_
       | refine tA ?_
       | refine tA0 ?_
       | refine tA1 ?_
       | refine BytW.ofBlk hasM rfl rfl ?_
       | refine AppW.noneB hasM leM rfl rfl rfl leM leM ?_
       | refine AppW.rowB hasM leM rfl rfl holeM leM leM ?_
       | refine AppW.blkB hasM leM rfl rfl holeM rfl rfl leM leM ?_
       | refine AppW.rowS hasM leM rfl rfl holeM (by omega) leM ?_
       | refine AppW.arrS hasM leM rfl rfl rfl holeM (by first | omega | (simp; omega)) leM ?_
       | refine ⟨sideM, ?_⟩
       | fail)
  all_goals (try conv => whnf)
  all_goals (unfold raise; (repeat (first | rw [if_pos (by first | assumption | grind | decide)] | rw [if_neg (by first | assumption | grind | decide)])); rfl)
end Go.Proofs.Ytmgoahmbdpoikaa.Am
