/- The statement of the law FrameCounts over numbers and lists. -/
import Derived.Test.YticobcojmpakfaaPtreebridgelaw01FrameCounts
namespace Go.Proofs.Yticobcojmpakfaa.P
open Go.RowKit Go.Proofs.YticobcojmpakfaaW.PrintWords
def treebridgelaw01_FrameCounts.Pure : Prop := ∀ (l0 : List ByteArray), (l0.length ≤ maxLen ∧ ∀ x ∈ l0, x.size ≤ maxLen) → ∃ k, treebridgelaw01_FrameCounts.f k l0 = some true
end Go.Proofs.Yticobcojmpakfaa.P
