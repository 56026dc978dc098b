/- The statement of the law LlcBack over numbers and lists. -/
import Derived.Test.YticobcojmpakfaaPtreebridgelaw02LlcBack
namespace Go.Proofs.Yticobcojmpakfaa.P
open Go.RowKit Go.Proofs.YticobcojmpakfaaW.PrintWords
def treebridgelaw02_LlcBack.Pure : Prop := ∀ (a0 : ByteArray) (a1 : ByteArray) (a2 : ByteArray) (a3 : Int), a0.size ≤ maxLen → a1.size ≤ maxLen → a2.size ≤ maxLen → (Lit.int .i64 a3).wf = true → ∃ k, treebridgelaw02_LlcBack.f k a0 a1 a2 a3 = some true
end Go.Proofs.Yticobcojmpakfaa.P
