/- The statement of the law LlcTells over numbers and lists. -/
import Derived.Test.YticobcojmpakfaaPtreebridgelaw02LlcTells
namespace Go.Proofs.Yticobcojmpakfaa.P
open Go.RowKit Go.Proofs.YticobcojmpakfaaW.PrintWords
def treebridgelaw02_LlcTells.Pure : Prop := ∀ (a0_0 : ByteArray) (a0_1 : ByteArray) (a0_2 : Bool) (a0_3 : Int) (a0_4 : Int) (a0_5 : Int) (a0_6 : ByteArray) (a1 : ByteArray) (a2 : ByteArray) (a3 : ByteArray) (a4 : Int), a0_0.size ≤ maxLen → a0_1.size ≤ maxLen → (Lit.int .i64 a0_3).wf = true → (Lit.int .i64 a0_4).wf = true → (Lit.int .i64 a0_5).wf = true → a0_6.size ≤ maxLen → a1.size ≤ maxLen → a2.size ≤ maxLen → a3.size ≤ maxLen → (Lit.int .i64 a4).wf = true → ∃ k, treebridgelaw02_LlcTells.f k a0_0 a0_1 a0_2 a0_3 a0_4 a0_5 a0_6 a1 a2 a3 a4 = some true
end Go.Proofs.Yticobcojmpakfaa.P
