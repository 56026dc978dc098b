/- The statement of the law FrameTells over numbers and lists. -/
import Derived.Test.YticobcojmpakfaaPtreebridgelaw01FrameTells
namespace Go.Proofs.Yticobcojmpakfaa.P
open Go.RowKit Go.Proofs.YticobcojmpakfaaW.PrintWords
def treebridgelaw01_FrameTells.Pure : Prop := ∀ (a0_0 : ByteArray) (a0_1 : ByteArray) (a0_2 : Bool) (a0_3 : Int) (a0_4 : Int) (a0_5 : Int) (a0_6 : ByteArray) (a1 : Int) (a2 : ByteArray), a0_0.size ≤ maxLen → a0_1.size ≤ maxLen → (Lit.int .i64 a0_3).wf = true → (Lit.int .i64 a0_4).wf = true → (Lit.int .i64 a0_5).wf = true → a0_6.size ≤ maxLen → (Lit.int .i64 a1).wf = true → a2.size ≤ maxLen → ∃ k, treebridgelaw01_FrameTells.f k a0_0 a0_1 a0_2 a0_3 a0_4 a0_5 a0_6 a1 a2 = some true
end Go.Proofs.Yticobcojmpakfaa.P
