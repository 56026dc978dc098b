/- The statement of the law FrameBack over numbers and lists. -/
import Derived.Test.YticobcojmpakfaaPtreebridgelaw01FrameBack
namespace Go.Proofs.Yticobcojmpakfaa.P
open Go.RowKit Go.Proofs.YticobcojmpakfaaW.PrintWords
def treebridgelaw01_FrameBack.Pure : Prop := ∀ (a0_0 : ByteArray) (a0_1 : ByteArray) (a0_2 : Bool) (a0_3 : Int) (a0_4 : Int) (a0_5 : Int) (a0_6 : ByteArray) (a1_0 : ByteArray) (a1_1 : ByteArray) (a1_2 : Bool) (a1_3 : Int) (a1_4 : Int) (a1_5 : Int) (a1_6 : ByteArray) (a2 : Int) (a3 : ByteArray), a0_0.size ≤ maxLen → a0_1.size ≤ maxLen → (Lit.int .i64 a0_3).wf = true → (Lit.int .i64 a0_4).wf = true → (Lit.int .i64 a0_5).wf = true → a0_6.size ≤ maxLen → a1_0.size ≤ maxLen → a1_1.size ≤ maxLen → (Lit.int .i64 a1_3).wf = true → (Lit.int .i64 a1_4).wf = true → (Lit.int .i64 a1_5).wf = true → a1_6.size ≤ maxLen → (Lit.int .i64 a2).wf = true → a3.size ≤ maxLen → ∃ k, treebridgelaw01_FrameBack.f k a0_0 a0_1 a0_2 a0_3 a0_4 a0_5 a0_6 a1_0 a1_1 a1_2 a1_3 a1_4 a1_5 a1_6 a2 a3 = some true
end Go.Proofs.Yticobcojmpakfaa.P
