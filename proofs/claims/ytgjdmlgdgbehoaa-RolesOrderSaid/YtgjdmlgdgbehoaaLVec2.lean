/- The laws VectorRaised and VectorParts. -/
import Derived.Test.YtgjdmlgdgbehoaaLVec
set_option linter.unusedVariables false
set_option linter.unusedSimpArgs false
set_option maxRecDepth 100000
set_option maxHeartbeats 4000000
namespace Go.Proofs.Ytgjdmlgdgbehoaa.Am
open Go Go.RowKit
abbrev u64 (x : Int) : Prop := 0 ≤ x ∧ x < 18446744073709551616
end Go.Proofs.Ytgjdmlgdgbehoaa.Am
