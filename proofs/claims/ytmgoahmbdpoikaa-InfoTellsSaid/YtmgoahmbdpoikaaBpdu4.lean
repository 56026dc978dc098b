/- Package treebridgeref03: Parse. -/
import Derived.Test.YtmgoahmbdpoikaaBpdu3
set_option linter.unusedVariables false
set_option linter.unusedSimpArgs false
set_option maxRecDepth 100000
set_option maxHeartbeats 4000000
namespace Go.Proofs.Ytmgoahmbdpoikaa.Am
open Go Go.RowKit
theorem len1 {s : ByteArray} (h : ¬ (s.size : Int) < sizeV 1) : 35 ≤ s.size := by simp [sizeV] at h; omega
theorem len3 {s : ByteArray} (h : ¬ (s.size : Int) < sizeV 3) : 35 ≤ s.size := by simp [sizeV] at h; omega
theorem wi8b (s : ByteArray) (i : Nat) : IntKind.i64.wrap (byteAt s i) = byteAt s i := by have := byteAt_range s i; exact w64 (by omega) (by omega)
theorem get_one (s : ByteArray) (h : 35 ≤ s.size) : getV s 4 1 = byteAt s 4 := by
  have := byteAt_range s 4
  rw [getV_snoc s 4 0 (by omega)]
  show (0 * 256 + byteAt s 4) % 18446744073709551616 = _
  omega
theorem lt4 {s : ByteArray} (h : 35 ≤ s.size) : (0 : Int) ≤ 4 ∧ Int.toNat 4 < s.size := ⟨by decide, by show 4 < s.size; omega⟩
end Go.Proofs.Ytmgoahmbdpoikaa.Am
