/- Package vector: identifiers, the best of a row. -/
import Derived.Test.YtmgoahmbdpoikaaVec
set_option linter.unusedVariables false
set_option linter.unusedSimpArgs false
set_option maxRecDepth 100000
namespace Go.Proofs.Ytmgoahmbdpoikaa.Am
open Go Go.RowKit
def vPort (p n : Int) : Int × Int := if p < 0 ∨ 15 < p ∨ n < 1 ∨ 4095 < n then (0, 1) else (p * 4096 + n, 0)
theorem id_num (p n : Int) (h1 : 0 ≤ p) (h2 : p ≤ 15) (h3 : 0 ≤ n) (h4 : n ≤ 4095) : IntKind.u64.wrap (bits .or .i64 (IntKind.i64.wrap (p * 2 ^ min (Int.toNat 12) IntKind.i64.bits)) n) = p * 4096 + n := by
  have e : (p * 2 ^ min (Int.toNat 12) IntKind.i64.bits : Int) = p * 4096 := by
    have : min (Int.toNat 12) IntKind.i64.bits = 12 := by decide
    rw [this]; rfl
  rw [e, w64 (by omega) (by omega), or64 12 _ _ (by omega) (by omega) (by omega) (by omega) (by omega) (by omega), wu64 (by omega) (by omega)]
/-- A number with bytes behind it, the greatest first. -/
def beF (v : Int) (l : List UInt8) : Int := l.foldl (fun v c => (v * 256 + (c.toNat : Int)) % 18446744073709551616) v
theorem beF_snoc (v : Int) (l : List UInt8) (c : UInt8) : beF v (l ++ [c]) = (beF v l * 256 + (c.toNat : Int)) % 18446744073709551616 := by simp [beF, List.foldl_append]
theorem beF_range (v : Int) (hv : 0 ≤ v ∧ v < 18446744073709551616) (l : List UInt8) : 0 ≤ beF v l ∧ beF v l < 18446744073709551616 := by
  rcases List.eq_nil_or_concat l with h | ⟨l', c, h⟩
  · subst h; simpa [beF] using hv
  · subst h; rw [List.concat_eq_append, beF_snoc]; omega
theorem take_snoc (s : ByteArray) (k : Nat) (h : k < s.size) : s.data.toList.take (k + 1) = s.data.toList.take k ++ [s[k]] := by
  rw [List.take_succ_eq_append_getElem (by simpa using h)]; rfl
theorem shl8 (v c : Int) (hv : 0 ≤ v ∧ v < 18446744073709551616) (hc : 0 ≤ c ∧ c ≤ 255) : bits .or .u64 (IntKind.u64.wrap (v * 2 ^ min (Int.toNat 8) IntKind.u64.bits)) (IntKind.u64.wrap c) = (v * 256 + c) % 18446744073709551616 := by
  have e : (v * 2 ^ min (Int.toNat 8) IntKind.u64.bits : Int) = v * 256 := by
    have : min (Int.toNat 8) IntKind.u64.bits = 8 := by decide
    rw [this]; rfl
  rw [e, wu64', wu64 (x := c) (by omega) (by omega), or64u 8 _ _ (by omega) (by omega) (by omega) (by omega) (by omega) (by omega)]
  omega
def vBridge (p n : Int) (s : ByteArray) : Int × Int := if p < 0 ∨ 15 < p ∨ n < 0 ∨ 4095 < n then (0, 1) else if s.size ≠ 6 then (0, 2) else (beF (p * 4096 + n) s.data.toList, 0)
/-! ### The best of a row -/
abbrev V4 := Int × Int × Int × Int
def encV (x : V4) : List Value := [.int .u64 x.1, .int .u64 x.2.1, .int .u64 x.2.2.1, .int .u64 x.2.2.2]
theorem encV_len (x : V4) : (encV x).length = 4 := rfl
def cmp4 (x y : V4) : Int := cmpV x.1 x.2.1 x.2.2.1 x.2.2.2 y.1 y.2.1 y.2.2.1 y.2.2.2
def minV (m : V4) (l : List V4) : V4 := l.foldl (fun m v => if cmp4 v m < 0 then v else m) m
theorem minV_snoc (m : V4) (l : List V4) (v : V4) : minV m (l ++ [v]) = if cmp4 v (minV m l) < 0 then v else minV m l := by unfold minV; rw [List.foldl_append]; rfl
/-- The first place of which something is so. -/
def firstOf (p : V4 → Bool) : List V4 → Nat → Int
  | [], _ => -1
  | x :: r, k => if p x then (k : Int) else firstOf p r (k + 1)
theorem firstOf_drop (p : V4 → Bool) (l : List V4) (k : Nat) (h : k < l.length) : firstOf p (l.drop k) k = if p l[k] then (k : Int) else firstOf p (l.drop (k + 1)) (k + 1) := by
  rw [List.drop_eq_getElem_cons h]; rfl
def vBest : List V4 → Int
  | [] => -1
  | x :: l => firstOf (fun v => decide (cmpI (cmp4 v (minV x l)) 0 = 0)) (x :: l) 0
end Go.Proofs.Ytmgoahmbdpoikaa.Am
