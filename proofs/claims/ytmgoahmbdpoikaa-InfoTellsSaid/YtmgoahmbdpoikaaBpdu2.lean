/- Package bpdu: what is heard. -/
import Derived.Test.YtmgoahmbdpoikaaBpdu
set_option linter.unusedVariables false
set_option linter.unusedSimpArgs false
set_option maxRecDepth 100000
set_option maxHeartbeats 4000000
namespace Go.Proofs.Ytmgoahmbdpoikaa.Am
open Go Go.RowKit
def byteAt (s : ByteArray) (i : Nat) : Int := if h : i < s.size then ((s[i]'h).toNat : Int) else 0
theorem byteAt_eq (s : ByteArray) (i : Nat) (h : i < s.size) : ((s[i]'h).toNat : Int) = byteAt s i := by unfold byteAt; rw [dif_pos h]
def suf (s : ByteArray) (k : Nat) : ByteArray := s.extract k s.size
theorem suf_size (s : ByteArray) (k : Nat) : (suf s k).size = s.size - k := by simp [suf, ByteArray.size_extract]
theorem suf_list (s : ByteArray) (k : Nat) : (suf s k).data.toList = s.data.toList.drop k := by
  simp [suf, ByteArray.data_extract, List.extract_eq_take_drop]
  rw [List.take_of_length_le]
  simp
theorem ba_ext {a b : ByteArray} (h : a.data.toList = b.data.toList) : a = b := by
  have h2 := Array.ext' h
  cases a; cases b
  exact congrArg ByteArray.mk h2
theorem suf_suf (s : ByteArray) (k j : Nat) : suf (suf s k) j = suf s (k + j) := by
  apply ba_ext
  rw [suf_list, suf_list, suf_list, List.drop_drop]
def getV (s : ByteArray) (at_ n : Nat) : Int := beF 0 ((s.data.toList.drop at_).take n)
theorem pre_list (s : ByteArray) (n : Nat) : (s.extract 0 n).data.toList = s.data.toList.take n := by
  simp [ByteArray.data_extract, List.extract_eq_take_drop]
theorem getV_two (s : ByteArray) (k n : Nat) (hn : n ≤ 2) : 0 ≤ getV s k n ∧ getV s k n < 65536 := by
  unfold getV
  generalize s.data.toList.drop k = l
  match n, l, hn with
  | 0, _, _ => simp only [List.take_zero, beF, List.foldl_nil]; omega
  | 1, [], _ => simp only [List.take_nil, beF, List.foldl_nil]; omega
  | 1, a :: _, _ => have := a.toNat_lt; simp only [List.take_succ_cons, List.take_zero, beF, List.foldl_cons, List.foldl_nil]; omega
  | 2, [], _ => simp only [List.take_nil, beF, List.foldl_nil]; omega
  | 2, [a], _ => have := a.toNat_lt; simp only [List.take_succ_cons, List.take_nil, beF, List.foldl_cons, List.foldl_nil]; omega
  | 2, a :: b :: _, _ => have := a.toNat_lt; have := b.toNat_lt; simp only [List.take_succ_cons, List.take_zero, beF, List.foldl_cons, List.foldl_nil]; omega
theorem parse_len {s : ByteArray} {a b : Int} (h : ¬ (s.size : Int) < sizeV (kindV a b)) (h0 : ¬ kindV a b = 0) (h2 : ¬ kindV a b = 2) : 35 ≤ s.size := by
  unfold sizeV kindV at *
  grind
theorem gw (s : ByteArray) (k : Nat) : IntKind.i64.wrap (getV s k 2) = getV s k 2 := by have := getV_two s k 2 (by omega); exact w64 (by omega) (by omega)
theorem gw1 (s : ByteArray) (k : Nat) : IntKind.i64.wrap (getV s k 1) = getV s k 1 := by have := getV_two s k 1 (by omega); exact w64 (by omega) (by omega)
abbrev gi (s : ByteArray) (k : Nat) : Int := IntKind.i64.wrap (getV s k 2)
def partV (s : ByteArray) (k : Int) : Nat → BpduV
  | 0 => ⟨k, IntKind.i64.wrap (getV s 4 1), getV s 5 8, getV s 13 4, getV s 17 8, getV s 25 2, 0, 0, 0, 0⟩
  | 1 => ⟨k, IntKind.i64.wrap (getV s 4 1), getV s 5 8, getV s 13 4, getV s 17 8, getV s 25 2, gi s 27, 0, 0, 0⟩
  | 2 => ⟨k, IntKind.i64.wrap (getV s 4 1), getV s 5 8, getV s 13 4, getV s 17 8, getV s 25 2, gi s 27, gi s 29, 0, 0⟩
  | 3 => ⟨k, IntKind.i64.wrap (getV s 4 1), getV s 5 8, getV s 13 4, getV s 17 8, getV s 25 2, gi s 27, gi s 29, gi s 31, 0⟩
  | _ => ⟨k, IntKind.i64.wrap (getV s 4 1), getV s 5 8, getV s 13 4, getV s 17 8, getV s 25 2, gi s 27, gi s 29, gi s 31, gi s 33⟩
def bodyV (s : ByteArray) (k : Int) : BpduV := ⟨k, getV s 4 1, getV s 5 8, getV s 13 4, getV s 17 8, getV s 25 2, getV s 27 2, getV s 29 2, getV s 31 2, getV s 33 2⟩
def parseV (s : ByteArray) : BpduV × Int :=
  if s.size < 4 then (BpduV.zero, 3) else if byteAt s 0 ≠ 0 ∨ byteAt s 1 ≠ 0 then (BpduV.zero, 2)
  else if kindV (byteAt s 2) (byteAt s 3) = 0 then (BpduV.zero, 9)
  else if (s.size : Int) < sizeV (kindV (byteAt s 2) (byteAt s 3)) then (BpduV.zero, 3)
  else if kindV (byteAt s 2) (byteAt s 3) = 2 then ({ BpduV.zero with Kind := 2 }, 0)
  else if kindV (byteAt s 2) (byteAt s 3) = 1 ∧ getV s 29 2 ≤ getV s 27 2 then (BpduV.zero, 1)
  else (bodyV s (kindV (byteAt s 2) (byteAt s 3)), 0)
end Go.Proofs.Ytmgoahmbdpoikaa.Am
