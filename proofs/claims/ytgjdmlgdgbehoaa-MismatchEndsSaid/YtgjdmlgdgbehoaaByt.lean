/- Texts as rows of bytes: plain. -/
import Derived.Test.YtgjdmlgdgbehoaaStr
set_option linter.unusedVariables false
set_option linter.unusedSimpArgs false
namespace Go.Proofs.Ytgjdmlgdgbehoaa.Am
open Go Go.RowKit
def suf (s : ByteArray) (k : Nat) : ByteArray := s.extract k s.size
theorem suf_size (s : ByteArray) (k : Nat) : (suf s k).size = s.size - k := by simp [suf, ByteArray.size_extract]
theorem suf_list (s : ByteArray) (k : Nat) : (suf s k).data.toList = s.data.toList.drop k := by
  simp [suf, ByteArray.data_extract, List.extract_eq_take_drop]
  rw [List.take_of_length_le]
  simp
theorem ba_ext {a b : ByteArray} (h : a.data.toList = b.data.toList) : a = b := by
  have h2 := Array.ext' h
  cases a; cases b
  exact congrArg ByteArray.mk h2
theorem suf_suf (s : ByteArray) (k j : Nat) : suf (suf s k) j = suf s (k + j) := by
  apply ba_ext
  rw [suf_list, suf_list, suf_list, List.drop_drop]
theorem pre_list (s : ByteArray) (n : Nat) : (s.extract 0 n).data.toList = s.data.toList.take n := by
  simp [ByteArray.data_extract, List.extract_eq_take_drop]
theorem mkS_append (a b : List Int) : mkS (a ++ b) = mkS a ++ mkS b := by
  apply ba_ext
  simp [mkS]
theorem mkS_size (l : List Int) : (mkS l).size = l.length := by simp [mkS, ByteArray.size]
theorem mkS_list (l : List Int) : (mkS l).data.toList = l.map fun n => UInt8.ofNat n.toNat := by simp [mkS]
theorem byteAt_get (s : ByteArray) (i : Nat) (h : i < s.size) : byteAt s i = ((s.data.toList[i]'(by simpa using h)).toNat : Int) := by
  rw [← byteAt_eq s i h]; rfl
theorem u8of (n : Int) (h0 : 0 ≤ n) (h1 : n < 256) : ((UInt8.ofNat n.toNat).toNat : Int) = n := by
  rw [UInt8.toNat_ofNat']
  omega
theorem byteAt_cat (L : List Int) (m : ByteArray) (i : Nat) (h : i < L.length) (h0 : 0 ≤ L[i] ∧ L[i] < 256) : byteAt (mkS L ++ m) i = L[i] := by
  rw [byteAt_get _ _ (by rw [ByteArray.size_append, mkS_size]; omega)]
  have e : (mkS L ++ m).data.toList = (L.map fun n => UInt8.ofNat n.toNat) ++ m.data.toList := by simp [mkS_list]
  simp only [e]
  rw [List.getElem_append_left (by simpa using h), List.getElem_map, u8of _ h0.1 h0.2]
theorem app_empty (s : ByteArray) : s ++ ⟨#[]⟩ = s := by apply ba_ext; simp
theorem byteAt_extract (s : ByteArray) (j i : Nat) (h : i < j) (hj : j ≤ s.size) : byteAt (s.extract 0 j) i = byteAt s i := by
  have hl : i < (s.extract 0 j).size := by rw [ByteArray.size_extract]; omega
  rw [byteAt_get _ _ hl, byteAt_get _ _ (by omega)]
  simp only [pre_list]
  rw [List.getElem_take]
theorem app_list (a b : ByteArray) : (a ++ b).data.toList = a.data.toList ++ b.data.toList := by simp
theorem len_list (a : ByteArray) : a.data.toList.length = a.size := by simp
theorem app_suf (a b : ByteArray) : (a ++ b).extract a.size (a ++ b).size = b := by
  apply ba_ext
  rw [show (a ++ b).extract a.size (a ++ b).size = suf (a ++ b) a.size from rfl, suf_list, app_list, ← len_list, List.drop_left]
theorem app_pre (a b : ByteArray) (j : Nat) (h : j ≤ a.size) : (a ++ b).extract 0 j = a.extract 0 j := by
  apply ba_ext
  rw [pre_list, pre_list, app_list, List.take_append_of_le_length (by rw [len_list]; exact h)]
theorem app_pre2 (a b : ByteArray) (j : Nat) : (a ++ b).extract 0 (a.size + j) = a ++ b.extract 0 j := by
  apply ba_ext
  rw [pre_list, app_list, app_list, pre_list, ← len_list, List.take_length_add_append]
theorem mk2 {x y a b : Int} (h : x = a) (k : y = b) : mkS [x, y] = mkS [a, b] := by rw [h, k]
theorem hi8 (v : Int) (h : 1 ≤ v ∧ v ≤ 4094) : IntKind.u8.wrap (v.fdiv (2 ^ min (Int.toNat 8) IntKind.i64.bits)) = v / 256 := by
  have e : (2 : Int) ^ min (Int.toNat 8) IntKind.i64.bits = 256 := by decide
  rw [e, Int.fdiv_eq_ediv_of_nonneg _ (by decide), wu8']
  omega
theorem or8 (x y : Int) (hx : 0 ≤ x ∧ x < 256) (hy : 0 ≤ y ∧ y < 256) : bits .or .i64 (IntKind.i64.wrap (IntKind.i64.wrap x * 2 ^ min (Int.toNat 8) IntKind.i64.bits)) (IntKind.i64.wrap y) = x * 256 + y := by
  have e : (2 : Int) ^ min (Int.toNat 8) IntKind.i64.bits = 256 := by decide
  rw [e, w64 (x := x) (by omega) (by omega), w64 (x := x * 256) (by omega) (by omega), w64 (x := y) (by omega) (by omega), or64 8 _ _ (by omega) (by omega) (by omega) (by omega) (by omega) (by omega)]
end Go.Proofs.Ytgjdmlgdgbehoaa.Am
