/- Bytes: texts as lists of bytes, for the plain laws. -/
import Derived.Test.YticobcojmpakfaaWWords
import Derived.Test.YticobcojmpakfaaHB
import Derived.WideShapes
set_option linter.unusedVariables false
namespace Go.Proofs.Yticobcojmpakfaa.P
open Go.RowKit Go.Proofs.YticobcojmpakfaaW.PrintWords

theorem tl_eq (s : ByteArray) : s.toList = s.data.toList := by first | exact ByteArray.toList_eq s | simp
theorem tl_inj {a b : ByteArray} (h : a.toList = b.toList) : a = b := by
  rw [tl_eq, tl_eq] at h
  exact Go.WideShapes.bytes_inj h
theorem tl_beq (a b : ByteArray) : (a.toList == b.toList) = decide (a = b) := by
  by_cases h : a = b
  · subst h; simp
  · rw [decide_eq_false h, beq_eq_false_iff_ne]
    exact fun hh => h (tl_inj hh)
theorem bt_list (s : ByteArray) (i : Int) : bt s i = ((s.data.toList.getD i.toNat 0).toNat : Int) := by
  unfold bt
  split
  · rename_i h
    rw [List.getD_eq_getElem?_getD, List.getElem?_eq_getElem (by simpa using h)]
    simp [ByteArray.getElem_eq_getElem_data]
  · rename_i h
    rw [List.getD_eq_getElem?_getD, List.getElem?_eq_none (by simp; simp at h; omega)]
    rfl
theorem ex_list (s : ByteArray) (a b : Nat) : (s.extract a b).data.toList = (s.data.toList.take b).drop a := by
  rw [ByteArray.data_extract, Array.toList_extract, List.extract_eq_take_drop, List.drop_take]
theorem ex_end (s : ByteArray) (a : Nat) : (s.extract a s.size).data.toList = s.data.toList.drop a := by
  rw [ex_list, List.take_of_length_le (by simp)]
theorem app_list (a b : ByteArray) : (a ++ b).data.toList = a.data.toList ++ b.data.toList := by rw [ByteArray.data_append, Array.toList_append]
theorem size_list (s : ByteArray) : s.size = s.data.toList.length := by simp
theorem son_list (l : List Int) : (strOfNums l).data.toList = l.map (fun x => UInt8.ofNat x.toNat) := by simp [strOfNums]
theorem u8_nat (x : UInt8) : UInt8.ofNat x.toNat = x := by simp
end Go.Proofs.Yticobcojmpakfaa.P
namespace Go.Proofs.Yticobcojmpakfaa.P
open Go.RowKit Go.Proofs.YticobcojmpakfaaW.PrintWords
theorem and4096 (n : Int) (h0 : 0 ≤ n) (h : n < 65536) : (Go.bits .and .i64 n 4096 == 0) = decide (n / 4096 % 2 = 0) := by
  obtain ⟨a, rfl⟩ := Int.eq_ofNat_of_zero_le h0
  have h1 := (bits_nat .i64 62 (by decide) wraps_i64 a 4096 (by omega) (by decide)).1
  rw [show (4096 : Int) = ((4096 : Nat) : Int) from rfl, h1]
  have hz : (a &&& 4096 = 0) ↔ a / 4096 % 2 = 0 := by
    have ht : a.testBit 12 = decide (a / 2 ^ 12 % 2 = 1) := Nat.testBit_eq_decide_div_mod_eq
    constructor
    · intro h0
      have := congrArg (fun x => x.testBit 12) h0
      simp only [Nat.testBit_and, Nat.zero_testBit, show (4096 : Nat).testBit 12 = true from by decide, Bool.and_true, ht, decide_eq_false_iff_not] at this
      omega
    · intro h0
      refine Nat.eq_of_testBit_eq fun i => ?_
      rw [Nat.testBit_and, Nat.zero_testBit, show (4096 : Nat) = 2 ^ 12 from rfl, Nat.testBit_two_pow]
      by_cases c : 12 = i
      · subst c
        rw [ht, decide_eq_false (by omega)]
        rfl
      · simp [c]
  rw [Bool.eq_iff_iff, beq_iff_eq, decide_eq_true_iff]
  omega
theorem cons_of {α : Type} {l : List α} (n : Nat) (h : n + 1 ≤ l.length) : ∃ x r, l = x :: r ∧ n ≤ r.length := by
  cases l with
  | nil => simp at h
  | cons x r => exact ⟨x, r, rfl, by simpa using h⟩
theorem list6 {α : Type} (l : List α) (h : l.length = 6) : ∃ a b c d e f, l = [a, b, c, d, e, f] := by
  match l, h with
  | [a, b, c, d, e, f], _ => exact ⟨a, b, c, d, e, f, rfl⟩
theorem list14 {α : Type} (l : List α) (h : 14 ≤ l.length) : ∃ x0 x1 x2 x3 x4 x5 x6 x7 x8 x9 x10 x11 x12 x13 r, l = x0 :: x1 :: x2 :: x3 :: x4 :: x5 :: x6 :: x7 :: x8 :: x9 :: x10 :: x11 :: x12 :: x13 :: r := by
  obtain ⟨x0, l0, rfl, h0⟩ := cons_of 13 h
  obtain ⟨x1, l1, rfl, h1⟩ := cons_of 12 h0
  obtain ⟨x2, l2, rfl, h2⟩ := cons_of 11 h1
  obtain ⟨x3, l3, rfl, h3⟩ := cons_of 10 h2
  obtain ⟨x4, l4, rfl, h4⟩ := cons_of 9 h3
  obtain ⟨x5, l5, rfl, h5⟩ := cons_of 8 h4
  obtain ⟨x6, l6, rfl, h6⟩ := cons_of 7 h5
  obtain ⟨x7, l7, rfl, h7⟩ := cons_of 6 h6
  obtain ⟨x8, l8, rfl, h8⟩ := cons_of 5 h7
  obtain ⟨x9, l9, rfl, h9⟩ := cons_of 4 h8
  obtain ⟨x10, l10, rfl, h10⟩ := cons_of 3 h9
  obtain ⟨x11, l11, rfl, h11⟩ := cons_of 2 h10
  obtain ⟨x12, l12, rfl, h12⟩ := cons_of 1 h11
  obtain ⟨x13, l13, rfl, h13⟩ := cons_of 0 h12
  exact ⟨x0, x1, x2, x3, x4, x5, x6, x7, x8, x9, x10, x11, x12, x13, l13, rfl⟩
theorem list18 {α : Type} (l : List α) (h : 18 ≤ l.length) : ∃ x0 x1 x2 x3 x4 x5 x6 x7 x8 x9 x10 x11 x12 x13 x14 x15 x16 x17 r, l = x0 :: x1 :: x2 :: x3 :: x4 :: x5 :: x6 :: x7 :: x8 :: x9 :: x10 :: x11 :: x12 :: x13 :: x14 :: x15 :: x16 :: x17 :: r := by
  obtain ⟨x0, l0, rfl, h0⟩ := cons_of 17 h
  obtain ⟨x1, l1, rfl, h1⟩ := cons_of 16 h0
  obtain ⟨x2, l2, rfl, h2⟩ := cons_of 15 h1
  obtain ⟨x3, l3, rfl, h3⟩ := cons_of 14 h2
  obtain ⟨x4, l4, rfl, h4⟩ := cons_of 13 h3
  obtain ⟨x5, l5, rfl, h5⟩ := cons_of 12 h4
  obtain ⟨x6, l6, rfl, h6⟩ := cons_of 11 h5
  obtain ⟨x7, l7, rfl, h7⟩ := cons_of 10 h6
  obtain ⟨x8, l8, rfl, h8⟩ := cons_of 9 h7
  obtain ⟨x9, l9, rfl, h9⟩ := cons_of 8 h8
  obtain ⟨x10, l10, rfl, h10⟩ := cons_of 7 h9
  obtain ⟨x11, l11, rfl, h11⟩ := cons_of 6 h10
  obtain ⟨x12, l12, rfl, h12⟩ := cons_of 5 h11
  obtain ⟨x13, l13, rfl, h13⟩ := cons_of 4 h12
  obtain ⟨x14, l14, rfl, h14⟩ := cons_of 3 h13
  obtain ⟨x15, l15, rfl, h15⟩ := cons_of 2 h14
  obtain ⟨x16, l16, rfl, h16⟩ := cons_of 1 h15
  obtain ⟨x17, l17, rfl, h17⟩ := cons_of 0 h16
  exact ⟨x0, x1, x2, x3, x4, x5, x6, x7, x8, x9, x10, x11, x12, x13, x14, x15, x16, x17, l17, rfl⟩
end Go.Proofs.Yticobcojmpakfaa.P
