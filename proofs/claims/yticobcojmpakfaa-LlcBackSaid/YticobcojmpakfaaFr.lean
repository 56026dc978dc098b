/- Frames and their bytes: what is right, what is printed, and that parsing and printing undo each other. -/
import Derived.Test.YticobcojmpakfaaWWords
import Derived.Test.YticobcojmpakfaaHB
import Derived.WideShapes
import Derived.Test.YticobcojmpakfaaPframeParse
import Derived.Test.YticobcojmpakfaaPframePrint
set_option linter.unusedVariables false
set_option linter.unusedSimpArgs false
namespace Go.Proofs.Yticobcojmpakfaa.P
open Go.RowKit Go.Proofs.YticobcojmpakfaaW.PrintWords

theorem tl_eq (s : ByteArray) : s.toList = s.data.toList := by first | exact ByteArray.toList_eq s | simp
theorem tl_inj {a b : ByteArray} (h : a.toList = b.toList) : a = b := by
  rw [tl_eq, tl_eq] at h
  exact Go.WideShapes.bytes_inj h
theorem tl_beq (a b : ByteArray) : (a.toList == b.toList) = decide (a = b) := by
  by_cases h : a = b
  · subst h; simp
  · rw [decide_eq_false h, beq_eq_false_iff_ne]
    exact fun hh => h (tl_inj hh)
theorem bt_list (s : ByteArray) (i : Int) : bt s i = ((s.data.toList.getD i.toNat 0).toNat : Int) := by
  unfold bt
  split
  · rename_i h
    rw [List.getD_eq_getElem?_getD, List.getElem?_eq_getElem (by simpa using h)]
    simp [ByteArray.getElem_eq_getElem_data]
  · rename_i h
    rw [List.getD_eq_getElem?_getD, List.getElem?_eq_none (by simp; simp at h; omega)]
    rfl
theorem ex_list (s : ByteArray) (a b : Nat) : (s.extract a b).data.toList = (s.data.toList.take b).drop a := by
  rw [ByteArray.data_extract, Array.toList_extract, List.extract_eq_take_drop, List.drop_take]
theorem ex_end (s : ByteArray) (a : Nat) : (s.extract a s.size).data.toList = s.data.toList.drop a := by
  rw [ex_list, List.take_of_length_le (by simp)]
theorem app_list (a b : ByteArray) : (a ++ b).data.toList = a.data.toList ++ b.data.toList := by rw [ByteArray.data_append, Array.toList_append]
theorem size_list (s : ByteArray) : s.size = s.data.toList.length := by simp
theorem son_list (l : List Int) : (strOfNums l).data.toList = l.map (fun x => UInt8.ofNat x.toNat) := by simp [strOfNums]
theorem u8_nat (x : UInt8) : UInt8.ofNat x.toNat = x := by simp
end Go.Proofs.Yticobcojmpakfaa.P
namespace Go.Proofs.Yticobcojmpakfaa.P
open Go.RowKit Go.Proofs.YticobcojmpakfaaW.PrintWords
theorem and4096 (n : Int) (h0 : 0 ≤ n) (h : n < 65536) : (Go.bits .and .i64 n 4096 == 0) = decide (n / 4096 % 2 = 0) := by
  obtain ⟨a, rfl⟩ := Int.eq_ofNat_of_zero_le h0
  have h1 := (bits_nat .i64 62 (by decide) wraps_i64 a 4096 (by omega) (by decide)).1
  rw [show (4096 : Int) = ((4096 : Nat) : Int) from rfl, h1]
  have hz : (a &&& 4096 = 0) ↔ a / 4096 % 2 = 0 := by
    have ht : a.testBit 12 = decide (a / 2 ^ 12 % 2 = 1) := Nat.testBit_eq_decide_div_mod_eq
    constructor
    · intro h0
      have := congrArg (fun x => x.testBit 12) h0
      simp only [Nat.testBit_and, Nat.zero_testBit, show (4096 : Nat).testBit 12 = true from by decide, Bool.and_true, ht, decide_eq_false_iff_not] at this
      omega
    · intro h0
      refine Nat.eq_of_testBit_eq fun i => ?_
      rw [Nat.testBit_and, Nat.zero_testBit, show (4096 : Nat) = 2 ^ 12 from rfl, Nat.testBit_two_pow]
      by_cases c : 12 = i
      · subst c
        rw [ht, decide_eq_false (by omega)]
        rfl
      · simp [c]
  rw [Bool.eq_iff_iff, beq_iff_eq, decide_eq_true_iff]
  omega
theorem cons_of {α : Type} {l : List α} (n : Nat) (h : n + 1 ≤ l.length) : ∃ x r, l = x :: r ∧ n ≤ r.length := by
  cases l with
  | nil => simp at h
  | cons x r => exact ⟨x, r, rfl, by simpa using h⟩
theorem list6 {α : Type} (l : List α) (h : l.length = 6) : ∃ a b c d e f, l = [a, b, c, d, e, f] := by
  match l, h with
  | [a, b, c, d, e, f], _ => exact ⟨a, b, c, d, e, f, rfl⟩
theorem list14 {α : Type} (l : List α) (h : 14 ≤ l.length) : ∃ x0 x1 x2 x3 x4 x5 x6 x7 x8 x9 x10 x11 x12 x13 r, l = x0 :: x1 :: x2 :: x3 :: x4 :: x5 :: x6 :: x7 :: x8 :: x9 :: x10 :: x11 :: x12 :: x13 :: r := by
  obtain ⟨x0, l0, rfl, h0⟩ := cons_of 13 h
  obtain ⟨x1, l1, rfl, h1⟩ := cons_of 12 h0
  obtain ⟨x2, l2, rfl, h2⟩ := cons_of 11 h1
  obtain ⟨x3, l3, rfl, h3⟩ := cons_of 10 h2
  obtain ⟨x4, l4, rfl, h4⟩ := cons_of 9 h3
  obtain ⟨x5, l5, rfl, h5⟩ := cons_of 8 h4
  obtain ⟨x6, l6, rfl, h6⟩ := cons_of 7 h5
  obtain ⟨x7, l7, rfl, h7⟩ := cons_of 6 h6
  obtain ⟨x8, l8, rfl, h8⟩ := cons_of 5 h7
  obtain ⟨x9, l9, rfl, h9⟩ := cons_of 4 h8
  obtain ⟨x10, l10, rfl, h10⟩ := cons_of 3 h9
  obtain ⟨x11, l11, rfl, h11⟩ := cons_of 2 h10
  obtain ⟨x12, l12, rfl, h12⟩ := cons_of 1 h11
  obtain ⟨x13, l13, rfl, h13⟩ := cons_of 0 h12
  exact ⟨x0, x1, x2, x3, x4, x5, x6, x7, x8, x9, x10, x11, x12, x13, l13, rfl⟩
theorem list18 {α : Type} (l : List α) (h : 18 ≤ l.length) : ∃ x0 x1 x2 x3 x4 x5 x6 x7 x8 x9 x10 x11 x12 x13 x14 x15 x16 x17 r, l = x0 :: x1 :: x2 :: x3 :: x4 :: x5 :: x6 :: x7 :: x8 :: x9 :: x10 :: x11 :: x12 :: x13 :: x14 :: x15 :: x16 :: x17 :: r := by
  obtain ⟨x0, l0, rfl, h0⟩ := cons_of 17 h
  obtain ⟨x1, l1, rfl, h1⟩ := cons_of 16 h0
  obtain ⟨x2, l2, rfl, h2⟩ := cons_of 15 h1
  obtain ⟨x3, l3, rfl, h3⟩ := cons_of 14 h2
  obtain ⟨x4, l4, rfl, h4⟩ := cons_of 13 h3
  obtain ⟨x5, l5, rfl, h5⟩ := cons_of 12 h4
  obtain ⟨x6, l6, rfl, h6⟩ := cons_of 11 h5
  obtain ⟨x7, l7, rfl, h7⟩ := cons_of 10 h6
  obtain ⟨x8, l8, rfl, h8⟩ := cons_of 9 h7
  obtain ⟨x9, l9, rfl, h9⟩ := cons_of 8 h8
  obtain ⟨x10, l10, rfl, h10⟩ := cons_of 7 h9
  obtain ⟨x11, l11, rfl, h11⟩ := cons_of 6 h10
  obtain ⟨x12, l12, rfl, h12⟩ := cons_of 5 h11
  obtain ⟨x13, l13, rfl, h13⟩ := cons_of 4 h12
  obtain ⟨x14, l14, rfl, h14⟩ := cons_of 3 h13
  obtain ⟨x15, l15, rfl, h15⟩ := cons_of 2 h14
  obtain ⟨x16, l16, rfl, h16⟩ := cons_of 1 h15
  obtain ⟨x17, l17, rfl, h17⟩ := cons_of 0 h16
  exact ⟨x0, x1, x2, x3, x4, x5, x6, x7, x8, x9, x10, x11, x12, x13, x14, x15, x16, x17, l17, rfl⟩

def rightP (d s : ByteArray) (tg : Bool) (p v ty : Int) (pl : ByteArray) : Prop :=
  d.size = 6 ∧ s.size = 6 ∧ (Go.bits .and .u8 (bt s 0) 1 == 1) = false ∧ 0 ≤ p ∧ p ≤ 7 ∧ 0 ≤ v ∧ v ≤ 4094 ∧ (tg = true ∨ (p = 0 ∧ v = 0)) ∧ 0 ≤ ty ∧ ty ≤ 65535 ∧ ty ≠ 33024 ∧ pl.size ≤ 1500 ∧ (1536 ≤ ty ∨ ty = pl.size)
theorem group_is (s : ByteArray) : frame_Group.f s = some (decide (s.size = 6) && (Go.bits .and .u8 (bt s 0) 1 == 1)) := by
  unfold frame_Group.f
  by_cases h : s.size = 6
  · rw [if_pos (by omega), if_pos (by omega), decide_eq_true h]; simp
  · rw [if_neg (by omega), decide_eq_false h]; simp
theorem right_j1 (m : Nat) (b : Bool) (a0 a1 : ByteArray) (a2 : Bool) (a3 a4 a5 : Int) (a6 : ByteArray) : frame_Right.j1 (m + 1) b a0 a1 a2 a3 a4 a5 a6 = some (decide (b = false ∧ 0 ≤ a5 ∧ a5 ≤ 65535 ∧ a5 ≠ 33024 ∧ a6.size ≤ 1500 ∧ (1536 ≤ a5 ∨ a5 = a6.size))) := by
  rw [frame_Right.j1]
  cases b
  · simp only [Bool.false_eq_true, if_false, true_and]
    repeat' split
    all_goals first | (rw [decide_eq_false (by omega)]) | (rw [decide_eq_true (by omega)]) | skip
    rw [show (a5 == (a6.size : Int)) = decide (a5 = (a6.size : Int)) from rfl]
    congr 1
    rw [decide_eq_decide]
    omega
  · simp
theorem right_j0 (m : Nat) (b : Bool) (a0 a1 : ByteArray) (a2 : Bool) (a3 a4 a5 : Int) (a6 : ByteArray) : frame_Right.j0 (m + 2) b a0 a1 a2 a3 a4 a5 a6 = some (decide (b = false ∧ 0 ≤ a3 ∧ a3 ≤ 7 ∧ 0 ≤ a4 ∧ a4 ≤ 4094 ∧ (a2 = true ∨ (a3 = 0 ∧ a4 = 0)) ∧ 0 ≤ a5 ∧ a5 ≤ 65535 ∧ a5 ≠ 33024 ∧ a6.size ≤ 1500 ∧ (1536 ≤ a5 ∨ a5 = a6.size))) := by
  rw [frame_Right.j0]
  cases b
  · simp only [Bool.false_eq_true, if_false, true_and, right_j1]
    by_cases h1 : a3 < 0
    · rw [if_pos h1]; congr 1; rw [decide_eq_decide]; exact ⟨fun h => absurd h.1 (by simp), fun h => by omega⟩
    rw [if_neg h1]
    by_cases h2 : a3 > 7
    · rw [if_pos h2]; congr 1; rw [decide_eq_decide]; exact ⟨fun h => absurd h.1 (by simp), fun h => by omega⟩
    rw [if_neg h2]
    by_cases h3 : a4 < 0
    · rw [if_pos h3]; congr 1; rw [decide_eq_decide]; exact ⟨fun h => absurd h.1 (by simp), fun h => by omega⟩
    rw [if_neg h3]
    by_cases h4 : a4 > 4094
    · rw [if_pos h4]; congr 1; rw [decide_eq_decide]; exact ⟨fun h => absurd h.1 (by simp), fun h => by omega⟩
    rw [if_neg h4]
    cases a2
    · rw [if_neg (by simp)]
      have hw : wrap64 (a3 + a4) = a3 + a4 := by unfold wrap64; omega
      congr 1
      rw [decide_eq_decide, hw, decide_eq_false_iff_not]
      simp only [Bool.false_eq_true, false_or]
      omega
    · rw [if_pos rfl]
      congr 1
      rw [decide_eq_decide]
      simp only [true_and, true_or]
      omega
  · simp
theorem right_is (m : Nat) (a0 a1 : ByteArray) (a2 : Bool) (a3 a4 a5 : Int) (a6 : ByteArray) : ∃ b, frame_Right.f (m + 2) a0 a1 a2 a3 a4 a5 a6 = some b ∧ (b = true ↔ rightP a0 a1 a2 a3 a4 a5 a6) := by
  unfold frame_Right.f rightP
  by_cases h0 : a0.size = 6
  · rw [if_pos (by omega)]
    by_cases h1 : a1.size = 6
    · rw [if_pos (by omega), group_is, decide_eq_true h1, Bool.true_and, Option.bind_some, right_j0]
      refine ⟨_, rfl, ?_⟩
      rw [decide_eq_true_iff]
      constructor
      · rintro ⟨x, y⟩; exact ⟨h0, h1, x, y⟩
      · rintro ⟨_, _, x, y⟩; exact ⟨x, y⟩
    · rw [if_neg (by omega), right_j0]
      exact ⟨_, rfl, by rw [decide_eq_true_iff]; simp [h1]⟩
  · rw [if_neg (by omega), right_j0]
    exact ⟨_, rfl, by rw [decide_eq_true_iff]; simp [h0]⟩

/-- A frame's bytes. -/
def frameBytes (d s : ByteArray) (tg : Bool) (p v ty : Int) (pl : ByteArray) : ByteArray :=
  ((d ++ s) ++ (if tg = true then (⟨#[129, 0]⟩ : ByteArray) ++ strOfNums [(p * 8192 + v) / 256 % 256, (p * 8192 + v) % 256] else ⟨#[]⟩)) ++ strOfNums [ty / 256 % 256, ty % 256] ++ pl
theorem app_nil (a : ByteArray) : a ++ (⟨#[]⟩ : ByteArray) = a := by apply Go.WideShapes.bytes_inj; rw [app_list]; simp
theorem print_yes (m : Nat) (d s : ByteArray) (tg : Bool) (p v ty : Int) (pl : ByteArray) (h : rightP d s tg p v ty pl) : frame_Print.f (m + 2) d s tg p v ty pl = some (frameBytes d s tg p v ty pl, 0) := by
  obtain ⟨b, hb, hr⟩ := right_is m d s tg p v ty pl
  rw [hr.2 h] at hb
  obtain ⟨h1, h2, _, h4, h5, h6, h7, _, h8, h9, _, h10, _⟩ := h
  unfold frame_Print.f frame_two.f
  rw [hb]
  simp only [Option.bind_some, if_true, strOfNums_size, List.length_cons, List.length_nil]
  have hw : wrap64 (p * 8192) = p * 8192 := by unfold wrap64; omega
  have ho : Go.bits .or .i64 (p * 8192) v = p * 8192 + v := or64 13 _ _ (by omega) (by omega) (by omega) (by omega) (by omega) (by omega)
  rw [hw, ho]
  unfold frameBytes
  cases tg
  · simp only [Bool.false_eq_true, if_false, app_nil]
    rw [if_pos (by omega), if_pos (by omega), if_pos (by omega)]
  · simp only [if_true]
    rw [if_pos (by omega), if_pos (by omega), if_pos (by omega), if_pos (by omega), if_pos (by omega)]
theorem print_no (m : Nat) (d s : ByteArray) (tg : Bool) (p v ty : Int) (pl : ByteArray) (h : ¬ rightP d s tg p v ty pl) : frame_Print.f (m + 2) d s tg p v ty pl = some (⟨#[]⟩, 2) := by
  obtain ⟨b, hb, hr⟩ := right_is m d s tg p v ty pl
  cases b
  · unfold frame_Print.f
    rw [hb]
    simp
  · exact absurd (hr.1 rfl) h
theorem prefix_is (a p : ByteArray) : strings_HasPrefix.f a p = some (a.data.toList.take p.size == p.data.toList) := by
  unfold strings_HasPrefix.f stringslite_HasPrefix.f
  by_cases h : (a.size : Int) ≥ (p.size : Int)
  · rw [if_pos h, if_pos (by omega), if_pos h]
    simp only [Option.bind_some, tl_eq, Int.toNat_natCast, ex_list, List.drop_zero]
  · rw [if_neg h]
    simp only [Option.bind_some]
    congr 1
    rw [eq_comm, beq_eq_false_iff_ne]
    intro hh
    have := congrArg List.length hh
    simp at this
    omega
theorem u8_of (x : Int) (h : 0 ≤ x) (h2 : x < 256) : ((UInt8.ofNat x.toNat).toNat : Int) = x := by
  rw [UInt8.toNat_ofNat']
  omega
theorem z_ne (e : Int) (he : e ≠ 0) {d q : ByteArray} {tg : Bool} {p v ty : Int} {pl : ByteArray} (h : some (frame_Parse.z e) = some (d, q, tg, p, v, ty, pl, 0)) : False := by
  simp only [frame_Parse.z, Option.some.injEq, Prod.mk.injEq] at h
  exact he h.2.2.2.2.2.2.2
theorem right_true {m : Nat} {d s : ByteArray} {tg : Bool} {p v ty : Int} {pl : ByteArray} (h : rightP d s tg p v ty pl) : frame_Right.f (m + 2) d s tg p v ty pl = some true := by
  obtain ⟨b, hb, hr⟩ := right_is m d s tg p v ty pl
  rw [hb, hr.2 h]
theorem right_false {m : Nat} {d s : ByteArray} {tg : Bool} {p v ty : Int} {pl : ByteArray} (h : ¬ rightP d s tg p v ty pl) : frame_Right.f (m + 2) d s tg p v ty pl = some false := by
  obtain ⟨b, hb, hr⟩ := right_is m d s tg p v ty pl
  cases b
  · exact hb
  · exact absurd (hr.1 rfl) h
/-- What was printed is parsed. -/
theorem parse_bytes (m : Nat) (d s : ByteArray) (tg : Bool) (p v ty : Int) (pl : ByteArray) (h : rightP d s tg p v ty pl) : frame_Parse.f (m + 2) (frameBytes d s tg p v ty pl) = some (d, s, tg, p, v, ty, pl, 0) := by
  have hR := h
  obtain ⟨h1, h2, _, h4, h5, h6, h7, hu, h8, h9, h10, h11, _⟩ := h
  obtain ⟨d0, d1, d2, d3, d4, d5, hd⟩ := list6 d.data.toList (by simpa using h1)
  obtain ⟨s0, s1, s2, s3, s4, s5, hs⟩ := list6 s.data.toList (by simpa using h2)
  cases tg
  · obtain ⟨rfl, rfl⟩ : p = 0 ∧ v = 0 := by simpa using hu
    have hl : (frameBytes d s false 0 0 ty pl).data.toList = d0 :: d1 :: d2 :: d3 :: d4 :: d5 :: s0 :: s1 :: s2 :: s3 :: s4 :: s5 :: UInt8.ofNat (ty / 256 % 256).toNat :: UInt8.ofNat (ty % 256).toNat :: pl.data.toList := by
      unfold frameBytes
      simp [app_list, hd, hs, son_list]
    generalize frameBytes d s false 0 0 ty pl = S at hl
    have hz : S.size = 14 + pl.size := by rw [size_list, hl, size_list pl]; simp only [List.length_cons]; omega
    have e1 : S.extract 0 6 = d := Go.WideShapes.bytes_inj (by rw [ex_list, hl, hd]; rfl)
    have e2 : S.extract 6 12 = s := Go.WideShapes.bytes_inj (by rw [ex_list, hl, hs]; rfl)
    have e3 : S.extract 14 S.size = pl := Go.WideShapes.bytes_inj (by rw [ex_end, hl]; rfl)
    have b12 : bt S 12 = ty / 256 % 256 := by rw [bt_list, hl]; exact u8_of _ (by omega) (by omega)
    have b13 : bt S 13 = ty % 256 := by rw [bt_list, hl]; exact u8_of _ (by omega) (by omega)
    have hpre : strings_HasPrefix.f (S.extract 12 S.size) (⟨#[129, 0]⟩ : ByteArray) = some false := by
      rw [prefix_is, ex_end, hl]
      congr 1
      rw [beq_eq_false_iff_ne]
      intro hh
      have g1 : UInt8.ofNat (ty / 256 % 256).toNat = 129 := (List.cons.inj hh).1
      have g2 : UInt8.ofNat (ty % 256).toNat = 0 := (List.cons.inj (List.cons.inj hh).2).1
      have k1 := u8_of (ty / 256 % 256) (by omega) (by omega)
      have k2 := u8_of (ty % 256) (by omega) (by omega)
      rw [g1] at k1
      rw [g2] at k2
      have k1' : (129 : Int) = ty / 256 % 256 := k1
      have k2' : (0 : Int) = ty % 256 := k2
      omega
    unfold frame_Parse.f
    rw [if_pos (by omega), if_neg (by omega), hpre]
    simp only [Option.bind_some, Bool.false_eq_true, if_false]
    unfold frame_Parse.rest
    rw [if_neg (by omega), if_neg (by simp)]
    have e4 : bt S 12 * 256 + bt S (12 + 1) = ty := by rw [show (12 : Int) + 1 = 13 from rfl, b12, b13]; omega
    rw [e1, e2, e4, show ((12 : Int) + 2).toNat = 14 from rfl, e3, right_true hR]
    simp
  · have hl : (frameBytes d s true p v ty pl).data.toList = d0 :: d1 :: d2 :: d3 :: d4 :: d5 :: s0 :: s1 :: s2 :: s3 :: s4 :: s5 :: 129 :: 0 :: UInt8.ofNat ((p * 8192 + v) / 256 % 256).toNat :: UInt8.ofNat ((p * 8192 + v) % 256).toNat :: UInt8.ofNat (ty / 256 % 256).toNat :: UInt8.ofNat (ty % 256).toNat :: pl.data.toList := by
      unfold frameBytes
      simp [app_list, hd, hs, son_list]
    generalize frameBytes d s true p v ty pl = S at hl
    have hz : S.size = 18 + pl.size := by rw [size_list, hl, size_list pl]; simp only [List.length_cons]; omega
    have e1 : S.extract 0 6 = d := Go.WideShapes.bytes_inj (by rw [ex_list, hl, hd]; rfl)
    have e2 : S.extract 6 12 = s := Go.WideShapes.bytes_inj (by rw [ex_list, hl, hs]; rfl)
    have e3 : S.extract 18 S.size = pl := Go.WideShapes.bytes_inj (by rw [ex_end, hl]; rfl)
    have b14 : bt S 14 = (p * 8192 + v) / 256 % 256 := by rw [bt_list, hl]; exact u8_of _ (by omega) (by omega)
    have b15 : bt S 15 = (p * 8192 + v) % 256 := by rw [bt_list, hl]; exact u8_of _ (by omega) (by omega)
    have b16 : bt S 16 = ty / 256 % 256 := by rw [bt_list, hl]; exact u8_of _ (by omega) (by omega)
    have b17 : bt S 17 = ty % 256 := by rw [bt_list, hl]; exact u8_of _ (by omega) (by omega)
    have hpre : strings_HasPrefix.f (S.extract 12 S.size) (⟨#[129, 0]⟩ : ByteArray) = some true := by
      rw [prefix_is, ex_end, hl]; rfl
    have hn : bt S 14 * 256 + bt S 15 = p * 8192 + v := by rw [b14, b15]; omega
    have hand : Go.bits .and .i64 (p * 8192 + v) 4095 = v := by
      have := and64 12 (by decide) (p * 8192 + v) (by omega) (by omega)
      rw [show (4095 : Int) = 2 ^ 12 - 1 from rfl, this]
      omega
    have hok : (Go.bits .and .i64 (p * 8192 + v) 4096 == 0) = true := by rw [and4096 _ (by omega) (by omega), decide_eq_true_iff]; omega
    unfold frame_Parse.f
    rw [if_pos (by omega), if_neg (by omega), hpre]
    simp only [Option.bind_some, if_true]
    rw [if_neg (by omega), hn, hand, hok, show (p * 8192 + v) / 8192 = p from by omega]
    unfold frame_Parse.rest
    rw [if_neg (by omega), if_neg (by simp)]
    have e4 : bt S 16 * 256 + bt S (16 + 1) = ty := by rw [show (16 : Int) + 1 = 17 from rfl, b16, b17]; omega
    rw [e1, e2, e4, show ((16 : Int) + 2).toNat = 18 from rfl, e3, right_true hR]
    simp
theorem u8_back (x : UInt8) (n : Int) (h : (x.toNat : Int) = n) : UInt8.ofNat n.toNat = x := by subst h; simp
/-- What is parsed is right, and prints as it was. -/
theorem bytes_parse (m : Nat) (S d q : ByteArray) (tg : Bool) (p v ty : Int) (pl : ByteArray) (h : frame_Parse.f (m + 2) S = some (d, q, tg, p, v, ty, pl, 0)) : rightP d q tg p v ty pl ∧ frameBytes d q tg p v ty pl = S := by
  unfold frame_Parse.f at h
  by_cases hs : S.size ≤ 9223372036854775807
  · rw [if_pos hs] at h
    by_cases h1 : (S.size : Int) < 14
    · rw [if_pos h1] at h
      exact (z_ne 3 (by decide) h).elim
    · rw [if_neg h1, prefix_is, ex_end] at h
      simp only [Option.bind_some] at h
      by_cases hp : (List.take (ByteArray.size ⟨#[129, 0]⟩) (List.drop 12 S.data.toList) == (⟨#[129, 0]⟩ : ByteArray).data.toList) = true
      · rw [if_pos hp] at h
        by_cases h2 : (S.size : Int) < 18
        · rw [if_pos h2] at h
          exact (z_ne 3 (by decide) h).elim
        · rw [if_neg h2] at h
          obtain ⟨x0, x1, x2, x3, x4, x5, x6, x7, x8, x9, x10, x11, x12, x13, x14, x15, x16, x17, r, hl⟩ := list18 S.data.toList (by rw [← size_list]; omega)
          rw [hl] at hp
          have hp' := beq_iff_eq.mp hp
          have g1 : x12 = 129 := (List.cons.inj hp').1
          have g2 : x13 = 0 := (List.cons.inj (List.cons.inj hp').2).1
          have b14 : bt S 14 = (x14.toNat : Int) := by rw [bt_list, hl]; rfl
          have b15 : bt S 15 = (x15.toNat : Int) := by rw [bt_list, hl]; rfl
          have b16 : bt S 16 = (x16.toNat : Int) := by rw [bt_list, hl]; rfl
          have b17 : bt S (16 + 1) = (x17.toNat : Int) := by rw [bt_list, hl]; rfl
          have k14 := x14.toNat_lt
          have k15 := x15.toNat_lt
          have k16 := x16.toNat_lt
          have k17 := x17.toNat_lt
          unfold frame_Parse.rest at h
          by_cases h3 : 1500 < (S.size : Int) - (16 + 2)
          · rw [if_pos h3] at h
            exact (z_ne 4 (by decide) h).elim
          · rw [if_neg h3, b14, b15] at h
            by_cases h4 : (Go.bits .and .i64 ((x14.toNat : Int) * 256 + (x15.toNat : Int)) 4096 == 0) = false
            · rw [if_pos h4] at h
              exact (z_ne 2 (by decide) h).elim
            · rw [if_neg h4] at h
              rw [and4096 _ (by omega) (by omega), decide_eq_false_iff_not, Decidable.not_not] at h4
              have hand : Go.bits .and .i64 ((x14.toNat : Int) * 256 + (x15.toNat : Int)) 4095 = ((x14.toNat : Int) * 256 + (x15.toNat : Int)) % 4096 := and64 12 (by decide) _ (by omega) (by omega)
              obtain ⟨b, hb, h⟩ := Option.bind_eq_some_iff.mp h
              obtain ⟨b', hb', hr⟩ := right_is m (S.extract 0 6) (S.extract 6 12) true (((x14.toNat : Int) * 256 + (x15.toNat : Int)) / 8192) (Go.bits .and .i64 ((x14.toNat : Int) * 256 + (x15.toNat : Int)) 4095) (bt S 16 * 256 + bt S (16 + 1)) (S.extract ((16 : Int) + 2).toNat S.size)
              rw [hb] at hb'
              cases b
              · rw [if_neg (by simp)] at h
                exact (z_ne 2 (by decide) h).elim
              · rw [if_pos rfl] at h
                simp only [Option.some.injEq, Prod.mk.injEq] at h
                obtain ⟨rfl, rfl, rfl, rfl, rfl, rfl, rfl, _⟩ := h
                refine ⟨hr.1 (by injection hb' with e; exact e.symm), Go.WideShapes.bytes_inj ?_⟩
                unfold frameBytes
                rw [if_pos rfl, hand, b16, b17, show ((16 : Int) + 2).toNat = 18 from rfl]
                simp only [app_list, ex_list, son_list, List.map_cons, List.map_nil, hl]
                have hlen : S.size = 18 + r.length := by rw [size_list, hl]; simp only [List.length_cons]; omega
                rw [u8_back x14 _ (by omega), u8_back x15 _ (by omega), u8_back x16 _ (by omega), u8_back x17 _ (by omega), hlen, show 18 + r.length = r.length + 18 from by omega, g1, g2]
                simp
      · rw [if_neg hp] at h
        obtain ⟨x0, x1, x2, x3, x4, x5, x6, x7, x8, x9, x10, x11, x12, x13, r, hl⟩ := list14 S.data.toList (by rw [← size_list]; omega)
        have b12 : bt S 12 = (x12.toNat : Int) := by rw [bt_list, hl]; rfl
        have b13 : bt S (12 + 1) = (x13.toNat : Int) := by rw [bt_list, hl]; rfl
        have k12 := x12.toNat_lt
        have k13 := x13.toNat_lt
        unfold frame_Parse.rest at h
        by_cases h3 : 1500 < (S.size : Int) - (12 + 2)
        · rw [if_pos h3] at h
          exact (z_ne 4 (by decide) h).elim
        · rw [if_neg h3, if_neg (by simp)] at h
          obtain ⟨b, hb, h⟩ := Option.bind_eq_some_iff.mp h
          obtain ⟨b', hb', hr⟩ := right_is m (S.extract 0 6) (S.extract 6 12) false 0 0 (bt S 12 * 256 + bt S (12 + 1)) (S.extract ((12 : Int) + 2).toNat S.size)
          rw [hb] at hb'
          cases b
          · rw [if_neg (by simp)] at h
            exact (z_ne 2 (by decide) h).elim
          · rw [if_pos rfl] at h
            simp only [Option.some.injEq, Prod.mk.injEq] at h
            obtain ⟨rfl, rfl, rfl, rfl, rfl, rfl, rfl, _⟩ := h
            refine ⟨hr.1 (by injection hb' with e; exact e.symm), Go.WideShapes.bytes_inj ?_⟩
            unfold frameBytes
            rw [if_neg (by simp), b12, b13, show ((12 : Int) + 2).toNat = 14 from rfl]
            simp only [app_list, ex_list, son_list, List.map_cons, List.map_nil, hl]
            have hlen : S.size = 14 + r.length := by rw [size_list, hl]; simp only [List.length_cons]; omega
            rw [u8_back x12 _ (by omega), u8_back x13 _ (by omega), hlen, show 14 + r.length = r.length + 14 from by omega]
            simp
  · rw [if_neg hs] at h
    exact absurd h (by simp)
theorem parse_total (m : Nat) (s : ByteArray) (hs : s.size ≤ 1700) : ∃ r, frame_Parse.f (m + 2) s = some r := by
  have rest : ∀ tg p v a ok, ∃ r, frame_Parse.rest (m + 2) s tg p v a ok = some r := by
    intro tg p v a ok
    unfold frame_Parse.rest
    split
    · exact ⟨_, rfl⟩
    · split
      · exact ⟨_, rfl⟩
      · obtain ⟨b, hb, _⟩ := right_is m (s.extract 0 6) (s.extract 6 12) tg p v (bt s a * 256 + bt s (a + 1)) (s.extract (a + 2).toNat s.size)
        rw [hb]
        simp only [Option.bind_some]
        split
        all_goals exact ⟨_, rfl⟩
  unfold frame_Parse.f
  rw [if_pos (by omega), prefix_is]
  split
  · exact ⟨_, rfl⟩
  · simp only [Option.bind_some]
    split
    · split
      · exact ⟨_, rfl⟩
      · exact rest ..
    · exact rest ..
end Go.Proofs.Yticobcojmpakfaa.P
