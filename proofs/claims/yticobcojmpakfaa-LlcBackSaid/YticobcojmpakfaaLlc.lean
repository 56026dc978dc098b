/- What stands in a frame: the program's answer and the reference's. -/
import Derived.Test.YticobcojmpakfaaFr
import Derived.Test.YticobcojmpakfaaPtreebridgeref01Right
import Derived.Test.YticobcojmpakfaaPtreebridgeref01Group
import Derived.Test.YticobcojmpakfaaPtreebridgelaw01Few
import Derived.Test.YticobcojmpakfaaPllcKind
import Derived.Test.YticobcojmpakfaaPllcInner
import Derived.Test.YticobcojmpakfaaPllcIeee
import Derived.Test.YticobcojmpakfaaPllcSstp
import Derived.Test.YticobcojmpakfaaPtreebridgeref02Kind
import Derived.Test.YticobcojmpakfaaPtreebridgeref02Inner
import Derived.Test.YticobcojmpakfaaPtreebridgeref02Made
set_option linter.unusedVariables false
set_option linter.unusedSimpArgs false
namespace Go.Proofs.Yticobcojmpakfaa.P
open Go.RowKit Go.Proofs.YticobcojmpakfaaW.PrintWords

theorem few_is (a0 a1 : ByteArray) (a2 : Bool) (a3 a4 a5 : Int) (a6 : ByteArray) : treebridgelaw01_Few.f a0 a1 a2 a3 a4 a5 a6 = some (decide (a0.size ≤ 20 ∧ a1.size ≤ 20 ∧ a6.size ≤ 1600)) := by
  unfold treebridgelaw01_Few.f
  by_cases h0 : a0.size ≤ 20
  · rw [if_pos (by omega)]
    by_cases h1 : a1.size ≤ 20
    · rw [if_pos (by omega)]
      congr 1
      rw [decide_eq_decide]
      omega
    · rw [if_neg (by omega), eq_comm]
      congr 1
      rw [decide_eq_false (by omega)]
  · rw [if_neg (by omega), eq_comm]
    congr 1
    rw [decide_eq_false (by omega)]
theorem wraps_u8 (n : Int) (h₀ : 0 ≤ n) (h₁ : n < 2 ^ 8) : IntKind.u8.wrap n = n := by simp [IntKind.wrap, IntKind.bits, IntKind.signed]; omega
theorem odd_is (s : ByteArray) : Go.bits .and .u8 (bt s 0) 1 = Int.tmod (bt s 0) 2 := by
  have h := bt_range s 0
  have e := bits_mask .u8 8 (by decide) wraps_u8 1 (by decide) (bt s 0) (by omega) (by omega)
  rw [show ((2 : Int) ^ 1 - 1) = 1 from rfl] at e
  rw [e, Int.tmod_eq_emod_of_nonneg h.1]
  rfl
theorem rgroup_is (s : ByteArray) : treebridgeref01_Group.f s = frame_Group.f s := by
  rw [group_is]
  unfold treebridgeref01_Group.f
  by_cases h : s.size = 6
  · rw [if_pos (by omega), if_pos (by omega), decide_eq_true h, odd_is]; simp
  · rw [if_neg (by omega), decide_eq_false h]; simp
theorem rright_j2 (m : Nat) (b : Bool) (a0 a1 : ByteArray) (a2 : Bool) (a3 a4 a5 : Int) (a6 : ByteArray) : treebridgeref01_Right.j2 (m + 1) b a0 a1 a2 a3 a4 a5 a6 = some (decide (b = false ∧ 0 ≤ a5 ∧ a5 ≤ 65535 ∧ a5 ≠ 33024 ∧ (1536 ≤ a5 ∨ a5 = a6.size))) := by
  rw [treebridgeref01_Right.j2]
  cases b
  · simp only [Bool.false_eq_true, if_false, true_and]
    repeat' split
    all_goals first | (rw [decide_eq_false (by omega)]) | (rw [decide_eq_true (by omega)]) | skip
    rw [show (a5 == (a6.size : Int)) = decide (a5 = (a6.size : Int)) from rfl]
    congr 1
    rw [decide_eq_decide]
    omega
  · simp
theorem rright_j1 (m : Nat) (b : Bool) (a0 a1 : ByteArray) (a2 : Bool) (a3 a4 a5 : Int) (a6 : ByteArray) : treebridgeref01_Right.j1 (m + 2) b a0 a1 a2 a3 a4 a5 a6 = some (decide (b = false ∧ (a2 = true ∨ (a3 = 0 ∧ a4 = 0)) ∧ 0 ≤ a5 ∧ a5 ≤ 65535 ∧ a5 ≠ 33024 ∧ (1536 ≤ a5 ∨ a5 = a6.size))) := by
  rw [treebridgeref01_Right.j1]
  cases b
  · simp only [Bool.false_eq_true, if_false, true_and, rright_j2]
    cases a2
    · rw [if_neg (by simp)]
      by_cases h : a3 = 0
      · rw [if_pos h]
        congr 1
        rw [decide_eq_decide, bne_eq_false_iff_eq]
        simp only [Bool.false_eq_true, false_or, h, true_and]
      · rw [if_neg h]
        congr 1
        rw [decide_eq_decide]
        simp [h]
    · rw [if_pos rfl]
      simp
  · simp
theorem rright_j0 (m : Nat) (b : Bool) (a0 a1 : ByteArray) (a2 : Bool) (a3 a4 a5 : Int) (a6 : ByteArray) : treebridgeref01_Right.j0 (m + 3) b a0 a1 a2 a3 a4 a5 a6 = some (decide (b = false ∧ 0 ≤ a3 ∧ a3 ≤ 7 ∧ 0 ≤ a4 ∧ a4 ≤ 4094 ∧ (a2 = true ∨ (a3 = 0 ∧ a4 = 0)) ∧ 0 ≤ a5 ∧ a5 ≤ 65535 ∧ a5 ≠ 33024 ∧ (1536 ≤ a5 ∨ a5 = a6.size))) := by
  rw [treebridgeref01_Right.j0]
  cases b
  · simp only [Bool.false_eq_true, if_false, true_and, rright_j1]
    by_cases h1 : a3 < 0
    · rw [if_pos h1]; congr 1; rw [decide_eq_decide]; exact ⟨fun h => absurd h.1 (by simp), fun h => by omega⟩
    rw [if_neg h1]
    by_cases h2 : a3 > 7
    · rw [if_pos h2]; congr 1; rw [decide_eq_decide]; exact ⟨fun h => absurd h.1 (by simp), fun h => by omega⟩
    rw [if_neg h2]
    by_cases h3 : a4 < 0
    · rw [if_pos h3]; congr 1; rw [decide_eq_decide]; exact ⟨fun h => absurd h.1 (by simp), fun h => by omega⟩
    rw [if_neg h3]
    congr 1
    rw [decide_eq_decide, decide_eq_false_iff_not]
    constructor
    · rintro ⟨x, y⟩; exact ⟨by omega, by omega, by omega, by omega, y⟩
    · rintro ⟨_, _, _, x, y⟩; exact ⟨by omega, y⟩
  · simp
theorem rright_is (m : Nat) (a0 a1 : ByteArray) (a2 : Bool) (a3 a4 a5 : Int) (a6 : ByteArray) : ∃ b, treebridgeref01_Right.f (m + 3) a0 a1 a2 a3 a4 a5 a6 = some b ∧ (b = true ↔ rightP a0 a1 a2 a3 a4 a5 a6) := by
  unfold treebridgeref01_Right.f rightP
  by_cases h0 : a0.size = 6
  · rw [if_pos (by omega)]
    by_cases h1 : a1.size = 6
    · rw [if_pos (by omega), if_pos (by omega), odd_is]
      by_cases h2 : Int.tmod (bt a1 0) 2 = 1
      · rw [if_pos h2, rright_j0]
        exact ⟨_, rfl, by rw [decide_eq_true_iff]; simp [h2]⟩
      · rw [if_neg h2, rright_j0]
        refine ⟨_, rfl, ?_⟩
        rw [decide_eq_true_iff, decide_eq_false_iff_not]
        have h3 : (Int.tmod (bt a1 0) 2 == 1) = false := by rw [beq_eq_false_iff_ne]; exact h2
        constructor
        · rintro ⟨x, y1, y2, y3, y4, y5, y6, y7, y8, y9⟩; exact ⟨h0, h1, h3, y1, y2, y3, y4, y5, y6, y7, y8, by omega, y9⟩
        · rintro ⟨_, _, _, y1, y2, y3, y4, y5, y6, y7, y8, x, y9⟩; exact ⟨by omega, y1, y2, y3, y4, y5, y6, y7, y8, y9⟩
    · rw [if_neg (by omega), rright_j0]
      exact ⟨_, rfl, by rw [decide_eq_true_iff]; simp [h1]⟩
  · rw [if_neg (by omega), rright_j0]
    exact ⟨_, rfl, by rw [decide_eq_true_iff]; simp [h0]⟩
theorem rright_true {m : Nat} {d s : ByteArray} {tg : Bool} {p v ty : Int} {pl : ByteArray} (h : rightP d s tg p v ty pl) : treebridgeref01_Right.f (m + 3) d s tg p v ty pl = some true := by
  obtain ⟨b, hb, hr⟩ := rright_is m d s tg p v ty pl
  rw [hb, hr.2 h]
theorem rright_false {m : Nat} {d s : ByteArray} {tg : Bool} {p v ty : Int} {pl : ByteArray} (h : ¬ rightP d s tg p v ty pl) : treebridgeref01_Right.f (m + 3) d s tg p v ty pl = some false := by
  obtain ⟨b, hb, hr⟩ := rright_is m d s tg p v ty pl
  cases b
  · exact hb
  · exact absurd (hr.1 rfl) h

/-- The bytes as the reference spells them. -/
def nums (bs : List UInt8) : List Int := bs.map fun b => (b.toNat : Int)
theorem begins_l0 (s : ByteArray) (bs : List UInt8) (hs : bs.length ≤ s.size) (hb : bs.length ≤ 1000) : ∀ (r i m : Nat), i + r = bs.length → treebridgeref02_begins.l0 (m + r + 1) s (nums bs) i = some ((s.data.toList.drop i).take r == bs.drop i)
  | 0, i, m, h => by
    rw [treebridgeref02_begins.l0, if_neg (by simp only [nums, List.length_map]; omega)]
    simp [show bs.length ≤ i from by omega, List.drop_of_length_le]
  | r + 1, i, m, h => by
    have ih := begins_l0 s bs hs hb r (i + 1) m (by omega)
    have hi : i < bs.length := by omega
    have hj : i < s.data.toList.length := by rw [← size_list]; omega
    rw [show m + (r + 1) + 1 = (m + r + 1) + 1 from rfl, treebridgeref02_begins.l0, if_pos (by simp only [nums, List.length_map]; omega), if_pos (by omega), if_pos (by omega)]
    have e1 : bt s (i : Int) = (s.data.toList[i].toNat : Int) := by rw [bt_list, Int.toNat_natCast, List.getD_eq_getElem?_getD, List.getElem?_eq_getElem hj]; rfl
    have e2 : rd (nums bs) (i : Int) = (bs[i].toNat : Int) := by
      unfold rd nums
      rw [Int.toNat_natCast, List.getD_eq_getElem?_getD, List.getElem?_map, List.getElem?_eq_getElem hi]
      rfl
    have e3 : wrap64 ((i : Int) + 1) = ((i + 1 : Nat) : Int) := by unfold wrap64; omega
    rw [e1, e2, e3, ih, List.drop_eq_getElem_cons hj, List.drop_eq_getElem_cons hi, List.take_succ_cons]
    by_cases hc : s.data.toList[i] = bs[i]
    · rw [if_pos (by rw [hc]), hc, List.cons_beq_cons, beq_self_eq_true, Bool.true_and]
    · rw [if_neg (fun e => hc (UInt8.toNat_inj.mp (by omega)))]
      rw [eq_comm]
      congr 1
      rw [beq_eq_false_iff_ne]
      exact fun e => hc (List.cons.inj e).1
theorem begins_is (m : Nat) (s : ByteArray) (bs : List UInt8) (hb : bs.length ≤ 1000) : treebridgeref02_begins.f (m + bs.length + 1) s (nums bs) = some (s.data.toList.take bs.length == bs) := by
  unfold treebridgeref02_begins.f
  by_cases h : s.size < bs.length
  · rw [if_pos (by simp only [nums, List.length_map]; omega), eq_comm]
    congr 1
    rw [beq_eq_false_iff_ne]
    intro e
    have := congrArg List.length e
    rw [List.length_take, ← size_list] at this
    omega
  · rw [if_neg (by simp only [nums, List.length_map]; omega)]
    have := begins_l0 s bs (by omega) hb bs.length 0 m (by omega)
    rw [List.drop_zero, List.drop_zero] at this
    exact this
theorem begins3 (m : Nat) (s : ByteArray) : treebridgeref02_begins.f (m + 9) s [66, 66, 3] = some (s.data.toList.take 3 == [66, 66, 3]) := begins_is (m + 5) s [66, 66, 3] (by decide)
theorem begins5 (m : Nat) (s : ByteArray) : treebridgeref02_begins.f (m + 9) s [1, 128, 194, 0, 0] = some (s.data.toList.take 5 == [1, 128, 194, 0, 0]) := begins_is (m + 3) s [1, 128, 194, 0, 0] (by decide)
theorem begins6 (m : Nat) (s : ByteArray) : treebridgeref02_begins.f (m + 9) s [1, 0, 12, 204, 204, 205] = some (s.data.toList.take 6 == [1, 0, 12, 204, 204, 205]) := begins_is (m + 2) s [1, 0, 12, 204, 204, 205] (by decide)
theorem begins8 (m : Nat) (s : ByteArray) : treebridgeref02_begins.f (m + 9) s [170, 170, 3, 0, 0, 12, 1, 11] = some (s.data.toList.take 8 == [170, 170, 3, 0, 0, 12, 1, 11]) := begins_is m s [170, 170, 3, 0, 0, 12, 1, 11] (by decide)

/-- A frame's kind. -/
def kindOf (d : List UInt8) (ty : Int) (pl : List UInt8) : Int :=
  if d = [1, 128, 194, 0, 0, 0] ∧ ty < 1536 ∧ pl.take 3 = [66, 66, 3] then 1
  else if d = [1, 0, 12, 204, 204, 205] ∧ ty < 1536 ∧ pl.take 8 = [170, 170, 3, 0, 0, 12, 1, 11] then 2
  else if d = [1, 0, 12, 204, 204, 205] ∨ (d.take 5 = [1, 128, 194, 0, 0] ∧ d.getD 5 0 ≤ 15) then 3
  else 0
theorem kind1_is (j : Int) (bs : ByteArray) (hj : j = 1 ∧ bs = ⟨#[66, 66, 3]⟩ ∨ j = 2 ∧ bs = ⟨#[170, 170, 3, 0, 0, 12, 1, 11]⟩) (d s : ByteArray) (tg : Bool) (p v ty : Int) (pl : ByteArray) :
    llc_Kind_1.f j d s tg p v ty pl = some (decide (ty < 1536) && (pl.data.toList.take bs.size == bs.data.toList), d, s, tg, p, v, ty, pl) := by
  unfold llc_Kind_1.f
  by_cases h : ty < 1536
  · rw [if_pos h, decide_eq_true h, Bool.true_and]
    rcases hj with ⟨rfl, rfl⟩ | ⟨rfl, rfl⟩
    · rw [if_pos rfl, prefix_is]; rfl
    · rw [if_neg (by decide), if_pos rfl, prefix_is]; rfl
  · rw [if_neg h, decide_eq_false h]
    rfl
theorem kind_j1 (m : Nat) (b : Bool) (d s : ByteArray) (tg : Bool) (p v ty : Int) (pl : ByteArray) (hd : d.size = 6) :
    llc_Kind.j1 (m + 1) b d s tg p v ty pl = some (if b = true then 2 else if d.data.toList = [1, 0, 12, 204, 204, 205] ∨ (d.data.toList.take 5 = [1, 128, 194, 0, 0] ∧ d.data.toList.getD 5 0 ≤ 15) then 3 else 0) := by
  rw [llc_Kind.j1, tl_eq, prefix_is]
  simp only [Option.bind_some]
  rw [show (⟨#[1, 128, 194, 0, 0]⟩ : ByteArray).size = 5 from rfl]
  cases b
  · simp only [Bool.false_eq_true, if_false]
    by_cases h1 : d.data.toList = [1, 0, 12, 204, 204, 205]
    · rw [if_pos h1, if_pos (.inl h1)]
    · rw [if_neg h1]
      by_cases h2 : d.data.toList.take 5 = [1, 128, 194, 0, 0]
      · rw [if_pos (beq_iff_eq.mpr h2), if_pos (by omega)]
        have e : bt d 5 = ((d.data.toList.getD 5 0).toNat : Int) := bt_list d 5
        by_cases h3 : d.data.toList.getD 5 0 ≤ 15
        · rw [if_pos (by rw [e]; have := UInt8.le_iff_toNat_le.mp h3; exact_mod_cast this), if_pos (.inr ⟨h2, h3⟩)]
        · rw [if_neg, if_neg]
          · rintro (h | h)
            · exact h1 h
            · exact h3 h.2
          · rw [e]; intro h; exact h3 (UInt8.le_iff_toNat_le.mpr (by exact_mod_cast h))
      · rw [if_neg (fun h => h2 (beq_iff_eq.mp h)), if_neg]
        rintro (h | h)
        · exact h1 h
        · exact h2 h.1
  · simp
theorem kind_yes (m : Nat) (d s : ByteArray) (tg : Bool) (p v ty : Int) (pl : ByteArray) (h : rightP d s tg p v ty pl) : llc_Kind.f (m + 2) d s tg p v ty pl = some (kindOf d.data.toList ty pl.data.toList) := by
  have hd := h.1
  unfold llc_Kind.f
  rw [right_true (m := m) h, tl_eq]
  simp only [Option.bind_some, if_true]
  have j0 : ∀ b : Bool, llc_Kind.j0 (m + 2) b d s tg p v ty pl = some (if b = true then 1 else if d.data.toList = [1, 0, 12, 204, 204, 205] ∧ ty < 1536 ∧ pl.data.toList.take 8 = [170, 170, 3, 0, 0, 12, 1, 11] then 2
      else if d.data.toList = [1, 0, 12, 204, 204, 205] ∨ (d.data.toList.take 5 = [1, 128, 194, 0, 0] ∧ d.data.toList.getD 5 0 ≤ 15) then 3 else 0) := by
    intro b
    rw [llc_Kind.j0, tl_eq, kind1_is 2 ⟨#[170, 170, 3, 0, 0, 12, 1, 11]⟩ (.inr ⟨rfl, rfl⟩)]
    simp only [Option.bind_some, kind_j1 m _ d s tg p v ty pl hd]
    cases b
    · simp only [Bool.false_eq_true, if_false]
      by_cases h1 : d.data.toList = [1, 0, 12, 204, 204, 205]
      · simp only [if_pos h1, h1, true_and, true_or, if_true, Bool.and_eq_true, decide_eq_true_eq, beq_iff_eq]
        rfl
      · simp only [if_neg h1, h1, false_and, if_false, false_or]
    · simp
  unfold kindOf
  rw [kind1_is 1 ⟨#[66, 66, 3]⟩ (.inl ⟨rfl, rfl⟩)]
  simp only [Option.bind_some, j0]
  by_cases h1 : d.data.toList = [1, 128, 194, 0, 0, 0]
  · simp only [if_pos h1, h1, true_and, Bool.and_eq_true, decide_eq_true_eq, beq_iff_eq]
    rfl
  · simp only [if_neg h1, h1, false_and, if_false, Bool.false_eq_true]
theorem kind_no (m : Nat) (d s : ByteArray) (tg : Bool) (p v ty : Int) (pl : ByteArray) (h : ¬ rightP d s tg p v ty pl) : llc_Kind.f (m + 2) d s tg p v ty pl = some 0 := by
  unfold llc_Kind.f
  rw [right_false (m := m) h]
  simp
theorem rkind_j1 (m : Nat) (x3 x4 b : Bool) (d s : ByteArray) (tg : Bool) (p v ty : Int) (pl : ByteArray) (hd : d.size = 6) :
    treebridgeref02_Kind.j1 (m + 1) x3 x4 b d s tg p v ty pl = some (if b = true then 2 else if x4 = true ∨ (x3 = true ∧ bt d 5 < 16) then 3 else 0) := by
  rw [treebridgeref02_Kind.j1]
  cases b
  · cases x4
    · cases x3
      · simp
      · simp only [Bool.false_eq_true, if_false, if_true, false_or, true_and]
        rw [if_pos (by omega)]
        split <;> rfl
    · simp
  · simp
theorem rkind_j0 (m : Nat) (x3 x4 b : Bool) (d s : ByteArray) (tg : Bool) (p v ty : Int) (pl : ByteArray) (hd : d.size = 6) :
    treebridgeref02_Kind.j0 (m + 10) x3 x4 b d s tg p v ty pl = some (if b = true then 1 else if x4 = true ∧ ty < 1536 ∧ pl.data.toList.take 8 = [170, 170, 3, 0, 0, 12, 1, 11] then 2 else if x4 = true ∨ (x3 = true ∧ bt d 5 < 16) then 3 else 0) := by
  rw [show m + 10 = (m + 9) + 1 from rfl, treebridgeref02_Kind.j0]
  simp only [show m + 9 = (m + 8) + 1 from rfl, rkind_j1 (m + 8) _ _ _ d s tg p v ty pl hd]
  cases b
  · simp only [Bool.false_eq_true, if_false]
    cases x4
    · simp
    · simp only [if_true, true_and, true_or]
      by_cases h : ty < 1536
      · rw [if_pos h, show m + 8 + 1 = m + 9 from rfl, begins8 m pl]
        simp only [Option.bind_some, h, true_and, beq_iff_eq]
      · rw [if_neg h]
        simp [h]
  · simp
theorem rkind_yes (m : Nat) (d s : ByteArray) (tg : Bool) (p v ty : Int) (pl : ByteArray) (h : rightP d s tg p v ty pl) : treebridgeref02_Kind.f (m + 10) d s tg p v ty pl = some (kindOf d.data.toList ty pl.data.toList) := by
  have hd := h.1
  have hlen : d.data.toList.length = 6 := by rw [← size_list]; exact hd
  unfold treebridgeref02_Kind.f
  rw [rright_true (m := m + 7) h, begins5 (m + 1) d, begins6 (m + 1) d, begins3 (m + 1) pl]
  simp only [Option.bind_some, if_true, rkind_j0 m _ _ _ d s tg p v ty pl hd]
  rw [List.take_of_length_le (i := 6) (by omega)]
  have e5 : bt d 5 = ((d.data.toList.getD 5 0).toNat : Int) := bt_list d 5
  generalize d.data.toList = D at hlen e5
  generalize pl.data.toList = L
  have hle : D.getD 5 0 ≤ 15 ↔ bt d 5 < 16 := by
    rw [e5, UInt8.le_iff_toNat_le]
    show (D.getD 5 0).toNat ≤ 15 ↔ _
    omega
  have hG : D = [1, 128, 194, 0, 0, 0] ↔ D.take 5 = [1, 128, 194, 0, 0] ∧ bt d 5 = 0 := by
    rw [e5]
    obtain ⟨d0, d1, d2, d3, d4, d5, rfl⟩ := list6 D hlen
    have e : ((List.getD [d0, d1, d2, d3, d4, d5] 5 0).toNat : Int) = 0 ↔ d5 = 0 := by
      show (d5.toNat : Int) = 0 ↔ d5 = 0
      constructor
      · intro h; apply UInt8.toNat_inj.mp; show d5.toNat = 0; omega
      · rintro rfl; rfl
    rw [e]
    simp only [List.take_succ_cons, List.take_zero, List.cons.injEq, and_true]
    constructor
    · rintro ⟨a, b, c, d, e, f⟩; exact ⟨⟨a, b, c, d, e⟩, f⟩
    · rintro ⟨⟨a, b, c, d, e⟩, f⟩; exact ⟨a, b, c, d, e, f⟩
  unfold kindOf
  simp only [hle]
  by_cases g1 : D.take 5 = [1, 128, 194, 0, 0]
  · rw [if_pos (beq_iff_eq.mpr g1), if_pos (by omega)]
    by_cases g3 : bt d 5 = 0
    · have hGt := hG.2 ⟨g1, g3⟩
      rw [if_pos g3]
      by_cases h4 : ty < 1536
      · simp only [if_pos h4, hGt, h4, true_and, beq_iff_eq, g1, beq_self_eq_true]
        simp
      · simp only [if_neg h4, hGt, h4, false_and, and_false, if_false, Bool.false_eq_true, beq_self_eq_true, true_and, beq_iff_eq]
    · have hGf : ¬ D = [1, 128, 194, 0, 0, 0] := fun e => g3 (hG.1 e).2
      rw [if_neg g3]
      simp only [hGf, false_and, if_false, Bool.false_eq_true, beq_iff_eq, g1, beq_self_eq_true, true_and]
  · have hGf : ¬ D = [1, 128, 194, 0, 0, 0] := fun e => g1 (hG.1 e).1
    rw [if_neg (fun e => g1 (beq_iff_eq.mp e))]
    simp only [hGf, false_and, if_false, Bool.false_eq_true, beq_iff_eq, g1]
theorem rkind_no (m : Nat) (d s : ByteArray) (tg : Bool) (p v ty : Int) (pl : ByteArray) (h : ¬ rightP d s tg p v ty pl) : treebridgeref02_Kind.f (m + 3) d s tg p v ty pl = some 0 := by
  unfold treebridgeref02_Kind.f
  rw [rright_false (m := m) h]
  simp
theorem kindOf_1 {d : List UInt8} {ty : Int} {pl : List UInt8} (h : kindOf d ty pl = 1) : pl.take 3 = [66, 66, 3] := by
  unfold kindOf at h
  split at h
  · rename_i c; exact c.2.2
  · split at h
    · exact absurd h (by decide)
    · split at h <;> exact absurd h (by decide)
theorem kindOf_2 {d : List UInt8} {ty : Int} {pl : List UInt8} (h : kindOf d ty pl = 2) : pl.take 8 = [170, 170, 3, 0, 0, 12, 1, 11] := by
  unfold kindOf at h
  split at h
  · exact absurd h (by decide)
  · split at h
    · rename_i c; exact c.2.2
    · split at h <;> exact absurd h (by decide)
/-- What stands in a frame of a kind. -/
def innerOf (kd : Int) (pl : ByteArray) : ByteArray × Int := if kd = 1 then (pl.extract 3 pl.size, 0) else if kd = 2 then (pl.extract 8 pl.size, 0) else (⟨#[]⟩, 9)
theorem inner_is (k : Nat) (d s : ByteArray) (tg : Bool) (p v ty : Int) (pl : ByteArray) (kd : Int) (h : llc_Kind.f k d s tg p v ty pl = some kd) (h1 : kd = 1 → 3 ≤ pl.size) (h2 : kd = 2 → 8 ≤ pl.size) : llc_Inner.f k d s tg p v ty pl = some (innerOf kd pl) := by
  unfold llc_Inner.f innerOf
  rw [h, llc_heads_is]
  simp only [Option.bind_some]
  by_cases c1 : kd = 1
  · have := h1 c1
    subst c1
    rw [if_pos rfl, if_pos rfl, if_neg (by decide), show (⟨#[66, 66, 3]⟩ : ByteArray).size = 3 from rfl, if_pos (by omega), if_pos (by omega)]
    rfl
  · rw [if_neg c1, if_neg c1]
    by_cases c2 : kd = 2
    · have := h2 c2
      subst c2
      rw [if_pos rfl, if_pos rfl, if_neg (by decide), show (⟨#[170, 170, 3, 0, 0, 12, 1, 11]⟩ : ByteArray).size = 8 from rfl, if_pos (by omega), if_pos (by omega)]
      rfl
    · rw [if_neg c2, if_neg c2]
theorem rinner_is (k : Nat) (d s : ByteArray) (tg : Bool) (p v ty : Int) (pl : ByteArray) (kd : Int) (h : treebridgeref02_Kind.f k d s tg p v ty pl = some kd) (h1 : kd = 1 → 3 ≤ pl.size) (h2 : kd = 2 → 8 ≤ pl.size) : treebridgeref02_Inner.f k d s tg p v ty pl = some (innerOf kd pl) := by
  unfold treebridgeref02_Inner.f innerOf
  rw [h]
  simp only [Option.bind_some]
  by_cases c1 : kd = 1
  · have := h1 c1
    rw [if_pos c1, if_pos c1, if_pos (by omega)]
  · rw [if_neg c1, if_neg c1]
    by_cases c2 : kd = 2
    · have := h2 c2
      rw [if_pos c2, if_pos c2, if_pos (by omega)]
    · rw [if_neg c2, if_neg c2]
theorem kind_len {d : List UInt8} {ty : Int} {pl : ByteArray} : (kindOf d ty pl.data.toList = 1 → 3 ≤ pl.size) ∧ (kindOf d ty pl.data.toList = 2 → 8 ≤ pl.size) := by
  constructor
  · intro h
    have := congrArg List.length (kindOf_1 h)
    rw [List.length_take, ← size_list] at this
    simp at this
    omega
  · intro h
    have := congrArg List.length (kindOf_2 h)
    rw [List.length_take, ← size_list] at this
    simp at this
    omega
theorem rights (m n : Nat) (a0 a1 : ByteArray) (a2 : Bool) (a3 a4 a5 : Int) (a6 : ByteArray) : ∃ b, frame_Right.f (m + 2) a0 a1 a2 a3 a4 a5 a6 = some b ∧ treebridgeref01_Right.f (n + 3) a0 a1 a2 a3 a4 a5 a6 = some b ∧ (b = true ↔ rightP a0 a1 a2 a3 a4 a5 a6) := by
  by_cases h : rightP a0 a1 a2 a3 a4 a5 a6
  · exact ⟨true, right_true h, rright_true h, by simp [h]⟩
  · exact ⟨false, right_false h, rright_false h, by simp [h]⟩
/-- A frame that is made. -/
def madeOf (d s x : ByteArray) (b : Bool) : ByteArray × ByteArray × Bool × Int × Int × Int × ByteArray × Int :=
  if (x.size : Int) > 1500 then (⟨#[]⟩, ⟨#[]⟩, false, 0, 0, 0, ⟨#[]⟩, 4) else if b = true then (d, s, false, 0, 0, (x.size : Int), x, 0) else (⟨#[]⟩, ⟨#[]⟩, false, 0, 0, 0, ⟨#[]⟩, 2)
def pre1 : ByteArray := ⟨#[66, 66, 3]⟩
def pre2 : ByteArray := ⟨#[170, 170, 3, 0, 0, 12, 1, 11]⟩
def dst1 : ByteArray := ⟨#[1, 128, 194, 0, 0, 0]⟩
def dst2 : ByteArray := ⟨#[1, 0, 12, 204, 204, 205]⟩
theorem ieee_is (k : Nat) (s i : ByteArray) (b : Bool) (hi : i.size ≤ 1600) (h : frame_Right.f k dst1 s false 0 0 ((pre1 ++ i).size : Int) (pre1 ++ i) = some b) : llc_Ieee.f k s i = some (madeOf dst1 s (pre1 ++ i) b) := by
  have e : llc_Ieee.f k s i = (llc_made.g k dst1 s pre1 i).bind fun r => some (r.1, r.2.1, r.2.2.1, r.2.2.2.1, r.2.2.2.2.1, r.2.2.2.2.2.1, r.2.2.2.2.2.2.1, r.2.2.2.2.2.2.2) := rfl
  rw [e]
  unfold llc_made.g madeOf
  rw [if_pos (by show 3 + i.size ≤ _; omega), h]
  split
  · rfl
  · cases b <;> rfl
theorem sstp_is (k : Nat) (s i : ByteArray) (b : Bool) (hi : i.size ≤ 1600) (h : frame_Right.f k dst2 s false 0 0 ((pre2 ++ i).size : Int) (pre2 ++ i) = some b) : llc_Sstp.f k s i = some (madeOf dst2 s (pre2 ++ i) b) := by
  have e : llc_Sstp.f k s i = (llc_made.g k dst2 s pre2 i).bind fun r => some (r.1, r.2.1, r.2.2.1, r.2.2.2.1, r.2.2.2.2.1, r.2.2.2.2.2.1, r.2.2.2.2.2.2.1, r.2.2.2.2.2.2.2) := rfl
  rw [e]
  unfold llc_made.g madeOf
  rw [if_pos (by show 8 + i.size ≤ _; omega), h]
  split
  · rfl
  · cases b <;> rfl
theorem rmade_j0 (m : Nat) (d s x : ByteArray) (b : Bool) (h : treebridgeref01_Right.f m d s false 0 0 (x.size : Int) x = some b) : treebridgeref02_Made.j0 (m + 1) s d x = some (madeOf d s x b) := by
  rw [treebridgeref02_Made.j0, h]
  unfold madeOf
  split
  · rfl
  · cases b <;> rfl
/-- A SNAP payload. -/
def snapOf (o : ByteArray) (n : Int) (i : ByteArray) : ByteArray × Int :=
  if o.size = 3 then if n < 0 ∨ 65535 < n then (⟨#[]⟩, 1) else ((((⟨#[170, 170, 3]⟩ : ByteArray) ++ o) ++ strOfNums [n / 256 % 256, n % 256]) ++ i, 0) else (⟨#[]⟩, 2)
theorem snap_is (o : ByteArray) (n : Int) (i : ByteArray) (hi : i.size ≤ 1600) : llc_Snap.f o n i = some (snapOf o n i) := by
  unfold llc_Snap.f snapOf
  by_cases h : o.size = 3
  · rw [if_pos (by omega), if_pos h]
    by_cases h1 : n < 0
    · rw [if_pos h1, if_pos (.inl h1)]
    · rw [if_neg h1]
      by_cases h2 : n > 65535
      · rw [if_pos h2, if_pos (.inr h2)]
      · rw [if_neg h2, if_pos (by omega), if_neg (by omega)]
        simp only [Option.bind_some, strOfNums_size, List.length_cons, List.length_nil]
        rw [if_pos (by omega), if_pos (by omega)]
  · rw [if_neg (by omega), if_neg h]
theorem rsnap_is (o : ByteArray) (n : Int) (i : ByteArray) (hi : i.size ≤ 1600) : treebridgeref02_Snap.f o n i = some (snapOf o n i) := by
  unfold treebridgeref02_Snap.f snapOf
  by_cases h : o.size = 3
  · rw [if_pos (by omega), if_pos h]
    by_cases h1 : n < 0
    · rw [if_pos h1, if_pos (.inl h1)]
    · rw [if_neg h1]
      by_cases h2 : n > 65535
      · rw [if_pos h2, if_pos (.inr h2)]
      · rw [if_neg h2, if_neg (by omega)]
        simp only [Option.bind_some, strOfNums_size, List.length_cons, List.length_nil]
        rw [if_pos (by omega), if_pos (by omega), if_pos (by omega)]
        have e1 : wrap64 (Int.tdiv n 256) % 256 = n / 256 % 256 := by
          rw [Int.tdiv_eq_ediv_of_nonneg (by omega)]
          unfold wrap64
          omega
        have e2 : Int.tmod n 256 % 256 = n % 256 := by rw [Int.tmod_eq_emod_of_nonneg (by omega)]; omega
        rw [e1, e2]
        rfl
  · rw [if_neg (by omega), if_neg h]
theorem snap_pre2 (i : ByteArray) : snapOf (strOfNums [0, 0, 12]) 267 i = (pre2 ++ i, 0) := by
  unfold snapOf
  rw [if_pos (by rw [strOfNums_size]; rfl), if_neg (by decide)]
  congr 1
theorem rmade1 (m : Nat) (s i : ByteArray) (b : Bool) (hi : i.size ≤ 1600) (h : treebridgeref01_Right.f m dst1 s false 0 0 ((pre1 ++ i).size : Int) (pre1 ++ i) = some b) : treebridgeref02_Made.f (m + 1) 1 s i = some (madeOf dst1 s (pre1 ++ i) b) := by
  unfold treebridgeref02_Made.f
  simp only [Option.bind_some]
  rw [if_pos (by rw [strOfNums_size]; show 3 + i.size ≤ _; omega), if_neg (by decide)]
  exact rmade_j0 m dst1 s (pre1 ++ i) b h
theorem rmade2 (m : Nat) (s i : ByteArray) (b : Bool) (hi : i.size ≤ 1600) (h : treebridgeref01_Right.f m dst2 s false 0 0 ((pre2 ++ i).size : Int) (pre2 ++ i) = some b) : treebridgeref02_Made.f (m + 1) 2 s i = some (madeOf dst2 s (pre2 ++ i) b) := by
  unfold treebridgeref02_Made.f
  simp only [Option.bind_some]
  rw [if_pos (by rw [strOfNums_size]; show 3 + i.size ≤ _; omega), if_pos trivial, rsnap_is _ _ _ hi, snap_pre2]
  exact rmade_j0 m dst2 s (pre2 ++ i) b h
end Go.Proofs.Yticobcojmpakfaa.P
