/- FrameTells: the reference's frames are the program's. -/
import Derived.Test.YticobcojmpakfaaStFrameTells
import Derived.Test.YticobcojmpakfaaFr
set_option linter.unusedVariables false
namespace Go.Proofs.Yticobcojmpakfaa.P
open Go.RowKit Go.Proofs.YticobcojmpakfaaW.PrintWords

theorem few_is (a0 a1 : ByteArray) (a2 : Bool) (a3 a4 a5 : Int) (a6 : ByteArray) : treebridgelaw01_Few.f a0 a1 a2 a3 a4 a5 a6 = some (decide (a0.size ≤ 20 ∧ a1.size ≤ 20 ∧ a6.size ≤ 1600)) := by
  unfold treebridgelaw01_Few.f
  by_cases h0 : a0.size ≤ 20
  · rw [if_pos (by omega)]
    by_cases h1 : a1.size ≤ 20
    · rw [if_pos (by omega)]
      congr 1
      rw [decide_eq_decide]
      omega
    · rw [if_neg (by omega), eq_comm]
      congr 1
      rw [decide_eq_false (by omega)]
  · rw [if_neg (by omega), eq_comm]
    congr 1
    rw [decide_eq_false (by omega)]
theorem awake_true : treebridgelaw01_awake.f 5 = some true := by decide +kernel
theorem wraps_u8 (n : Int) (h₀ : 0 ≤ n) (h₁ : n < 2 ^ 8) : IntKind.u8.wrap n = n := by simp [IntKind.wrap, IntKind.bits, IntKind.signed]; omega
theorem odd_is (s : ByteArray) : Go.bits .and .u8 (bt s 0) 1 = Int.tmod (bt s 0) 2 := by
  have h := bt_range s 0
  have e := bits_mask .u8 8 (by decide) wraps_u8 1 (by decide) (bt s 0) (by omega) (by omega)
  rw [show ((2 : Int) ^ 1 - 1) = 1 from rfl] at e
  rw [e, Int.tmod_eq_emod_of_nonneg h.1]
  rfl
theorem rgroup_is (s : ByteArray) : treebridgeref01_Group.f s = frame_Group.f s := by
  rw [group_is]
  unfold treebridgeref01_Group.f
  by_cases h : s.size = 6
  · rw [if_pos (by omega), if_pos (by omega), decide_eq_true h, odd_is]; simp
  · rw [if_neg (by omega), decide_eq_false h]; simp
theorem rright_j2 (m : Nat) (b : Bool) (a0 a1 : ByteArray) (a2 : Bool) (a3 a4 a5 : Int) (a6 : ByteArray) : treebridgeref01_Right.j2 (m + 1) b a0 a1 a2 a3 a4 a5 a6 = some (decide (b = false ∧ 0 ≤ a5 ∧ a5 ≤ 65535 ∧ a5 ≠ 33024 ∧ (1536 ≤ a5 ∨ a5 = a6.size))) := by
  rw [treebridgeref01_Right.j2]
  cases b
  · simp only [Bool.false_eq_true, if_false, true_and]
    repeat' split
    all_goals first | (rw [decide_eq_false (by omega)]) | (rw [decide_eq_true (by omega)]) | skip
    rw [show (a5 == (a6.size : Int)) = decide (a5 = (a6.size : Int)) from rfl]
    congr 1
    rw [decide_eq_decide]
    omega
  · simp
theorem rright_j1 (m : Nat) (b : Bool) (a0 a1 : ByteArray) (a2 : Bool) (a3 a4 a5 : Int) (a6 : ByteArray) : treebridgeref01_Right.j1 (m + 2) b a0 a1 a2 a3 a4 a5 a6 = some (decide (b = false ∧ (a2 = true ∨ (a3 = 0 ∧ a4 = 0)) ∧ 0 ≤ a5 ∧ a5 ≤ 65535 ∧ a5 ≠ 33024 ∧ (1536 ≤ a5 ∨ a5 = a6.size))) := by
  rw [treebridgeref01_Right.j1]
  cases b
  · simp only [Bool.false_eq_true, if_false, true_and, rright_j2]
    cases a2
    · rw [if_neg (by simp)]
      by_cases h : a3 = 0
      · rw [if_pos h]
        congr 1
        rw [decide_eq_decide, bne_eq_false_iff_eq]
        simp only [Bool.false_eq_true, false_or, h, true_and]
      · rw [if_neg h]
        congr 1
        rw [decide_eq_decide]
        simp [h]
    · rw [if_pos rfl]
      simp
  · simp
theorem rright_j0 (m : Nat) (b : Bool) (a0 a1 : ByteArray) (a2 : Bool) (a3 a4 a5 : Int) (a6 : ByteArray) : treebridgeref01_Right.j0 (m + 3) b a0 a1 a2 a3 a4 a5 a6 = some (decide (b = false ∧ 0 ≤ a3 ∧ a3 ≤ 7 ∧ 0 ≤ a4 ∧ a4 ≤ 4094 ∧ (a2 = true ∨ (a3 = 0 ∧ a4 = 0)) ∧ 0 ≤ a5 ∧ a5 ≤ 65535 ∧ a5 ≠ 33024 ∧ (1536 ≤ a5 ∨ a5 = a6.size))) := by
  rw [treebridgeref01_Right.j0]
  cases b
  · simp only [Bool.false_eq_true, if_false, true_and, rright_j1]
    by_cases h1 : a3 < 0
    · rw [if_pos h1]; congr 1; rw [decide_eq_decide]; exact ⟨fun h => absurd h.1 (by simp), fun h => by omega⟩
    rw [if_neg h1]
    by_cases h2 : a3 > 7
    · rw [if_pos h2]; congr 1; rw [decide_eq_decide]; exact ⟨fun h => absurd h.1 (by simp), fun h => by omega⟩
    rw [if_neg h2]
    by_cases h3 : a4 < 0
    · rw [if_pos h3]; congr 1; rw [decide_eq_decide]; exact ⟨fun h => absurd h.1 (by simp), fun h => by omega⟩
    rw [if_neg h3]
    congr 1
    rw [decide_eq_decide, decide_eq_false_iff_not]
    constructor
    · rintro ⟨x, y⟩; exact ⟨by omega, by omega, by omega, by omega, y⟩
    · rintro ⟨_, _, _, x, y⟩; exact ⟨by omega, y⟩
  · simp
theorem rright_is (m : Nat) (a0 a1 : ByteArray) (a2 : Bool) (a3 a4 a5 : Int) (a6 : ByteArray) : ∃ b, treebridgeref01_Right.f (m + 3) a0 a1 a2 a3 a4 a5 a6 = some b ∧ (b = true ↔ rightP a0 a1 a2 a3 a4 a5 a6) := by
  unfold treebridgeref01_Right.f rightP
  by_cases h0 : a0.size = 6
  · rw [if_pos (by omega)]
    by_cases h1 : a1.size = 6
    · rw [if_pos (by omega), if_pos (by omega), odd_is]
      by_cases h2 : Int.tmod (bt a1 0) 2 = 1
      · rw [if_pos h2, rright_j0]
        exact ⟨_, rfl, by rw [decide_eq_true_iff]; simp [h2]⟩
      · rw [if_neg h2, rright_j0]
        refine ⟨_, rfl, ?_⟩
        rw [decide_eq_true_iff, decide_eq_false_iff_not]
        have h3 : (Int.tmod (bt a1 0) 2 == 1) = false := by rw [beq_eq_false_iff_ne]; exact h2
        constructor
        · rintro ⟨x, y1, y2, y3, y4, y5, y6, y7, y8, y9⟩; exact ⟨h0, h1, h3, y1, y2, y3, y4, y5, y6, y7, y8, by omega, y9⟩
        · rintro ⟨_, _, _, y1, y2, y3, y4, y5, y6, y7, y8, x, y9⟩; exact ⟨by omega, y1, y2, y3, y4, y5, y6, y7, y8, y9⟩
    · rw [if_neg (by omega), rright_j0]
      exact ⟨_, rfl, by rw [decide_eq_true_iff]; simp [h1]⟩
  · rw [if_neg (by omega), rright_j0]
    exact ⟨_, rfl, by rw [decide_eq_true_iff]; simp [h0]⟩
theorem rright_true {m : Nat} {d s : ByteArray} {tg : Bool} {p v ty : Int} {pl : ByteArray} (h : rightP d s tg p v ty pl) : treebridgeref01_Right.f (m + 3) d s tg p v ty pl = some true := by
  obtain ⟨b, hb, hr⟩ := rright_is m d s tg p v ty pl
  rw [hb, hr.2 h]
theorem rright_false {m : Nat} {d s : ByteArray} {tg : Bool} {p v ty : Int} {pl : ByteArray} (h : ¬ rightP d s tg p v ty pl) : treebridgeref01_Right.f (m + 3) d s tg p v ty pl = some false := by
  obtain ⟨b, hb, hr⟩ := rright_is m d s tg p v ty pl
  cases b
  · exact hb
  · exact absurd (hr.1 rfl) h
theorem hi_byte (n : Int) (h0 : 0 ≤ n) (h : n ≤ 1000000) : wrap64 (Int.tdiv n 256) % 256 = n / 256 % 256 := by
  have e : Int.tdiv n 256 = n / 256 := Int.tdiv_eq_ediv_of_nonneg h0
  rw [e]
  unfold wrap64
  omega
theorem lo_byte (n : Int) (h0 : 0 ≤ n) (h : n ≤ 1000000) : Int.tmod n 256 % 256 = n % 256 := by rw [Int.tmod_eq_emod_of_nonneg h0]; omega
theorem tag_nums (a b : Int) : strOfNums [129, 0, a, b] = (⟨#[129, 0]⟩ : ByteArray) ++ strOfNums [a, b] := by
  apply Go.WideShapes.bytes_inj
  simp [son_list]
theorem rprint_yes (m : Nat) (d s : ByteArray) (tg : Bool) (p v ty : Int) (pl : ByteArray) (h : rightP d s tg p v ty pl) : treebridgeref01_Print.f (m + 3) d s tg p v ty pl = some (frameBytes d s tg p v ty pl, 0) := by
  have hb := rright_true (m := m) h
  obtain ⟨h1, h2, _, h4, h5, h6, h7, _, h8, h9, _, h10, _⟩ := h
  unfold treebridgeref01_Print.f
  rw [hb]
  simp only [Option.bind_some, if_true, strOfNums_size, List.length_cons, List.length_nil]
  have hw : wrap64 (p * 8192) = p * 8192 := by unfold wrap64; omega
  have ho : wrap64 (p * 8192 + v) = p * 8192 + v := by unfold wrap64; omega
  rw [hw, ho, hi_byte _ (by omega) (by omega), lo_byte _ (by omega) (by omega), hi_byte _ (by omega) (by omega), lo_byte _ (by omega) (by omega), tag_nums]
  unfold frameBytes
  cases tg
  · simp only [Bool.false_eq_true, if_false, app_nil]
    rw [if_pos (by omega), if_pos (by omega), if_pos (by omega)]
  · simp only [if_true]
    rw [if_pos (by omega), if_pos (by omega), if_pos (by omega), if_pos (by omega)]
theorem rprint_no (m : Nat) (d s : ByteArray) (tg : Bool) (p v ty : Int) (pl : ByteArray) (h : ¬ rightP d s tg p v ty pl) : treebridgeref01_Print.f (m + 3) d s tg p v ty pl = some (⟨#[]⟩, 2) := by
  unfold treebridgeref01_Print.f
  rw [rright_false h]
  simp
theorem rest_same (m : Nat) (S : ByteArray) (tg ok : Bool) (p v a : Int) (h : frame_Parse.f (m + 3) S = frame_Parse.rest (m + 3) S tg p v a ok) :
    treebridgeref01_Parse.rest (m + 3) S tg p v a = frame_Parse.f (m + 3) S := by
  by_cases h1 : 1500 < (S.size : Int) - (a + 2)
  · rw [h]
    unfold treebridgeref01_Parse.rest frame_Parse.rest
    rw [if_pos h1, if_pos h1]
    rfl
  by_cases h2 : rightP (S.extract 0 6) (S.extract 6 12) tg p v (bt S a * 256 + bt S (a + 1)) (S.extract (a + 2).toNat S.size)
  · unfold treebridgeref01_Parse.rest
    rw [if_neg h1, rprint_yes m _ _ _ _ _ _ _ h2]
    simp only [Option.bind_some, if_true]
    cases ok
    · have h3 : frame_Parse.f (m + 3) S = some (frame_Parse.z 2) := by
        rw [h]
        unfold frame_Parse.rest
        rw [if_neg h1, if_pos rfl]
      rw [if_neg, h3]
      · rfl
      · intro hh
        have h4 := parse_bytes (m + 1) _ _ _ _ _ _ _ h2
        rw [hh, h3] at h4
        exact (z_ne 2 (by decide) h4).elim
    · have h3 : frame_Parse.f (m + 3) S = some (S.extract 0 6, S.extract 6 12, tg, p, v, bt S a * 256 + bt S (a + 1), S.extract (a + 2).toNat S.size, 0) := by
        rw [h]
        unfold frame_Parse.rest
        rw [if_neg h1, if_neg (by simp), right_true (m := m + 1) h2]
        simp
      rw [if_pos (bytes_parse (m + 1) _ _ _ _ _ _ _ _ h3).2, h3]
  · unfold treebridgeref01_Parse.rest
    rw [if_neg h1, rprint_no m _ _ _ _ _ _ _ h2]
    simp only [Option.bind_some]
    rw [if_neg (by decide), h]
    unfold frame_Parse.rest
    rw [if_neg h1]
    split
    · rfl
    · rw [right_false (m := m + 1) h2]
      rfl
theorem rparse_is (m : Nat) (S : ByteArray) (hs : S.size ≤ 1700) : treebridgeref01_Parse.f (m + 3) S = frame_Parse.f (m + 3) S := by
  unfold treebridgeref01_Parse.f
  rw [if_pos (by omega)]
  by_cases h1 : (S.size : Int) < 14
  · rw [if_pos h1]
    unfold frame_Parse.f
    rw [if_pos (by omega), if_pos h1]
    rfl
  rw [if_neg h1]
  obtain ⟨x0, x1, x2, x3, x4, x5, x6, x7, x8, x9, x10, x11, x12, x13, r, hl⟩ := list14 S.data.toList (by rw [← size_list]; omega)
  have b12 : bt S 12 = (x12.toNat : Int) := by rw [bt_list, hl]; rfl
  have b13 : bt S 13 = (x13.toNat : Int) := by rw [bt_list, hl]; rfl
  have hpre : strings_HasPrefix.f (S.extract 12 S.size) (⟨#[129, 0]⟩ : ByteArray) = some (x12 == 129 && x13 == 0) := by
    rw [prefix_is, ex_end, hl]
    congr 1
    show ([x12, x13] == [129, 0]) = _
    rw [Bool.eq_iff_iff]
    simp
  have g12 : bt S 12 = 129 ↔ x12 = 129 := by
    rw [b12]
    constructor
    · intro h; apply UInt8.toNat_inj.mp; show x12.toNat = 129; omega
    · rintro rfl; rfl
  have g13 : bt S 13 = 0 ↔ x13 = 0 := by
    rw [b13]
    constructor
    · intro h; apply UInt8.toNat_inj.mp; show x13.toNat = 0; omega
    · rintro rfl; rfl
  by_cases hp : bt S 12 = 129 ∧ bt S 13 = 0
  · rw [if_pos hp]
    have e : (x12 == 129 && x13 == 0) = true := by rw [Bool.and_eq_true, beq_iff_eq, beq_iff_eq]; exact ⟨g12.1 hp.1, g13.1 hp.2⟩
    by_cases h2 : (S.size : Int) < 18
    · rw [if_pos h2]
      unfold frame_Parse.f
      rw [if_pos (by omega), if_neg h1, hpre, e]
      simp only [Option.bind_some, if_true]
      rw [if_pos h2]
      rfl
    · rw [if_neg h2]
      have b14 := bt_range S 14
      have b15 := bt_range S 15
      have hand : Go.bits .and .i64 (bt S 14 * 256 + bt S 15) 4095 = (bt S 14 * 256 + bt S 15) % 4096 := and64 12 (by decide) _ (by omega) (by omega)
      refine rest_same m S true (Go.bits .and .i64 (bt S 14 * 256 + bt S 15) 4096 == 0) _ _ 16 ?_
      unfold frame_Parse.f
      rw [if_pos (by omega), if_neg h1, hpre, e]
      simp only [Option.bind_some, if_true]
      rw [if_neg h2, hand]
  · rw [if_neg hp]
    have e : (x12 == 129 && x13 == 0) = false := by
      rw [Bool.eq_false_iff]
      intro hh
      rw [Bool.and_eq_true, beq_iff_eq, beq_iff_eq] at hh
      exact hp ⟨g12.2 hh.1, g13.2 hh.2⟩
    refine rest_same m S false true 0 0 12 ?_
    unfold frame_Parse.f
    rw [if_pos (by omega), if_neg h1, hpre, e]
    simp
theorem tells_j1 (m : Nat) (vlan : Int) (d s : ByteArray) (tg : Bool) (p v ty : Int) (pl : ByteArray) : treebridgelaw01_FrameTells.j1 (m + 4) vlan false d s tg p v ty pl = some true := by
  rw [treebridgelaw01_FrameTells.j1, if_neg (by simp)]
  unfold frame_With.f frame_Without.f
  by_cases h : rightP d s tg p v ty pl
  · rw [right_true (m := m + 1) h, rright_true (m := m) h]
    simp only [Option.bind_some, if_true]
    by_cases h1 : vlan < 0
    · simp only [if_pos h1, Option.bind_some]
      rw [if_pos (by rw [tl_eq]; rfl)]
      rfl
    · rw [if_neg h1]
      by_cases h2 : vlan > 4094
      · simp only [if_pos h2, Option.bind_some]
        rw [if_neg h1, if_pos (by rw [tl_eq]; rfl)]
        rfl
      · simp only [if_neg h2, Option.bind_some]
        rw [if_neg h1]
        simp
  · rw [right_false (m := m + 1) h, rright_false (m := m) h]
    simp only [Option.bind_some, Bool.false_eq_true, if_false]
    rw [if_pos (by rw [tl_eq]; rfl), if_pos trivial, if_pos (by rw [tl_eq]; rfl)]
    rfl
theorem tells_j0 (m : Nat) (vlan : Int) (S : ByteArray) (x : Bool) (d s : ByteArray) (tg : Bool) (p v ty : Int) (pl : ByteArray) (hx : x = false → S.size ≤ 1700) :
    treebridgelaw01_FrameTells.j0 (m + 5) vlan S x d s tg p v ty pl = some true := by
  rw [treebridgelaw01_FrameTells.j0]
  cases x
  · rw [if_neg (by simp), rparse_is (m + 1) S (hx rfl)]
    obtain ⟨q, hq⟩ := parse_total (m + 2) S (hx rfl)
    rw [hq]
    by_cases h : rightP d s tg p v ty pl
    · rw [print_yes (m + 2) _ _ _ _ _ _ _ h, rprint_yes (m + 1) _ _ _ _ _ _ _ h, right_true (m := m + 2) h, rright_true (m := m + 1) h, rgroup_is, group_is]
      simp only [Option.bind_some, if_true, beq_self_eq_true, Bool.not_true, Bool.or_self, Bool.false_eq_true, if_false, bne_self_eq_false]
      exact tells_j1 m vlan d s tg p v ty pl
    · rw [print_no (m + 2) _ _ _ _ _ _ _ h, rprint_no (m + 1) _ _ _ _ _ _ _ h, right_false (m := m + 2) h, rright_false (m := m + 1) h, rgroup_is, group_is]
      simp only [Option.bind_some, if_true, beq_self_eq_true, Bool.not_true, Bool.or_self, Bool.false_eq_true, if_false, bne_self_eq_false]
      exact tells_j1 m vlan d s tg p v ty pl
  · simp
theorem FrameTells : treebridgelaw01_FrameTells.Pure := by
  intro d s tg p v ty pl vlan S _ _ _ _ _ _ _ _
  refine ⟨5, ?_⟩
  unfold treebridgelaw01_FrameTells.f
  rw [awake_true, few_is]
  simp only [Option.bind_some, if_true]
  split
  · refine tells_j0 0 vlan S _ d s tg p v ty pl (fun h => ?_)
    rw [decide_eq_false_iff_not] at h
    omega
  · exact tells_j0 0 vlan S _ d s tg p v ty pl (fun h => by cases h)
end Go.Proofs.Yticobcojmpakfaa.P
