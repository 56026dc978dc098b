/- What is heard again. -/
import Derived.Test.YticobcojmpakfaaBpdu5
set_option linter.unusedVariables false
set_option linter.unusedSimpArgs false
set_option maxRecDepth 100000
set_option maxHeartbeats 4000000
namespace Go.Proofs.Yticobcojmpakfaa.Am
open Go Go.RowKit
def tooOld (b : BpduV) : Prop := b.Kind = 1 ∧ b.Max ≤ b.Age
theorem two_eq {b : BpduV} (h : bRightV b = true) (h2 : b.Kind = 2) : b = noticeV := by
  unfold bRightV at h
  rw [if_pos h2] at h
  exact (BpduV.eqEnc _ _).1 h
theorem print_wrong {b : BpduV} (h : bRightV b = false) : bPrintV b = (⟨#[]⟩, 2) := by unfold bPrintV; rw [if_pos h]
theorem print_no {b : BpduV} : (bPrintV b).2 = 0 ↔ bRightV b = true := by
  by_cases h : bRightV b = true
  · by_cases h2 : b.Kind = 2
    · rw [print_two h h2]; simp [h]
    · obtain ⟨B, e, _⟩ := print_right h h2
      rw [e]; simp [h]
  · have h' : bRightV b = false := by simpa using h
    rw [print_wrong h']; simp [h']
theorem print_size {b : BpduV} (h : bRightV b = true) : ((bPrintV b).1.size : Int) = sizeV b.Kind ∧ 4 ≤ (bPrintV b).1.size ∧ (bPrintV b).1.size ≤ 36 := by
  by_cases h2 : b.Kind = 2
  · rw [print_two h h2, h2]; simp [mkS_size, sizeV]
  · obtain ⟨B, e, hs⟩ := print_right h h2
    rw [e]
    have e1 : (mkS (flat b (b.Kind - 1) ++ B)).size = 35 + B.length := by rw [mkS_size, List.length_append, bFlat_len]
    have hk := (right_num h h2).1
    simp only [e1]
    refine ⟨hs, by omega, ?_⟩
    rcases hk with e | e <;> rw [e] at hs <;> simp [sizeV] at hs <;> omega
/-- The bytes ahead, whatever stands behind. -/
theorem print_bytes {b : BpduV} (h : bRightV b = true) (hb : okB b) (m : ByteArray) :
    byteAt ((bPrintV b).1 ++ m) 0 = 0 ∧ byteAt ((bPrintV b).1 ++ m) 1 = 0 ∧ kindV (byteAt ((bPrintV b).1 ++ m) 2) (byteAt ((bPrintV b).1 ++ m) 3) = b.Kind ∧ (¬ b.Kind = 2 → bodyV ((bPrintV b).1 ++ m) b.Kind = b) := by
  by_cases h2 : b.Kind = 2
  · rw [print_two h h2, h2]
    have c : ∀ i (hi : i < 4), byteAt (mkS [0, 0, 0, 128] ++ m) i = [(0 : Int), 0, 0, 128][i]'hi := fun i hi => byteAt_cat [0, 0, 0, 128] m i hi (by
      rcases (show i = 0 ∨ i = 1 ∨ i = 2 ∨ i = 3 by omega) with rfl | rfl | rfl | rfl <;> first | exact (by decide : (0 : Int) ≤ 0 ∧ (0 : Int) < 256) | exact (by decide : (0 : Int) ≤ 128 ∧ (128 : Int) < 256))
    have c0 : byteAt (mkS [0, 0, 0, 128] ++ m) 0 = 0 := c 0 (by decide)
    have c1 : byteAt (mkS [0, 0, 0, 128] ++ m) 1 = 0 := c 1 (by decide)
    have c2 : byteAt (mkS [0, 0, 0, 128] ++ m) 2 = 0 := c 2 (by decide)
    have c3 : byteAt (mkS [0, 0, 0, 128] ++ m) 3 = 128 := c 3 (by decide)
    refine ⟨c0, c1, ?_, fun h => absurd rfl h⟩
    show kindV (byteAt (mkS [0, 0, 0, 128] ++ m) 2) (byteAt (mkS [0, 0, 0, 128] ++ m) 3) = 2
    rw [c2, c3]; decide
  · obtain ⟨B, e, _⟩ := print_right h h2
    have hf := flat_back h h2 hb B m
    rw [e]
    exact ⟨hf.1, hf.2.1, hf.2.2.1, fun _ => hf.2.2.2⟩
theorem kind_two {x : Int} (h : x = 1 ∨ x = 2 ∨ x = 3) : ¬ x = 0 := by omega
theorem right_kind {b : BpduV} (h : bRightV b = true) : b.Kind = 1 ∨ b.Kind = 2 ∨ b.Kind = 3 := by
  by_cases h2 : b.Kind = 2
  · exact .inr (.inl h2)
  · rcases (right_num h h2).1 with e | e
    · exact .inl e
    · exact .inr (.inr e)
theorem parse_print {b : BpduV} (h : bRightV b = true) (hb : okB b) (m : ByteArray) :
    (tooOld b → parseV ((bPrintV b).1 ++ m) = (BpduV.zero, 1)) ∧ (¬ tooOld b → parseV ((bPrintV b).1 ++ m) = (b, 0)) := by
  obtain ⟨h0, h1, h2, h3⟩ := print_bytes h hb m
  obtain ⟨s0, s1, s2⟩ := print_size h
  have hs : ((bPrintV b).1 ++ m).size = (bPrintV b).1.size + m.size := ByteArray.size_append
  have hk := right_kind h
  have base : parseV ((bPrintV b).1 ++ m) = if b.Kind = 2 then ({ BpduV.zero with Kind := 2 }, 0) else if b.Kind = 1 ∧ getV ((bPrintV b).1 ++ m) 29 2 ≤ getV ((bPrintV b).1 ++ m) 27 2 then (BpduV.zero, 1) else (bodyV ((bPrintV b).1 ++ m) b.Kind, 0) := by
    unfold parseV
    rw [if_neg (by omega), if_neg (by omega), h2, if_neg (by omega), if_neg (by rw [hs, ← s0]; push_cast; omega)]
  rw [base]
  by_cases k2 : b.Kind = 2
  · rw [if_pos k2]
    refine ⟨fun ⟨k1, _⟩ => absurd k1 (by omega), fun _ => ?_⟩
    rw [two_eq h k2]; rfl
  · have hB := h3 k2
    rw [if_neg k2, hB]
    have ha : getV ((bPrintV b).1 ++ m) 27 2 = b.Age := congrArg BpduV.Age hB
    have hm : getV ((bPrintV b).1 ++ m) 29 2 = b.Max := congrArg BpduV.Max hB
    rw [ha, hm]
    exact ⟨fun h => if_pos h, fun h => if_neg h⟩
theorem app_empty (s : ByteArray) : s ++ ⟨#[]⟩ = s := by apply ba_ext; simp
theorem parse_self {b : BpduV} (h : bRightV b = true) (hb : okB b) (ho : ¬ tooOld b) : parseV (bPrintV b).1 = (b, 0) := by
  have e := (parse_print h hb ⟨#[]⟩).2 ho
  rwa [app_empty] at e
theorem byteAt_extract (s : ByteArray) (j i : Nat) (h : i < j) (hj : j ≤ s.size) : byteAt (s.extract 0 j) i = byteAt s i := by
  have hl : i < (s.extract 0 j).size := by rw [ByteArray.size_extract]; omega
  rw [byteAt_get _ _ hl, byteAt_get _ _ (by omega)]
  simp only [pre_list]
  rw [List.getElem_take]
theorem parse_cut {b : BpduV} (h : bRightV b = true) (hb : okB b) (j : Nat) (hj : j < (bPrintV b).1.size) : parseV ((bPrintV b).1.extract 0 j) = (BpduV.zero, 3) := by
  have hsz : ((bPrintV b).1.extract 0 j).size = j := by rw [ByteArray.size_extract]; omega
  by_cases j4 : j < 4
  · unfold parseV; rw [if_pos (by omega)]
  · obtain ⟨h0, h1, h2, _⟩ := print_bytes h hb ⟨#[]⟩
    rw [app_empty] at h0 h1 h2
    have hk := right_kind h
    have s0 := (print_size h).1
    unfold parseV
    rw [byteAt_extract _ _ 0 (by omega) (by omega), byteAt_extract _ _ 1 (by omega) (by omega), byteAt_extract _ _ 2 (by omega) (by omega), byteAt_extract _ _ 3 (by omega) (by omega),
      if_neg (by omega), if_neg (by omega), h2, if_neg (by omega), if_pos (by omega)]
theorem print_inj {b c : BpduV} (h : bRightV b = true) (hb : okB b) (k : bRightV c = true) (hc : okB c) (e : (bPrintV b).1 = (bPrintV c).1) : b = c := by
  obtain ⟨_, _, h2, h3⟩ := print_bytes h hb ⟨#[]⟩
  obtain ⟨_, _, k2, k3⟩ := print_bytes k hc ⟨#[]⟩
  rw [e, k2] at h2
  by_cases q : b.Kind = 2
  · rw [two_eq h q, two_eq k (by omega)]
  · rw [← h3 q, ← k3 (by omega), e, h2]
theorem getV_pos (s : ByteArray) (a n : Nat) : 0 ≤ getV s a n := (getV_range s a n).1
theorem right_of {b : BpduV} (hk : b.Kind = 1 ∨ b.Kind = 3) (hf : 0 ≤ b.Flags ∧ b.Flags ≤ 255) (hc : b.Vector_Cost < 4294967296) (hp : b.Vector_Port ≤ 65535) (ha : 0 ≤ b.Age ∧ b.Age ≤ 65535) (hm : 0 ≤ b.Max ∧ b.Max ≤ 65535) (hh : 0 ≤ b.Hello ∧ b.Hello ≤ 65535) (hd : 0 ≤ b.Delay ∧ b.Delay ≤ 65535) : bRightV b = true := by
  unfold bRightV
  rw [if_neg (by omega)]
  simp only [in16, Bool.and_eq_true, Bool.or_eq_true, decide_eq_true_eq, Bool.not_eq_true', Bool.or_eq_false_iff, decide_eq_false_iff_not]
  omega
theorem parse_ok (s : ByteArray) (h : (parseV s).2 = 0) : bRightV (parseV s).1 = true ∧ okB (parseV s).1 ∧ ¬ tooOld (parseV s).1 := by
  unfold parseV at *
  split at h
  · cases h
  split at h
  · cases h
  split at h
  · cases h
  split at h
  · cases h
  rename_i n1 n2 n3 n4
  rw [if_neg n1, if_neg n2, if_neg n3, if_neg n4]
  generalize hk : kindV (byteAt s 2) (byteAt s 3) = kd at *
  have hkd : kd = 1 ∨ kd = 2 ∨ kd = 3 := by unfold kindV at hk; grind
  split at h
  · rename_i k2
    rw [if_pos k2]
    exact ⟨by decide, by unfold okB BpduV.zero; decide, by unfold tooOld; simp⟩
  · rename_i k2
    rw [if_neg k2]
    split at h
    · cases h
    · rename_i ko
      rw [if_neg ko]
      have r1 := getV_lt s 4 1 (by decide)
      have r2 := getV_lt s 13 4 (by decide)
      have r3 := getV_two s 25 2 (by decide)
      have r4 := getV_two s 27 2 (by decide)
      have r5 := getV_two s 29 2 (by decide)
      have r6 := getV_two s 31 2 (by decide)
      have r7 := getV_two s 33 2 (by decide)
      have p1 := getV_pos s 4 1
      refine ⟨?_, ⟨getV_range s 5 8, getV_range s 13 4, getV_range s 17 8, getV_range s 25 2⟩, ko⟩
      exact right_of (b := bodyV s kd) (show kd = 1 ∨ kd = 3 by omega) (show 0 ≤ getV s 4 1 ∧ getV s 4 1 ≤ 255 by omega) (show getV s 13 4 < 4294967296 by omega) (show getV s 25 2 ≤ 65535 by omega) (show 0 ≤ getV s 27 2 ∧ getV s 27 2 ≤ 65535 by omega) (show 0 ≤ getV s 29 2 ∧ getV s 29 2 ≤ 65535 by omega) (show 0 ≤ getV s 31 2 ∧ getV s 31 2 ≤ 65535 by omega) (show 0 ≤ getV s 33 2 ∧ getV s 33 2 ≤ 65535 by omega)
end Go.Proofs.Yticobcojmpakfaa.Am
