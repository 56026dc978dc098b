/- What is printed with a VLAN is heard; cut off it isn't. -/
import Derived.Test.YticobcojmpakfaaSstp5
set_option linter.unusedVariables false
set_option linter.unusedSimpArgs false
set_option maxRecDepth 100000
set_option maxHeartbeats 4000000
namespace Go.Proofs.Yticobcojmpakfaa.Am
open Go Go.RowKit
theorem app_list (a b : ByteArray) : (a ++ b).data.toList = a.data.toList ++ b.data.toList := by simp
theorem len_list (a : ByteArray) : a.data.toList.length = a.size := by simp
theorem app_suf (a b : ByteArray) : (a ++ b).extract a.size (a ++ b).size = b := by
  apply ba_ext
  rw [show (a ++ b).extract a.size (a ++ b).size = suf (a ++ b) a.size from rfl, suf_list, app_list, ← len_list, List.drop_left]
theorem app_pre (a b : ByteArray) (j : Nat) (h : j ≤ a.size) : (a ++ b).extract 0 j = a.extract 0 j := by
  apply ba_ext
  rw [pre_list, pre_list, app_list, List.take_append_of_le_length (by rw [len_list]; exact h)]
theorem app_pre2 (a b : ByteArray) (j : Nat) : (a ++ b).extract 0 (a.size + j) = a ++ b.extract 0 j := by
  apply ba_ext
  rw [pre_list, app_list, app_list, pre_list, ← len_list, List.take_length_add_append]
def vtail (v : Int) : ByteArray := mkS [0, 0, 0, 0, 2, v / 256, v % 256]
theorem vtail_size (v : Int) : (vtail v).size = 7 := by unfold vtail; rw [mkS_size]; rfl
theorem sPrint_ok {b : BpduV} {v : Int} (h : (sPrintV b v).2 = 0) : bRightV b = true ∧ ¬ b.Kind = 2 ∧ vlanB v = true ∧ (sPrintV b v).1 = (bPrintV b).1 ++ vtail v := by
  unfold sPrintV at *
  split at h
  · cases h
  rename_i h1
  rw [if_neg h1]
  split at h
  · cases h
  rename_i h2
  rw [if_neg h2]
  refine ⟨print_no.1 (by omega), by omega, by simpa using h2, ?_⟩
  exact (cat7 _ v _ _ rfl rfl).symm
theorem sPrint_no {b : BpduV} {v : Int} (h : ¬ (sPrintV b v).2 = 0) : (sPrintV b v).1 = ⟨#[]⟩ := by
  unfold sPrintV at *
  split
  · rfl
  rename_i h1
  rw [if_neg h1] at h
  split
  · rfl
  rename_i h2
  rw [if_neg h2] at h
  exact absurd rfl h
theorem tail_behind {v : Int} (hv : vlanB v = true) (m : ByteArray) : behindV (vtail v ++ m) = (0, v) := by
  have hr := vlan_in hv
  have hs : (vtail v ++ m).size = 7 + m.size := by rw [ByteArray.size_append, vtail_size]
  have c : ∀ i (hi : i < ([0, 0, 0, 0, 2, v / 256, v % 256] : List Int).length), (0 ≤ ([0, 0, 0, 0, 2, v / 256, v % 256] : List Int)[i]'hi ∧ ([0, 0, 0, 0, 2, v / 256, v % 256] : List Int)[i]'hi < 256) → byteAt (vtail v ++ m) i = ([0, 0, 0, 0, 2, v / 256, v % 256] : List Int)[i]'hi := fun i hi h => byteAt_cat [0, 0, 0, 0, 2, v / 256, v % 256] m i hi h
  have c0 : byteAt (vtail v ++ m) 0 = 0 := c 0 (show 0 < 7 by decide) ⟨Int.le_refl _, (by decide : (0 : Int) < 256)⟩
  have c1 : byteAt (vtail v ++ m) 1 = 0 := c 1 (show 1 < 7 by decide) ⟨Int.le_refl _, (by decide : (0 : Int) < 256)⟩
  have c2 : byteAt (vtail v ++ m) 2 = 0 := c 2 (show 2 < 7 by decide) ⟨Int.le_refl _, (by decide : (0 : Int) < 256)⟩
  have c3 : byteAt (vtail v ++ m) 3 = 0 := c 3 (show 3 < 7 by decide) ⟨Int.le_refl _, (by decide : (0 : Int) < 256)⟩
  have c4 : byteAt (vtail v ++ m) 4 = 2 := c 4 (show 4 < 7 by decide) (by exact (by decide : (0 : Int) ≤ 2 ∧ (2 : Int) < 256))
  have c5 : byteAt (vtail v ++ m) 5 = v / 256 := c 5 (show 5 < 7 by decide) (show 0 ≤ v / 256 ∧ v / 256 < 256 by omega)
  have c6 : byteAt (vtail v ++ m) 6 = v % 256 := c 6 (show 6 < 7 by decide) (show 0 ≤ v % 256 ∧ v % 256 < 256 by omega)
  have e : v / 256 * 256 + v % 256 = v := by omega
  unfold behindV
  rw [if_neg (by omega), if_neg (by rw [(head_bytes _ (by omega)).2 ⟨c0, c1, c2, c3, c4⟩]; decide), c5, c6, e, if_neg (by rw [hv]; decide)]
theorem sBack {b : BpduV} {v : Int} (hb : okB b) (h : (sPrintV b v).2 = 0) (m : ByteArray) :
    (tooOld b → sParseV ((sPrintV b v).1 ++ m) = (BpduV.zero, 0, 1)) ∧ (¬ tooOld b → sParseV ((sPrintV b v).1 ++ m) = (b, v, 0)) := by
  obtain ⟨hr, hk, hv, e⟩ := sPrint_ok h
  rw [e, ByteArray.append_assoc]
  obtain ⟨p1, p2⟩ := parse_print hr hb (vtail v ++ m)
  constructor
  · intro ho
    unfold sParseV
    rw [p1 ho, if_pos (by decide)]
  · intro ho
    unfold sParseV restS
    rw [p2 ho]
    have hz := (print_size hr).1
    rw [if_neg (show ¬ (0 : Int) ≠ 0 by decide), if_neg hk, ← hz]
    simp only [Int.toNat_natCast, app_suf, tail_behind hv]
    rfl
theorem sCut {b : BpduV} {v : Int} (hb : okB b) (h : (sPrintV b v).2 = 0) (j : Nat) (hj : j < (sPrintV b v).1.size) :
    (sParseV ((sPrintV b v).1.extract 0 j)).2.2 ≠ 0 ∧ (¬ tooOld b → (sParseV ((sPrintV b v).1.extract 0 j)).2.2 = 3) := by
  obtain ⟨hr, hk, hv, e⟩ := sPrint_ok h
  rw [e, ByteArray.size_append, vtail_size] at hj
  rw [e]
  have hz := (print_size hr).1
  by_cases c : j < (bPrintV b).1.size
  · rw [app_pre _ _ _ (by omega)]
    unfold sParseV
    rw [parse_cut hr hb j c, if_pos (by decide)]
    exact ⟨by decide, fun _ => rfl⟩
  · obtain ⟨i, rfl⟩ : ∃ i, j = (bPrintV b).1.size + i := ⟨j - (bPrintV b).1.size, by omega⟩
    rw [app_pre2]
    obtain ⟨p1, p2⟩ := parse_print hr hb ((vtail v).extract 0 i)
    by_cases ho : tooOld b
    · unfold sParseV
      rw [p1 ho, if_pos (by decide)]
      exact ⟨by decide, fun q => absurd ho q⟩
    · have hs : ((vtail v).extract 0 i).size < 7 := by rw [ByteArray.size_extract, vtail_size]; omega
      have hb3 : behindV ((vtail v).extract 0 i) = (3, 0) := by unfold behindV; rw [if_pos hs]
      have hq : sParseV ((bPrintV b).1 ++ (vtail v).extract 0 i) = (BpduV.zero, 0, 3) := by
        unfold sParseV restS
        rw [p2 ho, if_neg (show ¬ (0 : Int) ≠ 0 by decide), if_neg hk, ← hz]
        simp only [Int.toNat_natCast, app_suf, hb3]
        rfl
      rw [hq]
      exact ⟨by decide, fun _ => rfl⟩
end Go.Proofs.Yticobcojmpakfaa.Am
