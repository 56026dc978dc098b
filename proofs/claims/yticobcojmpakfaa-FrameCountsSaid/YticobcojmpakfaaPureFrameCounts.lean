/- FrameCounts: the counter's own parsing is the plain one, so each round's tests hold. -/
import Derived.Test.YticobcojmpakfaaStFrameCounts
namespace Go.Proofs.Yticobcojmpakfaa.P
open Go.RowKit Go.Proofs.YticobcojmpakfaaW.PrintWords

theorem group_some (s : ByteArray) : ∃ b, frame_Group.f s = some b := by
  unfold frame_Group.f
  split
  · rw [if_pos (by omega)]; exact ⟨_, rfl⟩
  · exact ⟨_, rfl⟩
theorem right_some (m : Nat) (a0 a1 : ByteArray) (a2 : Bool) (a3 a4 a5 : Int) (a6 : ByteArray) : ∃ b, frame_Right.f (m + 2) a0 a1 a2 a3 a4 a5 a6 = some b := by
  have j1 : ∀ b, ∃ r, frame_Right.j1 (m + 1) b a0 a1 a2 a3 a4 a5 a6 = some r := by
    intro b; rw [frame_Right.j1]; repeat' split
    all_goals exact ⟨_, rfl⟩
  have j0 : ∀ b, ∃ r, frame_Right.j0 (m + 2) b a0 a1 a2 a3 a4 a5 a6 = some r := by
    intro b; rw [frame_Right.j0]; repeat' split
    all_goals first | exact ⟨_, rfl⟩ | exact j1 _
  obtain ⟨g, hg⟩ := group_some a1
  unfold frame_Right.f
  split
  · split
    · rw [hg]; exact j0 _
    · exact j0 _
  · exact j0 _
theorem prefix_some (a b : ByteArray) : ∃ r, strings_HasPrefix.f a b = some r := by
  unfold strings_HasPrefix.f stringslite_HasPrefix.f
  repeat' split
  all_goals first | exact ⟨_, rfl⟩ | (exfalso; omega)
theorem parse_some (m : Nat) (s : ByteArray) (hs : s.size ≤ 1700) : ∃ r, frame_Parse.f (m + 2) s = some r := by
  have rest : ∀ tg p v a ok, ∃ r, frame_Parse.rest (m + 2) s tg p v a ok = some r := by
    intro tg p v a ok
    unfold frame_Parse.rest
    split
    · exact ⟨_, rfl⟩
    · split
      · exact ⟨_, rfl⟩
      · obtain ⟨b, hb⟩ := right_some m (s.extract 0 6) (s.extract 6 12) tg p v (bt s a * 256 + bt s (a + 1)) (s.extract (a + 2).toNat s.size)
        rw [hb]
        simp only [Option.bind_some]
        split
        all_goals exact ⟨_, rfl⟩
  obtain ⟨t, ht⟩ := prefix_some (s.extract 12 s.size) (⟨#[129, 0]⟩ : ByteArray)
  unfold frame_Parse.f
  rw [if_pos (by omega)]
  split
  · exact ⟨_, rfl⟩
  · rw [ht]
    simp only [Option.bind_some]
    split
    · split
      · exact ⟨_, rfl⟩
      · exact rest ..
    · exact rest ..
theorem w64 (i : Int) (h0 : 0 ≤ i) (h : i ≤ 1000000) : wrap64 (i + 1) = i + 1 := by unfold wrap64; omega
theorem counts_loop (l : List ByteArray) (hl : l.length ≤ 100) (d : Nat) : ∀ (k : Nat) (i g b : Int), 0 ≤ i → 0 ≤ g → 0 ≤ b → g + b = i → (l.length : Int) - i = d → d + 3 ≤ k → treebridgelaw01_FrameCounts.l0 k l g b i g b = some true := by
  induction d with
  | zero =>
    intro k i g b hi hg hb hs hd hk
    obtain ⟨m, rfl⟩ : ∃ m, k = m + 1 := ⟨k - 1, by omega⟩
    rw [treebridgelaw01_FrameCounts.l0, if_neg (by omega)]
  | succ d ih =>
    intro k i g b hi hg hb hs hd hk
    obtain ⟨m, rfl⟩ : ∃ m, k = m + 2 + 1 := ⟨k - 3, by omega⟩
    rw [treebridgelaw01_FrameCounts.l0, if_pos (by omega), if_pos hi]
    by_cases hz : ((rdOf ByteArray.empty l i).size : Int) > 1700
    · rw [if_pos hz]
    · rw [if_neg hz]
      obtain ⟨r, hr⟩ := parse_some m (rdOf ByteArray.empty l i) (by omega)
      unfold frame_Counter_Parse.f frame_Counter_Count.f
      rw [hr]
      simp only [Option.bind_some]
      by_cases h8 : r.2.2.2.2.2.2.2 = 0
      · have := ih (m + 2) (i + 1) (g + 1) b (by omega) (by omega) hb (by omega) (by omega) (by omega)
        simp only [h8, if_true, Option.bind_some, beq_self_eq_true, Bool.not_true, Bool.or_false, w64 i hi (by omega), w64 g hg (by omega)]
        simpa using this
      · have := ih (m + 2) (i + 1) g (b + 1) (by omega) hg (by omega) (by omega) (by omega) (by omega)
        simp only [h8, if_false, Option.bind_some, beq_self_eq_true, Bool.not_true, Bool.or_false, if_true, w64 i hi (by omega), w64 b hb (by omega)]
        simpa using this
theorem awake_true : treebridgelaw01_awake.f 5 = some true := by decide +kernel
theorem FrameCounts : treebridgelaw01_FrameCounts.Pure := by
  intro l hl
  by_cases h : (l.length : Int) > 100
  · refine ⟨5, ?_⟩
    unfold treebridgelaw01_FrameCounts.f
    rw [awake_true]
    simp only [Option.bind_some, if_true]
    rw [if_pos h]
  · refine ⟨l.length + 5, ?_⟩
    have ha : treebridgelaw01_awake.f (l.length + 5) = some true := at_rounds (g := fun k => treebridgelaw01_awake.f k) (fun k => treebridgelaw01_awake.mono k) (by omega) awake_true
    unfold treebridgelaw01_FrameCounts.f
    rw [ha]
    simp only [Option.bind_some, if_true]
    rw [if_neg h]
    unfold frame_New.f
    simp only [Option.bind_some]
    exact counts_loop l (by omega) l.length (l.length + 5) 0 0 0 (by omega) (by omega) (by omega) (by omega) (by omega) (by omega)
end Go.Proofs.Yticobcojmpakfaa.P
