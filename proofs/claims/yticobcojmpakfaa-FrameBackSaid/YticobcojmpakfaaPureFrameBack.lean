/- FrameBack: out of the frames' own laws. -/
import Derived.Test.YticobcojmpakfaaStFrameBack
import Derived.Test.YticobcojmpakfaaFr
set_option linter.unusedVariables false
namespace Go.Proofs.Yticobcojmpakfaa.P
open Go.RowKit Go.Proofs.YticobcojmpakfaaW.PrintWords

theorem few_is (a0 a1 : ByteArray) (a2 : Bool) (a3 a4 a5 : Int) (a6 : ByteArray) : treebridgelaw01_Few.f a0 a1 a2 a3 a4 a5 a6 = some (decide (a0.size ≤ 20 ∧ a1.size ≤ 20 ∧ a6.size ≤ 1600)) := by
  unfold treebridgelaw01_Few.f
  by_cases h0 : a0.size ≤ 20
  · rw [if_pos (by omega)]
    by_cases h1 : a1.size ≤ 20
    · rw [if_pos (by omega)]
      congr 1
      rw [decide_eq_decide]
      omega
    · rw [if_neg (by omega), eq_comm]
      congr 1
      rw [decide_eq_false (by omega)]
  · rw [if_neg (by omega), eq_comm]
    congr 1
    rw [decide_eq_false (by omega)]
theorem awake_true : treebridgelaw01_awake.f 5 = some true := by decide +kernel
theorem bytes_size (d s : ByteArray) (tg : Bool) (p v ty : Int) (pl : ByteArray) (h : rightP d s tg p v ty pl) : (frameBytes d s tg p v ty pl).size = (if tg = true then 18 else 14) + pl.size := by
  obtain ⟨h1, h2, _⟩ := h
  unfold frameBytes
  cases tg
  · simp [ByteArray.size_append, strOfNums_size, h1, h2]; rfl
  · simp [ByteArray.size_append, strOfNums_size, h1, h2]; rfl
theorem w4 (n : Int) (h0 : 0 ≤ n) (h : n ≤ 1000000) : wrap64 (n + 4) = n + 4 := by unfold wrap64; omega
theorem back_j3 (m : Nat) (d s : ByteArray) (p v ty : Int) (pl : ByteArray) (tg : Bool) (vlan : Int) (x : Bool) (h : rightP d s tg p v ty pl) (hv : 0 ≤ vlan) (hv2 : vlan ≤ 4094) (hx : tg = true → x = true) :
    treebridgelaw01_FrameBack.j3 (m + 3) (frameBytes d s tg p v ty pl) x d s tg p v ty pl d s true p vlan ty pl = some true := by
  rw [treebridgelaw01_FrameBack.j3]
  cases x
  · cases tg
    · have hw : rightP d s true p vlan ty pl := by
        obtain ⟨h1, h2, h3, h4, h5, h6, h7, h8, h9⟩ := h
        exact ⟨h1, h2, h3, h4, h5, hv, hv2, .inl rfl, h9⟩
      obtain ⟨rfl, rfl⟩ : p = 0 ∧ v = 0 := by have := h.2.2.2.2.2.2.2.1; simpa using this
      have hpl : pl.size ≤ 1500 := h.2.2.2.2.2.2.2.2.2.2.2.1
      have z1 := bytes_size _ _ _ _ _ _ _ hw
      have z2 := bytes_size _ _ _ _ _ _ _ h
      rw [if_pos rfl] at z1
      rw [if_neg (by simp)] at z2
      have hpr := print_yes m _ _ _ _ _ _ _ hw
      generalize frameBytes d s true 0 vlan ty pl = G at z1 hpr
      generalize frameBytes d s false 0 0 ty pl = F at z2
      have hw4 : wrap64 ((F.size : Int) + 4) = (G.size : Int) := by rw [w4 _ (by omega) (by omega)]; omega
      rw [if_neg (by simp), hpr, hw4]
      unfold frame_Without.f
      rw [right_true hw]
      simp
    · exact absurd (hx rfl) (by simp)
  · simp
theorem back_j2 (m : Nat) (d s : ByteArray) (p v ty : Int) (pl : ByteArray) (tg : Bool) (vlan : Int) (h : rightP d s tg p v ty pl) :
    treebridgelaw01_FrameBack.j2 (m + 4) vlan (frameBytes d s tg p v ty pl) false d s tg p v ty pl = some true := by
  rw [treebridgelaw01_FrameBack.j2]
  unfold frame_With.f
  rw [right_true (m := m + 1) h]
  simp only [Option.bind_some, Bool.false_eq_true, if_false, if_true]
  by_cases h1 : vlan < 0
  · rw [if_pos h1]
    simp only [Option.bind_some]
    rw [if_neg (by decide), treebridgelaw01_FrameBack.j3]
    simp
  · rw [if_neg h1]
    by_cases h2 : vlan > 4094
    · rw [if_pos h2]
      simp only [Option.bind_some]
      rw [if_neg (by decide), treebridgelaw01_FrameBack.j3]
      simp
    · rw [if_neg h2]
      simp only [Option.bind_some, if_true]
      exact back_j3 m d s p v ty pl tg vlan tg h (by omega) (by omega) (fun e => e)
theorem back_j1 (m : Nat) (vlan : Int) (d s : ByteArray) (tg : Bool) (p v ty : Int) (pl : ByteArray) (d' s' : ByteArray) (tg' : Bool) (p' v' ty' : Int) (pl' : ByteArray) :
    treebridgelaw01_FrameBack.j1 (m + 5) vlan d s tg p v ty pl d' s' tg' p' v' ty' pl' = some true := by
  rw [treebridgelaw01_FrameBack.j1]
  by_cases h : rightP d s tg p v ty pl
  · rw [print_yes (m + 2) _ _ _ _ _ _ _ h]
    by_cases h' : rightP d' s' tg' p' v' ty' pl'
    · rw [print_yes (m + 2) _ _ _ _ _ _ _ h']
      simp only [Option.bind_some, if_true, parse_bytes (m + 2) _ _ _ _ _ _ _ h, beq_self_eq_true, Bool.not_true, Bool.or_self, Bool.false_eq_true, if_false]
      have hq : (((frameBytes d s tg p v ty pl).toList == (frameBytes d' s' tg' p' v' ty' pl').toList) != (d.toList == d'.toList && (s.toList == s'.toList && (tg == tg' && (p == p' && (v == v' && (ty == ty' && (pl.toList == pl'.toList)))))))) = false := by
        rw [bne_eq_false_iff_eq, Bool.eq_iff_iff]
        simp only [Bool.and_eq_true, beq_iff_eq]
        constructor
        · intro hh
          have e := parse_bytes m d s tg p v ty pl h
          rw [tl_inj hh, parse_bytes m _ _ _ _ _ _ _ h'] at e
          simp only [Option.some.injEq, Prod.mk.injEq] at e
          obtain ⟨rfl, rfl, rfl, rfl, rfl, rfl, rfl, _⟩ := e
          exact ⟨rfl, rfl, rfl, rfl, rfl, rfl, rfl⟩
        · rintro ⟨e1, e2, rfl, rfl, rfl, rfl, e7⟩
          rw [tl_inj e1, tl_inj e2, tl_inj e7]
      rw [hq]
      exact back_j2 m d s p v ty pl tg vlan h
    · rw [print_no (m + 2) _ _ _ _ _ _ _ h']
      simp only [Option.bind_some, if_true, parse_bytes (m + 2) _ _ _ _ _ _ _ h, beq_self_eq_true, Bool.not_true, Bool.or_self, Bool.false_eq_true, if_false]
      rw [if_neg (by decide)]
      exact back_j2 m d s p v ty pl tg vlan h
  · rw [print_no (m + 2) _ _ _ _ _ _ _ h]
    by_cases h' : rightP d' s' tg' p' v' ty' pl'
    · rw [print_yes (m + 2) _ _ _ _ _ _ _ h', right_false (m := m + 2) h]
      simp only [Option.bind_some]
      rw [if_neg (by decide), if_pos (by rw [tl_eq])]
      rfl
    · rw [print_no (m + 2) _ _ _ _ _ _ _ h', right_false (m := m + 2) h]
      simp only [Option.bind_some]
      rw [if_neg (by decide), if_pos (by rw [tl_eq])]
      rfl
theorem back_j0 (m : Nat) (vlan : Int) (S : ByteArray) (x : Bool) (d s : ByteArray) (tg : Bool) (p v ty : Int) (pl : ByteArray) (d' s' : ByteArray) (tg' : Bool) (p' v' ty' : Int) (pl' : ByteArray) (hx : x = false → S.size ≤ 1700) :
    treebridgelaw01_FrameBack.j0 (m + 6) vlan S x d s tg p v ty pl d' s' tg' p' v' ty' pl' = some true := by
  rw [treebridgelaw01_FrameBack.j0]
  cases x
  · rw [if_neg (by simp)]
    obtain ⟨⟨q1, q2, q3, q4, q5, q6, q7, q8⟩, hq⟩ := parse_total (m + 3) S (hx rfl)
    rw [hq]
    simp only [Option.bind_some]
    by_cases c : q8 = 0
    · subst c
      obtain ⟨h1, h2⟩ := bytes_parse (m + 3) S q1 q2 q3 q4 q5 q6 q7 hq
      rw [if_pos rfl, print_yes (m + 3) _ _ _ _ _ _ _ h1]
      simp only [Option.bind_some, if_true, h2]
      exact back_j1 m vlan d s tg p v ty pl d' s' tg' p' v' ty' pl'
    · rw [if_neg c]
      exact back_j1 m vlan d s tg p v ty pl d' s' tg' p' v' ty' pl'
  · simp
theorem FrameBack : treebridgelaw01_FrameBack.Pure := by
  intro d s tg p v ty pl d' s' tg' p' v' ty' pl' vlan S _ _ _ _ _ _ _ _ _ _ _ _ _ _
  refine ⟨6, ?_⟩
  unfold treebridgelaw01_FrameBack.f
  rw [at_rounds (g := fun k => treebridgelaw01_awake.f k) (fun k => treebridgelaw01_awake.mono k) (by omega) awake_true, few_is, few_is]
  simp only [Option.bind_some, if_true]
  split
  · split
    · refine back_j0 0 vlan S _ d s tg p v ty pl d' s' tg' p' v' ty' pl' (fun h => ?_)
      rw [decide_eq_false_iff_not] at h
      omega
    · exact back_j0 0 vlan S _ d s tg p v ty pl d' s' tg' p' v' ty' pl' (fun h => by cases h)
  · exact back_j0 0 vlan S _ d s tg p v ty pl d' s' tg' p' v' ty' pl' (fun h => by cases h)
end Go.Proofs.Yticobcojmpakfaa.P
