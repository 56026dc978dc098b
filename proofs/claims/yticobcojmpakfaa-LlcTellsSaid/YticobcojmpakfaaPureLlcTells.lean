/- LlcTells: the reference's answers are the program's. -/
import Derived.Test.YticobcojmpakfaaStLlcTells
import Derived.Test.YticobcojmpakfaaLlc
set_option linter.unusedVariables false
namespace Go.Proofs.Yticobcojmpakfaa.P
open Go.RowKit Go.Proofs.YticobcojmpakfaaW.PrintWords

theorem awake2_true : treebridgelaw02_awake.f 12 = some true := by decide +kernel
theorem tells2_j0 (m : Nat) (x1 x2 x3 : ByteArray) (x4 : Int) (x : Bool) (d s : ByteArray) (tg : Bool) (p v ty : Int) (pl : ByteArray) (hx : x = false → x2.size ≤ 1600) :
    treebridgelaw02_LlcTells.j0 (m + 12) x1 x2 x3 x4 x d s tg p v ty pl = some true := by
  rw [show m + 12 = (m + 11) + 1 from rfl, treebridgelaw02_LlcTells.j0]
  cases x
  · rw [if_neg (by simp)]
    have hi := hx rfl
    obtain ⟨b1, hb1, hb1', _⟩ := rights (m + 9) (m + 7) dst1 x1 false 0 0 ((pre1 ++ x2).size : Int) (pre1 ++ x2)
    obtain ⟨b2, hb2, hb2', _⟩ := rights (m + 9) (m + 7) dst2 x1 false 0 0 ((pre2 ++ x2).size : Int) (pre2 ++ x2)
    obtain ⟨kd, k1, k2, k3, k4⟩ : ∃ kd, llc_Kind.f (m + 11) d s tg p v ty pl = some kd ∧ treebridgeref02_Kind.f (m + 11) d s tg p v ty pl = some kd ∧ (kd = 1 → 3 ≤ pl.size) ∧ (kd = 2 → 8 ≤ pl.size) := by
      by_cases h : rightP d s tg p v ty pl
      · exact ⟨_, kind_yes (m + 9) _ _ _ _ _ _ _ h, rkind_yes (m + 1) _ _ _ _ _ _ _ h, kind_len.1, kind_len.2⟩
      · exact ⟨0, kind_no (m + 9) _ _ _ _ _ _ _ h, rkind_no (m + 8) _ _ _ _ _ _ _ h, fun e => by simp at e, fun e => by simp at e⟩
    rw [inner_is _ _ _ _ _ _ _ _ kd k1 k3 k4, rinner_is _ _ _ _ _ _ _ _ kd k2 k3 k4, ieee_is _ _ _ b1 hi hb1, rmade1 (m + 10) _ _ b1 hi hb1', sstp_is _ _ _ b2 hi hb2, rmade2 (m + 10) _ _ b2 hi hb2', snap_is _ _ _ hi, rsnap_is _ _ _ hi, k1, k2]
    simp only [Option.bind_some, if_true, beq_self_eq_true, Bool.and_self]
  · simp
theorem LlcTells : treebridgelaw02_LlcTells.Pure := by
  intro d s tg p v ty pl x1 x2 x3 x4 _ _ _ _ _ _ _ _ _ _
  refine ⟨12, ?_⟩
  unfold treebridgelaw02_LlcTells.f
  rw [awake2_true, few_is]
  simp only [Option.bind_some, if_true]
  split
  · split
    · exact tells2_j0 0 x1 x2 x3 x4 _ d s tg p v ty pl (fun h => by cases h)
    · split
      · exact tells2_j0 0 x1 x2 x3 x4 _ d s tg p v ty pl (fun h => by cases h)
      · exact tells2_j0 0 x1 x2 x3 x4 _ d s tg p v ty pl (fun h => by omega)
  · exact tells2_j0 0 x1 x2 x3 x4 _ d s tg p v ty pl (fun h => by cases h)
end Go.Proofs.Yticobcojmpakfaa.P
