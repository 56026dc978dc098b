-- Written by a program of this session (pp.py, over the kit's printer and texts given by hand).
import Derived.Test.YticobcojmpakfaaP0
import Derived.Test.YticobcojmpakfaaPframeRight
import Derived.Test.YticobcojmpakfaaPllcKind
import Derived.Test.YticobcojmpakfaaPllcInner
import Derived.Test.YticobcojmpakfaaPllcIeee
import Derived.Test.YticobcojmpakfaaPllcSstp
import Derived.Test.YticobcojmpakfaaPtreebridgelaw02Awake
import Derived.Test.YticobcojmpakfaaPframeWith
namespace Go.Proofs.Yticobcojmpakfaa.P
open Go.RowKit Go.Proofs.YticobcojmpakfaaW.PrintWords Go.Proofs.YticobcojmpakfaaW.PrintLast Go.Proofs.YticobcojmpakfaaW.PrintMore
attribute [local go_sem] max2_int min2_int max_two min_two max_three min_three max_four min_four   -- for this text's walks alone
set_option linter.unusedVariables false
set_option linter.unusedSimpArgs false

/-! ### treebridgelaw02_LlcBack: function 4 -/
mutual
def treebridgelaw02_LlcBack.j0 : Nat → ByteArray → ByteArray → ByteArray → Int → Bool → Option (Bool)
  | 0, _, _, _, _, _ => none
  | k + 1, x0, x1, x2, x3, x33 => if x33 = true then (some true) else (treebridgelaw02_LlcBack.l0 k x0 x1 x2 x3 1)
def treebridgelaw02_LlcBack.l0 : Nat → ByteArray → ByteArray → ByteArray → Int → Int → Option (Bool)
  | 0, _, _, _, _, _ => none
  | k + 1, x0, x1, x2, x3, x9 => if x9 < 3 then ((llc_Ieee.f k x0 x1).bind fun bt102 => (if x9 = 2 then ((llc_Sstp.f k x0 x1).bind fun bt111 => (treebridgelaw02_LlcBack.j2 k x0 x1 x2 x3 x9 bt111.2.2.2.2.2.2.2 bt111.1 bt111.2.1 bt111.2.2.1 bt111.2.2.2.1 bt111.2.2.2.2.1 bt111.2.2.2.2.2.1 bt111.2.2.2.2.2.2.1)) else (treebridgelaw02_LlcBack.j2 k x0 x1 x2 x3 x9 bt102.2.2.2.2.2.2.2 bt102.1 bt102.2.1 bt102.2.2.1 bt102.2.2.2.1 bt102.2.2.2.2.1 bt102.2.2.2.2.2.1 bt102.2.2.2.2.2.2.1))) else (some true)
def treebridgelaw02_LlcBack.j2 : Nat → ByteArray → ByteArray → ByteArray → Int → Int → Int → ByteArray → ByteArray → Bool → Int → Int → Int → ByteArray → Option (Bool)
  | 0, _, _, _, _, _, _, _, _, _, _, _, _, _ => none
  | k + 1, x0, x1, x2, x3, x9, x11, x111000, x111001, x111002, x111003, x111004, x111005, x111006 => if x11 = 0 then ((llc_Inner.f k x111000 x111001 x111002 x111003 x111004 x111005 x111006).bind fun bt119 => ((llc_Kind.f k x111000 x111001 x111002 x111003 x111004 x111005 x111006).bind fun t121 => (if t121 = x9 then (if bt119.1.toList = x1.toList then (if bt119.2 = 0 then ((frame_Right.f k x111000 x111001 x111002 x111003 x111004 x111005 x111006).bind fun t122 => (if t122 = true then (treebridgelaw02_LlcBack.j3 k x0 x1 x2 x3 x9 x111002 x111000 x111001 x111002 x111003 x111004 x111005 x111006) else (none))) else (none)) else (none)) else (none)))) else (treebridgelaw02_LlcBack.l0 k x0 x1 x2 x3 (wrap64 (x9 + 1)))
def treebridgelaw02_LlcBack.j3 : Nat → ByteArray → ByteArray → ByteArray → Int → Int → Bool → ByteArray → ByteArray → Bool → Int → Int → Int → ByteArray → Option (Bool)
  | 0, _, _, _, _, _, _, _, _, _, _, _, _, _ => none
  | k + 1, x0, x1, x2, x3, x9, x80, x111000, x111001, x111002, x111003, x111004, x111005, x111006 => if x80 = true then (none) else ((frame_With.f k x111000 x111001 x111002 x111003 x111004 x111005 x111006 x3).bind fun bt123 => (if bt123.2.2.2.2.2.2.2 = 0 then ((llc_Inner.f k bt123.1 bt123.2.1 bt123.2.2.1 bt123.2.2.2.1 bt123.2.2.2.2.1 bt123.2.2.2.2.2.1 bt123.2.2.2.2.2.2.1).bind fun bt132 => ((llc_Kind.f k bt123.1 bt123.2.1 bt123.2.2.1 bt123.2.2.2.1 bt123.2.2.2.2.1 bt123.2.2.2.2.2.1 bt123.2.2.2.2.2.2.1).bind fun t134 => (if t134 = x9 then (if bt132.1.toList = x1.toList then (treebridgelaw02_LlcBack.j4 k x0 x1 x2 x3 x9 (bt132.2 != 0) x111000 x111001 x111002 x111003 x111004 x111005 x111006) else (none)) else (none)))) else ((llc_Kind.f k x2 x111001 x111002 x111003 x111004 x111005 x111006).bind fun t138 => (if ((t138 == x9) != (x2.toList == x111000.toList)) = true then (none) else (treebridgelaw02_LlcBack.l0 k x0 x1 x2 x3 (wrap64 (x9 + 1)))))))
def treebridgelaw02_LlcBack.j4 : Nat → ByteArray → ByteArray → ByteArray → Int → Int → Bool → ByteArray → ByteArray → Bool → Int → Int → Int → ByteArray → Option (Bool)
  | 0, _, _, _, _, _, _, _, _, _, _, _, _, _ => none
  | k + 1, x0, x1, x2, x3, x9, x106, x111000, x111001, x111002, x111003, x111004, x111005, x111006 => if x106 = true then (none) else ((llc_Kind.f k x2 x111001 x111002 x111003 x111004 x111005 x111006).bind fun t136 => (if ((t136 == x9) != (x2.toList == x111000.toList)) = true then (none) else (treebridgelaw02_LlcBack.l0 k x0 x1 x2 x3 (wrap64 (x9 + 1)))))
end
def treebridgelaw02_LlcBack.f (k : Nat) (a0 : ByteArray) (a1 : ByteArray) (a2 : ByteArray) (a3 : Int) : Option (Bool) := (treebridgelaw02_awake.f k).bind fun t101 => (if t101 = true then (if (a0.size : Int) > 20 then (treebridgelaw02_LlcBack.j0 k a0 a1 a2 a3 true) else (if (a1.size : Int) > 1600 then (treebridgelaw02_LlcBack.j0 k a0 a1 a2 a3 true) else (treebridgelaw02_LlcBack.j0 k a0 a1 a2 a3 ((a2.size : Int) != 6)))) else (none))
theorem treebridgelaw02_LlcBack.mono_l : ∀ k, (∀ y0 y1 y2 y3 y4, LeO (treebridgelaw02_LlcBack.j0 k y0 y1 y2 y3 y4) (treebridgelaw02_LlcBack.j0 (k + 1) y0 y1 y2 y3 y4)) ∧ (∀ y0 y1 y2 y3 y4, LeO (treebridgelaw02_LlcBack.l0 k y0 y1 y2 y3 y4) (treebridgelaw02_LlcBack.l0 (k + 1) y0 y1 y2 y3 y4)) ∧ (∀ y0 y1 y2 y3 y4 y5 y6 y7 y8 y9 y10 y11 y12, LeO (treebridgelaw02_LlcBack.j2 k y0 y1 y2 y3 y4 y5 y6 y7 y8 y9 y10 y11 y12) (treebridgelaw02_LlcBack.j2 (k + 1) y0 y1 y2 y3 y4 y5 y6 y7 y8 y9 y10 y11 y12)) ∧ (∀ y0 y1 y2 y3 y4 y5 y6 y7 y8 y9 y10 y11 y12, LeO (treebridgelaw02_LlcBack.j3 k y0 y1 y2 y3 y4 y5 y6 y7 y8 y9 y10 y11 y12) (treebridgelaw02_LlcBack.j3 (k + 1) y0 y1 y2 y3 y4 y5 y6 y7 y8 y9 y10 y11 y12)) ∧ (∀ y0 y1 y2 y3 y4 y5 y6 y7 y8 y9 y10 y11 y12, LeO (treebridgelaw02_LlcBack.j4 k y0 y1 y2 y3 y4 y5 y6 y7 y8 y9 y10 y11 y12) (treebridgelaw02_LlcBack.j4 (k + 1) y0 y1 y2 y3 y4 y5 y6 y7 y8 y9 y10 y11 y12))
  | 0 => ⟨fun _ _ _ _ _ r h => by simp [treebridgelaw02_LlcBack.j0] at h, fun _ _ _ _ _ r h => by simp [treebridgelaw02_LlcBack.l0] at h, fun _ _ _ _ _ _ _ _ _ _ _ _ _ r h => by simp [treebridgelaw02_LlcBack.j2] at h, fun _ _ _ _ _ _ _ _ _ _ _ _ _ r h => by simp [treebridgelaw02_LlcBack.j3] at h, fun _ _ _ _ _ _ _ _ _ _ _ _ _ r h => by simp [treebridgelaw02_LlcBack.j4] at h⟩
  | k + 1 => by
    obtain ⟨ih0, ih1, ih2, ih3, ih4⟩ := treebridgelaw02_LlcBack.mono_l k
    refine ⟨?_, ?_, ?_, ?_, ?_⟩
    · intro y0 y1 y2 y3 y4
      unfold treebridgelaw02_LlcBack.j0
      repeat' first
      | (with_reducible exact ih0 _ _ _ _ _)
      | (with_reducible exact ih1 _ _ _ _ _)
      | (with_reducible exact ih2 _ _ _ _ _ _ _ _ _ _ _ _ _)
      | (with_reducible exact ih3 _ _ _ _ _ _ _ _ _ _ _ _ _)
      | (with_reducible exact ih4 _ _ _ _ _ _ _ _ _ _ _ _ _)
      | (with_reducible exact frame_Right.mono _ _ _ _ _ _ _ _)
      | (with_reducible exact frame_With.mono _ _ _ _ _ _ _ _ _)
      | (with_reducible exact llc_Ieee.mono _ _ _)
      | (with_reducible exact llc_Inner.mono _ _ _ _ _ _ _ _)
      | (with_reducible exact llc_Kind.mono _ _ _ _ _ _ _ _)
      | (with_reducible exact llc_Sstp.mono _ _ _)
      | (with_reducible exact treebridgelaw02_awake.mono _)
      | (with_reducible exact LeO.refl _)
      | (with_reducible exact LeO.none _)
      | (with_reducible refine LeO.ite ?_ ?_)
      | (with_reducible refine LeO.bind ?_ (fun _ => ?_))
      | exact ih0 _ _ _ _ _
      | exact ih1 _ _ _ _ _
      | exact ih2 _ _ _ _ _ _ _ _ _ _ _ _ _
      | exact ih3 _ _ _ _ _ _ _ _ _ _ _ _ _
      | exact ih4 _ _ _ _ _ _ _ _ _ _ _ _ _
      | exact frame_Right.mono _ _ _ _ _ _ _ _
      | exact frame_With.mono _ _ _ _ _ _ _ _ _
      | exact llc_Ieee.mono _ _ _
      | exact llc_Inner.mono _ _ _ _ _ _ _ _
      | exact llc_Kind.mono _ _ _ _ _ _ _ _
      | exact llc_Sstp.mono _ _ _
      | exact treebridgelaw02_awake.mono _
      | exact LeO.none _
      | refine LeO.ite ?_ ?_
      | refine LeO.bind ?_ (fun _ => ?_)
    · intro y0 y1 y2 y3 y4
      unfold treebridgelaw02_LlcBack.l0
      repeat' first
      | (with_reducible exact ih0 _ _ _ _ _)
      | (with_reducible exact ih1 _ _ _ _ _)
      | (with_reducible exact ih2 _ _ _ _ _ _ _ _ _ _ _ _ _)
      | (with_reducible exact ih3 _ _ _ _ _ _ _ _ _ _ _ _ _)
      | (with_reducible exact ih4 _ _ _ _ _ _ _ _ _ _ _ _ _)
      | (with_reducible exact frame_Right.mono _ _ _ _ _ _ _ _)
      | (with_reducible exact frame_With.mono _ _ _ _ _ _ _ _ _)
      | (with_reducible exact llc_Ieee.mono _ _ _)
      | (with_reducible exact llc_Inner.mono _ _ _ _ _ _ _ _)
      | (with_reducible exact llc_Kind.mono _ _ _ _ _ _ _ _)
      | (with_reducible exact llc_Sstp.mono _ _ _)
      | (with_reducible exact treebridgelaw02_awake.mono _)
      | (with_reducible exact LeO.refl _)
      | (with_reducible exact LeO.none _)
      | (with_reducible refine LeO.ite ?_ ?_)
      | (with_reducible refine LeO.bind ?_ (fun _ => ?_))
      | exact ih0 _ _ _ _ _
      | exact ih1 _ _ _ _ _
      | exact ih2 _ _ _ _ _ _ _ _ _ _ _ _ _
      | exact ih3 _ _ _ _ _ _ _ _ _ _ _ _ _
      | exact ih4 _ _ _ _ _ _ _ _ _ _ _ _ _
      | exact frame_Right.mono _ _ _ _ _ _ _ _
      | exact frame_With.mono _ _ _ _ _ _ _ _ _
      | exact llc_Ieee.mono _ _ _
      | exact llc_Inner.mono _ _ _ _ _ _ _ _
      | exact llc_Kind.mono _ _ _ _ _ _ _ _
      | exact llc_Sstp.mono _ _ _
      | exact treebridgelaw02_awake.mono _
      | exact LeO.none _
      | refine LeO.ite ?_ ?_
      | refine LeO.bind ?_ (fun _ => ?_)
    · intro y0 y1 y2 y3 y4 y5 y6 y7 y8 y9 y10 y11 y12
      unfold treebridgelaw02_LlcBack.j2
      repeat' first
      | (with_reducible exact ih0 _ _ _ _ _)
      | (with_reducible exact ih1 _ _ _ _ _)
      | (with_reducible exact ih2 _ _ _ _ _ _ _ _ _ _ _ _ _)
      | (with_reducible exact ih3 _ _ _ _ _ _ _ _ _ _ _ _ _)
      | (with_reducible exact ih4 _ _ _ _ _ _ _ _ _ _ _ _ _)
      | (with_reducible exact frame_Right.mono _ _ _ _ _ _ _ _)
      | (with_reducible exact frame_With.mono _ _ _ _ _ _ _ _ _)
      | (with_reducible exact llc_Ieee.mono _ _ _)
      | (with_reducible exact llc_Inner.mono _ _ _ _ _ _ _ _)
      | (with_reducible exact llc_Kind.mono _ _ _ _ _ _ _ _)
      | (with_reducible exact llc_Sstp.mono _ _ _)
      | (with_reducible exact treebridgelaw02_awake.mono _)
      | (with_reducible exact LeO.refl _)
      | (with_reducible exact LeO.none _)
      | (with_reducible refine LeO.ite ?_ ?_)
      | (with_reducible refine LeO.bind ?_ (fun _ => ?_))
      | exact ih0 _ _ _ _ _
      | exact ih1 _ _ _ _ _
      | exact ih2 _ _ _ _ _ _ _ _ _ _ _ _ _
      | exact ih3 _ _ _ _ _ _ _ _ _ _ _ _ _
      | exact ih4 _ _ _ _ _ _ _ _ _ _ _ _ _
      | exact frame_Right.mono _ _ _ _ _ _ _ _
      | exact frame_With.mono _ _ _ _ _ _ _ _ _
      | exact llc_Ieee.mono _ _ _
      | exact llc_Inner.mono _ _ _ _ _ _ _ _
      | exact llc_Kind.mono _ _ _ _ _ _ _ _
      | exact llc_Sstp.mono _ _ _
      | exact treebridgelaw02_awake.mono _
      | exact LeO.none _
      | refine LeO.ite ?_ ?_
      | refine LeO.bind ?_ (fun _ => ?_)
    · intro y0 y1 y2 y3 y4 y5 y6 y7 y8 y9 y10 y11 y12
      unfold treebridgelaw02_LlcBack.j3
      repeat' first
      | (with_reducible exact ih0 _ _ _ _ _)
      | (with_reducible exact ih1 _ _ _ _ _)
      | (with_reducible exact ih2 _ _ _ _ _ _ _ _ _ _ _ _ _)
      | (with_reducible exact ih3 _ _ _ _ _ _ _ _ _ _ _ _ _)
      | (with_reducible exact ih4 _ _ _ _ _ _ _ _ _ _ _ _ _)
      | (with_reducible exact frame_Right.mono _ _ _ _ _ _ _ _)
      | (with_reducible exact frame_With.mono _ _ _ _ _ _ _ _ _)
      | (with_reducible exact llc_Ieee.mono _ _ _)
      | (with_reducible exact llc_Inner.mono _ _ _ _ _ _ _ _)
      | (with_reducible exact llc_Kind.mono _ _ _ _ _ _ _ _)
      | (with_reducible exact llc_Sstp.mono _ _ _)
      | (with_reducible exact treebridgelaw02_awake.mono _)
      | (with_reducible exact LeO.refl _)
      | (with_reducible exact LeO.none _)
      | (with_reducible refine LeO.ite ?_ ?_)
      | (with_reducible refine LeO.bind ?_ (fun _ => ?_))
      | exact ih0 _ _ _ _ _
      | exact ih1 _ _ _ _ _
      | exact ih2 _ _ _ _ _ _ _ _ _ _ _ _ _
      | exact ih3 _ _ _ _ _ _ _ _ _ _ _ _ _
      | exact ih4 _ _ _ _ _ _ _ _ _ _ _ _ _
      | exact frame_Right.mono _ _ _ _ _ _ _ _
      | exact frame_With.mono _ _ _ _ _ _ _ _ _
      | exact llc_Ieee.mono _ _ _
      | exact llc_Inner.mono _ _ _ _ _ _ _ _
      | exact llc_Kind.mono _ _ _ _ _ _ _ _
      | exact llc_Sstp.mono _ _ _
      | exact treebridgelaw02_awake.mono _
      | exact LeO.none _
      | refine LeO.ite ?_ ?_
      | refine LeO.bind ?_ (fun _ => ?_)
    · intro y0 y1 y2 y3 y4 y5 y6 y7 y8 y9 y10 y11 y12
      unfold treebridgelaw02_LlcBack.j4
      repeat' first
      | (with_reducible exact ih0 _ _ _ _ _)
      | (with_reducible exact ih1 _ _ _ _ _)
      | (with_reducible exact ih2 _ _ _ _ _ _ _ _ _ _ _ _ _)
      | (with_reducible exact ih3 _ _ _ _ _ _ _ _ _ _ _ _ _)
      | (with_reducible exact ih4 _ _ _ _ _ _ _ _ _ _ _ _ _)
      | (with_reducible exact frame_Right.mono _ _ _ _ _ _ _ _)
      | (with_reducible exact frame_With.mono _ _ _ _ _ _ _ _ _)
      | (with_reducible exact llc_Ieee.mono _ _ _)
      | (with_reducible exact llc_Inner.mono _ _ _ _ _ _ _ _)
      | (with_reducible exact llc_Kind.mono _ _ _ _ _ _ _ _)
      | (with_reducible exact llc_Sstp.mono _ _ _)
      | (with_reducible exact treebridgelaw02_awake.mono _)
      | (with_reducible exact LeO.refl _)
      | (with_reducible exact LeO.none _)
      | (with_reducible refine LeO.ite ?_ ?_)
      | (with_reducible refine LeO.bind ?_ (fun _ => ?_))
      | exact ih0 _ _ _ _ _
      | exact ih1 _ _ _ _ _
      | exact ih2 _ _ _ _ _ _ _ _ _ _ _ _ _
      | exact ih3 _ _ _ _ _ _ _ _ _ _ _ _ _
      | exact ih4 _ _ _ _ _ _ _ _ _ _ _ _ _
      | exact frame_Right.mono _ _ _ _ _ _ _ _
      | exact frame_With.mono _ _ _ _ _ _ _ _ _
      | exact llc_Ieee.mono _ _ _
      | exact llc_Inner.mono _ _ _ _ _ _ _ _
      | exact llc_Kind.mono _ _ _ _ _ _ _ _
      | exact llc_Sstp.mono _ _ _
      | exact treebridgelaw02_awake.mono _
      | exact LeO.none _
      | refine LeO.ite ?_ ?_
      | refine LeO.bind ?_ (fun _ => ?_)
theorem treebridgelaw02_LlcBack.mono : ∀ a0 a1 a2 a3 k, LeO (treebridgelaw02_LlcBack.f k a0 a1 a2 a3) (treebridgelaw02_LlcBack.f (k + 1) a0 a1 a2 a3) := by
  intro a0 a1 a2 a3 k
  obtain ⟨ih0, ih1, ih2, ih3, ih4⟩ := treebridgelaw02_LlcBack.mono_l k
  unfold treebridgelaw02_LlcBack.f
  repeat' first
      | (with_reducible exact ih0 _ _ _ _ _)
      | (with_reducible exact ih1 _ _ _ _ _)
      | (with_reducible exact ih2 _ _ _ _ _ _ _ _ _ _ _ _ _)
      | (with_reducible exact ih3 _ _ _ _ _ _ _ _ _ _ _ _ _)
      | (with_reducible exact ih4 _ _ _ _ _ _ _ _ _ _ _ _ _)
      | (with_reducible exact frame_Right.mono _ _ _ _ _ _ _ _)
      | (with_reducible exact frame_With.mono _ _ _ _ _ _ _ _ _)
      | (with_reducible exact llc_Ieee.mono _ _ _)
      | (with_reducible exact llc_Inner.mono _ _ _ _ _ _ _ _)
      | (with_reducible exact llc_Kind.mono _ _ _ _ _ _ _ _)
      | (with_reducible exact llc_Sstp.mono _ _ _)
      | (with_reducible exact treebridgelaw02_awake.mono _)
      | (with_reducible exact LeO.refl _)
      | (with_reducible exact LeO.none _)
      | (with_reducible refine LeO.ite ?_ ?_)
      | (with_reducible refine LeO.bind ?_ (fun _ => ?_))
      | exact ih0 _ _ _ _ _
      | exact ih1 _ _ _ _ _
      | exact ih2 _ _ _ _ _ _ _ _ _ _ _ _ _
      | exact ih3 _ _ _ _ _ _ _ _ _ _ _ _ _
      | exact ih4 _ _ _ _ _ _ _ _ _ _ _ _ _
      | exact frame_Right.mono _ _ _ _ _ _ _ _
      | exact frame_With.mono _ _ _ _ _ _ _ _ _
      | exact llc_Ieee.mono _ _ _
      | exact llc_Inner.mono _ _ _ _ _ _ _ _
      | exact llc_Kind.mono _ _ _ _ _ _ _ _
      | exact llc_Sstp.mono _ _ _
      | exact treebridgelaw02_awake.mono _
      | exact LeO.none _
      | refine LeO.ite ?_ ?_
      | refine LeO.bind ?_ (fun _ => ?_)
def treebridgelaw02_LlcBack.T22 : Bool × List (List Nat × List Nat) := (true, [([], []), ([0], [0]), ([], []), ([1, 2], [1, 2]), ([], []), ([], []), ([5], [5]), ([4, 6], [4, 6]), ([3, 7], [3, 7])])
def treebridgelaw02_LlcBack.B22 : List Nat := [0, 1, 0, 7, 0, 0, 32, 112, 255]
theorem treebridgelaw02_LlcBack.tab22 : rtab .any (opsOf Try.f4 22) = treebridgelaw02_LlcBack.T22 := by kernel_rfl
theorem treebridgelaw02_LlcBack.bits22 : waitsOk treebridgelaw02_LlcBack.T22.2 treebridgelaw02_LlcBack.B22 = true := by kernel_rfl
set_option maxHeartbeats 8000000 in
set_option maxRecDepth 100000 in
theorem treebridgelaw02_LlcBack.calls (k : Nat) (a0 : ByteArray) (a1 : ByteArray) (a2 : ByteArray) (a3 : Int) (r : Bool) (w : World) (h : treebridgelaw02_LlcBack.f k a0 a1 a2 a3 = some r) :
    Calls Try.prog 4 #[.string a0, .string a1, .string a2, .int .i64 a3] w fun e w' => e = .returned (.bool r) ∧ Below w.heap.size w w' := by
  have hu23 := Try.underlying23
  have HB := Aside0.mk (Below.refl w.heap.size w)
  have H : ((treebridgelaw02_awake.f k).bind fun t101 => (if t101 = true then (if (a0.size : Int) > 20 then (treebridgelaw02_LlcBack.j0 k a0 a1 a2 a3 true) else (if (a1.size : Int) > 1600 then (treebridgelaw02_LlcBack.j0 k a0 a1 a2 a3 true) else (treebridgelaw02_LlcBack.j0 k a0 a1 a2 a3 ((a2.size : Int) != 6)))) else (none))) = some r := h
  clear h
  replace H := Option.bind_eq_some_iff.mp H
  obtain ⟨t101, A50, H⟩ := H
  replace H : (if t101 = true then (if (a0.size : Int) > 20 then (treebridgelaw02_LlcBack.j0 k a0 a1 a2 a3 true) else (if (a1.size : Int) > 1600 then (treebridgelaw02_LlcBack.j0 k a0 a1 a2 a3 true) else (treebridgelaw02_LlcBack.j0 k a0 a1 a2 a3 ((a2.size : Int) != 6)))) else (none)) = some r := H
  have A5 := Aside0.mk A50
  clear A50
  by_cases c6 : t101 = true
  · subst c6
    have H1 : (if (a0.size : Int) > 20 then (treebridgelaw02_LlcBack.j0 k a0 a1 a2 a3 true) else (if (a1.size : Int) > 1600 then (treebridgelaw02_LlcBack.j0 k a0 a1 a2 a3 true) else (treebridgelaw02_LlcBack.j0 k a0 a1 a2 a3 ((a2.size : Int) != 6)))) = some r := by rw [if_pos rfl] at H; exact H
    clear H
    have H := H1
    clear H1
    have HC7 := Aside0.mk H
    clear H
    go_enter Try.func4, Try.ntmps4
    go_upto_region 3 with (first | ((with_reducible refine gate_callee (f := 15) rfl ?_); refine goesL_ (some 19) rfl rfl Try.func15 (by kernel_rfl) rfl #[] rfl (by (try simp only [List.map_toArray, List.map_cons, List.map_nil]); first | done | rfl | (simp only [List.length_drop, List.length_take]; rfl)) ?_; (with_reducible refine (treebridgelaw02_awake.calls k  true _ A5.out).mono ?_); rintro e w8 ⟨rfl, hb⟩; refine ⟨_, rfl, ?_⟩; have n0_ := Aside0.mk (below_step (by repeat (first | (with_reducible first | exact HB.out | apply below_alloc | apply pw_below_drewN | apply below_drew1) | exact HB.out)) hb); clear HB; have HB := n0_; clear n0_; (try clear hb); (try clear hb2); (try clear hk); (try clear hi)))
    (try simp only [Act.put, List.setIfInBounds_toArray, List.set_cons_zero, List.set_cons_succ])
    go_cut [33] (fun v33 wc => ∃ (kq : Nat) (x33_6 : Bool), v33 = .bool x33_6 ∧ Aside0 (treebridgelaw02_LlcBack.j0 kq a0 a1 a2 a3 x33_6 = some r) ∧ Aside0 (kq ≤ k) ∧ Aside0 (Below w.heap.size w wc))
    case first =>
      have H := HC7.out
      clear HC7
      by_cases c9 : (a0.size : Int) > 20
      · rw [if_pos c9] at H
        have c9b0 : decide (20 < (a0.size : Int)) = true := decide_eq_true c9
        have c9b1 : decide (20 < a0.size) = true := decide_eq_true (by omega)
        clear c9
        (first | rw [c9b0] | (simp only [i64_w, i32_w]; rw [c9b0]) | skip)
        have H' := Aside0.mk H
        clear H
        go_wp2
        go_meet
        case rel => exact ⟨_, (true), (by first | rfl | (simp; done) | (simp [*]; done)), H', ⟨by first | omega | exact Nat.le_refl _⟩, ⟨by repeat (first | (with_reducible first | exact HB.out | apply below_alloc | apply pw_below_drewN | apply below_drew1) | exact HB.out)⟩⟩
      · rw [if_neg c9] at H
        have c9b0 : decide (20 < (a0.size : Int)) = false := decide_eq_false c9
        have c9b1 : decide (20 < a0.size) = false := decide_eq_false (by omega)
        clear c9
        (first | rw [c9b0] | (simp only [i64_w, i32_w]; rw [c9b0]) | skip)
        by_cases c10 : (a1.size : Int) > 1600
        · rw [if_pos c10] at H
          have c10b0 : decide (1600 < (a1.size : Int)) = true := decide_eq_true c10
          have c10b1 : decide (1600 < a1.size) = true := decide_eq_true (by omega)
          clear c10
          have H' := Aside0.mk H
          clear H
          go_wp2
          go_meet
          case rel => exact ⟨_, (true), (by first | rfl | (simp; done) | (simp [*]; done)), H', ⟨by first | omega | exact Nat.le_refl _⟩, ⟨by repeat (first | (with_reducible first | exact HB.out | apply below_alloc | apply pw_below_drewN | apply below_drew1) | exact HB.out)⟩⟩
        · rw [if_neg c10] at H
          have c10b0 : decide (1600 < (a1.size : Int)) = false := decide_eq_false c10
          have c10b1 : decide (1600 < a1.size) = false := decide_eq_false (by omega)
          clear c10
          have H' := Aside0.mk H
          clear H
          go_wp2
          go_meet
          case rel => exact ⟨_, (((a2.size : Int) != 6)), (by first | rfl | (simp; done) | (simp [*]; done)), H', ⟨by first | omega | exact Nat.le_refl _⟩, ⟨by repeat (first | (with_reducible first | exact HB.out | apply below_alloc | apply pw_below_drewN | apply below_drew1) | exact HB.out)⟩⟩
    case rest =>
      clear HC7
      try clear c1
      try clear p2
      try clear c4
      try clear c6
      try clear c9
      try clear c9b0
      try clear c9b1
      try clear c10
      try clear c10b0
      try clear c10b1
      obtain ⟨kq, x33_6, rfl, HA, HJ6, HB⟩ := hcut
      cases kq with
      | zero => exact absurd HA.out (by simp [treebridgelaw02_LlcBack.j0])
      | succ kj6 =>
        have H := HA.out
        clear HA
        simp only [treebridgelaw02_LlcBack.j0] at H
        by_cases c11 : x33_6 = true
        · subst c11
          have H1 : (some true) = some r := by rw [if_pos rfl] at H; exact H
          clear H
          have H := H1
          clear H1
          obtain rfl := Option.some.inj H
          go_wp2
          go_ret
          exact ⟨by first | rfl | (simp [errW_none, errW_some] <;> rfl) | (simp [*, errW_none, errW_some] <;> rfl), by repeat (first | (with_reducible first | exact HB.out | apply below_alloc | apply pw_below_drewN | apply below_drew1) | exact HB.out)⟩
        · replace c11 := Bool.eq_false_iff.mpr c11
          subst c11
          have H1 : (treebridgelaw02_LlcBack.l0 kj6 a0 a1 a2 a3 1) = some r := by rw [if_neg (show ¬ (false = true) by decide)] at H; exact H
          clear H
          have H := H1
          clear H1
          have H' := Aside0.mk H
          clear H
          go_wp2
          go_loopg [9] kj6 (fun kq v9 w' => ∃ (x9_2 : Int), v9 = .int .i64 x9_2 ∧ Aside0 (treebridgelaw02_LlcBack.l0 kq a0 a1 a2 a3 x9_2 = some r) ∧ Aside0 (kq ≤ kj6) ∧ Aside0 (Below w.heap.size w w'))
          case atStart => exact ⟨(1), (by first | rfl | (simp; done) | (simp [*]; done)), H', ⟨Nat.le_refl _⟩, ⟨by repeat (first | (with_reducible first | exact HB.out | apply below_alloc | apply pw_below_drewN | apply below_drew1) | exact HB.out)⟩⟩
          case round =>
            clear H'
            try clear c1
            try clear p2
            try clear c4
            try clear c6
            try clear c9
            try clear c9b0
            try clear c9b1
            try clear c10
            try clear c10b0
            try clear c10b1
            try clear c11
            try clear p2
            obtain ⟨x9_2, rfl, HA, HK2, HB⟩ := hrel
            cases gk with
            | zero => exact absurd HA.out (by simp [treebridgelaw02_LlcBack.l0])
            | succ k2 =>
              have H := HA.out
              clear HA
              simp only [treebridgelaw02_LlcBack.l0] at H
              by_cases c12 : x9_2 < 3
              · rw [if_pos c12] at H
                have c12b0 : decide (x9_2 < 3) = true := decide_eq_true c12
                clear c12
                replace H := Option.bind_eq_some_iff.mp H
                obtain ⟨⟨t102, t103, t104, t105, t106, t107, t108, t109⟩, A130, H⟩ := H
                replace H : (if x9_2 = 2 then ((llc_Sstp.f k2 a0 a1).bind fun bt111 => (treebridgelaw02_LlcBack.j2 k2 a0 a1 a2 a3 x9_2 bt111.2.2.2.2.2.2.2 bt111.1 bt111.2.1 bt111.2.2.1 bt111.2.2.2.1 bt111.2.2.2.2.1 bt111.2.2.2.2.2.1 bt111.2.2.2.2.2.2.1)) else (treebridgelaw02_LlcBack.j2 k2 a0 a1 a2 a3 x9_2 t109 t102 t103 t104 t105 t106 t107 t108)) = some r := H
                have A13 := Aside0.mk A130
                clear A130
                have HC14 := Aside0.mk H
                clear H
                go_upto_if 45 with (first | ((with_reducible refine gate_callee (f := 19) rfl ?_); refine goesL_ (some 41) rfl rfl Try.func19 (by kernel_rfl) rfl #[.string a0, .string a1] rfl (by (try simp only [List.map_toArray, List.map_cons, List.map_nil]); first | done | rfl | (simp only [List.length_drop, List.length_take]; rfl)) ?_; (with_reducible refine (llc_Ieee.calls k2 a0 a1 t102 t103 t104 t105 t106 t107 t108 t109 _ A13.out).mono ?_); rintro e w15 ⟨rfl, hb⟩; refine ⟨_, rfl, ?_⟩; have n0_ := Aside0.mk (below_step (by repeat (first | (with_reducible first | exact HB.out | apply below_alloc | apply pw_below_drewN | apply below_drew1) | exact HB.out)) hb); clear HB; have HB := n0_; clear n0_; (try clear hb); (try clear hb2); (try clear hk); (try clear hi)) | ((with_reducible refine gate_dst (N := 10) rfl ?_); (try (refine gate_guard (by rfl) ?_; dsimp only)); refine box_event ?hg (N := 10) ?hd (cs := #[.string (⟨#[]⟩ : ByteArray), .string (⟨#[]⟩ : ByteArray), .bool false, .int .i64 0, .int .i64 0, .int .i64 0, .string (⟨#[]⟩ : ByteArray)]) (t := 23) ?hr ?_; (case hd => rfl); (case hg => rfl); (case hr => first | (go_simp; done) | (go_simp; rfl)); intro gb110 hg w16 hbox hb; have n0_ := Aside0.mk (below_step (by repeat (first | (with_reducible first | exact HB.out | apply below_alloc | apply pw_below_drewN | apply below_drew1) | exact HB.out)) hb); have n1_ := Aside0.mk (hbox); have n2_ := Aside0.mk ((by rw [hg]; exact (below_size (by repeat (first | (with_reducible first | exact HB.out | apply below_alloc | apply pw_below_drewN | apply below_drew1) | exact HB.out))) : w.heap.size ≤ gb110)); have n3_ := Aside0.mk ((by rw [hg]; exact (below_size (by repeat (first | (with_reducible first | exact HB.out | apply below_alloc | apply pw_below_drewN | apply below_drew1) | exact HB.out))) : w.heap.size ≤ gb110)); clear HB; have HB := n0_; have BK110 := n1_; have GW110 := n2_; have GE110 := n3_; clear n0_ n1_ n2_ n3_; clear hb hbox hg; have hcz17_0 : w16.cell? ⟨gb110, 0, none⟩ = some (.string (⟨#[]⟩ : ByteArray)) := (blk_cell BK110.out 0).trans rfl; have hcz17_1 : w16.cell? ⟨gb110, 1, none⟩ = some (.string (⟨#[]⟩ : ByteArray)) := (blk_cell BK110.out 1).trans rfl; have hcz17_2 : w16.cell? ⟨gb110, 2, none⟩ = some (.bool false) := (blk_cell BK110.out 2).trans rfl; have hcz17_3 : w16.cell? ⟨gb110, 3, none⟩ = some (.int .i64 0) := (blk_cell BK110.out 3).trans rfl; have hcz17_4 : w16.cell? ⟨gb110, 4, none⟩ = some (.int .i64 0) := (blk_cell BK110.out 4).trans rfl; have hcz17_5 : w16.cell? ⟨gb110, 5, none⟩ = some (.int .i64 0) := (blk_cell BK110.out 5).trans rfl; have hcz17_6 : w16.cell? ⟨gb110, 6, none⟩ = some (.string (⟨#[]⟩ : ByteArray)) := (blk_cell BK110.out 6).trans rfl; have hfz17_0 := blk_frozen BK110.out 0; have hfz17_1 := blk_frozen BK110.out 1; have hfz17_2 := blk_frozen BK110.out 2; have hfz17_3 := blk_frozen BK110.out 3; have hfz17_4 := blk_frozen BK110.out 4; have hfz17_5 := blk_frozen BK110.out 5; have hfz17_6 := blk_frozen BK110.out 6))
                (try simp only [Act.put, List.setIfInBounds_toArray, List.set_cons_zero, List.set_cons_succ])
                go_cut [11] (fun v11 wc => ∃ (kq : Nat) (x11_13 : Int) (x111000_13 : ByteArray) (x111001_13 : ByteArray) (x111002_13 : Bool) (x111003_13 : Int) (x111004_13 : Int) (x111005_13 : Int) (x111006_13 : ByteArray), v11 = .int .i64 x11_13 ∧ Aside0 (treebridgelaw02_LlcBack.j2 kq a0 a1 a2 a3 x9_2 x11_13 x111000_13 x111001_13 x111002_13 x111003_13 x111004_13 x111005_13 x111006_13 = some r) ∧ Aside0 (kq ≤ k2) ∧ Aside0 (wc.heap[gb110]? = some (.cells #[.string x111000_13, .string x111001_13, .bool x111002_13, .int .i64 x111003_13, .int .i64 x111004_13, .int .i64 x111005_13, .string x111006_13] 23 (0, 0))) ∧ Aside0 (Below w.heap.size w wc))
                case first =>
                  have H := HC14.out
                  clear HC14
                  by_cases c18 : x9_2 = 2
                  · rw [if_pos c18] at H
                    have c18b0 : (x9_2 == 2) = true := beq_iff_eq.mpr c18
                    have c18b1 : (x9_2 != 2) = false := bne_eq_false_iff_eq.mpr c18
                    clear c18
                    (first | rw [c18b0] | (simp only [i64_w, i32_w]; rw [c18b0]) | skip)
                    replace H := Option.bind_eq_some_iff.mp H
                    obtain ⟨⟨t111, t112, t113, t114, t115, t116, t117, t118⟩, A190, H⟩ := H
                    replace H : (treebridgelaw02_LlcBack.j2 k2 a0 a1 a2 a3 x9_2 t118 t111 t112 t113 t114 t115 t116 t117) = some r := H
                    have A19 := Aside0.mk A190
                    clear A190
                    have H' := Aside0.mk H
                    clear H
                    go_wp2_with (first | ((with_reducible refine gate_callee (f := 21) rfl ?_); refine goesL_ (some 49) rfl rfl Try.func21 (by kernel_rfl) rfl #[.string a0, .string a1] rfl (by (try simp only [List.map_toArray, List.map_cons, List.map_nil]); first | done | rfl | (simp only [List.length_drop, List.length_take]; rfl)) ?_; (with_reducible refine (llc_Sstp.calls k2 a0 a1 t111 t112 t113 t114 t115 t116 t117 t118 _ A19.out).mono ?_); rintro e w20 ⟨rfl, hb⟩; refine ⟨_, rfl, ?_⟩; have n0_ := Aside0.mk (blk_below (g := gb110) (o := .cells #[.string t102, .string t103, .bool t104, .int .i64 t105, .int .i64 t106, .int .i64 t107, .string t108] 23 (0, 0)) (by (with_reducible repeat (first | refine blk_drewN ?_ _ | refine blk_drew ?_ | refine blk_alloc ?_ _)); refine blk_put (cs := #[.string t102, .string t103, .bool t104, .int .i64 t105, .int .i64 t106, .int .i64 t107, .string (⟨#[]⟩ : ByteArray)]) ?_ 6 _ rfl; (with_reducible repeat (first | refine blk_drewN ?_ _ | refine blk_drew ?_ | refine blk_alloc ?_ _)); refine blk_put (cs := #[.string t102, .string t103, .bool t104, .int .i64 t105, .int .i64 t106, .int .i64 0, .string (⟨#[]⟩ : ByteArray)]) ?_ 5 _ rfl; (with_reducible repeat (first | refine blk_drewN ?_ _ | refine blk_drew ?_ | refine blk_alloc ?_ _)); refine blk_put (cs := #[.string t102, .string t103, .bool t104, .int .i64 t105, .int .i64 0, .int .i64 0, .string (⟨#[]⟩ : ByteArray)]) ?_ 4 _ rfl; (with_reducible repeat (first | refine blk_drewN ?_ _ | refine blk_drew ?_ | refine blk_alloc ?_ _)); refine blk_put (cs := #[.string t102, .string t103, .bool t104, .int .i64 0, .int .i64 0, .int .i64 0, .string (⟨#[]⟩ : ByteArray)]) ?_ 3 _ rfl; (with_reducible repeat (first | refine blk_drewN ?_ _ | refine blk_drew ?_ | refine blk_alloc ?_ _)); refine blk_put (cs := #[.string t102, .string t103, .bool false, .int .i64 0, .int .i64 0, .int .i64 0, .string (⟨#[]⟩ : ByteArray)]) ?_ 2 _ rfl; (with_reducible repeat (first | refine blk_drewN ?_ _ | refine blk_drew ?_ | refine blk_alloc ?_ _)); refine blk_put (cs := #[.string t102, .string (⟨#[]⟩ : ByteArray), .bool false, .int .i64 0, .int .i64 0, .int .i64 0, .string (⟨#[]⟩ : ByteArray)]) ?_ 1 _ rfl; (with_reducible repeat (first | refine blk_drewN ?_ _ | refine blk_drew ?_ | refine blk_alloc ?_ _)); refine blk_put (cs := #[.string (⟨#[]⟩ : ByteArray), .string (⟨#[]⟩ : ByteArray), .bool false, .int .i64 0, .int .i64 0, .int .i64 0, .string (⟨#[]⟩ : ByteArray)]) ?_ 0 _ rfl; (with_reducible repeat (first | refine blk_drewN ?_ _ | refine blk_drew ?_ | refine blk_alloc ?_ _)); exact BK110.out) hb); have n1_ := Aside0.mk (below_step (by repeat (first | (with_reducible first | exact HB.out | apply below_alloc | apply pw_below_drewN | apply below_drew1 | refine below_set ?_ GE110.out) | exact HB.out)) hb); clear BK110; clear HB; have BK110 := n0_; have HB := n1_; clear n0_ n1_; (try clear hb); (try clear hb2); (try clear hk); (try clear hi); have hcz21_0 : w20.cell? ⟨gb110, 0, none⟩ = some (.string t102) := (blk_cell BK110.out 0).trans rfl; have hcz21_1 : w20.cell? ⟨gb110, 1, none⟩ = some (.string t103) := (blk_cell BK110.out 1).trans rfl; have hcz21_2 : w20.cell? ⟨gb110, 2, none⟩ = some (.bool t104) := (blk_cell BK110.out 2).trans rfl; have hcz21_3 : w20.cell? ⟨gb110, 3, none⟩ = some (.int .i64 t105) := (blk_cell BK110.out 3).trans rfl; have hcz21_4 : w20.cell? ⟨gb110, 4, none⟩ = some (.int .i64 t106) := (blk_cell BK110.out 4).trans rfl; have hcz21_5 : w20.cell? ⟨gb110, 5, none⟩ = some (.int .i64 t107) := (blk_cell BK110.out 5).trans rfl; have hcz21_6 : w20.cell? ⟨gb110, 6, none⟩ = some (.string t108) := (blk_cell BK110.out 6).trans rfl; have hfz21_0 := blk_frozen BK110.out 0; have hfz21_1 := blk_frozen BK110.out 1; have hfz21_2 := blk_frozen BK110.out 2; have hfz21_3 := blk_frozen BK110.out 3; have hfz21_4 := blk_frozen BK110.out 4; have hfz21_5 := blk_frozen BK110.out 5; have hfz21_6 := blk_frozen BK110.out 6))
                    go_meet
                    case rel => exact ⟨_, (t118), (t111), (t112), (t113), (t114), (t115), (t116), (t117), (by first | rfl | (simp; done) | (simp [*]; done)), H', ⟨by have := HJ6.out; have := HK2.out; first | omega | exact Nat.le_refl _⟩, ⟨by (with_reducible repeat (first | refine blk_drewN ?_ _ | refine blk_drew ?_ | refine blk_alloc ?_ _)); refine blk_put (cs := #[.string t111, .string t112, .bool t113, .int .i64 t114, .int .i64 t115, .int .i64 t116, .string t108]) ?_ 6 _ rfl; (with_reducible repeat (first | refine blk_drewN ?_ _ | refine blk_drew ?_ | refine blk_alloc ?_ _)); refine blk_put (cs := #[.string t111, .string t112, .bool t113, .int .i64 t114, .int .i64 t115, .int .i64 t107, .string t108]) ?_ 5 _ rfl; (with_reducible repeat (first | refine blk_drewN ?_ _ | refine blk_drew ?_ | refine blk_alloc ?_ _)); refine blk_put (cs := #[.string t111, .string t112, .bool t113, .int .i64 t114, .int .i64 t106, .int .i64 t107, .string t108]) ?_ 4 _ rfl; (with_reducible repeat (first | refine blk_drewN ?_ _ | refine blk_drew ?_ | refine blk_alloc ?_ _)); refine blk_put (cs := #[.string t111, .string t112, .bool t113, .int .i64 t105, .int .i64 t106, .int .i64 t107, .string t108]) ?_ 3 _ rfl; (with_reducible repeat (first | refine blk_drewN ?_ _ | refine blk_drew ?_ | refine blk_alloc ?_ _)); refine blk_put (cs := #[.string t111, .string t112, .bool t104, .int .i64 t105, .int .i64 t106, .int .i64 t107, .string t108]) ?_ 2 _ rfl; (with_reducible repeat (first | refine blk_drewN ?_ _ | refine blk_drew ?_ | refine blk_alloc ?_ _)); refine blk_put (cs := #[.string t111, .string t103, .bool t104, .int .i64 t105, .int .i64 t106, .int .i64 t107, .string t108]) ?_ 1 _ rfl; (with_reducible repeat (first | refine blk_drewN ?_ _ | refine blk_drew ?_ | refine blk_alloc ?_ _)); refine blk_put (cs := #[.string t102, .string t103, .bool t104, .int .i64 t105, .int .i64 t106, .int .i64 t107, .string t108]) ?_ 0 _ rfl; (with_reducible repeat (first | refine blk_drewN ?_ _ | refine blk_drew ?_ | refine blk_alloc ?_ _)); exact BK110.out⟩, ⟨by repeat (first | (with_reducible first | exact HB.out | apply below_alloc | apply pw_below_drewN | apply below_drew1 | refine below_set ?_ GE110.out) | exact HB.out)⟩⟩
                  · rw [if_neg c18] at H
                    have c18b0 : (x9_2 == 2) = false := beq_eq_false_iff_ne.mpr c18
                    have c18b1 : (x9_2 != 2) = true := bne_iff_ne.mpr c18
                    (first | rw [c18b0] | (simp only [i64_w, i32_w]; rw [c18b0]) | skip)
                    have H' := Aside0.mk H
                    clear H
                    go_wp2
                    go_meet
                    case rel => exact ⟨_, (t109), (t102), (t103), (t104), (t105), (t106), (t107), (t108), (by first | rfl | (simp; done) | (simp [*]; done)), H', ⟨by have := HJ6.out; have := HK2.out; first | omega | exact Nat.le_refl _⟩, ⟨by (with_reducible repeat (first | refine blk_drewN ?_ _ | refine blk_drew ?_ | refine blk_alloc ?_ _)); refine blk_put (cs := #[.string t102, .string t103, .bool t104, .int .i64 t105, .int .i64 t106, .int .i64 t107, .string (⟨#[]⟩ : ByteArray)]) ?_ 6 _ rfl; (with_reducible repeat (first | refine blk_drewN ?_ _ | refine blk_drew ?_ | refine blk_alloc ?_ _)); refine blk_put (cs := #[.string t102, .string t103, .bool t104, .int .i64 t105, .int .i64 t106, .int .i64 0, .string (⟨#[]⟩ : ByteArray)]) ?_ 5 _ rfl; (with_reducible repeat (first | refine blk_drewN ?_ _ | refine blk_drew ?_ | refine blk_alloc ?_ _)); refine blk_put (cs := #[.string t102, .string t103, .bool t104, .int .i64 t105, .int .i64 0, .int .i64 0, .string (⟨#[]⟩ : ByteArray)]) ?_ 4 _ rfl; (with_reducible repeat (first | refine blk_drewN ?_ _ | refine blk_drew ?_ | refine blk_alloc ?_ _)); refine blk_put (cs := #[.string t102, .string t103, .bool t104, .int .i64 0, .int .i64 0, .int .i64 0, .string (⟨#[]⟩ : ByteArray)]) ?_ 3 _ rfl; (with_reducible repeat (first | refine blk_drewN ?_ _ | refine blk_drew ?_ | refine blk_alloc ?_ _)); refine blk_put (cs := #[.string t102, .string t103, .bool false, .int .i64 0, .int .i64 0, .int .i64 0, .string (⟨#[]⟩ : ByteArray)]) ?_ 2 _ rfl; (with_reducible repeat (first | refine blk_drewN ?_ _ | refine blk_drew ?_ | refine blk_alloc ?_ _)); refine blk_put (cs := #[.string t102, .string (⟨#[]⟩ : ByteArray), .bool false, .int .i64 0, .int .i64 0, .int .i64 0, .string (⟨#[]⟩ : ByteArray)]) ?_ 1 _ rfl; (with_reducible repeat (first | refine blk_drewN ?_ _ | refine blk_drew ?_ | refine blk_alloc ?_ _)); refine blk_put (cs := #[.string (⟨#[]⟩ : ByteArray), .string (⟨#[]⟩ : ByteArray), .bool false, .int .i64 0, .int .i64 0, .int .i64 0, .string (⟨#[]⟩ : ByteArray)]) ?_ 0 _ rfl; (with_reducible repeat (first | refine blk_drewN ?_ _ | refine blk_drew ?_ | refine blk_alloc ?_ _)); exact BK110.out⟩, ⟨by repeat (first | (with_reducible first | exact HB.out | apply below_alloc | apply pw_below_drewN | apply below_drew1 | refine below_set ?_ GE110.out) | exact HB.out)⟩⟩
                case rest =>
                  clear HC14
                  try clear c1
                  try clear c2
                  try clear p2
                  try clear c4
                  try clear c6
                  try clear c9
                  try clear c9b0
                  try clear c9b1
                  try clear c10
                  try clear c10b0
                  try clear c10b1
                  try clear c11
                  try clear c12
                  try clear c12b0
                  try clear c15
                  try clear c18
                  try clear c18b0
                  try clear c18b1
                  try clear c19
                  try clear c21
                  try clear hcz17_0
                  try clear hcz17_1
                  try clear hcz17_2
                  try clear hcz17_3
                  try clear hcz17_4
                  try clear hcz17_5
                  try clear hcz17_6
                  try clear hcz21_0
                  try clear hcz21_1
                  try clear hcz21_2
                  try clear hcz21_3
                  try clear hcz21_4
                  try clear hcz21_5
                  try clear hcz21_6
                  try clear hfz17_0
                  try clear hfz17_1
                  try clear hfz17_2
                  try clear hfz17_3
                  try clear hfz17_4
                  try clear hfz17_5
                  try clear hfz17_6
                  try clear hfz21_0
                  try clear hfz21_1
                  try clear hfz21_2
                  try clear hfz21_3
                  try clear hfz21_4
                  try clear hfz21_5
                  try clear hfz21_6
                  try clear p2
                  obtain ⟨kq, x11_13, x111000_13, x111001_13, x111002_13, x111003_13, x111004_13, x111005_13, x111006_13, rfl, HA, HJ13, BK110, HB⟩ := hcut
                  cases kq with
                  | zero => exact absurd HA.out (by simp [treebridgelaw02_LlcBack.j2])
                  | succ kj13 =>
                    have H := HA.out
                    clear HA
                    simp only [treebridgelaw02_LlcBack.j2] at H
                    by_cases c22 : x11_13 = 0
                    · rw [if_pos c22] at H
                      have c22b0 : (x11_13 == 0) = true := beq_iff_eq.mpr c22
                      have c22b1 : (x11_13 != 0) = false := bne_eq_false_iff_eq.mpr c22
                      clear c22
                      replace H := Option.bind_eq_some_iff.mp H
                      obtain ⟨⟨t119, t120⟩, A230, H⟩ := H
                      replace H : ((llc_Kind.f kj13 x111000_13 x111001_13 x111002_13 x111003_13 x111004_13 x111005_13 x111006_13).bind fun t121 => (if t121 = x9_2 then (if t119.toList = a1.toList then (if t120 = 0 then ((frame_Right.f kj13 x111000_13 x111001_13 x111002_13 x111003_13 x111004_13 x111005_13 x111006_13).bind fun t122 => (if t122 = true then (treebridgelaw02_LlcBack.j3 kj13 a0 a1 a2 a3 x9_2 x111002_13 x111000_13 x111001_13 x111002_13 x111003_13 x111004_13 x111005_13 x111006_13) else (none))) else (none)) else (none)) else (none))) = some r := H
                      have A23 := Aside0.mk A230
                      clear A230
                      have HC24 := Aside0.mk H
                      clear H
                      have hcz25_0 : wc.cell? ⟨gb110, 0, none⟩ = some (.string x111000_13) := (blk_cell BK110.out 0).trans rfl
                      have hcz25_1 : wc.cell? ⟨gb110, 1, none⟩ = some (.string x111001_13) := (blk_cell BK110.out 1).trans rfl
                      have hcz25_2 : wc.cell? ⟨gb110, 2, none⟩ = some (.bool x111002_13) := (blk_cell BK110.out 2).trans rfl
                      have hcz25_3 : wc.cell? ⟨gb110, 3, none⟩ = some (.int .i64 x111003_13) := (blk_cell BK110.out 3).trans rfl
                      have hcz25_4 : wc.cell? ⟨gb110, 4, none⟩ = some (.int .i64 x111004_13) := (blk_cell BK110.out 4).trans rfl
                      have hcz25_5 : wc.cell? ⟨gb110, 5, none⟩ = some (.int .i64 x111005_13) := (blk_cell BK110.out 5).trans rfl
                      have hcz25_6 : wc.cell? ⟨gb110, 6, none⟩ = some (.string x111006_13) := (blk_cell BK110.out 6).trans rfl
                      have hfz25_0 := blk_frozen BK110.out 0
                      have hfz25_1 := blk_frozen BK110.out 1
                      have hfz25_2 := blk_frozen BK110.out 2
                      have hfz25_3 := blk_frozen BK110.out 3
                      have hfz25_4 := blk_frozen BK110.out 4
                      have hfz25_5 := blk_frozen BK110.out 5
                      have hfz25_6 := blk_frozen BK110.out 6
                      go_upto_region 13 with (first | ((with_reducible refine gate_callee (f := 17) rfl ?_); refine goesL_ (some 56) rfl rfl Try.func17 (by kernel_rfl) rfl #[.agg #[.string x111000_13, .string x111001_13, .bool x111002_13, .int .i64 x111003_13, .int .i64 x111004_13, .int .i64 x111005_13, .string x111006_13]] rfl (by (try simp only [List.map_toArray, List.map_cons, List.map_nil]); first | done | rfl | (simp only [List.length_drop, List.length_take]; rfl)) ?_; (with_reducible refine (llc_Inner.calls kj13 x111000_13 x111001_13 x111002_13 x111003_13 x111004_13 x111005_13 x111006_13 t119 t120 _ A23.out).mono ?_); rintro e w26 ⟨rfl, hb⟩; refine ⟨_, rfl, ?_⟩; have n0_ := Aside0.mk (blk_below (g := gb110) (o := .cells #[.string x111000_13, .string x111001_13, .bool x111002_13, .int .i64 x111003_13, .int .i64 x111004_13, .int .i64 x111005_13, .string x111006_13] 23 (0, 0)) (by (with_reducible repeat (first | refine blk_drewN ?_ _ | refine blk_drew ?_ | refine blk_alloc ?_ _)); exact BK110.out) hb); have n1_ := Aside0.mk (below_step (by repeat (first | (with_reducible first | exact HB.out | apply below_alloc | apply pw_below_drewN | apply below_drew1 | refine below_set ?_ GE110.out) | exact HB.out)) hb); clear BK110; clear HB; have BK110 := n0_; have HB := n1_; clear n0_ n1_; (try clear hb); (try clear hb2); (try clear hk); (try clear hi)))
                      (try simp only [Act.put, List.setIfInBounds_toArray, List.set_cons_zero, List.set_cons_succ])
                      go_cut [80] (fun v80 wc => ∃ (kq : Nat) (x80_23 : Bool), v80 = .bool x80_23 ∧ Aside0 (treebridgelaw02_LlcBack.j3 kq a0 a1 a2 a3 x9_2 x80_23 x111000_13 x111001_13 x111002_13 x111003_13 x111004_13 x111005_13 x111006_13 = some r) ∧ Aside0 (kq ≤ kj13) ∧ Aside0 (wc.heap[gb110]? = some (.cells #[.string x111000_13, .string x111001_13, .bool x111002_13, .int .i64 x111003_13, .int .i64 x111004_13, .int .i64 x111005_13, .string x111006_13] 23 (0, 0))) ∧ Aside0 (Below w.heap.size w wc))
                      case first =>
                        have H := HC24.out
                        clear HC24
                        replace H := Option.bind_eq_some_iff.mp H
                        obtain ⟨t121, A270, H⟩ := H
                        replace H : (if t121 = x9_2 then (if t119.toList = a1.toList then (if t120 = 0 then ((frame_Right.f kj13 x111000_13 x111001_13 x111002_13 x111003_13 x111004_13 x111005_13 x111006_13).bind fun t122 => (if t122 = true then (treebridgelaw02_LlcBack.j3 kj13 a0 a1 a2 a3 x9_2 x111002_13 x111000_13 x111001_13 x111002_13 x111003_13 x111004_13 x111005_13 x111006_13) else (none))) else (none)) else (none)) else (none)) = some r := H
                        have A27 := Aside0.mk A270
                        clear A270
                        by_cases c28 : t121 = x9_2
                        · rw [if_pos c28] at H
                          have c28b0 : (t121 == x9_2) = true := beq_iff_eq.mpr c28
                          have c28b1 : (t121 != x9_2) = false := bne_eq_false_iff_eq.mpr c28
                          clear c28
                          (first | rw [c28b0] | (simp only [i64_w, i32_w]; rw [c28b0]) | skip)
                          by_cases c29 : t119.toList = a1.toList
                          · rw [if_pos c29] at H
                            have c29b0 : (t119.toList == a1.toList) = true := beq_iff_eq.mpr c29
                            have c29b1 : (t119.toList != a1.toList) = false := bne_eq_false_iff_eq.mpr c29
                            clear c29
                            by_cases c30 : t120 = 0
                            · rw [if_pos c30] at H
                              have c30b0 : (t120 == 0) = true := beq_iff_eq.mpr c30
                              have c30b1 : (t120 != 0) = false := bne_eq_false_iff_eq.mpr c30
                              clear c30
                              replace H := Option.bind_eq_some_iff.mp H
                              obtain ⟨t122, A310, H⟩ := H
                              replace H : (if t122 = true then (treebridgelaw02_LlcBack.j3 kj13 a0 a1 a2 a3 x9_2 x111002_13 x111000_13 x111001_13 x111002_13 x111003_13 x111004_13 x111005_13 x111006_13) else (none)) = some r := H
                              have A31 := Aside0.mk A310
                              clear A310
                              by_cases c32 : t122 = true
                              · subst c32
                                have H1 : (treebridgelaw02_LlcBack.j3 kj13 a0 a1 a2 a3 x9_2 x111002_13 x111000_13 x111001_13 x111002_13 x111003_13 x111004_13 x111005_13 x111006_13) = some r := by rw [if_pos rfl] at H; exact H
                                clear H
                                have H := H1
                                clear H1
                                have H' := Aside0.mk H
                                clear H
                                have hcz33_0 : w26.cell? ⟨gb110, 0, none⟩ = some (.string x111000_13) := (blk_cell BK110.out 0).trans rfl
                                have hcz33_1 : w26.cell? ⟨gb110, 1, none⟩ = some (.string x111001_13) := (blk_cell BK110.out 1).trans rfl
                                have hcz33_2 : w26.cell? ⟨gb110, 2, none⟩ = some (.bool x111002_13) := (blk_cell BK110.out 2).trans rfl
                                have hcz33_3 : w26.cell? ⟨gb110, 3, none⟩ = some (.int .i64 x111003_13) := (blk_cell BK110.out 3).trans rfl
                                have hcz33_4 : w26.cell? ⟨gb110, 4, none⟩ = some (.int .i64 x111004_13) := (blk_cell BK110.out 4).trans rfl
                                have hcz33_5 : w26.cell? ⟨gb110, 5, none⟩ = some (.int .i64 x111005_13) := (blk_cell BK110.out 5).trans rfl
                                have hcz33_6 : w26.cell? ⟨gb110, 6, none⟩ = some (.string x111006_13) := (blk_cell BK110.out 6).trans rfl
                                have hfz33_0 := blk_frozen BK110.out 0
                                have hfz33_1 := blk_frozen BK110.out 1
                                have hfz33_2 := blk_frozen BK110.out 2
                                have hfz33_3 := blk_frozen BK110.out 3
                                have hfz33_4 := blk_frozen BK110.out 4
                                have hfz33_5 := blk_frozen BK110.out 5
                                have hfz33_6 := blk_frozen BK110.out 6
                                go_wp2_with (first | ((with_reducible refine gate_callee (f := 24) rfl ?_); refine goesL_ (some 60) rfl rfl Try.func24 (by kernel_rfl) rfl #[.agg #[.string x111000_13, .string x111001_13, .bool x111002_13, .int .i64 x111003_13, .int .i64 x111004_13, .int .i64 x111005_13, .string x111006_13]] rfl (by (try simp only [List.map_toArray, List.map_cons, List.map_nil]); first | done | rfl | (simp only [List.length_drop, List.length_take]; rfl)) ?_; (with_reducible refine (llc_Kind.calls kj13 x111000_13 x111001_13 x111002_13 x111003_13 x111004_13 x111005_13 x111006_13 t121 _ A27.out).mono ?_); rintro e w34 ⟨rfl, hb⟩; refine ⟨_, rfl, ?_⟩; have n0_ := Aside0.mk (blk_below (g := gb110) (o := .cells #[.string x111000_13, .string x111001_13, .bool x111002_13, .int .i64 x111003_13, .int .i64 x111004_13, .int .i64 x111005_13, .string x111006_13] 23 (0, 0)) (by (with_reducible repeat (first | refine blk_drewN ?_ _ | refine blk_drew ?_ | refine blk_alloc ?_ _)); exact BK110.out) hb); have n1_ := Aside0.mk (below_step (by repeat (first | (with_reducible first | exact HB.out | apply below_alloc | apply pw_below_drewN | apply below_drew1 | refine below_set ?_ GE110.out) | exact HB.out)) hb); clear BK110; clear HB; have BK110 := n0_; have HB := n1_; clear n0_ n1_; (try clear hb); (try clear hb2); (try clear hk); (try clear hi); have hcz35_0 : w34.cell? ⟨gb110, 0, none⟩ = some (.string x111000_13) := (blk_cell BK110.out 0).trans rfl; have hcz35_1 : w34.cell? ⟨gb110, 1, none⟩ = some (.string x111001_13) := (blk_cell BK110.out 1).trans rfl; have hcz35_2 : w34.cell? ⟨gb110, 2, none⟩ = some (.bool x111002_13) := (blk_cell BK110.out 2).trans rfl; have hcz35_3 : w34.cell? ⟨gb110, 3, none⟩ = some (.int .i64 x111003_13) := (blk_cell BK110.out 3).trans rfl; have hcz35_4 : w34.cell? ⟨gb110, 4, none⟩ = some (.int .i64 x111004_13) := (blk_cell BK110.out 4).trans rfl; have hcz35_5 : w34.cell? ⟨gb110, 5, none⟩ = some (.int .i64 x111005_13) := (blk_cell BK110.out 5).trans rfl; have hcz35_6 : w34.cell? ⟨gb110, 6, none⟩ = some (.string x111006_13) := (blk_cell BK110.out 6).trans rfl; have hfz35_0 := blk_frozen BK110.out 0; have hfz35_1 := blk_frozen BK110.out 1; have hfz35_2 := blk_frozen BK110.out 2; have hfz35_3 := blk_frozen BK110.out 3; have hfz35_4 := blk_frozen BK110.out 4; have hfz35_5 := blk_frozen BK110.out 5; have hfz35_6 := blk_frozen BK110.out 6) | (go_at_call 26; (with_reducible refine (frame_Right.calls kj13 x111000_13 x111001_13 x111002_13 x111003_13 x111004_13 x111005_13 x111006_13 true _ A31.out).mono ?_); rintro e w36 ⟨rfl, hb⟩; have n0_ := Aside0.mk (blk_below (g := gb110) (o := .cells #[.string x111000_13, .string x111001_13, .bool x111002_13, .int .i64 x111003_13, .int .i64 x111004_13, .int .i64 x111005_13, .string x111006_13] 23 (0, 0)) (by (with_reducible repeat (first | refine blk_drewN ?_ _ | refine blk_drew ?_ | refine blk_alloc ?_ _)); exact BK110.out) hb); have n1_ := Aside0.mk (below_step (by repeat (first | (with_reducible first | exact HB.out | apply below_alloc | apply pw_below_drewN | apply below_drew1 | refine below_set ?_ GE110.out) | exact HB.out)) hb); clear BK110; clear HB; have BK110 := n0_; have HB := n1_; clear n0_ n1_; (try clear hb); (try clear hb2); (try clear hk); (try clear hi); have hcz37_0 : w36.cell? ⟨gb110, 0, none⟩ = some (.string x111000_13) := (blk_cell BK110.out 0).trans rfl; have hcz37_1 : w36.cell? ⟨gb110, 1, none⟩ = some (.string x111001_13) := (blk_cell BK110.out 1).trans rfl; have hcz37_2 : w36.cell? ⟨gb110, 2, none⟩ = some (.bool x111002_13) := (blk_cell BK110.out 2).trans rfl; have hcz37_3 : w36.cell? ⟨gb110, 3, none⟩ = some (.int .i64 x111003_13) := (blk_cell BK110.out 3).trans rfl; have hcz37_4 : w36.cell? ⟨gb110, 4, none⟩ = some (.int .i64 x111004_13) := (blk_cell BK110.out 4).trans rfl; have hcz37_5 : w36.cell? ⟨gb110, 5, none⟩ = some (.int .i64 x111005_13) := (blk_cell BK110.out 5).trans rfl; have hcz37_6 : w36.cell? ⟨gb110, 6, none⟩ = some (.string x111006_13) := (blk_cell BK110.out 6).trans rfl; have hfz37_0 := blk_frozen BK110.out 0; have hfz37_1 := blk_frozen BK110.out 1; have hfz37_2 := blk_frozen BK110.out 2; have hfz37_3 := blk_frozen BK110.out 3; have hfz37_4 := blk_frozen BK110.out 4; have hfz37_5 := blk_frozen BK110.out 5; have hfz37_6 := blk_frozen BK110.out 6))
                                go_meet
                                case rel => exact ⟨_, (x111002_13), (by first | rfl | (simp; done) | (simp [*]; done)), H', ⟨by have := HJ6.out; have := HK2.out; have := HJ13.out; first | omega | exact Nat.le_refl _⟩, ⟨by (with_reducible repeat (first | refine blk_drewN ?_ _ | refine blk_drew ?_ | refine blk_alloc ?_ _)); exact BK110.out⟩, ⟨by repeat (first | (with_reducible first | exact HB.out | apply below_alloc | apply pw_below_drewN | apply below_drew1 | refine below_set ?_ GE110.out) | exact HB.out)⟩⟩
                              · replace c32 := Bool.eq_false_iff.mpr c32
                                subst c32
                                have H1 : (none) = some r := by rw [if_neg (show ¬ (false = true) by decide)] at H; exact H
                                clear H
                                have H := H1
                                clear H1
                                exact absurd H (by simp)
                            · rw [if_neg c30] at H
                              exact absurd H (by simp)
                          · rw [if_neg c29] at H
                            exact absurd H (by simp)
                        · rw [if_neg c28] at H
                          exact absurd H (by simp)
                      case rest =>
                        clear HC24
                        try clear c1
                        try clear c2
                        try clear p2
                        try clear c3
                        try clear c4
                        try clear c6
                        try clear c9
                        try clear c9b0
                        try clear c9b1
                        try clear c10
                        try clear c10b0
                        try clear c10b1
                        try clear c11
                        try clear c12
                        try clear c12b0
                        try clear c15
                        try clear c17
                        try clear c18
                        try clear c18b0
                        try clear c18b1
                        try clear c19
                        try clear c21
                        try clear c22
                        try clear c22b0
                        try clear c22b1
                        try clear c24
                        try clear c28
                        try clear c28b0
                        try clear c28b1
                        try clear c29
                        try clear c29b0
                        try clear c29b1
                        try clear c30
                        try clear c30b0
                        try clear c30b1
                        try clear c32
                        try clear hcz17_0
                        try clear hcz17_1
                        try clear hcz17_2
                        try clear hcz17_3
                        try clear hcz17_4
                        try clear hcz17_5
                        try clear hcz17_6
                        try clear hcz21_0
                        try clear hcz21_1
                        try clear hcz21_2
                        try clear hcz21_3
                        try clear hcz21_4
                        try clear hcz21_5
                        try clear hcz21_6
                        try clear hcz25_0
                        try clear hcz25_1
                        try clear hcz25_2
                        try clear hcz25_3
                        try clear hcz25_4
                        try clear hcz25_5
                        try clear hcz25_6
                        try clear hcz33_0
                        try clear hcz33_1
                        try clear hcz33_2
                        try clear hcz33_3
                        try clear hcz33_4
                        try clear hcz33_5
                        try clear hcz33_6
                        try clear hcz35_0
                        try clear hcz35_1
                        try clear hcz35_2
                        try clear hcz35_3
                        try clear hcz35_4
                        try clear hcz35_5
                        try clear hcz35_6
                        try clear hcz37_0
                        try clear hcz37_1
                        try clear hcz37_2
                        try clear hcz37_3
                        try clear hcz37_4
                        try clear hcz37_5
                        try clear hcz37_6
                        try clear hfz17_0
                        try clear hfz17_1
                        try clear hfz17_2
                        try clear hfz17_3
                        try clear hfz17_4
                        try clear hfz17_5
                        try clear hfz17_6
                        try clear hfz21_0
                        try clear hfz21_1
                        try clear hfz21_2
                        try clear hfz21_3
                        try clear hfz21_4
                        try clear hfz21_5
                        try clear hfz21_6
                        try clear hfz25_0
                        try clear hfz25_1
                        try clear hfz25_2
                        try clear hfz25_3
                        try clear hfz25_4
                        try clear hfz25_5
                        try clear hfz25_6
                        try clear hfz33_0
                        try clear hfz33_1
                        try clear hfz33_2
                        try clear hfz33_3
                        try clear hfz33_4
                        try clear hfz33_5
                        try clear hfz33_6
                        try clear hfz35_0
                        try clear hfz35_1
                        try clear hfz35_2
                        try clear hfz35_3
                        try clear hfz35_4
                        try clear hfz35_5
                        try clear hfz35_6
                        try clear hfz37_0
                        try clear hfz37_1
                        try clear hfz37_2
                        try clear hfz37_3
                        try clear hfz37_4
                        try clear hfz37_5
                        try clear hfz37_6
                        try clear p2
                        obtain ⟨kq, x80_23, rfl, HA, HJ23, BK110, HB⟩ := hcut
                        cases kq with
                        | zero => exact absurd HA.out (by simp [treebridgelaw02_LlcBack.j3])
                        | succ kj23 =>
                          have H := HA.out
                          clear HA
                          simp only [treebridgelaw02_LlcBack.j3] at H
                          by_cases c38 : x80_23 = true
                          · subst c38
                            have H1 : (none) = some r := by rw [if_pos rfl] at H; exact H
                            clear H
                            have H := H1
                            clear H1
                            exact absurd H (by simp)
                          · replace c38 := Bool.eq_false_iff.mpr c38
                            subst c38
                            have H1 : ((frame_With.f kj23 x111000_13 x111001_13 x111002_13 x111003_13 x111004_13 x111005_13 x111006_13 a3).bind fun bt123 => (if bt123.2.2.2.2.2.2.2 = 0 then ((llc_Inner.f kj23 bt123.1 bt123.2.1 bt123.2.2.1 bt123.2.2.2.1 bt123.2.2.2.2.1 bt123.2.2.2.2.2.1 bt123.2.2.2.2.2.2.1).bind fun bt132 => ((llc_Kind.f kj23 bt123.1 bt123.2.1 bt123.2.2.1 bt123.2.2.2.1 bt123.2.2.2.2.1 bt123.2.2.2.2.2.1 bt123.2.2.2.2.2.2.1).bind fun t134 => (if t134 = x9_2 then (if bt132.1.toList = a1.toList then (treebridgelaw02_LlcBack.j4 kj23 a0 a1 a2 a3 x9_2 (bt132.2 != 0) x111000_13 x111001_13 x111002_13 x111003_13 x111004_13 x111005_13 x111006_13) else (none)) else (none)))) else ((llc_Kind.f kj23 a2 x111001_13 x111002_13 x111003_13 x111004_13 x111005_13 x111006_13).bind fun t138 => (if ((t138 == x9_2) != (a2.toList == x111000_13.toList)) = true then (none) else (treebridgelaw02_LlcBack.l0 kj23 a0 a1 a2 a3 (wrap64 (x9_2 + 1))))))) = some r := by rw [if_neg (show ¬ (false = true) by decide)] at H; exact H
                            clear H
                            have H := H1
                            clear H1
                            replace H := Option.bind_eq_some_iff.mp H
                            obtain ⟨⟨t123, t124, t125, t126, t127, t128, t129, t130⟩, A390, H⟩ := H
                            replace H : (if t130 = 0 then ((llc_Inner.f kj23 t123 t124 t125 t126 t127 t128 t129).bind fun bt132 => ((llc_Kind.f kj23 t123 t124 t125 t126 t127 t128 t129).bind fun t134 => (if t134 = x9_2 then (if bt132.1.toList = a1.toList then (treebridgelaw02_LlcBack.j4 kj23 a0 a1 a2 a3 x9_2 (bt132.2 != 0) x111000_13 x111001_13 x111002_13 x111003_13 x111004_13 x111005_13 x111006_13) else (none)) else (none)))) else ((llc_Kind.f kj23 a2 x111001_13 x111002_13 x111003_13 x111004_13 x111005_13 x111006_13).bind fun t138 => (if ((t138 == x9_2) != (a2.toList == x111000_13.toList)) = true then (none) else (treebridgelaw02_LlcBack.l0 kj23 a0 a1 a2 a3 (wrap64 (x9_2 + 1)))))) = some r := H
                            have A39 := Aside0.mk A390
                            clear A390
                            by_cases c40 : t130 = 0
                            · rw [if_pos c40] at H
                              have c40b0 : (t130 == 0) = true := beq_iff_eq.mpr c40
                              have c40b1 : (t130 != 0) = false := bne_eq_false_iff_eq.mpr c40
                              clear c40
                              replace H := Option.bind_eq_some_iff.mp H
                              obtain ⟨⟨t132, t133⟩, A410, H⟩ := H
                              replace H : ((llc_Kind.f kj23 t123 t124 t125 t126 t127 t128 t129).bind fun t134 => (if t134 = x9_2 then (if t132.toList = a1.toList then (treebridgelaw02_LlcBack.j4 kj23 a0 a1 a2 a3 x9_2 (t133 != 0) x111000_13 x111001_13 x111002_13 x111003_13 x111004_13 x111005_13 x111006_13) else (none)) else (none))) = some r := H
                              have A41 := Aside0.mk A410
                              clear A410
                              have HC42 := Aside0.mk H
                              clear H
                              have hcz43_0 : wc.cell? ⟨gb110, 0, none⟩ = some (.string x111000_13) := (blk_cell BK110.out 0).trans rfl
                              have hcz43_1 : wc.cell? ⟨gb110, 1, none⟩ = some (.string x111001_13) := (blk_cell BK110.out 1).trans rfl
                              have hcz43_2 : wc.cell? ⟨gb110, 2, none⟩ = some (.bool x111002_13) := (blk_cell BK110.out 2).trans rfl
                              have hcz43_3 : wc.cell? ⟨gb110, 3, none⟩ = some (.int .i64 x111003_13) := (blk_cell BK110.out 3).trans rfl
                              have hcz43_4 : wc.cell? ⟨gb110, 4, none⟩ = some (.int .i64 x111004_13) := (blk_cell BK110.out 4).trans rfl
                              have hcz43_5 : wc.cell? ⟨gb110, 5, none⟩ = some (.int .i64 x111005_13) := (blk_cell BK110.out 5).trans rfl
                              have hcz43_6 : wc.cell? ⟨gb110, 6, none⟩ = some (.string x111006_13) := (blk_cell BK110.out 6).trans rfl
                              have hfz43_0 := blk_frozen BK110.out 0
                              have hfz43_1 := blk_frozen BK110.out 1
                              have hfz43_2 := blk_frozen BK110.out 2
                              have hfz43_3 := blk_frozen BK110.out 3
                              have hfz43_4 := blk_frozen BK110.out 4
                              have hfz43_5 := blk_frozen BK110.out 5
                              have hfz43_6 := blk_frozen BK110.out 6
                              go_upto_region 18 with (first | ((with_reducible refine gate_callee (f := 27) rfl ?_); refine goesL_ (some 84) rfl rfl Try.func27 (by kernel_rfl) rfl #[.agg #[.string x111000_13, .string x111001_13, .bool x111002_13, .int .i64 x111003_13, .int .i64 x111004_13, .int .i64 x111005_13, .string x111006_13], .int .i64 a3] rfl (by (try simp only [List.map_toArray, List.map_cons, List.map_nil]); first | done | rfl | (simp only [List.length_drop, List.length_take]; rfl)) ?_; (with_reducible refine (frame_With.calls kj23 x111000_13 x111001_13 x111002_13 x111003_13 x111004_13 x111005_13 x111006_13 a3 t123 t124 t125 t126 t127 t128 t129 t130 _ A39.out).mono ?_); rintro e w44 ⟨rfl, hb⟩; refine ⟨_, rfl, ?_⟩; have n0_ := Aside0.mk (blk_below (g := gb110) (o := .cells #[.string x111000_13, .string x111001_13, .bool x111002_13, .int .i64 x111003_13, .int .i64 x111004_13, .int .i64 x111005_13, .string x111006_13] 23 (0, 0)) (by (with_reducible repeat (first | refine blk_drewN ?_ _ | refine blk_drew ?_ | refine blk_alloc ?_ _)); exact BK110.out) hb); have n1_ := Aside0.mk (below_step (by repeat (first | (with_reducible first | exact HB.out | apply below_alloc | apply pw_below_drewN | apply below_drew1 | refine below_set ?_ GE110.out) | exact HB.out)) hb); clear BK110; clear HB; have BK110 := n0_; have HB := n1_; clear n0_ n1_; (try clear hb); (try clear hb2); (try clear hk); (try clear hi)) | ((with_reducible refine gate_dst (N := 14) rfl ?_); (try (refine gate_guard (by rfl) ?_; dsimp only)); refine box_event ?hg (N := 14) ?hd (cs := #[.string (⟨#[]⟩ : ByteArray), .string (⟨#[]⟩ : ByteArray), .bool false, .int .i64 0, .int .i64 0, .int .i64 0, .string (⟨#[]⟩ : ByteArray)]) (t := 23) ?hr ?_; (case hd => rfl); (case hg => rfl); (case hr => first | (go_simp; done) | (go_simp; rfl)); intro gb131 hg w45 hbox hb; have n0_ := Aside0.mk (blk_below (g := gb110) (o := .cells #[.string x111000_13, .string x111001_13, .bool x111002_13, .int .i64 x111003_13, .int .i64 x111004_13, .int .i64 x111005_13, .string x111006_13] 23 (0, 0)) (by (with_reducible repeat (first | refine blk_drewN ?_ _ | refine blk_drew ?_ | refine blk_alloc ?_ _)); exact BK110.out) hb); have n1_ := Aside0.mk (below_step (by repeat (first | (with_reducible first | exact HB.out | apply below_alloc | apply pw_below_drewN | apply below_drew1 | refine below_set ?_ GE110.out) | exact HB.out)) hb); have n2_ := Aside0.mk (hbox); have n3_ := Aside0.mk ((by rw [hg]; exact (below_size (by repeat (first | (with_reducible first | exact HB.out | apply below_alloc | apply pw_below_drewN | apply below_drew1 | refine below_set ?_ GE110.out) | exact HB.out))) : w.heap.size ≤ gb131)); have n4_ := Aside0.mk ((by rw [hg]; exact (below_size (by repeat (first | (with_reducible first | exact HB.out | apply below_alloc | apply pw_below_drewN | apply below_drew1 | refine below_set ?_ GE110.out) | exact HB.out))) : w.heap.size ≤ gb131)); have n5_ := Aside0.mk ((by rw [hg]; exact Nat.ne_of_lt (blk_lt (g := gb110) (o := .cells #[.string x111000_13, .string x111001_13, .bool x111002_13, .int .i64 x111003_13, .int .i64 x111004_13, .int .i64 x111005_13, .string x111006_13] 23 (0, 0)) (by (with_reducible repeat (first | refine blk_drewN ?_ _ | refine blk_drew ?_ | refine blk_alloc ?_ _)); exact BK110.out)) : gb110 ≠ gb131)); have n6_ := Aside0.mk ((by rw [hg]; exact Nat.ne_of_gt (blk_lt (g := gb110) (o := .cells #[.string x111000_13, .string x111001_13, .bool x111002_13, .int .i64 x111003_13, .int .i64 x111004_13, .int .i64 x111005_13, .string x111006_13] 23 (0, 0)) (by (with_reducible repeat (first | refine blk_drewN ?_ _ | refine blk_drew ?_ | refine blk_alloc ?_ _)); exact BK110.out)) : gb131 ≠ gb110)); clear BK110; clear HB; have BK110 := n0_; have HB := n1_; have BK131 := n2_; have GW131 := n3_; have GE131 := n4_; have NB110_131 := n5_; have NB131_110 := n6_; clear n0_ n1_ n2_ n3_ n4_ n5_ n6_; clear hb hbox hg; have hnb46 := NB131_110.out; have hnc46 := NB110_131.out; have hcz47_0 : w45.cell? ⟨gb131, 0, none⟩ = some (.string (⟨#[]⟩ : ByteArray)) := (blk_cell BK131.out 0).trans rfl; have hcz47_1 : w45.cell? ⟨gb131, 1, none⟩ = some (.string (⟨#[]⟩ : ByteArray)) := (blk_cell BK131.out 1).trans rfl; have hcz47_2 : w45.cell? ⟨gb131, 2, none⟩ = some (.bool false) := (blk_cell BK131.out 2).trans rfl; have hcz47_3 : w45.cell? ⟨gb131, 3, none⟩ = some (.int .i64 0) := (blk_cell BK131.out 3).trans rfl; have hcz47_4 : w45.cell? ⟨gb131, 4, none⟩ = some (.int .i64 0) := (blk_cell BK131.out 4).trans rfl; have hcz47_5 : w45.cell? ⟨gb131, 5, none⟩ = some (.int .i64 0) := (blk_cell BK131.out 5).trans rfl; have hcz47_6 : w45.cell? ⟨gb131, 6, none⟩ = some (.string (⟨#[]⟩ : ByteArray)) := (blk_cell BK131.out 6).trans rfl; have hfz47_0 := blk_frozen BK131.out 0; have hfz47_1 := blk_frozen BK131.out 1; have hfz47_2 := blk_frozen BK131.out 2; have hfz47_3 := blk_frozen BK131.out 3; have hfz47_4 := blk_frozen BK131.out 4; have hfz47_5 := blk_frozen BK131.out 5; have hfz47_6 := blk_frozen BK131.out 6) | ((with_reducible refine gate_callee (f := 17) rfl ?_); refine goesL_ (some 91) rfl rfl Try.func17 (by kernel_rfl) rfl #[.agg #[.string t123, .string t124, .bool t125, .int .i64 t126, .int .i64 t127, .int .i64 t128, .string t129]] rfl (by (try simp only [List.map_toArray, List.map_cons, List.map_nil]); first | done | rfl | (simp only [List.length_drop, List.length_take]; rfl)) ?_; (with_reducible refine (llc_Inner.calls kj23 t123 t124 t125 t126 t127 t128 t129 t132 t133 _ A41.out).mono ?_); rintro e w48 ⟨rfl, hb⟩; refine ⟨_, rfl, ?_⟩; have n0_ := Aside0.mk (blk_below (g := gb110) (o := .cells #[.string x111000_13, .string x111001_13, .bool x111002_13, .int .i64 x111003_13, .int .i64 x111004_13, .int .i64 x111005_13, .string x111006_13] 23 (0, 0)) (by (with_reducible repeat (first | refine blk_drewN ?_ _ | refine blk_drew ?_ | refine blk_alloc ?_ _)); refine blk_far ?_ NB110_131.out _; (with_reducible repeat (first | refine blk_drewN ?_ _ | refine blk_drew ?_ | refine blk_alloc ?_ _)); refine blk_far ?_ NB110_131.out _; (with_reducible repeat (first | refine blk_drewN ?_ _ | refine blk_drew ?_ | refine blk_alloc ?_ _)); refine blk_far ?_ NB110_131.out _; (with_reducible repeat (first | refine blk_drewN ?_ _ | refine blk_drew ?_ | refine blk_alloc ?_ _)); refine blk_far ?_ NB110_131.out _; (with_reducible repeat (first | refine blk_drewN ?_ _ | refine blk_drew ?_ | refine blk_alloc ?_ _)); refine blk_far ?_ NB110_131.out _; (with_reducible repeat (first | refine blk_drewN ?_ _ | refine blk_drew ?_ | refine blk_alloc ?_ _)); refine blk_far ?_ NB110_131.out _; (with_reducible repeat (first | refine blk_drewN ?_ _ | refine blk_drew ?_ | refine blk_alloc ?_ _)); refine blk_far ?_ NB110_131.out _; (with_reducible repeat (first | refine blk_drewN ?_ _ | refine blk_drew ?_ | refine blk_alloc ?_ _)); exact BK110.out) hb); have n1_ := Aside0.mk (blk_below (g := gb131) (o := .cells #[.string t123, .string t124, .bool t125, .int .i64 t126, .int .i64 t127, .int .i64 t128, .string t129] 23 (0, 0)) (by (with_reducible repeat (first | refine blk_drewN ?_ _ | refine blk_drew ?_ | refine blk_alloc ?_ _)); refine blk_put (cs := #[.string t123, .string t124, .bool t125, .int .i64 t126, .int .i64 t127, .int .i64 t128, .string (⟨#[]⟩ : ByteArray)]) ?_ 6 _ rfl; (with_reducible repeat (first | refine blk_drewN ?_ _ | refine blk_drew ?_ | refine blk_alloc ?_ _)); refine blk_put (cs := #[.string t123, .string t124, .bool t125, .int .i64 t126, .int .i64 t127, .int .i64 0, .string (⟨#[]⟩ : ByteArray)]) ?_ 5 _ rfl; (with_reducible repeat (first | refine blk_drewN ?_ _ | refine blk_drew ?_ | refine blk_alloc ?_ _)); refine blk_put (cs := #[.string t123, .string t124, .bool t125, .int .i64 t126, .int .i64 0, .int .i64 0, .string (⟨#[]⟩ : ByteArray)]) ?_ 4 _ rfl; (with_reducible repeat (first | refine blk_drewN ?_ _ | refine blk_drew ?_ | refine blk_alloc ?_ _)); refine blk_put (cs := #[.string t123, .string t124, .bool t125, .int .i64 0, .int .i64 0, .int .i64 0, .string (⟨#[]⟩ : ByteArray)]) ?_ 3 _ rfl; (with_reducible repeat (first | refine blk_drewN ?_ _ | refine blk_drew ?_ | refine blk_alloc ?_ _)); refine blk_put (cs := #[.string t123, .string t124, .bool false, .int .i64 0, .int .i64 0, .int .i64 0, .string (⟨#[]⟩ : ByteArray)]) ?_ 2 _ rfl; (with_reducible repeat (first | refine blk_drewN ?_ _ | refine blk_drew ?_ | refine blk_alloc ?_ _)); refine blk_put (cs := #[.string t123, .string (⟨#[]⟩ : ByteArray), .bool false, .int .i64 0, .int .i64 0, .int .i64 0, .string (⟨#[]⟩ : ByteArray)]) ?_ 1 _ rfl; (with_reducible repeat (first | refine blk_drewN ?_ _ | refine blk_drew ?_ | refine blk_alloc ?_ _)); refine blk_put (cs := #[.string (⟨#[]⟩ : ByteArray), .string (⟨#[]⟩ : ByteArray), .bool false, .int .i64 0, .int .i64 0, .int .i64 0, .string (⟨#[]⟩ : ByteArray)]) ?_ 0 _ rfl; (with_reducible repeat (first | refine blk_drewN ?_ _ | refine blk_drew ?_ | refine blk_alloc ?_ _)); exact BK131.out) hb); have n2_ := Aside0.mk (below_step (by repeat (first | (with_reducible first | exact HB.out | apply below_alloc | apply pw_below_drewN | apply below_drew1 | refine below_set ?_ GE110.out | refine below_set ?_ GE131.out) | exact HB.out)) hb); clear BK110; clear BK131; clear HB; have BK110 := n0_; have BK131 := n1_; have HB := n2_; clear n0_ n1_ n2_; (try clear hb); (try clear hb2); (try clear hk); (try clear hi)))
                              (try simp only [Act.put, List.setIfInBounds_toArray, List.set_cons_zero, List.set_cons_succ])
                              go_cut [106] (fun v106 wc => ∃ (kq : Nat) (x106_41 : Bool), v106 = .bool x106_41 ∧ Aside0 (treebridgelaw02_LlcBack.j4 kq a0 a1 a2 a3 x9_2 x106_41 x111000_13 x111001_13 x111002_13 x111003_13 x111004_13 x111005_13 x111006_13 = some r) ∧ Aside0 (kq ≤ kj23) ∧ Aside0 (wc.heap[gb110]? = some (.cells #[.string x111000_13, .string x111001_13, .bool x111002_13, .int .i64 x111003_13, .int .i64 x111004_13, .int .i64 x111005_13, .string x111006_13] 23 (0, 0))) ∧ Aside0 (wc.heap[gb131]? = some (.cells #[.string t123, .string t124, .bool t125, .int .i64 t126, .int .i64 t127, .int .i64 t128, .string t129] 23 (0, 0))) ∧ Aside0 (Below w.heap.size w wc))
                              case first =>
                                have H := HC42.out
                                clear HC42
                                replace H := Option.bind_eq_some_iff.mp H
                                obtain ⟨t134, A490, H⟩ := H
                                replace H : (if t134 = x9_2 then (if t132.toList = a1.toList then (treebridgelaw02_LlcBack.j4 kj23 a0 a1 a2 a3 x9_2 (t133 != 0) x111000_13 x111001_13 x111002_13 x111003_13 x111004_13 x111005_13 x111006_13) else (none)) else (none)) = some r := H
                                have A49 := Aside0.mk A490
                                clear A490
                                by_cases c50 : t134 = x9_2
                                · rw [if_pos c50] at H
                                  have c50b0 : (t134 == x9_2) = true := beq_iff_eq.mpr c50
                                  have c50b1 : (t134 != x9_2) = false := bne_eq_false_iff_eq.mpr c50
                                  clear c50
                                  (first | rw [c50b0] | (simp only [i64_w, i32_w]; rw [c50b0]) | skip)
                                  by_cases c51 : t132.toList = a1.toList
                                  · rw [if_pos c51] at H
                                    have c51b0 : (t132.toList == a1.toList) = true := beq_iff_eq.mpr c51
                                    have c51b1 : (t132.toList != a1.toList) = false := bne_eq_false_iff_eq.mpr c51
                                    clear c51
                                    have H' := Aside0.mk H
                                    clear H
                                    have hnb52 := NB131_110.out
                                    have hnc52 := NB110_131.out
                                    have hcz53_0 : w48.cell? ⟨gb131, 0, none⟩ = some (.string t123) := (blk_cell BK131.out 0).trans rfl
                                    have hcz53_1 : w48.cell? ⟨gb131, 1, none⟩ = some (.string t124) := (blk_cell BK131.out 1).trans rfl
                                    have hcz53_2 : w48.cell? ⟨gb131, 2, none⟩ = some (.bool t125) := (blk_cell BK131.out 2).trans rfl
                                    have hcz53_3 : w48.cell? ⟨gb131, 3, none⟩ = some (.int .i64 t126) := (blk_cell BK131.out 3).trans rfl
                                    have hcz53_4 : w48.cell? ⟨gb131, 4, none⟩ = some (.int .i64 t127) := (blk_cell BK131.out 4).trans rfl
                                    have hcz53_5 : w48.cell? ⟨gb131, 5, none⟩ = some (.int .i64 t128) := (blk_cell BK131.out 5).trans rfl
                                    have hcz53_6 : w48.cell? ⟨gb131, 6, none⟩ = some (.string t129) := (blk_cell BK131.out 6).trans rfl
                                    have hfz53_0 := blk_frozen BK131.out 0
                                    have hfz53_1 := blk_frozen BK131.out 1
                                    have hfz53_2 := blk_frozen BK131.out 2
                                    have hfz53_3 := blk_frozen BK131.out 3
                                    have hfz53_4 := blk_frozen BK131.out 4
                                    have hfz53_5 := blk_frozen BK131.out 5
                                    have hfz53_6 := blk_frozen BK131.out 6
                                    go_wp2_with (first | ((with_reducible refine gate_callee (f := 24) rfl ?_); refine goesL_ (some 95) rfl rfl Try.func24 (by kernel_rfl) rfl #[.agg #[.string t123, .string t124, .bool t125, .int .i64 t126, .int .i64 t127, .int .i64 t128, .string t129]] rfl (by (try simp only [List.map_toArray, List.map_cons, List.map_nil]); first | done | rfl | (simp only [List.length_drop, List.length_take]; rfl)) ?_; (with_reducible refine (llc_Kind.calls kj23 t123 t124 t125 t126 t127 t128 t129 t134 _ A49.out).mono ?_); rintro e w54 ⟨rfl, hb⟩; refine ⟨_, rfl, ?_⟩; have n0_ := Aside0.mk (blk_below (g := gb110) (o := .cells #[.string x111000_13, .string x111001_13, .bool x111002_13, .int .i64 x111003_13, .int .i64 x111004_13, .int .i64 x111005_13, .string x111006_13] 23 (0, 0)) (by (with_reducible repeat (first | refine blk_drewN ?_ _ | refine blk_drew ?_ | refine blk_alloc ?_ _)); exact BK110.out) hb); have n1_ := Aside0.mk (blk_below (g := gb131) (o := .cells #[.string t123, .string t124, .bool t125, .int .i64 t126, .int .i64 t127, .int .i64 t128, .string t129] 23 (0, 0)) (by (with_reducible repeat (first | refine blk_drewN ?_ _ | refine blk_drew ?_ | refine blk_alloc ?_ _)); exact BK131.out) hb); have n2_ := Aside0.mk (below_step (by repeat (first | (with_reducible first | exact HB.out | apply below_alloc | apply pw_below_drewN | apply below_drew1 | refine below_set ?_ GE110.out | refine below_set ?_ GE131.out) | exact HB.out)) hb); clear BK110; clear BK131; clear HB; have BK110 := n0_; have BK131 := n1_; have HB := n2_; clear n0_ n1_ n2_; (try clear hb); (try clear hb2); (try clear hk); (try clear hi)))
                                    go_meet
                                    case rel => exact ⟨_, ((t133 != 0)), (by first | rfl | (simp; done) | (simp [*]; done)), H', ⟨by have := HJ6.out; have := HK2.out; have := HJ13.out; have := HJ23.out; first | omega | exact Nat.le_refl _⟩, ⟨by (with_reducible repeat (first | refine blk_drewN ?_ _ | refine blk_drew ?_ | refine blk_alloc ?_ _)); exact BK110.out⟩, ⟨by (with_reducible repeat (first | refine blk_drewN ?_ _ | refine blk_drew ?_ | refine blk_alloc ?_ _)); exact BK131.out⟩, ⟨by repeat (first | (with_reducible first | exact HB.out | apply below_alloc | apply pw_below_drewN | apply below_drew1 | refine below_set ?_ GE110.out | refine below_set ?_ GE131.out) | exact HB.out)⟩⟩
                                  · rw [if_neg c51] at H
                                    exact absurd H (by simp)
                                · rw [if_neg c50] at H
                                  exact absurd H (by simp)
                              case rest =>
                                clear HC42
                                try clear c1
                                try clear c2
                                try clear p2
                                try clear c3
                                try clear c4
                                try clear c5
                                try clear c6
                                try clear p6
                                try clear c9
                                try clear c9b0
                                try clear c9b1
                                try clear c10
                                try clear c10b0
                                try clear c10b1
                                try clear c11
                                try clear c12
                                try clear c12b0
                                try clear c15
                                try clear c17
                                try clear c18
                                try clear c18b0
                                try clear c18b1
                                try clear c19
                                try clear c21
                                try clear c22
                                try clear c22b0
                                try clear c22b1
                                try clear c24
                                try clear c27
                                try clear c28
                                try clear c28b0
                                try clear c28b1
                                try clear c29
                                try clear c29b0
                                try clear c29b1
                                try clear c30
                                try clear c30b0
                                try clear c30b1
                                try clear c32
                                try clear c38
                                try clear c40
                                try clear c40b0
                                try clear c40b1
                                try clear c46
                                try clear c50
                                try clear c50b0
                                try clear c50b1
                                try clear c51
                                try clear c51b0
                                try clear c51b1
                                try clear c52
                                try clear hcz17_0
                                try clear hcz17_1
                                try clear hcz17_2
                                try clear hcz17_3
                                try clear hcz17_4
                                try clear hcz17_5
                                try clear hcz17_6
                                try clear hcz21_0
                                try clear hcz21_1
                                try clear hcz21_2
                                try clear hcz21_3
                                try clear hcz21_4
                                try clear hcz21_5
                                try clear hcz21_6
                                try clear hcz25_0
                                try clear hcz25_1
                                try clear hcz25_2
                                try clear hcz25_3
                                try clear hcz25_4
                                try clear hcz25_5
                                try clear hcz25_6
                                try clear hcz33_0
                                try clear hcz33_1
                                try clear hcz33_2
                                try clear hcz33_3
                                try clear hcz33_4
                                try clear hcz33_5
                                try clear hcz33_6
                                try clear hcz35_0
                                try clear hcz35_1
                                try clear hcz35_2
                                try clear hcz35_3
                                try clear hcz35_4
                                try clear hcz35_5
                                try clear hcz35_6
                                try clear hcz37_0
                                try clear hcz37_1
                                try clear hcz37_2
                                try clear hcz37_3
                                try clear hcz37_4
                                try clear hcz37_5
                                try clear hcz37_6
                                try clear hcz43_0
                                try clear hcz43_1
                                try clear hcz43_2
                                try clear hcz43_3
                                try clear hcz43_4
                                try clear hcz43_5
                                try clear hcz43_6
                                try clear hcz47_0
                                try clear hcz47_1
                                try clear hcz47_2
                                try clear hcz47_3
                                try clear hcz47_4
                                try clear hcz47_5
                                try clear hcz47_6
                                try clear hcz53_0
                                try clear hcz53_1
                                try clear hcz53_2
                                try clear hcz53_3
                                try clear hcz53_4
                                try clear hcz53_5
                                try clear hcz53_6
                                try clear hfz17_0
                                try clear hfz17_1
                                try clear hfz17_2
                                try clear hfz17_3
                                try clear hfz17_4
                                try clear hfz17_5
                                try clear hfz17_6
                                try clear hfz21_0
                                try clear hfz21_1
                                try clear hfz21_2
                                try clear hfz21_3
                                try clear hfz21_4
                                try clear hfz21_5
                                try clear hfz21_6
                                try clear hfz25_0
                                try clear hfz25_1
                                try clear hfz25_2
                                try clear hfz25_3
                                try clear hfz25_4
                                try clear hfz25_5
                                try clear hfz25_6
                                try clear hfz33_0
                                try clear hfz33_1
                                try clear hfz33_2
                                try clear hfz33_3
                                try clear hfz33_4
                                try clear hfz33_5
                                try clear hfz33_6
                                try clear hfz35_0
                                try clear hfz35_1
                                try clear hfz35_2
                                try clear hfz35_3
                                try clear hfz35_4
                                try clear hfz35_5
                                try clear hfz35_6
                                try clear hfz37_0
                                try clear hfz37_1
                                try clear hfz37_2
                                try clear hfz37_3
                                try clear hfz37_4
                                try clear hfz37_5
                                try clear hfz37_6
                                try clear hfz43_0
                                try clear hfz43_1
                                try clear hfz43_2
                                try clear hfz43_3
                                try clear hfz43_4
                                try clear hfz43_5
                                try clear hfz43_6
                                try clear hfz47_0
                                try clear hfz47_1
                                try clear hfz47_2
                                try clear hfz47_3
                                try clear hfz47_4
                                try clear hfz47_5
                                try clear hfz47_6
                                try clear hfz53_0
                                try clear hfz53_1
                                try clear hfz53_2
                                try clear hfz53_3
                                try clear hfz53_4
                                try clear hfz53_5
                                try clear hfz53_6
                                try clear p2
                                obtain ⟨kq, x106_41, rfl, HA, HJ41, BK110, BK131, HB⟩ := hcut
                                cases kq with
                                | zero => exact absurd HA.out (by simp [treebridgelaw02_LlcBack.j4])
                                | succ kj41 =>
                                  have H := HA.out
                                  clear HA
                                  simp only [treebridgelaw02_LlcBack.j4] at H
                                  by_cases c55 : x106_41 = true
                                  · subst c55
                                    have H1 : (none) = some r := by rw [if_pos rfl] at H; exact H
                                    clear H
                                    have H := H1
                                    clear H1
                                    exact absurd H (by simp)
                                  · replace c55 := Bool.eq_false_iff.mpr c55
                                    subst c55
                                    have H1 : ((llc_Kind.f kj41 a2 x111001_13 x111002_13 x111003_13 x111004_13 x111005_13 x111006_13).bind fun t136 => (if ((t136 == x9_2) != (a2.toList == x111000_13.toList)) = true then (none) else (treebridgelaw02_LlcBack.l0 kj41 a0 a1 a2 a3 (wrap64 (x9_2 + 1))))) = some r := by rw [if_neg (show ¬ (false = true) by decide)] at H; exact H
                                    clear H
                                    have H := H1
                                    clear H1
                                    replace H := Option.bind_eq_some_iff.mp H
                                    obtain ⟨t136, A560, H⟩ := H
                                    replace H : (if ((t136 == x9_2) != (a2.toList == x111000_13.toList)) = true then (none) else (treebridgelaw02_LlcBack.l0 kj41 a0 a1 a2 a3 (wrap64 (x9_2 + 1)))) = some r := H
                                    have A56 := Aside0.mk A560
                                    clear A560
                                    by_cases c57 : ((t136 == x9_2) != (a2.toList == x111000_13.toList)) = true
                                    · rw [if_pos c57] at H
                                      exact absurd H (by simp)
                                    · rw [if_neg c57] at H
                                      have c57b0 : ((t136 == x9_2) != (a2.toList == x111000_13.toList)) = false := by simpa using c57
                                      (try (have c57b1 : decide ((t136 == x9_2) = (a2.toList == x111000_13.toList)) = true := by simpa using c57))
                                      (try (have c57b2 : ((t136 == x9_2) == (a2.toList == x111000_13.toList)) = true := by simpa using c57))
                                      clear c57
                                      have H' := Aside0.mk H
                                      clear H
                                      have hnb58 := NB110_131.out
                                      have hnc58 := NB131_110.out
                                      have hcz59_0 : wc.cell? ⟨gb110, 0, none⟩ = some (.string x111000_13) := (blk_cell BK110.out 0).trans rfl
                                      have hcz59_1 : wc.cell? ⟨gb110, 1, none⟩ = some (.string x111001_13) := (blk_cell BK110.out 1).trans rfl
                                      have hcz59_2 : wc.cell? ⟨gb110, 2, none⟩ = some (.bool x111002_13) := (blk_cell BK110.out 2).trans rfl
                                      have hcz59_3 : wc.cell? ⟨gb110, 3, none⟩ = some (.int .i64 x111003_13) := (blk_cell BK110.out 3).trans rfl
                                      have hcz59_4 : wc.cell? ⟨gb110, 4, none⟩ = some (.int .i64 x111004_13) := (blk_cell BK110.out 4).trans rfl
                                      have hcz59_5 : wc.cell? ⟨gb110, 5, none⟩ = some (.int .i64 x111005_13) := (blk_cell BK110.out 5).trans rfl
                                      have hcz59_6 : wc.cell? ⟨gb110, 6, none⟩ = some (.string x111006_13) := (blk_cell BK110.out 6).trans rfl
                                      have hfz59_0 := blk_frozen BK110.out 0
                                      have hfz59_1 := blk_frozen BK110.out 1
                                      have hfz59_2 := blk_frozen BK110.out 2
                                      have hfz59_3 := blk_frozen BK110.out 3
                                      have hfz59_4 := blk_frozen BK110.out 4
                                      have hfz59_5 := blk_frozen BK110.out 5
                                      have hfz59_6 := blk_frozen BK110.out 6
                                      try go_wp2_with (first | ((with_reducible refine gate_dst (N := 18) rfl ?_); (try (refine gate_guard (by rfl) ?_; dsimp only)); refine box_event ?hg (N := 18) ?hd (cs := #[.string (⟨#[]⟩ : ByteArray), .string (⟨#[]⟩ : ByteArray), .bool false, .int .i64 0, .int .i64 0, .int .i64 0, .string (⟨#[]⟩ : ByteArray)]) (t := 23) ?hr ?_; (case hd => rfl); (case hg => rfl); (case hr => first | (go_simp; done) | (go_simp; rfl)); intro gb135 hg w60 hbox hb; have n0_ := Aside0.mk (blk_below (g := gb110) (o := .cells #[.string x111000_13, .string x111001_13, .bool x111002_13, .int .i64 x111003_13, .int .i64 x111004_13, .int .i64 x111005_13, .string x111006_13] 23 (0, 0)) (by (with_reducible repeat (first | refine blk_drewN ?_ _ | refine blk_drew ?_ | refine blk_alloc ?_ _)); exact BK110.out) hb); have n1_ := Aside0.mk (blk_below (g := gb131) (o := .cells #[.string t123, .string t124, .bool t125, .int .i64 t126, .int .i64 t127, .int .i64 t128, .string t129] 23 (0, 0)) (by (with_reducible repeat (first | refine blk_drewN ?_ _ | refine blk_drew ?_ | refine blk_alloc ?_ _)); exact BK131.out) hb); have n2_ := Aside0.mk (below_step (by repeat (first | (with_reducible first | exact HB.out | apply below_alloc | apply pw_below_drewN | apply below_drew1 | refine below_set ?_ GE110.out | refine below_set ?_ GE131.out) | exact HB.out)) hb); have n3_ := Aside0.mk (hbox); have n4_ := Aside0.mk ((by rw [hg]; exact (below_size (by repeat (first | (with_reducible first | exact HB.out | apply below_alloc | apply pw_below_drewN | apply below_drew1 | refine below_set ?_ GE110.out | refine below_set ?_ GE131.out) | exact HB.out))) : w.heap.size ≤ gb135)); have n5_ := Aside0.mk ((by rw [hg]; exact (below_size (by repeat (first | (with_reducible first | exact HB.out | apply below_alloc | apply pw_below_drewN | apply below_drew1 | refine below_set ?_ GE110.out | refine below_set ?_ GE131.out) | exact HB.out))) : w.heap.size ≤ gb135)); have n6_ := Aside0.mk ((by rw [hg]; exact Nat.ne_of_lt (blk_lt (g := gb110) (o := .cells #[.string x111000_13, .string x111001_13, .bool x111002_13, .int .i64 x111003_13, .int .i64 x111004_13, .int .i64 x111005_13, .string x111006_13] 23 (0, 0)) (by (with_reducible repeat (first | refine blk_drewN ?_ _ | refine blk_drew ?_ | refine blk_alloc ?_ _)); exact BK110.out)) : gb110 ≠ gb135)); have n7_ := Aside0.mk ((by rw [hg]; exact Nat.ne_of_gt (blk_lt (g := gb110) (o := .cells #[.string x111000_13, .string x111001_13, .bool x111002_13, .int .i64 x111003_13, .int .i64 x111004_13, .int .i64 x111005_13, .string x111006_13] 23 (0, 0)) (by (with_reducible repeat (first | refine blk_drewN ?_ _ | refine blk_drew ?_ | refine blk_alloc ?_ _)); exact BK110.out)) : gb135 ≠ gb110)); have n8_ := Aside0.mk ((by rw [hg]; exact Nat.ne_of_lt (blk_lt (g := gb131) (o := .cells #[.string t123, .string t124, .bool t125, .int .i64 t126, .int .i64 t127, .int .i64 t128, .string t129] 23 (0, 0)) (by (with_reducible repeat (first | refine blk_drewN ?_ _ | refine blk_drew ?_ | refine blk_alloc ?_ _)); exact BK131.out)) : gb131 ≠ gb135)); have n9_ := Aside0.mk ((by rw [hg]; exact Nat.ne_of_gt (blk_lt (g := gb131) (o := .cells #[.string t123, .string t124, .bool t125, .int .i64 t126, .int .i64 t127, .int .i64 t128, .string t129] 23 (0, 0)) (by (with_reducible repeat (first | refine blk_drewN ?_ _ | refine blk_drew ?_ | refine blk_alloc ?_ _)); exact BK131.out)) : gb135 ≠ gb131)); clear BK110; clear BK131; clear HB; have BK110 := n0_; have BK131 := n1_; have HB := n2_; have BK135 := n3_; have GW135 := n4_; have GE135 := n5_; have NB110_135 := n6_; have NB135_110 := n7_; have NB131_135 := n8_; have NB135_131 := n9_; clear n0_ n1_ n2_ n3_ n4_ n5_ n6_ n7_ n8_ n9_; clear hb hbox hg; have hnb61 := NB135_110.out; have hnc61 := NB110_135.out; have hnb62 := NB135_131.out; have hnc62 := NB131_135.out; have hcz63_0 : w60.cell? ⟨gb135, 0, none⟩ = some (.string (⟨#[]⟩ : ByteArray)) := (blk_cell BK135.out 0).trans rfl; have hcz63_1 : w60.cell? ⟨gb135, 1, none⟩ = some (.string (⟨#[]⟩ : ByteArray)) := (blk_cell BK135.out 1).trans rfl; have hcz63_2 : w60.cell? ⟨gb135, 2, none⟩ = some (.bool false) := (blk_cell BK135.out 2).trans rfl; have hcz63_3 : w60.cell? ⟨gb135, 3, none⟩ = some (.int .i64 0) := (blk_cell BK135.out 3).trans rfl; have hcz63_4 : w60.cell? ⟨gb135, 4, none⟩ = some (.int .i64 0) := (blk_cell BK135.out 4).trans rfl; have hcz63_5 : w60.cell? ⟨gb135, 5, none⟩ = some (.int .i64 0) := (blk_cell BK135.out 5).trans rfl; have hcz63_6 : w60.cell? ⟨gb135, 6, none⟩ = some (.string (⟨#[]⟩ : ByteArray)) := (blk_cell BK135.out 6).trans rfl; have hfz63_0 := blk_frozen BK135.out 0; have hfz63_1 := blk_frozen BK135.out 1; have hfz63_2 := blk_frozen BK135.out 2; have hfz63_3 := blk_frozen BK135.out 3; have hfz63_4 := blk_frozen BK135.out 4; have hfz63_5 := blk_frozen BK135.out 5; have hfz63_6 := blk_frozen BK135.out 6))
                                      have n0_ : Aside0 (((((((((w60.setCell ⟨gb135, 0, none⟩ (.string x111000_13)).setCell ⟨gb135, 1, none⟩ (.string x111001_13)).setCell ⟨gb135, 2, none⟩ (.bool x111002_13)).setCell ⟨gb135, 3, none⟩ (.int .i64 x111003_13)).setCell ⟨gb135, 4, none⟩ (.int .i64 x111004_13)).setCell ⟨gb135, 5, none⟩ (.int .i64 x111005_13)).setCell ⟨gb135, 6, none⟩ (.string x111006_13)).setCell ⟨gb135, 0, none⟩ (.string a2)).heap[gb110]? = some (.cells #[.string x111000_13, .string x111001_13, .bool x111002_13, .int .i64 x111003_13, .int .i64 x111004_13, .int .i64 x111005_13, .string x111006_13] 23 (0, 0))) := ⟨by (with_reducible repeat (first | refine blk_drewN ?_ _ | refine blk_drew ?_ | refine blk_alloc ?_ _)); refine blk_far ?_ NB110_135.out _; (with_reducible repeat (first | refine blk_drewN ?_ _ | refine blk_drew ?_ | refine blk_alloc ?_ _)); refine blk_far ?_ NB110_135.out _; (with_reducible repeat (first | refine blk_drewN ?_ _ | refine blk_drew ?_ | refine blk_alloc ?_ _)); refine blk_far ?_ NB110_135.out _; (with_reducible repeat (first | refine blk_drewN ?_ _ | refine blk_drew ?_ | refine blk_alloc ?_ _)); refine blk_far ?_ NB110_135.out _; (with_reducible repeat (first | refine blk_drewN ?_ _ | refine blk_drew ?_ | refine blk_alloc ?_ _)); refine blk_far ?_ NB110_135.out _; (with_reducible repeat (first | refine blk_drewN ?_ _ | refine blk_drew ?_ | refine blk_alloc ?_ _)); refine blk_far ?_ NB110_135.out _; (with_reducible repeat (first | refine blk_drewN ?_ _ | refine blk_drew ?_ | refine blk_alloc ?_ _)); refine blk_far ?_ NB110_135.out _; (with_reducible repeat (first | refine blk_drewN ?_ _ | refine blk_drew ?_ | refine blk_alloc ?_ _)); refine blk_far ?_ NB110_135.out _; (with_reducible repeat (first | refine blk_drewN ?_ _ | refine blk_drew ?_ | refine blk_alloc ?_ _)); exact BK110.out⟩
                                      have n1_ : Aside0 (((((((((w60.setCell ⟨gb135, 0, none⟩ (.string x111000_13)).setCell ⟨gb135, 1, none⟩ (.string x111001_13)).setCell ⟨gb135, 2, none⟩ (.bool x111002_13)).setCell ⟨gb135, 3, none⟩ (.int .i64 x111003_13)).setCell ⟨gb135, 4, none⟩ (.int .i64 x111004_13)).setCell ⟨gb135, 5, none⟩ (.int .i64 x111005_13)).setCell ⟨gb135, 6, none⟩ (.string x111006_13)).setCell ⟨gb135, 0, none⟩ (.string a2)).heap[gb131]? = some (.cells #[.string t123, .string t124, .bool t125, .int .i64 t126, .int .i64 t127, .int .i64 t128, .string t129] 23 (0, 0))) := ⟨by (with_reducible repeat (first | refine blk_drewN ?_ _ | refine blk_drew ?_ | refine blk_alloc ?_ _)); refine blk_far ?_ NB131_135.out _; (with_reducible repeat (first | refine blk_drewN ?_ _ | refine blk_drew ?_ | refine blk_alloc ?_ _)); refine blk_far ?_ NB131_135.out _; (with_reducible repeat (first | refine blk_drewN ?_ _ | refine blk_drew ?_ | refine blk_alloc ?_ _)); refine blk_far ?_ NB131_135.out _; (with_reducible repeat (first | refine blk_drewN ?_ _ | refine blk_drew ?_ | refine blk_alloc ?_ _)); refine blk_far ?_ NB131_135.out _; (with_reducible repeat (first | refine blk_drewN ?_ _ | refine blk_drew ?_ | refine blk_alloc ?_ _)); refine blk_far ?_ NB131_135.out _; (with_reducible repeat (first | refine blk_drewN ?_ _ | refine blk_drew ?_ | refine blk_alloc ?_ _)); refine blk_far ?_ NB131_135.out _; (with_reducible repeat (first | refine blk_drewN ?_ _ | refine blk_drew ?_ | refine blk_alloc ?_ _)); refine blk_far ?_ NB131_135.out _; (with_reducible repeat (first | refine blk_drewN ?_ _ | refine blk_drew ?_ | refine blk_alloc ?_ _)); refine blk_far ?_ NB131_135.out _; (with_reducible repeat (first | refine blk_drewN ?_ _ | refine blk_drew ?_ | refine blk_alloc ?_ _)); exact BK131.out⟩
                                      have n2_ : Aside0 (((((((((w60.setCell ⟨gb135, 0, none⟩ (.string x111000_13)).setCell ⟨gb135, 1, none⟩ (.string x111001_13)).setCell ⟨gb135, 2, none⟩ (.bool x111002_13)).setCell ⟨gb135, 3, none⟩ (.int .i64 x111003_13)).setCell ⟨gb135, 4, none⟩ (.int .i64 x111004_13)).setCell ⟨gb135, 5, none⟩ (.int .i64 x111005_13)).setCell ⟨gb135, 6, none⟩ (.string x111006_13)).setCell ⟨gb135, 0, none⟩ (.string a2)).heap[gb135]? = some (.cells #[.string a2, .string x111001_13, .bool x111002_13, .int .i64 x111003_13, .int .i64 x111004_13, .int .i64 x111005_13, .string x111006_13] 23 (0, 0))) := ⟨by (with_reducible repeat (first | refine blk_drewN ?_ _ | refine blk_drew ?_ | refine blk_alloc ?_ _)); refine blk_put (cs := #[.string x111000_13, .string x111001_13, .bool x111002_13, .int .i64 x111003_13, .int .i64 x111004_13, .int .i64 x111005_13, .string x111006_13]) ?_ 0 _ rfl; (with_reducible repeat (first | refine blk_drewN ?_ _ | refine blk_drew ?_ | refine blk_alloc ?_ _)); refine blk_put (cs := #[.string x111000_13, .string x111001_13, .bool x111002_13, .int .i64 x111003_13, .int .i64 x111004_13, .int .i64 x111005_13, .string (⟨#[]⟩ : ByteArray)]) ?_ 6 _ rfl; (with_reducible repeat (first | refine blk_drewN ?_ _ | refine blk_drew ?_ | refine blk_alloc ?_ _)); refine blk_put (cs := #[.string x111000_13, .string x111001_13, .bool x111002_13, .int .i64 x111003_13, .int .i64 x111004_13, .int .i64 0, .string (⟨#[]⟩ : ByteArray)]) ?_ 5 _ rfl; (with_reducible repeat (first | refine blk_drewN ?_ _ | refine blk_drew ?_ | refine blk_alloc ?_ _)); refine blk_put (cs := #[.string x111000_13, .string x111001_13, .bool x111002_13, .int .i64 x111003_13, .int .i64 0, .int .i64 0, .string (⟨#[]⟩ : ByteArray)]) ?_ 4 _ rfl; (with_reducible repeat (first | refine blk_drewN ?_ _ | refine blk_drew ?_ | refine blk_alloc ?_ _)); refine blk_put (cs := #[.string x111000_13, .string x111001_13, .bool x111002_13, .int .i64 0, .int .i64 0, .int .i64 0, .string (⟨#[]⟩ : ByteArray)]) ?_ 3 _ rfl; (with_reducible repeat (first | refine blk_drewN ?_ _ | refine blk_drew ?_ | refine blk_alloc ?_ _)); refine blk_put (cs := #[.string x111000_13, .string x111001_13, .bool false, .int .i64 0, .int .i64 0, .int .i64 0, .string (⟨#[]⟩ : ByteArray)]) ?_ 2 _ rfl; (with_reducible repeat (first | refine blk_drewN ?_ _ | refine blk_drew ?_ | refine blk_alloc ?_ _)); refine blk_put (cs := #[.string x111000_13, .string (⟨#[]⟩ : ByteArray), .bool false, .int .i64 0, .int .i64 0, .int .i64 0, .string (⟨#[]⟩ : ByteArray)]) ?_ 1 _ rfl; (with_reducible repeat (first | refine blk_drewN ?_ _ | refine blk_drew ?_ | refine blk_alloc ?_ _)); refine blk_put (cs := #[.string (⟨#[]⟩ : ByteArray), .string (⟨#[]⟩ : ByteArray), .bool false, .int .i64 0, .int .i64 0, .int .i64 0, .string (⟨#[]⟩ : ByteArray)]) ?_ 0 _ rfl; (with_reducible repeat (first | refine blk_drewN ?_ _ | refine blk_drew ?_ | refine blk_alloc ?_ _)); exact BK135.out⟩
                                      have n3_ : Aside0 (Below w.heap.size w ((((((((w60.setCell ⟨gb135, 0, none⟩ (.string x111000_13)).setCell ⟨gb135, 1, none⟩ (.string x111001_13)).setCell ⟨gb135, 2, none⟩ (.bool x111002_13)).setCell ⟨gb135, 3, none⟩ (.int .i64 x111003_13)).setCell ⟨gb135, 4, none⟩ (.int .i64 x111004_13)).setCell ⟨gb135, 5, none⟩ (.int .i64 x111005_13)).setCell ⟨gb135, 6, none⟩ (.string x111006_13)).setCell ⟨gb135, 0, none⟩ (.string a2))) := ⟨by repeat (first | (with_reducible first | exact HB.out | apply below_alloc | apply pw_below_drewN | apply below_drew1 | refine below_set ?_ GE110.out | refine below_set ?_ GE131.out | refine below_set ?_ GE135.out) | exact HB.out)⟩
                                      (try clear BK110)
                                      (try clear BK131)
                                      (try clear BK135)
                                      (try clear HB)
                                      generalize ((((((((w60.setCell ⟨gb135, 0, none⟩ (.string x111000_13)).setCell ⟨gb135, 1, none⟩ (.string x111001_13)).setCell ⟨gb135, 2, none⟩ (.bool x111002_13)).setCell ⟨gb135, 3, none⟩ (.int .i64 x111003_13)).setCell ⟨gb135, 4, none⟩ (.int .i64 x111004_13)).setCell ⟨gb135, 5, none⟩ (.int .i64 x111005_13)).setCell ⟨gb135, 6, none⟩ (.string x111006_13)).setCell ⟨gb135, 0, none⟩ (.string a2)) = w64 at n0_ n1_ n2_ n3_ ⊢
                                      have BK110 := n0_
                                      have BK131 := n1_
                                      have BK135 := n2_
                                      have HB := n3_
                                      clear n0_ n1_ n2_ n3_
                                      have n0_ := Aside0.mk (blk_drew BK110.out)
                                      have n1_ := Aside0.mk (blk_drew BK131.out)
                                      have n2_ := Aside0.mk (blk_drew BK135.out)
                                      have n3_ := Aside0.mk (below_drew1 HB.out)
                                      clear BK110
                                      clear BK131
                                      clear BK135
                                      clear HB
                                      have BK110 := n0_
                                      have BK131 := n1_
                                      have BK135 := n2_
                                      have HB := n3_
                                      clear n0_ n1_ n2_ n3_
                                      refine start_ (n := 9) (S := fun w' => w'.cell? ⟨gb135, 0, none⟩ = some (.string a2) ∧ w'.cell? ⟨gb135, 1, none⟩ = some (.string x111001_13) ∧ w'.cell? ⟨gb135, 2, none⟩ = some (.bool x111002_13) ∧ w'.cell? ⟨gb135, 3, none⟩ = some (.int .i64 x111003_13) ∧ w'.cell? ⟨gb135, 4, none⟩ = some (.int .i64 x111004_13) ∧ w'.cell? ⟨gb135, 5, none⟩ = some (.int .i64 x111005_13) ∧ w'.cell? ⟨gb135, 6, none⟩ = some (.string x111006_13) ∧ w'.cell? ⟨gb110, 0, none⟩ = some (.string x111000_13) ∧ w'.cell? ⟨gb110, 1, none⟩ = some (.string x111001_13) ∧ w'.cell? ⟨gb110, 2, none⟩ = some (.bool x111002_13) ∧ w'.cell? ⟨gb110, 3, none⟩ = some (.int .i64 x111003_13) ∧ w'.cell? ⟨gb110, 4, none⟩ = some (.int .i64 x111004_13) ∧ w'.cell? ⟨gb110, 5, none⟩ = some (.int .i64 x111005_13) ∧ w'.cell? ⟨gb110, 6, none⟩ = some (.string x111006_13)) (ds := []) #[false, false, false, false, false, false, false, false, false] (by kernel_rfl) rfl rfl ⟨(blk_cell BK135.out 0).trans rfl, (blk_cell BK135.out 1).trans rfl, (blk_cell BK135.out 2).trans rfl, (blk_cell BK135.out 3).trans rfl, (blk_cell BK135.out 4).trans rfl, (blk_cell BK135.out 5).trans rfl, (blk_cell BK135.out 6).trans rfl, (blk_cell BK110.out 0).trans rfl, (blk_cell BK110.out 1).trans rfl, (blk_cell BK110.out 2).trans rfl, (blk_cell BK110.out 3).trans rfl, (blk_cell BK110.out 4).trans rfl, (blk_cell BK110.out 5).trans rfl, (blk_cell BK110.out 6).trans rfl⟩ (fun hHeld => ?_); refine with_tabW treebridgelaw02_LlcBack.tab22 treebridgelaw02_LlcBack.bits22 (fun HT_ HW_ => ?_)
                                      generalize w64.drew = w65 at BK110 BK131 BK135 HB hHeld ⊢
                                      refine pure_ (i := 2) (N := some 112) (v := ?_) (a' := ?_) #[false, false, true, false, false, false, false, false, false] rfl rfl (any_of HT_.out (by kernel_rfl)) (fun _ _ _ h => h) (Or.inl ⟨by rfl, ?_⟩) ?_ ?_
                                      rotate_left
                                      · intro w'
                                        go_simp
                                        with_reducible rfl
                                      rotate_left
                                      · simp only [Act.put, List.setIfInBounds_toArray, List.set_cons_zero, List.set_cons_succ, i64_w, i32_w]
                                        rfl
                                      refine pure_ (i := 4) (N := some 114) (v := ?_) (a' := ?_) #[false, false, true, false, true, false, false, false, false] rfl rfl (any_of HT_.out (by kernel_rfl)) (fun _ _ _ h => h) (Or.inl ⟨by rfl, ?_⟩) ?_ ?_
                                      rotate_left
                                      · intro w'
                                        go_simp
                                        with_reducible rfl
                                      rotate_left
                                      · simp only [Act.put, List.setIfInBounds_toArray, List.set_cons_zero, List.set_cons_succ, i64_w, i32_w]
                                        rfl
                                      refine pure_ (i := 5) (N := some 115) (v := ?_) (a' := ?_) #[false, false, true, false, true, true, false, false, false] rfl rfl (any_of HT_.out (by kernel_rfl)) (fun _ _ _ h => h) (Or.inl ⟨by rfl, ?_⟩) ?_ ?_
                                      rotate_left
                                      · intro w'
                                        go_simp
                                        with_reducible rfl
                                      rotate_left
                                      · simp only [Act.put, List.setIfInBounds_toArray, List.set_cons_zero, List.set_cons_succ, i64_w, i32_w]
                                        rfl
                                      refine take_ (i := 0) (N := some 110) (v := ?_) (a' := ?_) #[true, false, true, false, true, true, false, false, false] rfl rfl (take_ofW HT_.out HW_.out (by kernel_rfl)) (fun _ _ _ h => h) (Or.inl ⟨by rfl, ?_⟩) hHeld ?_ ?_
                                      rotate_left
                                      · rintro w' ⟨s0, s1, s2, s3, s4, s5, s6, s7, s8, s9, s10, s11, s12, s13⟩
                                        go_simp
                                        with_reducible rfl
                                      rotate_left
                                      · simp only [Act.put, List.setIfInBounds_toArray, List.set_cons_zero, List.set_cons_succ, i64_w, i32_w]
                                        rfl
                                      refine take_ (i := 6) (N := some 116) (v := ?_) (a' := ?_) #[true, false, true, false, true, true, true, false, false] rfl rfl (take_ofW HT_.out HW_.out (by kernel_rfl)) (fun _ _ _ h => h) (Or.inl ⟨by rfl, ?_⟩) hHeld ?_ ?_
                                      rotate_left
                                      · rintro w' ⟨s0, s1, s2, s3, s4, s5, s6, s7, s8, s9, s10, s11, s12, s13⟩
                                        go_simp
                                        with_reducible rfl
                                      rotate_left
                                      · simp only [Act.put, List.setIfInBounds_toArray, List.set_cons_zero, List.set_cons_succ, i64_w, i32_w]
                                        rfl
                                      refine pure_ (i := 7) (N := some 117) (v := ?_) (a' := ?_) #[true, false, true, false, true, true, true, true, false] rfl rfl (any_of HT_.out (by kernel_rfl)) (fun _ _ _ h => h) (Or.inl ⟨by rfl, ?_⟩) ?_ ?_
                                      rotate_left
                                      · intro w'
                                        go_simp
                                        with_reducible rfl
                                      rotate_left
                                      · simp only [Act.put, List.setIfInBounds_toArray, List.set_cons_zero, List.set_cons_succ, i64_w, i32_w]
                                        rfl
                                      refine one_ (i := 1) (N := some 111) #[true, true, true, false, true, true, true, true, false] rfl rfl (one_of HT_.out (by kernel_rfl)) (by decide) (fun K hK => ?_)
                                      refine goes_ Try.func24 (by kernel_rfl) rfl #[.agg #[.string a2, .string x111001_13, .bool x111002_13, .int .i64 x111003_13, .int .i64 x111004_13, .int .i64 x111005_13, .string x111006_13]] (by rfl) rfl rfl (by (try simp only [List.map_toArray, List.map_cons, List.map_nil]); first | done | rfl | (simp only [List.length_drop, List.length_take]; rfl)) ?_
                                      with_reducible refine (llc_Kind.calls kj41 a2 x111001_13 x111002_13 x111003_13 x111004_13 x111005_13 x111006_13 t136 _ A56.out).mono ?_
                                      rintro e w66 ⟨rfl, hb⟩
                                      refine ⟨_, rfl, ?_⟩
                                      have n0_ := Aside0.mk (blk_below (g := gb110) (o := .cells #[.string x111000_13, .string x111001_13, .bool x111002_13, .int .i64 x111003_13, .int .i64 x111004_13, .int .i64 x111005_13, .string x111006_13] 23 (0, 0)) (by (with_reducible repeat (first | refine blk_drewN ?_ _ | refine blk_drew ?_ | refine blk_alloc ?_ _)); exact BK110.out) hb)
                                      have n1_ := Aside0.mk (blk_below (g := gb131) (o := .cells #[.string t123, .string t124, .bool t125, .int .i64 t126, .int .i64 t127, .int .i64 t128, .string t129] 23 (0, 0)) (by (with_reducible repeat (first | refine blk_drewN ?_ _ | refine blk_drew ?_ | refine blk_alloc ?_ _)); exact BK131.out) hb)
                                      have n2_ := Aside0.mk (blk_below (g := gb135) (o := .cells #[.string a2, .string x111001_13, .bool x111002_13, .int .i64 x111003_13, .int .i64 x111004_13, .int .i64 x111005_13, .string x111006_13] 23 (0, 0)) (by (with_reducible repeat (first | refine blk_drewN ?_ _ | refine blk_drew ?_ | refine blk_alloc ?_ _)); exact BK135.out) hb)
                                      have n3_ := Aside0.mk (below_step (by repeat (first | (with_reducible first | exact HB.out | apply below_alloc | apply pw_below_drewN | apply below_drew1 | refine below_set ?_ GE110.out | refine below_set ?_ GE131.out | refine below_set ?_ GE135.out) | exact HB.out)) hb)
                                      clear BK110
                                      clear BK131
                                      clear BK135
                                      clear HB
                                      have BK110 := n0_
                                      have BK131 := n1_
                                      have BK135 := n2_
                                      have HB := n3_
                                      clear n0_ n1_ n2_ n3_
                                      (try clear hb)
                                      (try clear hb2)
                                      (try clear hk)
                                      (try clear hi)
                                      refine hK.out _ _ ⟨(blk_cell BK135.out 0).trans rfl, (blk_cell BK135.out 1).trans rfl, (blk_cell BK135.out 2).trans rfl, (blk_cell BK135.out 3).trans rfl, (blk_cell BK135.out 4).trans rfl, (blk_cell BK135.out 5).trans rfl, (blk_cell BK135.out 6).trans rfl, (blk_cell BK110.out 0).trans rfl, (blk_cell BK110.out 1).trans rfl, (blk_cell BK110.out 2).trans rfl, (blk_cell BK110.out 3).trans rfl, (blk_cell BK110.out 4).trans rfl, (blk_cell BK110.out 5).trans rfl, (blk_cell BK110.out 6).trans rfl⟩ (fun hHeld => ?_)
                                      clear hK K
                                      refine norm_ (a' := ?_) ?_ ?_
                                      rotate_left
                                      · show Act.put _ (some 111) _ = _
                                        simp only [Act.put, List.setIfInBounds_toArray, List.set_cons_zero, List.set_cons_succ, i64_w, i32_w]
                                        rfl
                                      refine pure_ (i := 3) (N := some 113) (v := ?_) (a' := ?_) #[true, true, true, true, true, true, true, true, false] rfl rfl (any_of HT_.out (by kernel_rfl)) (fun _ _ _ h => h) (Or.inl ⟨by rfl, ?_⟩) ?_ ?_
                                      rotate_left
                                      · intro w'
                                        go_simp
                                        with_reducible rfl
                                      rotate_left
                                      · simp only [Act.put, List.setIfInBounds_toArray, List.set_cons_zero, List.set_cons_succ, i64_w, i32_w]
                                        rfl
                                      refine pure_ (i := 8) (N := some 118) (v := ?_) (a' := ?_) #[true, true, true, true, true, true, true, true, true] rfl rfl (any_of HT_.out (by kernel_rfl)) (fun _ _ _ h => h) (Or.inl ⟨by rfl, ?_⟩) ?_ ?_
                                      rotate_left
                                      · intro w'
                                        go_simp
                                        with_reducible rfl
                                      rotate_left
                                      · simp only [Act.put, List.setIfInBounds_toArray, List.set_cons_zero, List.set_cons_succ, i64_w, i32_w]
                                        rfl
                                      refine done_ (done_of HT_.out (by kernel_rfl)) ?_
                                      try go_wp2
                                      go_roundg kj41
                                      case measure => have := HJ6.out; have := HK2.out; have := HJ13.out; have := HJ23.out; have := HJ41.out; omega
                                      case rel => exact ⟨(wrap64 (x9_2 + 1)), (by first | rfl | (simp; done) | (simp [*]; done)), H', ⟨by have := HJ6.out; have := HK2.out; have := HJ13.out; have := HJ23.out; have := HJ41.out; omega⟩, ⟨by repeat (first | (with_reducible first | exact HB.out | apply below_alloc | apply pw_below_drewN | apply below_drew1 | refine below_set ?_ GE110.out | refine below_set ?_ GE131.out | refine below_set ?_ GE135.out) | exact HB.out)⟩⟩
                            · rw [if_neg c40] at H
                              have c40b0 : (t130 == 0) = false := beq_eq_false_iff_ne.mpr c40
                              have c40b1 : (t130 != 0) = true := bne_iff_ne.mpr c40
                              replace H := Option.bind_eq_some_iff.mp H
                              obtain ⟨t138, A670, H⟩ := H
                              replace H : (if ((t138 == x9_2) != (a2.toList == x111000_13.toList)) = true then (none) else (treebridgelaw02_LlcBack.l0 kj23 a0 a1 a2 a3 (wrap64 (x9_2 + 1)))) = some r := H
                              have A67 := Aside0.mk A670
                              clear A670
                              by_cases c68 : ((t138 == x9_2) != (a2.toList == x111000_13.toList)) = true
                              · rw [if_pos c68] at H
                                exact absurd H (by simp)
                              · rw [if_neg c68] at H
                                have c68b0 : ((t138 == x9_2) != (a2.toList == x111000_13.toList)) = false := by simpa using c68
                                (try (have c68b1 : decide ((t138 == x9_2) = (a2.toList == x111000_13.toList)) = true := by simpa using c68))
                                (try (have c68b2 : ((t138 == x9_2) == (a2.toList == x111000_13.toList)) = true := by simpa using c68))
                                clear c68
                                have H' := Aside0.mk H
                                clear H
                                have hcz69_0 : wc.cell? ⟨gb110, 0, none⟩ = some (.string x111000_13) := (blk_cell BK110.out 0).trans rfl
                                have hcz69_1 : wc.cell? ⟨gb110, 1, none⟩ = some (.string x111001_13) := (blk_cell BK110.out 1).trans rfl
                                have hcz69_2 : wc.cell? ⟨gb110, 2, none⟩ = some (.bool x111002_13) := (blk_cell BK110.out 2).trans rfl
                                have hcz69_3 : wc.cell? ⟨gb110, 3, none⟩ = some (.int .i64 x111003_13) := (blk_cell BK110.out 3).trans rfl
                                have hcz69_4 : wc.cell? ⟨gb110, 4, none⟩ = some (.int .i64 x111004_13) := (blk_cell BK110.out 4).trans rfl
                                have hcz69_5 : wc.cell? ⟨gb110, 5, none⟩ = some (.int .i64 x111005_13) := (blk_cell BK110.out 5).trans rfl
                                have hcz69_6 : wc.cell? ⟨gb110, 6, none⟩ = some (.string x111006_13) := (blk_cell BK110.out 6).trans rfl
                                have hfz69_0 := blk_frozen BK110.out 0
                                have hfz69_1 := blk_frozen BK110.out 1
                                have hfz69_2 := blk_frozen BK110.out 2
                                have hfz69_3 := blk_frozen BK110.out 3
                                have hfz69_4 := blk_frozen BK110.out 4
                                have hfz69_5 := blk_frozen BK110.out 5
                                have hfz69_6 := blk_frozen BK110.out 6
                                try go_wp2_with (first | ((with_reducible refine gate_callee (f := 27) rfl ?_); refine goesL_ (some 84) rfl rfl Try.func27 (by kernel_rfl) rfl #[.agg #[.string x111000_13, .string x111001_13, .bool x111002_13, .int .i64 x111003_13, .int .i64 x111004_13, .int .i64 x111005_13, .string x111006_13], .int .i64 a3] rfl (by (try simp only [List.map_toArray, List.map_cons, List.map_nil]); first | done | rfl | (simp only [List.length_drop, List.length_take]; rfl)) ?_; (with_reducible refine (frame_With.calls kj23 x111000_13 x111001_13 x111002_13 x111003_13 x111004_13 x111005_13 x111006_13 a3 t123 t124 t125 t126 t127 t128 t129 t130 _ A39.out).mono ?_); rintro e w70 ⟨rfl, hb⟩; refine ⟨_, rfl, ?_⟩; have n0_ := Aside0.mk (blk_below (g := gb110) (o := .cells #[.string x111000_13, .string x111001_13, .bool x111002_13, .int .i64 x111003_13, .int .i64 x111004_13, .int .i64 x111005_13, .string x111006_13] 23 (0, 0)) (by (with_reducible repeat (first | refine blk_drewN ?_ _ | refine blk_drew ?_ | refine blk_alloc ?_ _)); exact BK110.out) hb); have n1_ := Aside0.mk (below_step (by repeat (first | (with_reducible first | exact HB.out | apply below_alloc | apply pw_below_drewN | apply below_drew1 | refine below_set ?_ GE110.out) | exact HB.out)) hb); clear BK110; clear HB; have BK110 := n0_; have HB := n1_; clear n0_ n1_; (try clear hb); (try clear hb2); (try clear hk); (try clear hi)) | ((with_reducible refine gate_dst (N := 14) rfl ?_); (try (refine gate_guard (by rfl) ?_; dsimp only)); refine box_event ?hg (N := 14) ?hd (cs := #[.string (⟨#[]⟩ : ByteArray), .string (⟨#[]⟩ : ByteArray), .bool false, .int .i64 0, .int .i64 0, .int .i64 0, .string (⟨#[]⟩ : ByteArray)]) (t := 23) ?hr ?_; (case hd => rfl); (case hg => rfl); (case hr => first | (go_simp; done) | (go_simp; rfl)); intro gb131 hg w71 hbox hb; have n0_ := Aside0.mk (blk_below (g := gb110) (o := .cells #[.string x111000_13, .string x111001_13, .bool x111002_13, .int .i64 x111003_13, .int .i64 x111004_13, .int .i64 x111005_13, .string x111006_13] 23 (0, 0)) (by (with_reducible repeat (first | refine blk_drewN ?_ _ | refine blk_drew ?_ | refine blk_alloc ?_ _)); exact BK110.out) hb); have n1_ := Aside0.mk (below_step (by repeat (first | (with_reducible first | exact HB.out | apply below_alloc | apply pw_below_drewN | apply below_drew1 | refine below_set ?_ GE110.out) | exact HB.out)) hb); have n2_ := Aside0.mk (hbox); have n3_ := Aside0.mk ((by rw [hg]; exact (below_size (by repeat (first | (with_reducible first | exact HB.out | apply below_alloc | apply pw_below_drewN | apply below_drew1 | refine below_set ?_ GE110.out) | exact HB.out))) : w.heap.size ≤ gb131)); have n4_ := Aside0.mk ((by rw [hg]; exact (below_size (by repeat (first | (with_reducible first | exact HB.out | apply below_alloc | apply pw_below_drewN | apply below_drew1 | refine below_set ?_ GE110.out) | exact HB.out))) : w.heap.size ≤ gb131)); have n5_ := Aside0.mk ((by rw [hg]; exact Nat.ne_of_lt (blk_lt (g := gb110) (o := .cells #[.string x111000_13, .string x111001_13, .bool x111002_13, .int .i64 x111003_13, .int .i64 x111004_13, .int .i64 x111005_13, .string x111006_13] 23 (0, 0)) (by (with_reducible repeat (first | refine blk_drewN ?_ _ | refine blk_drew ?_ | refine blk_alloc ?_ _)); exact BK110.out)) : gb110 ≠ gb131)); have n6_ := Aside0.mk ((by rw [hg]; exact Nat.ne_of_gt (blk_lt (g := gb110) (o := .cells #[.string x111000_13, .string x111001_13, .bool x111002_13, .int .i64 x111003_13, .int .i64 x111004_13, .int .i64 x111005_13, .string x111006_13] 23 (0, 0)) (by (with_reducible repeat (first | refine blk_drewN ?_ _ | refine blk_drew ?_ | refine blk_alloc ?_ _)); exact BK110.out)) : gb131 ≠ gb110)); clear BK110; clear HB; have BK110 := n0_; have HB := n1_; have BK131 := n2_; have GW131 := n3_; have GE131 := n4_; have NB110_131 := n5_; have NB131_110 := n6_; clear n0_ n1_ n2_ n3_ n4_ n5_ n6_; clear hb hbox hg; have hnb72 := NB131_110.out; have hnc72 := NB110_131.out; have hcz73_0 : w71.cell? ⟨gb131, 0, none⟩ = some (.string (⟨#[]⟩ : ByteArray)) := (blk_cell BK131.out 0).trans rfl; have hcz73_1 : w71.cell? ⟨gb131, 1, none⟩ = some (.string (⟨#[]⟩ : ByteArray)) := (blk_cell BK131.out 1).trans rfl; have hcz73_2 : w71.cell? ⟨gb131, 2, none⟩ = some (.bool false) := (blk_cell BK131.out 2).trans rfl; have hcz73_3 : w71.cell? ⟨gb131, 3, none⟩ = some (.int .i64 0) := (blk_cell BK131.out 3).trans rfl; have hcz73_4 : w71.cell? ⟨gb131, 4, none⟩ = some (.int .i64 0) := (blk_cell BK131.out 4).trans rfl; have hcz73_5 : w71.cell? ⟨gb131, 5, none⟩ = some (.int .i64 0) := (blk_cell BK131.out 5).trans rfl; have hcz73_6 : w71.cell? ⟨gb131, 6, none⟩ = some (.string (⟨#[]⟩ : ByteArray)) := (blk_cell BK131.out 6).trans rfl; have hfz73_0 := blk_frozen BK131.out 0; have hfz73_1 := blk_frozen BK131.out 1; have hfz73_2 := blk_frozen BK131.out 2; have hfz73_3 := blk_frozen BK131.out 3; have hfz73_4 := blk_frozen BK131.out 4; have hfz73_5 := blk_frozen BK131.out 5; have hfz73_6 := blk_frozen BK131.out 6; have hcz74_0 : w71.cell? ⟨gb110, 0, none⟩ = some (.string x111000_13) := (blk_cell BK110.out 0).trans rfl; have hcz74_1 : w71.cell? ⟨gb110, 1, none⟩ = some (.string x111001_13) := (blk_cell BK110.out 1).trans rfl; have hcz74_2 : w71.cell? ⟨gb110, 2, none⟩ = some (.bool x111002_13) := (blk_cell BK110.out 2).trans rfl; have hcz74_3 : w71.cell? ⟨gb110, 3, none⟩ = some (.int .i64 x111003_13) := (blk_cell BK110.out 3).trans rfl; have hcz74_4 : w71.cell? ⟨gb110, 4, none⟩ = some (.int .i64 x111004_13) := (blk_cell BK110.out 4).trans rfl; have hcz74_5 : w71.cell? ⟨gb110, 5, none⟩ = some (.int .i64 x111005_13) := (blk_cell BK110.out 5).trans rfl; have hcz74_6 : w71.cell? ⟨gb110, 6, none⟩ = some (.string x111006_13) := (blk_cell BK110.out 6).trans rfl; have hfz74_0 := blk_frozen BK110.out 0; have hfz74_1 := blk_frozen BK110.out 1; have hfz74_2 := blk_frozen BK110.out 2; have hfz74_3 := blk_frozen BK110.out 3; have hfz74_4 := blk_frozen BK110.out 4; have hfz74_5 := blk_frozen BK110.out 5; have hfz74_6 := blk_frozen BK110.out 6) | ((with_reducible refine gate_dst (N := 18) rfl ?_); (try (refine gate_guard (by rfl) ?_; dsimp only)); refine box_event ?hg (N := 18) ?hd (cs := #[.string (⟨#[]⟩ : ByteArray), .string (⟨#[]⟩ : ByteArray), .bool false, .int .i64 0, .int .i64 0, .int .i64 0, .string (⟨#[]⟩ : ByteArray)]) (t := 23) ?hr ?_; (case hd => rfl); (case hg => rfl); (case hr => first | (go_simp; done) | (go_simp; rfl)); intro gb137 hg w75 hbox hb; have n0_ := Aside0.mk (blk_below (g := gb110) (o := .cells #[.string x111000_13, .string x111001_13, .bool x111002_13, .int .i64 x111003_13, .int .i64 x111004_13, .int .i64 x111005_13, .string x111006_13] 23 (0, 0)) (by (with_reducible repeat (first | refine blk_drewN ?_ _ | refine blk_drew ?_ | refine blk_alloc ?_ _)); refine blk_far ?_ NB110_131.out _; (with_reducible repeat (first | refine blk_drewN ?_ _ | refine blk_drew ?_ | refine blk_alloc ?_ _)); refine blk_far ?_ NB110_131.out _; (with_reducible repeat (first | refine blk_drewN ?_ _ | refine blk_drew ?_ | refine blk_alloc ?_ _)); refine blk_far ?_ NB110_131.out _; (with_reducible repeat (first | refine blk_drewN ?_ _ | refine blk_drew ?_ | refine blk_alloc ?_ _)); refine blk_far ?_ NB110_131.out _; (with_reducible repeat (first | refine blk_drewN ?_ _ | refine blk_drew ?_ | refine blk_alloc ?_ _)); refine blk_far ?_ NB110_131.out _; (with_reducible repeat (first | refine blk_drewN ?_ _ | refine blk_drew ?_ | refine blk_alloc ?_ _)); refine blk_far ?_ NB110_131.out _; (with_reducible repeat (first | refine blk_drewN ?_ _ | refine blk_drew ?_ | refine blk_alloc ?_ _)); refine blk_far ?_ NB110_131.out _; (with_reducible repeat (first | refine blk_drewN ?_ _ | refine blk_drew ?_ | refine blk_alloc ?_ _)); exact BK110.out) hb); have n1_ := Aside0.mk (blk_below (g := gb131) (o := .cells #[.string t123, .string t124, .bool t125, .int .i64 t126, .int .i64 t127, .int .i64 t128, .string t129] 23 (0, 0)) (by (with_reducible repeat (first | refine blk_drewN ?_ _ | refine blk_drew ?_ | refine blk_alloc ?_ _)); refine blk_put (cs := #[.string t123, .string t124, .bool t125, .int .i64 t126, .int .i64 t127, .int .i64 t128, .string (⟨#[]⟩ : ByteArray)]) ?_ 6 _ rfl; (with_reducible repeat (first | refine blk_drewN ?_ _ | refine blk_drew ?_ | refine blk_alloc ?_ _)); refine blk_put (cs := #[.string t123, .string t124, .bool t125, .int .i64 t126, .int .i64 t127, .int .i64 0, .string (⟨#[]⟩ : ByteArray)]) ?_ 5 _ rfl; (with_reducible repeat (first | refine blk_drewN ?_ _ | refine blk_drew ?_ | refine blk_alloc ?_ _)); refine blk_put (cs := #[.string t123, .string t124, .bool t125, .int .i64 t126, .int .i64 0, .int .i64 0, .string (⟨#[]⟩ : ByteArray)]) ?_ 4 _ rfl; (with_reducible repeat (first | refine blk_drewN ?_ _ | refine blk_drew ?_ | refine blk_alloc ?_ _)); refine blk_put (cs := #[.string t123, .string t124, .bool t125, .int .i64 0, .int .i64 0, .int .i64 0, .string (⟨#[]⟩ : ByteArray)]) ?_ 3 _ rfl; (with_reducible repeat (first | refine blk_drewN ?_ _ | refine blk_drew ?_ | refine blk_alloc ?_ _)); refine blk_put (cs := #[.string t123, .string t124, .bool false, .int .i64 0, .int .i64 0, .int .i64 0, .string (⟨#[]⟩ : ByteArray)]) ?_ 2 _ rfl; (with_reducible repeat (first | refine blk_drewN ?_ _ | refine blk_drew ?_ | refine blk_alloc ?_ _)); refine blk_put (cs := #[.string t123, .string (⟨#[]⟩ : ByteArray), .bool false, .int .i64 0, .int .i64 0, .int .i64 0, .string (⟨#[]⟩ : ByteArray)]) ?_ 1 _ rfl; (with_reducible repeat (first | refine blk_drewN ?_ _ | refine blk_drew ?_ | refine blk_alloc ?_ _)); refine blk_put (cs := #[.string (⟨#[]⟩ : ByteArray), .string (⟨#[]⟩ : ByteArray), .bool false, .int .i64 0, .int .i64 0, .int .i64 0, .string (⟨#[]⟩ : ByteArray)]) ?_ 0 _ rfl; (with_reducible repeat (first | refine blk_drewN ?_ _ | refine blk_drew ?_ | refine blk_alloc ?_ _)); exact BK131.out) hb); have n2_ := Aside0.mk (below_step (by repeat (first | (with_reducible first | exact HB.out | apply below_alloc | apply pw_below_drewN | apply below_drew1 | refine below_set ?_ GE110.out | refine below_set ?_ GE131.out) | exact HB.out)) hb); have n3_ := Aside0.mk (hbox); have n4_ := Aside0.mk ((by rw [hg]; exact (below_size (by repeat (first | (with_reducible first | exact HB.out | apply below_alloc | apply pw_below_drewN | apply below_drew1 | refine below_set ?_ GE110.out | refine below_set ?_ GE131.out) | exact HB.out))) : w.heap.size ≤ gb137)); have n5_ := Aside0.mk ((by rw [hg]; exact (below_size (by repeat (first | (with_reducible first | exact HB.out | apply below_alloc | apply pw_below_drewN | apply below_drew1 | refine below_set ?_ GE110.out | refine below_set ?_ GE131.out) | exact HB.out))) : w.heap.size ≤ gb137)); have n6_ := Aside0.mk ((by rw [hg]; exact Nat.ne_of_lt (blk_lt (g := gb110) (o := .cells #[.string x111000_13, .string x111001_13, .bool x111002_13, .int .i64 x111003_13, .int .i64 x111004_13, .int .i64 x111005_13, .string x111006_13] 23 (0, 0)) (by (with_reducible repeat (first | refine blk_drewN ?_ _ | refine blk_drew ?_ | refine blk_alloc ?_ _)); refine blk_far ?_ NB110_131.out _; (with_reducible repeat (first | refine blk_drewN ?_ _ | refine blk_drew ?_ | refine blk_alloc ?_ _)); refine blk_far ?_ NB110_131.out _; (with_reducible repeat (first | refine blk_drewN ?_ _ | refine blk_drew ?_ | refine blk_alloc ?_ _)); refine blk_far ?_ NB110_131.out _; (with_reducible repeat (first | refine blk_drewN ?_ _ | refine blk_drew ?_ | refine blk_alloc ?_ _)); refine blk_far ?_ NB110_131.out _; (with_reducible repeat (first | refine blk_drewN ?_ _ | refine blk_drew ?_ | refine blk_alloc ?_ _)); refine blk_far ?_ NB110_131.out _; (with_reducible repeat (first | refine blk_drewN ?_ _ | refine blk_drew ?_ | refine blk_alloc ?_ _)); refine blk_far ?_ NB110_131.out _; (with_reducible repeat (first | refine blk_drewN ?_ _ | refine blk_drew ?_ | refine blk_alloc ?_ _)); refine blk_far ?_ NB110_131.out _; (with_reducible repeat (first | refine blk_drewN ?_ _ | refine blk_drew ?_ | refine blk_alloc ?_ _)); exact BK110.out)) : gb110 ≠ gb137)); have n7_ := Aside0.mk ((by rw [hg]; exact Nat.ne_of_gt (blk_lt (g := gb110) (o := .cells #[.string x111000_13, .string x111001_13, .bool x111002_13, .int .i64 x111003_13, .int .i64 x111004_13, .int .i64 x111005_13, .string x111006_13] 23 (0, 0)) (by (with_reducible repeat (first | refine blk_drewN ?_ _ | refine blk_drew ?_ | refine blk_alloc ?_ _)); refine blk_far ?_ NB110_131.out _; (with_reducible repeat (first | refine blk_drewN ?_ _ | refine blk_drew ?_ | refine blk_alloc ?_ _)); refine blk_far ?_ NB110_131.out _; (with_reducible repeat (first | refine blk_drewN ?_ _ | refine blk_drew ?_ | refine blk_alloc ?_ _)); refine blk_far ?_ NB110_131.out _; (with_reducible repeat (first | refine blk_drewN ?_ _ | refine blk_drew ?_ | refine blk_alloc ?_ _)); refine blk_far ?_ NB110_131.out _; (with_reducible repeat (first | refine blk_drewN ?_ _ | refine blk_drew ?_ | refine blk_alloc ?_ _)); refine blk_far ?_ NB110_131.out _; (with_reducible repeat (first | refine blk_drewN ?_ _ | refine blk_drew ?_ | refine blk_alloc ?_ _)); refine blk_far ?_ NB110_131.out _; (with_reducible repeat (first | refine blk_drewN ?_ _ | refine blk_drew ?_ | refine blk_alloc ?_ _)); refine blk_far ?_ NB110_131.out _; (with_reducible repeat (first | refine blk_drewN ?_ _ | refine blk_drew ?_ | refine blk_alloc ?_ _)); exact BK110.out)) : gb137 ≠ gb110)); have n8_ := Aside0.mk ((by rw [hg]; exact Nat.ne_of_lt (blk_lt (g := gb131) (o := .cells #[.string t123, .string t124, .bool t125, .int .i64 t126, .int .i64 t127, .int .i64 t128, .string t129] 23 (0, 0)) (by (with_reducible repeat (first | refine blk_drewN ?_ _ | refine blk_drew ?_ | refine blk_alloc ?_ _)); refine blk_put (cs := #[.string t123, .string t124, .bool t125, .int .i64 t126, .int .i64 t127, .int .i64 t128, .string (⟨#[]⟩ : ByteArray)]) ?_ 6 _ rfl; (with_reducible repeat (first | refine blk_drewN ?_ _ | refine blk_drew ?_ | refine blk_alloc ?_ _)); refine blk_put (cs := #[.string t123, .string t124, .bool t125, .int .i64 t126, .int .i64 t127, .int .i64 0, .string (⟨#[]⟩ : ByteArray)]) ?_ 5 _ rfl; (with_reducible repeat (first | refine blk_drewN ?_ _ | refine blk_drew ?_ | refine blk_alloc ?_ _)); refine blk_put (cs := #[.string t123, .string t124, .bool t125, .int .i64 t126, .int .i64 0, .int .i64 0, .string (⟨#[]⟩ : ByteArray)]) ?_ 4 _ rfl; (with_reducible repeat (first | refine blk_drewN ?_ _ | refine blk_drew ?_ | refine blk_alloc ?_ _)); refine blk_put (cs := #[.string t123, .string t124, .bool t125, .int .i64 0, .int .i64 0, .int .i64 0, .string (⟨#[]⟩ : ByteArray)]) ?_ 3 _ rfl; (with_reducible repeat (first | refine blk_drewN ?_ _ | refine blk_drew ?_ | refine blk_alloc ?_ _)); refine blk_put (cs := #[.string t123, .string t124, .bool false, .int .i64 0, .int .i64 0, .int .i64 0, .string (⟨#[]⟩ : ByteArray)]) ?_ 2 _ rfl; (with_reducible repeat (first | refine blk_drewN ?_ _ | refine blk_drew ?_ | refine blk_alloc ?_ _)); refine blk_put (cs := #[.string t123, .string (⟨#[]⟩ : ByteArray), .bool false, .int .i64 0, .int .i64 0, .int .i64 0, .string (⟨#[]⟩ : ByteArray)]) ?_ 1 _ rfl; (with_reducible repeat (first | refine blk_drewN ?_ _ | refine blk_drew ?_ | refine blk_alloc ?_ _)); refine blk_put (cs := #[.string (⟨#[]⟩ : ByteArray), .string (⟨#[]⟩ : ByteArray), .bool false, .int .i64 0, .int .i64 0, .int .i64 0, .string (⟨#[]⟩ : ByteArray)]) ?_ 0 _ rfl; (with_reducible repeat (first | refine blk_drewN ?_ _ | refine blk_drew ?_ | refine blk_alloc ?_ _)); exact BK131.out)) : gb131 ≠ gb137)); have n9_ := Aside0.mk ((by rw [hg]; exact Nat.ne_of_gt (blk_lt (g := gb131) (o := .cells #[.string t123, .string t124, .bool t125, .int .i64 t126, .int .i64 t127, .int .i64 t128, .string t129] 23 (0, 0)) (by (with_reducible repeat (first | refine blk_drewN ?_ _ | refine blk_drew ?_ | refine blk_alloc ?_ _)); refine blk_put (cs := #[.string t123, .string t124, .bool t125, .int .i64 t126, .int .i64 t127, .int .i64 t128, .string (⟨#[]⟩ : ByteArray)]) ?_ 6 _ rfl; (with_reducible repeat (first | refine blk_drewN ?_ _ | refine blk_drew ?_ | refine blk_alloc ?_ _)); refine blk_put (cs := #[.string t123, .string t124, .bool t125, .int .i64 t126, .int .i64 t127, .int .i64 0, .string (⟨#[]⟩ : ByteArray)]) ?_ 5 _ rfl; (with_reducible repeat (first | refine blk_drewN ?_ _ | refine blk_drew ?_ | refine blk_alloc ?_ _)); refine blk_put (cs := #[.string t123, .string t124, .bool t125, .int .i64 t126, .int .i64 0, .int .i64 0, .string (⟨#[]⟩ : ByteArray)]) ?_ 4 _ rfl; (with_reducible repeat (first | refine blk_drewN ?_ _ | refine blk_drew ?_ | refine blk_alloc ?_ _)); refine blk_put (cs := #[.string t123, .string t124, .bool t125, .int .i64 0, .int .i64 0, .int .i64 0, .string (⟨#[]⟩ : ByteArray)]) ?_ 3 _ rfl; (with_reducible repeat (first | refine blk_drewN ?_ _ | refine blk_drew ?_ | refine blk_alloc ?_ _)); refine blk_put (cs := #[.string t123, .string t124, .bool false, .int .i64 0, .int .i64 0, .int .i64 0, .string (⟨#[]⟩ : ByteArray)]) ?_ 2 _ rfl; (with_reducible repeat (first | refine blk_drewN ?_ _ | refine blk_drew ?_ | refine blk_alloc ?_ _)); refine blk_put (cs := #[.string t123, .string (⟨#[]⟩ : ByteArray), .bool false, .int .i64 0, .int .i64 0, .int .i64 0, .string (⟨#[]⟩ : ByteArray)]) ?_ 1 _ rfl; (with_reducible repeat (first | refine blk_drewN ?_ _ | refine blk_drew ?_ | refine blk_alloc ?_ _)); refine blk_put (cs := #[.string (⟨#[]⟩ : ByteArray), .string (⟨#[]⟩ : ByteArray), .bool false, .int .i64 0, .int .i64 0, .int .i64 0, .string (⟨#[]⟩ : ByteArray)]) ?_ 0 _ rfl; (with_reducible repeat (first | refine blk_drewN ?_ _ | refine blk_drew ?_ | refine blk_alloc ?_ _)); exact BK131.out)) : gb137 ≠ gb131)); clear BK110; clear BK131; clear HB; have BK110 := n0_; have BK131 := n1_; have HB := n2_; have BK137 := n3_; have GW137 := n4_; have GE137 := n5_; have NB110_137 := n6_; have NB137_110 := n7_; have NB131_137 := n8_; have NB137_131 := n9_; clear n0_ n1_ n2_ n3_ n4_ n5_ n6_ n7_ n8_ n9_; clear hb hbox hg; have hnb76 := NB137_110.out; have hnc76 := NB110_137.out; have hnb77 := NB137_131.out; have hnc77 := NB131_137.out; have hcz78_0 : w75.cell? ⟨gb137, 0, none⟩ = some (.string (⟨#[]⟩ : ByteArray)) := (blk_cell BK137.out 0).trans rfl; have hcz78_1 : w75.cell? ⟨gb137, 1, none⟩ = some (.string (⟨#[]⟩ : ByteArray)) := (blk_cell BK137.out 1).trans rfl; have hcz78_2 : w75.cell? ⟨gb137, 2, none⟩ = some (.bool false) := (blk_cell BK137.out 2).trans rfl; have hcz78_3 : w75.cell? ⟨gb137, 3, none⟩ = some (.int .i64 0) := (blk_cell BK137.out 3).trans rfl; have hcz78_4 : w75.cell? ⟨gb137, 4, none⟩ = some (.int .i64 0) := (blk_cell BK137.out 4).trans rfl; have hcz78_5 : w75.cell? ⟨gb137, 5, none⟩ = some (.int .i64 0) := (blk_cell BK137.out 5).trans rfl; have hcz78_6 : w75.cell? ⟨gb137, 6, none⟩ = some (.string (⟨#[]⟩ : ByteArray)) := (blk_cell BK137.out 6).trans rfl; have hfz78_0 := blk_frozen BK137.out 0; have hfz78_1 := blk_frozen BK137.out 1; have hfz78_2 := blk_frozen BK137.out 2; have hfz78_3 := blk_frozen BK137.out 3; have hfz78_4 := blk_frozen BK137.out 4; have hfz78_5 := blk_frozen BK137.out 5; have hfz78_6 := blk_frozen BK137.out 6))
                                have n0_ : Aside0 (((((((((w75.setCell ⟨gb137, 0, none⟩ (.string x111000_13)).setCell ⟨gb137, 1, none⟩ (.string x111001_13)).setCell ⟨gb137, 2, none⟩ (.bool x111002_13)).setCell ⟨gb137, 3, none⟩ (.int .i64 x111003_13)).setCell ⟨gb137, 4, none⟩ (.int .i64 x111004_13)).setCell ⟨gb137, 5, none⟩ (.int .i64 x111005_13)).setCell ⟨gb137, 6, none⟩ (.string x111006_13)).setCell ⟨gb137, 0, none⟩ (.string a2)).heap[gb110]? = some (.cells #[.string x111000_13, .string x111001_13, .bool x111002_13, .int .i64 x111003_13, .int .i64 x111004_13, .int .i64 x111005_13, .string x111006_13] 23 (0, 0))) := ⟨by (with_reducible repeat (first | refine blk_drewN ?_ _ | refine blk_drew ?_ | refine blk_alloc ?_ _)); refine blk_far ?_ NB110_137.out _; (with_reducible repeat (first | refine blk_drewN ?_ _ | refine blk_drew ?_ | refine blk_alloc ?_ _)); refine blk_far ?_ NB110_137.out _; (with_reducible repeat (first | refine blk_drewN ?_ _ | refine blk_drew ?_ | refine blk_alloc ?_ _)); refine blk_far ?_ NB110_137.out _; (with_reducible repeat (first | refine blk_drewN ?_ _ | refine blk_drew ?_ | refine blk_alloc ?_ _)); refine blk_far ?_ NB110_137.out _; (with_reducible repeat (first | refine blk_drewN ?_ _ | refine blk_drew ?_ | refine blk_alloc ?_ _)); refine blk_far ?_ NB110_137.out _; (with_reducible repeat (first | refine blk_drewN ?_ _ | refine blk_drew ?_ | refine blk_alloc ?_ _)); refine blk_far ?_ NB110_137.out _; (with_reducible repeat (first | refine blk_drewN ?_ _ | refine blk_drew ?_ | refine blk_alloc ?_ _)); refine blk_far ?_ NB110_137.out _; (with_reducible repeat (first | refine blk_drewN ?_ _ | refine blk_drew ?_ | refine blk_alloc ?_ _)); refine blk_far ?_ NB110_137.out _; (with_reducible repeat (first | refine blk_drewN ?_ _ | refine blk_drew ?_ | refine blk_alloc ?_ _)); exact BK110.out⟩
                                have n1_ : Aside0 (((((((((w75.setCell ⟨gb137, 0, none⟩ (.string x111000_13)).setCell ⟨gb137, 1, none⟩ (.string x111001_13)).setCell ⟨gb137, 2, none⟩ (.bool x111002_13)).setCell ⟨gb137, 3, none⟩ (.int .i64 x111003_13)).setCell ⟨gb137, 4, none⟩ (.int .i64 x111004_13)).setCell ⟨gb137, 5, none⟩ (.int .i64 x111005_13)).setCell ⟨gb137, 6, none⟩ (.string x111006_13)).setCell ⟨gb137, 0, none⟩ (.string a2)).heap[gb131]? = some (.cells #[.string t123, .string t124, .bool t125, .int .i64 t126, .int .i64 t127, .int .i64 t128, .string t129] 23 (0, 0))) := ⟨by (with_reducible repeat (first | refine blk_drewN ?_ _ | refine blk_drew ?_ | refine blk_alloc ?_ _)); refine blk_far ?_ NB131_137.out _; (with_reducible repeat (first | refine blk_drewN ?_ _ | refine blk_drew ?_ | refine blk_alloc ?_ _)); refine blk_far ?_ NB131_137.out _; (with_reducible repeat (first | refine blk_drewN ?_ _ | refine blk_drew ?_ | refine blk_alloc ?_ _)); refine blk_far ?_ NB131_137.out _; (with_reducible repeat (first | refine blk_drewN ?_ _ | refine blk_drew ?_ | refine blk_alloc ?_ _)); refine blk_far ?_ NB131_137.out _; (with_reducible repeat (first | refine blk_drewN ?_ _ | refine blk_drew ?_ | refine blk_alloc ?_ _)); refine blk_far ?_ NB131_137.out _; (with_reducible repeat (first | refine blk_drewN ?_ _ | refine blk_drew ?_ | refine blk_alloc ?_ _)); refine blk_far ?_ NB131_137.out _; (with_reducible repeat (first | refine blk_drewN ?_ _ | refine blk_drew ?_ | refine blk_alloc ?_ _)); refine blk_far ?_ NB131_137.out _; (with_reducible repeat (first | refine blk_drewN ?_ _ | refine blk_drew ?_ | refine blk_alloc ?_ _)); refine blk_far ?_ NB131_137.out _; (with_reducible repeat (first | refine blk_drewN ?_ _ | refine blk_drew ?_ | refine blk_alloc ?_ _)); exact BK131.out⟩
                                have n2_ : Aside0 (((((((((w75.setCell ⟨gb137, 0, none⟩ (.string x111000_13)).setCell ⟨gb137, 1, none⟩ (.string x111001_13)).setCell ⟨gb137, 2, none⟩ (.bool x111002_13)).setCell ⟨gb137, 3, none⟩ (.int .i64 x111003_13)).setCell ⟨gb137, 4, none⟩ (.int .i64 x111004_13)).setCell ⟨gb137, 5, none⟩ (.int .i64 x111005_13)).setCell ⟨gb137, 6, none⟩ (.string x111006_13)).setCell ⟨gb137, 0, none⟩ (.string a2)).heap[gb137]? = some (.cells #[.string a2, .string x111001_13, .bool x111002_13, .int .i64 x111003_13, .int .i64 x111004_13, .int .i64 x111005_13, .string x111006_13] 23 (0, 0))) := ⟨by (with_reducible repeat (first | refine blk_drewN ?_ _ | refine blk_drew ?_ | refine blk_alloc ?_ _)); refine blk_put (cs := #[.string x111000_13, .string x111001_13, .bool x111002_13, .int .i64 x111003_13, .int .i64 x111004_13, .int .i64 x111005_13, .string x111006_13]) ?_ 0 _ rfl; (with_reducible repeat (first | refine blk_drewN ?_ _ | refine blk_drew ?_ | refine blk_alloc ?_ _)); refine blk_put (cs := #[.string x111000_13, .string x111001_13, .bool x111002_13, .int .i64 x111003_13, .int .i64 x111004_13, .int .i64 x111005_13, .string (⟨#[]⟩ : ByteArray)]) ?_ 6 _ rfl; (with_reducible repeat (first | refine blk_drewN ?_ _ | refine blk_drew ?_ | refine blk_alloc ?_ _)); refine blk_put (cs := #[.string x111000_13, .string x111001_13, .bool x111002_13, .int .i64 x111003_13, .int .i64 x111004_13, .int .i64 0, .string (⟨#[]⟩ : ByteArray)]) ?_ 5 _ rfl; (with_reducible repeat (first | refine blk_drewN ?_ _ | refine blk_drew ?_ | refine blk_alloc ?_ _)); refine blk_put (cs := #[.string x111000_13, .string x111001_13, .bool x111002_13, .int .i64 x111003_13, .int .i64 0, .int .i64 0, .string (⟨#[]⟩ : ByteArray)]) ?_ 4 _ rfl; (with_reducible repeat (first | refine blk_drewN ?_ _ | refine blk_drew ?_ | refine blk_alloc ?_ _)); refine blk_put (cs := #[.string x111000_13, .string x111001_13, .bool x111002_13, .int .i64 0, .int .i64 0, .int .i64 0, .string (⟨#[]⟩ : ByteArray)]) ?_ 3 _ rfl; (with_reducible repeat (first | refine blk_drewN ?_ _ | refine blk_drew ?_ | refine blk_alloc ?_ _)); refine blk_put (cs := #[.string x111000_13, .string x111001_13, .bool false, .int .i64 0, .int .i64 0, .int .i64 0, .string (⟨#[]⟩ : ByteArray)]) ?_ 2 _ rfl; (with_reducible repeat (first | refine blk_drewN ?_ _ | refine blk_drew ?_ | refine blk_alloc ?_ _)); refine blk_put (cs := #[.string x111000_13, .string (⟨#[]⟩ : ByteArray), .bool false, .int .i64 0, .int .i64 0, .int .i64 0, .string (⟨#[]⟩ : ByteArray)]) ?_ 1 _ rfl; (with_reducible repeat (first | refine blk_drewN ?_ _ | refine blk_drew ?_ | refine blk_alloc ?_ _)); refine blk_put (cs := #[.string (⟨#[]⟩ : ByteArray), .string (⟨#[]⟩ : ByteArray), .bool false, .int .i64 0, .int .i64 0, .int .i64 0, .string (⟨#[]⟩ : ByteArray)]) ?_ 0 _ rfl; (with_reducible repeat (first | refine blk_drewN ?_ _ | refine blk_drew ?_ | refine blk_alloc ?_ _)); exact BK137.out⟩
                                have n3_ : Aside0 (Below w.heap.size w ((((((((w75.setCell ⟨gb137, 0, none⟩ (.string x111000_13)).setCell ⟨gb137, 1, none⟩ (.string x111001_13)).setCell ⟨gb137, 2, none⟩ (.bool x111002_13)).setCell ⟨gb137, 3, none⟩ (.int .i64 x111003_13)).setCell ⟨gb137, 4, none⟩ (.int .i64 x111004_13)).setCell ⟨gb137, 5, none⟩ (.int .i64 x111005_13)).setCell ⟨gb137, 6, none⟩ (.string x111006_13)).setCell ⟨gb137, 0, none⟩ (.string a2))) := ⟨by repeat (first | (with_reducible first | exact HB.out | apply below_alloc | apply pw_below_drewN | apply below_drew1 | refine below_set ?_ GE110.out | refine below_set ?_ GE131.out | refine below_set ?_ GE137.out) | exact HB.out)⟩
                                (try clear BK110)
                                (try clear BK131)
                                (try clear BK137)
                                (try clear HB)
                                generalize ((((((((w75.setCell ⟨gb137, 0, none⟩ (.string x111000_13)).setCell ⟨gb137, 1, none⟩ (.string x111001_13)).setCell ⟨gb137, 2, none⟩ (.bool x111002_13)).setCell ⟨gb137, 3, none⟩ (.int .i64 x111003_13)).setCell ⟨gb137, 4, none⟩ (.int .i64 x111004_13)).setCell ⟨gb137, 5, none⟩ (.int .i64 x111005_13)).setCell ⟨gb137, 6, none⟩ (.string x111006_13)).setCell ⟨gb137, 0, none⟩ (.string a2)) = w79 at n0_ n1_ n2_ n3_ ⊢
                                have BK110 := n0_
                                have BK131 := n1_
                                have BK137 := n2_
                                have HB := n3_
                                clear n0_ n1_ n2_ n3_
                                have n0_ := Aside0.mk (blk_drew BK110.out)
                                have n1_ := Aside0.mk (blk_drew BK131.out)
                                have n2_ := Aside0.mk (blk_drew BK137.out)
                                have n3_ := Aside0.mk (below_drew1 HB.out)
                                clear BK110
                                clear BK131
                                clear BK137
                                clear HB
                                have BK110 := n0_
                                have BK131 := n1_
                                have BK137 := n2_
                                have HB := n3_
                                clear n0_ n1_ n2_ n3_
                                refine start_ (n := 9) (S := fun w' => w'.cell? ⟨gb137, 0, none⟩ = some (.string a2) ∧ w'.cell? ⟨gb137, 1, none⟩ = some (.string x111001_13) ∧ w'.cell? ⟨gb137, 2, none⟩ = some (.bool x111002_13) ∧ w'.cell? ⟨gb137, 3, none⟩ = some (.int .i64 x111003_13) ∧ w'.cell? ⟨gb137, 4, none⟩ = some (.int .i64 x111004_13) ∧ w'.cell? ⟨gb137, 5, none⟩ = some (.int .i64 x111005_13) ∧ w'.cell? ⟨gb137, 6, none⟩ = some (.string x111006_13) ∧ w'.cell? ⟨gb110, 0, none⟩ = some (.string x111000_13) ∧ w'.cell? ⟨gb110, 1, none⟩ = some (.string x111001_13) ∧ w'.cell? ⟨gb110, 2, none⟩ = some (.bool x111002_13) ∧ w'.cell? ⟨gb110, 3, none⟩ = some (.int .i64 x111003_13) ∧ w'.cell? ⟨gb110, 4, none⟩ = some (.int .i64 x111004_13) ∧ w'.cell? ⟨gb110, 5, none⟩ = some (.int .i64 x111005_13) ∧ w'.cell? ⟨gb110, 6, none⟩ = some (.string x111006_13)) (ds := []) #[false, false, false, false, false, false, false, false, false] (by kernel_rfl) rfl rfl ⟨(blk_cell BK137.out 0).trans rfl, (blk_cell BK137.out 1).trans rfl, (blk_cell BK137.out 2).trans rfl, (blk_cell BK137.out 3).trans rfl, (blk_cell BK137.out 4).trans rfl, (blk_cell BK137.out 5).trans rfl, (blk_cell BK137.out 6).trans rfl, (blk_cell BK110.out 0).trans rfl, (blk_cell BK110.out 1).trans rfl, (blk_cell BK110.out 2).trans rfl, (blk_cell BK110.out 3).trans rfl, (blk_cell BK110.out 4).trans rfl, (blk_cell BK110.out 5).trans rfl, (blk_cell BK110.out 6).trans rfl⟩ (fun hHeld => ?_); refine with_tabW treebridgelaw02_LlcBack.tab22 treebridgelaw02_LlcBack.bits22 (fun HT_ HW_ => ?_)
                                generalize w79.drew = w80 at BK110 BK131 BK137 HB hHeld ⊢
                                refine pure_ (i := 2) (N := some 112) (v := ?_) (a' := ?_) #[false, false, true, false, false, false, false, false, false] rfl rfl (any_of HT_.out (by kernel_rfl)) (fun _ _ _ h => h) (Or.inl ⟨by rfl, ?_⟩) ?_ ?_
                                rotate_left
                                · intro w'
                                  go_simp
                                  with_reducible rfl
                                rotate_left
                                · simp only [Act.put, List.setIfInBounds_toArray, List.set_cons_zero, List.set_cons_succ, i64_w, i32_w]
                                  rfl
                                refine pure_ (i := 4) (N := some 114) (v := ?_) (a' := ?_) #[false, false, true, false, true, false, false, false, false] rfl rfl (any_of HT_.out (by kernel_rfl)) (fun _ _ _ h => h) (Or.inl ⟨by rfl, ?_⟩) ?_ ?_
                                rotate_left
                                · intro w'
                                  go_simp
                                  with_reducible rfl
                                rotate_left
                                · simp only [Act.put, List.setIfInBounds_toArray, List.set_cons_zero, List.set_cons_succ, i64_w, i32_w]
                                  rfl
                                refine pure_ (i := 5) (N := some 115) (v := ?_) (a' := ?_) #[false, false, true, false, true, true, false, false, false] rfl rfl (any_of HT_.out (by kernel_rfl)) (fun _ _ _ h => h) (Or.inl ⟨by rfl, ?_⟩) ?_ ?_
                                rotate_left
                                · intro w'
                                  go_simp
                                  with_reducible rfl
                                rotate_left
                                · simp only [Act.put, List.setIfInBounds_toArray, List.set_cons_zero, List.set_cons_succ, i64_w, i32_w]
                                  rfl
                                refine take_ (i := 0) (N := some 110) (v := ?_) (a' := ?_) #[true, false, true, false, true, true, false, false, false] rfl rfl (take_ofW HT_.out HW_.out (by kernel_rfl)) (fun _ _ _ h => h) (Or.inl ⟨by rfl, ?_⟩) hHeld ?_ ?_
                                rotate_left
                                · rintro w' ⟨s0, s1, s2, s3, s4, s5, s6, s7, s8, s9, s10, s11, s12, s13⟩
                                  go_simp
                                  with_reducible rfl
                                rotate_left
                                · simp only [Act.put, List.setIfInBounds_toArray, List.set_cons_zero, List.set_cons_succ, i64_w, i32_w]
                                  rfl
                                refine take_ (i := 6) (N := some 116) (v := ?_) (a' := ?_) #[true, false, true, false, true, true, true, false, false] rfl rfl (take_ofW HT_.out HW_.out (by kernel_rfl)) (fun _ _ _ h => h) (Or.inl ⟨by rfl, ?_⟩) hHeld ?_ ?_
                                rotate_left
                                · rintro w' ⟨s0, s1, s2, s3, s4, s5, s6, s7, s8, s9, s10, s11, s12, s13⟩
                                  go_simp
                                  with_reducible rfl
                                rotate_left
                                · simp only [Act.put, List.setIfInBounds_toArray, List.set_cons_zero, List.set_cons_succ, i64_w, i32_w]
                                  rfl
                                refine pure_ (i := 7) (N := some 117) (v := ?_) (a' := ?_) #[true, false, true, false, true, true, true, true, false] rfl rfl (any_of HT_.out (by kernel_rfl)) (fun _ _ _ h => h) (Or.inl ⟨by rfl, ?_⟩) ?_ ?_
                                rotate_left
                                · intro w'
                                  go_simp
                                  with_reducible rfl
                                rotate_left
                                · simp only [Act.put, List.setIfInBounds_toArray, List.set_cons_zero, List.set_cons_succ, i64_w, i32_w]
                                  rfl
                                refine one_ (i := 1) (N := some 111) #[true, true, true, false, true, true, true, true, false] rfl rfl (one_of HT_.out (by kernel_rfl)) (by decide) (fun K hK => ?_)
                                refine goes_ Try.func24 (by kernel_rfl) rfl #[.agg #[.string a2, .string x111001_13, .bool x111002_13, .int .i64 x111003_13, .int .i64 x111004_13, .int .i64 x111005_13, .string x111006_13]] (by rfl) rfl rfl (by (try simp only [List.map_toArray, List.map_cons, List.map_nil]); first | done | rfl | (simp only [List.length_drop, List.length_take]; rfl)) ?_
                                with_reducible refine (llc_Kind.calls kj23 a2 x111001_13 x111002_13 x111003_13 x111004_13 x111005_13 x111006_13 t138 _ A67.out).mono ?_
                                rintro e w81 ⟨rfl, hb⟩
                                refine ⟨_, rfl, ?_⟩
                                have n0_ := Aside0.mk (blk_below (g := gb110) (o := .cells #[.string x111000_13, .string x111001_13, .bool x111002_13, .int .i64 x111003_13, .int .i64 x111004_13, .int .i64 x111005_13, .string x111006_13] 23 (0, 0)) (by (with_reducible repeat (first | refine blk_drewN ?_ _ | refine blk_drew ?_ | refine blk_alloc ?_ _)); exact BK110.out) hb)
                                have n1_ := Aside0.mk (blk_below (g := gb131) (o := .cells #[.string t123, .string t124, .bool t125, .int .i64 t126, .int .i64 t127, .int .i64 t128, .string t129] 23 (0, 0)) (by (with_reducible repeat (first | refine blk_drewN ?_ _ | refine blk_drew ?_ | refine blk_alloc ?_ _)); exact BK131.out) hb)
                                have n2_ := Aside0.mk (blk_below (g := gb137) (o := .cells #[.string a2, .string x111001_13, .bool x111002_13, .int .i64 x111003_13, .int .i64 x111004_13, .int .i64 x111005_13, .string x111006_13] 23 (0, 0)) (by (with_reducible repeat (first | refine blk_drewN ?_ _ | refine blk_drew ?_ | refine blk_alloc ?_ _)); exact BK137.out) hb)
                                have n3_ := Aside0.mk (below_step (by repeat (first | (with_reducible first | exact HB.out | apply below_alloc | apply pw_below_drewN | apply below_drew1 | refine below_set ?_ GE110.out | refine below_set ?_ GE131.out | refine below_set ?_ GE137.out) | exact HB.out)) hb)
                                clear BK110
                                clear BK131
                                clear BK137
                                clear HB
                                have BK110 := n0_
                                have BK131 := n1_
                                have BK137 := n2_
                                have HB := n3_
                                clear n0_ n1_ n2_ n3_
                                (try clear hb)
                                (try clear hb2)
                                (try clear hk)
                                (try clear hi)
                                refine hK.out _ _ ⟨(blk_cell BK137.out 0).trans rfl, (blk_cell BK137.out 1).trans rfl, (blk_cell BK137.out 2).trans rfl, (blk_cell BK137.out 3).trans rfl, (blk_cell BK137.out 4).trans rfl, (blk_cell BK137.out 5).trans rfl, (blk_cell BK137.out 6).trans rfl, (blk_cell BK110.out 0).trans rfl, (blk_cell BK110.out 1).trans rfl, (blk_cell BK110.out 2).trans rfl, (blk_cell BK110.out 3).trans rfl, (blk_cell BK110.out 4).trans rfl, (blk_cell BK110.out 5).trans rfl, (blk_cell BK110.out 6).trans rfl⟩ (fun hHeld => ?_)
                                clear hK K
                                refine norm_ (a' := ?_) ?_ ?_
                                rotate_left
                                · show Act.put _ (some 111) _ = _
                                  simp only [Act.put, List.setIfInBounds_toArray, List.set_cons_zero, List.set_cons_succ, i64_w, i32_w]
                                  rfl
                                refine pure_ (i := 3) (N := some 113) (v := ?_) (a' := ?_) #[true, true, true, true, true, true, true, true, false] rfl rfl (any_of HT_.out (by kernel_rfl)) (fun _ _ _ h => h) (Or.inl ⟨by rfl, ?_⟩) ?_ ?_
                                rotate_left
                                · intro w'
                                  go_simp
                                  with_reducible rfl
                                rotate_left
                                · simp only [Act.put, List.setIfInBounds_toArray, List.set_cons_zero, List.set_cons_succ, i64_w, i32_w]
                                  rfl
                                refine pure_ (i := 8) (N := some 118) (v := ?_) (a' := ?_) #[true, true, true, true, true, true, true, true, true] rfl rfl (any_of HT_.out (by kernel_rfl)) (fun _ _ _ h => h) (Or.inl ⟨by rfl, ?_⟩) ?_ ?_
                                rotate_left
                                · intro w'
                                  go_simp
                                  with_reducible rfl
                                rotate_left
                                · simp only [Act.put, List.setIfInBounds_toArray, List.set_cons_zero, List.set_cons_succ, i64_w, i32_w]
                                  rfl
                                refine done_ (done_of HT_.out (by kernel_rfl)) ?_
                                try go_wp2
                                go_roundg kj23
                                case measure => have := HJ6.out; have := HK2.out; have := HJ13.out; have := HJ23.out; omega
                                case rel => exact ⟨(wrap64 (x9_2 + 1)), (by first | rfl | (simp; done) | (simp [*]; done)), H', ⟨by have := HJ6.out; have := HK2.out; have := HJ13.out; have := HJ23.out; omega⟩, ⟨by repeat (first | (with_reducible first | exact HB.out | apply below_alloc | apply pw_below_drewN | apply below_drew1 | refine below_set ?_ GE110.out | refine below_set ?_ GE131.out | refine below_set ?_ GE137.out) | exact HB.out)⟩⟩
                    · rw [if_neg c22] at H
                      have c22b0 : (x11_13 == 0) = false := beq_eq_false_iff_ne.mpr c22
                      have c22b1 : (x11_13 != 0) = true := bne_iff_ne.mpr c22
                      have H' := Aside0.mk H
                      clear H
                      go_wp2
                      go_roundg kj13
                      case measure => have := HJ6.out; have := HK2.out; have := HJ13.out; omega
                      case rel => exact ⟨(wrap64 (x9_2 + 1)), (by first | rfl | (simp; done) | (simp [*]; done)), H', ⟨by have := HJ6.out; have := HK2.out; have := HJ13.out; omega⟩, ⟨by repeat (first | (with_reducible first | exact HB.out | apply below_alloc | apply pw_below_drewN | apply below_drew1 | refine below_set ?_ GE110.out) | exact HB.out)⟩⟩
              · rw [if_neg c12] at H
                have c12b0 : decide (x9_2 < 3) = false := decide_eq_false c12
                clear c12
                obtain rfl := Option.some.inj H
                go_wp2
                go_ret
                exact ⟨by first | rfl | (simp [errW_none, errW_some] <;> rfl) | (simp [*, errW_none, errW_some] <;> rfl), by repeat (first | (with_reducible first | exact HB.out | apply below_alloc | apply pw_below_drewN | apply below_drew1) | exact HB.out)⟩
  · replace c6 := Bool.eq_false_iff.mpr c6
    subst c6
    have H1 : (none) = some r := by rw [if_neg (show ¬ (false = true) by decide)] at H; exact H
    clear H
    have H := H1
    clear H1
    exact absurd H (by simp)

/-- THE ONE PURE STATEMENT of treebridgelaw02_LlcBack: yours. -/
def treebridgelaw02_LlcBack.Pure0 : Prop := ∀ (a0 : ByteArray) (a1 : ByteArray) (a2 : ByteArray) (a3 : Int), a0.size ≤ 140737488351232 → a1.size ≤ 140737488351232 → a2.size ≤ 140737488351232 → (Lit.int .i64 a3).wf = true → ∃ k, treebridgelaw02_LlcBack.f k a0 a1 a2 a3 = some true
theorem treebridgelaw02_LlcBack.walk (P : treebridgelaw02_LlcBack.Pure0) (a0 : ByteArray) (a1 : ByteArray) (a2 : ByteArray) (a3 : Int) (w : World) (w0 : a0.size ≤ 140737488351232) (w1 : a1.size ≤ 140737488351232) (w2 : a2.size ≤ 140737488351232) (w3 : (Lit.int .i64 a3).wf = true) :
    Calls Try.prog 4 #[.string a0, .string a1, .string a2, .int .i64 a3] w fun e w' => e = .returned (.bool true) ∧ Below w.heap.size w w' := by
  obtain ⟨k, h⟩ := P a0 a1 a2 a3 w0 w1 w2 w3
  refine (treebridgelaw02_LlcBack.calls k a0 a1 a2 a3 true w h).mono ?_
  rintro e w' ⟨rfl, hd⟩
  exact ⟨rfl, hd⟩

end Go.Proofs.Yticobcojmpakfaa.P
