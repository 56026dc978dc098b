-- Written by a program of this session (pp.py, over the kit's printer and texts given by hand).
import Derived.Test.YticobcojmpakfaaP0
import Derived.Test.YticobcojmpakfaaPeqA23
import Derived.Test.YticobcojmpakfaaPframeRight
import Derived.Test.YticobcojmpakfaaPtreebridgelaw01Few
import Derived.Test.YticobcojmpakfaaPframeWith
import Derived.Test.YticobcojmpakfaaPframeParse
import Derived.Test.YticobcojmpakfaaPframePrint
import Derived.Test.YticobcojmpakfaaPtreebridgelaw01Awake
import Derived.Test.YticobcojmpakfaaPframeWithout
namespace Go.Proofs.Yticobcojmpakfaa.P
open Go.RowKit Go.Proofs.YticobcojmpakfaaW.PrintWords Go.Proofs.YticobcojmpakfaaW.PrintLast Go.Proofs.YticobcojmpakfaaW.PrintMore
attribute [local go_sem] max2_int min2_int max_two min_two max_three min_three max_four min_four   -- for this text's walks alone
set_option linter.unusedVariables false
set_option linter.unusedSimpArgs false

attribute [local go_sem high] eqA23
/-! ### treebridgelaw01_FrameBack: function 7 -/
mutual
def treebridgelaw01_FrameBack.j0 : Nat → Int → ByteArray → Bool → ByteArray → ByteArray → Bool → Int → Int → Int → ByteArray → ByteArray → ByteArray → Bool → Int → Int → Int → ByteArray → Option (Bool)
  | 0, _, _, _, _, _, _, _, _, _, _, _, _, _, _, _, _, _ => none
  | k + 1, x2, x3, x39, x344000, x344001, x344002, x344003, x344004, x344005, x344006, x345000, x345001, x345002, x345003, x345004, x345005, x345006 => if x39 = true then (some true) else ((frame_Parse.f k x3).bind fun bt348 => (if bt348.2.2.2.2.2.2.2 = 0 then ((frame_Print.f k bt348.1 bt348.2.1 bt348.2.2.1 bt348.2.2.2.1 bt348.2.2.2.2.1 bt348.2.2.2.2.2.1 bt348.2.2.2.2.2.2.1).bind fun bt357 => (if bt357.1.toList = x3.toList then (if bt357.2 = 0 then (treebridgelaw01_FrameBack.j1 k x2 x344000 x344001 x344002 x344003 x344004 x344005 x344006 x345000 x345001 x345002 x345003 x345004 x345005 x345006) else (none)) else (none))) else (treebridgelaw01_FrameBack.j1 k x2 x344000 x344001 x344002 x344003 x344004 x344005 x344006 x345000 x345001 x345002 x345003 x345004 x345005 x345006)))
def treebridgelaw01_FrameBack.j1 : Nat → Int → ByteArray → ByteArray → Bool → Int → Int → Int → ByteArray → ByteArray → ByteArray → Bool → Int → Int → Int → ByteArray → Option (Bool)
  | 0, _, _, _, _, _, _, _, _, _, _, _, _, _, _, _ => none
  | k + 1, x2, x344000, x344001, x344002, x344003, x344004, x344005, x344006, x345000, x345001, x345002, x345003, x345004, x345005, x345006 => (frame_Print.f k x344000 x344001 x344002 x344003 x344004 x344005 x344006).bind fun bt359 => ((frame_Print.f k x345000 x345001 x345002 x345003 x345004 x345005 x345006).bind fun bt361 => (if bt359.2 = 0 then ((frame_Parse.f k bt359.1).bind fun bt364 => (if (!(bt364.1.toList == x344000.toList) || (!(bt364.2.1.toList == x344001.toList) || (!(bt364.2.2.1 == x344002) || (!(bt364.2.2.2.1 == x344003) || (!(bt364.2.2.2.2.1 == x344004) || (!(bt364.2.2.2.2.2.1 == x344005) || (!(bt364.2.2.2.2.2.2.1.toList == x344006.toList)))))))) = true then (treebridgelaw01_FrameBack.j2 k x2 bt359.1 true x344000 x344001 x344002 x344003 x344004 x344005 x344006) else (if bt364.2.2.2.2.2.2.2 = 0 then (if bt361.2 = 0 then (treebridgelaw01_FrameBack.j2 k x2 bt359.1 ((bt359.1.toList == bt361.1.toList) != (x344000.toList == x345000.toList && (x344001.toList == x345001.toList && (x344002 == x345002 && (x344003 == x345003 && (x344004 == x345004 && (x344005 == x345005 && (x344006.toList == x345006.toList)))))))) x344000 x344001 x344002 x344003 x344004 x344005 x344006) else (treebridgelaw01_FrameBack.j2 k x2 bt359.1 false x344000 x344001 x344002 x344003 x344004 x344005 x344006)) else (treebridgelaw01_FrameBack.j2 k x2 bt359.1 true x344000 x344001 x344002 x344003 x344004 x344005 x344006)))) else (if bt359.1.toList = ([] : List UInt8) then ((frame_Right.f k x344000 x344001 x344002 x344003 x344004 x344005 x344006).bind fun t363 => (some (!t363))) else (none))))
def treebridgelaw01_FrameBack.j2 : Nat → Int → ByteArray → Bool → ByteArray → ByteArray → Bool → Int → Int → Int → ByteArray → Option (Bool)
  | 0, _, _, _, _, _, _, _, _, _, _ => none
  | k + 1, x2, x13, x102, x344000, x344001, x344002, x344003, x344004, x344005, x344006 => if x102 = true then (none) else ((frame_With.f k x344000 x344001 x344002 x344003 x344004 x344005 x344006 x2).bind fun bt373 => (if bt373.2.2.2.2.2.2.2 = 0 then (treebridgelaw01_FrameBack.j3 k x13 x344002 x344000 x344001 x344002 x344003 x344004 x344005 x344006 bt373.1 bt373.2.1 bt373.2.2.1 bt373.2.2.2.1 bt373.2.2.2.2.1 bt373.2.2.2.2.2.1 bt373.2.2.2.2.2.2.1) else (treebridgelaw01_FrameBack.j3 k x13 true x344000 x344001 x344002 x344003 x344004 x344005 x344006 bt373.1 bt373.2.1 bt373.2.2.1 bt373.2.2.2.1 bt373.2.2.2.2.1 bt373.2.2.2.2.2.1 bt373.2.2.2.2.2.2.1)))
def treebridgelaw01_FrameBack.j3 : Nat → ByteArray → Bool → ByteArray → ByteArray → Bool → Int → Int → Int → ByteArray → ByteArray → ByteArray → Bool → Int → Int → Int → ByteArray → Option (Bool)
  | 0, _, _, _, _, _, _, _, _, _, _, _, _, _, _, _, _ => none
  | k + 1, x13, x114, x344000, x344001, x344002, x344003, x344004, x344005, x344006, x382000, x382001, x382002, x382003, x382004, x382005, x382006 => if x114 = true then (some true) else ((frame_Print.f k x382000 x382001 x382002 x382003 x382004 x382005 x382006).bind fun bt382 => ((frame_Without.f k x382000 x382001 x382002 x382003 x382004 x382005 x382006).bind fun bt384 => (if bt382.2 = 0 then (if (bt382.1.size : Int) = (wrap64 ((x13.size : Int) + 4)) then (if (bt384.1.toList == x344000.toList && (bt384.2.1.toList == x344001.toList && (bt384.2.2.1 == x344002 && (bt384.2.2.2.1 == x344003 && (bt384.2.2.2.2.1 == x344004 && (bt384.2.2.2.2.2.1 == x344005 && (bt384.2.2.2.2.2.2.1.toList == x344006.toList))))))) = true then (some (bt384.2.2.2.2.2.2.2 == 0)) else (none)) else (none)) else (none))))
end
def treebridgelaw01_FrameBack.f (k : Nat) (a0_0 : ByteArray) (a0_1 : ByteArray) (a0_2 : Bool) (a0_3 : Int) (a0_4 : Int) (a0_5 : Int) (a0_6 : ByteArray) (a1_0 : ByteArray) (a1_1 : ByteArray) (a1_2 : Bool) (a1_3 : Int) (a1_4 : Int) (a1_5 : Int) (a1_6 : ByteArray) (a2 : Int) (a3 : ByteArray) : Option (Bool) := (treebridgelaw01_awake.f k).bind fun t345 => (if t345 = true then ((treebridgelaw01_Few.f a0_0 a0_1 a0_2 a0_3 a0_4 a0_5 a0_6).bind fun t346 => (if t346 = true then ((treebridgelaw01_Few.f a1_0 a1_1 a1_2 a1_3 a1_4 a1_5 a1_6).bind fun t347 => (if t347 = true then (treebridgelaw01_FrameBack.j0 k a2 a3 (decide ((a3.size : Int) > 1700)) a0_0 a0_1 a0_2 a0_3 a0_4 a0_5 a0_6 a1_0 a1_1 a1_2 a1_3 a1_4 a1_5 a1_6) else (treebridgelaw01_FrameBack.j0 k a2 a3 true a0_0 a0_1 a0_2 a0_3 a0_4 a0_5 a0_6 a1_0 a1_1 a1_2 a1_3 a1_4 a1_5 a1_6))) else (treebridgelaw01_FrameBack.j0 k a2 a3 true a0_0 a0_1 a0_2 a0_3 a0_4 a0_5 a0_6 a1_0 a1_1 a1_2 a1_3 a1_4 a1_5 a1_6))) else (none))
theorem treebridgelaw01_FrameBack.mono_l : ∀ k, (∀ y0 y1 y2 y3 y4 y5 y6 y7 y8 y9 y10 y11 y12 y13 y14 y15 y16, LeO (treebridgelaw01_FrameBack.j0 k y0 y1 y2 y3 y4 y5 y6 y7 y8 y9 y10 y11 y12 y13 y14 y15 y16) (treebridgelaw01_FrameBack.j0 (k + 1) y0 y1 y2 y3 y4 y5 y6 y7 y8 y9 y10 y11 y12 y13 y14 y15 y16)) ∧ (∀ y0 y1 y2 y3 y4 y5 y6 y7 y8 y9 y10 y11 y12 y13 y14, LeO (treebridgelaw01_FrameBack.j1 k y0 y1 y2 y3 y4 y5 y6 y7 y8 y9 y10 y11 y12 y13 y14) (treebridgelaw01_FrameBack.j1 (k + 1) y0 y1 y2 y3 y4 y5 y6 y7 y8 y9 y10 y11 y12 y13 y14)) ∧ (∀ y0 y1 y2 y3 y4 y5 y6 y7 y8 y9, LeO (treebridgelaw01_FrameBack.j2 k y0 y1 y2 y3 y4 y5 y6 y7 y8 y9) (treebridgelaw01_FrameBack.j2 (k + 1) y0 y1 y2 y3 y4 y5 y6 y7 y8 y9)) ∧ (∀ y0 y1 y2 y3 y4 y5 y6 y7 y8 y9 y10 y11 y12 y13 y14 y15, LeO (treebridgelaw01_FrameBack.j3 k y0 y1 y2 y3 y4 y5 y6 y7 y8 y9 y10 y11 y12 y13 y14 y15) (treebridgelaw01_FrameBack.j3 (k + 1) y0 y1 y2 y3 y4 y5 y6 y7 y8 y9 y10 y11 y12 y13 y14 y15))
  | 0 => ⟨fun _ _ _ _ _ _ _ _ _ _ _ _ _ _ _ _ _ r h => by simp [treebridgelaw01_FrameBack.j0] at h, fun _ _ _ _ _ _ _ _ _ _ _ _ _ _ _ r h => by simp [treebridgelaw01_FrameBack.j1] at h, fun _ _ _ _ _ _ _ _ _ _ r h => by simp [treebridgelaw01_FrameBack.j2] at h, fun _ _ _ _ _ _ _ _ _ _ _ _ _ _ _ _ r h => by simp [treebridgelaw01_FrameBack.j3] at h⟩
  | k + 1 => by
    obtain ⟨ih0, ih1, ih2, ih3⟩ := treebridgelaw01_FrameBack.mono_l k
    refine ⟨?_, ?_, ?_, ?_⟩
    · intro y0 y1 y2 y3 y4 y5 y6 y7 y8 y9 y10 y11 y12 y13 y14 y15 y16
      unfold treebridgelaw01_FrameBack.j0
      repeat' first
      | (with_reducible exact ih0 _ _ _ _ _ _ _ _ _ _ _ _ _ _ _ _ _)
      | (with_reducible exact ih1 _ _ _ _ _ _ _ _ _ _ _ _ _ _ _)
      | (with_reducible exact ih2 _ _ _ _ _ _ _ _ _ _)
      | (with_reducible exact ih3 _ _ _ _ _ _ _ _ _ _ _ _ _ _ _ _)
      | (with_reducible exact frame_Parse.mono _ _)
      | (with_reducible exact frame_Print.mono _ _ _ _ _ _ _ _)
      | (with_reducible exact frame_Right.mono _ _ _ _ _ _ _ _)
      | (with_reducible exact frame_With.mono _ _ _ _ _ _ _ _ _)
      | (with_reducible exact frame_Without.mono _ _ _ _ _ _ _ _)
      | (with_reducible exact treebridgelaw01_awake.mono _)
      | (with_reducible exact LeO.refl _)
      | (with_reducible exact LeO.none _)
      | (with_reducible refine LeO.ite ?_ ?_)
      | (with_reducible refine LeO.bind ?_ (fun _ => ?_))
      | exact ih0 _ _ _ _ _ _ _ _ _ _ _ _ _ _ _ _ _
      | exact ih1 _ _ _ _ _ _ _ _ _ _ _ _ _ _ _
      | exact ih2 _ _ _ _ _ _ _ _ _ _
      | exact ih3 _ _ _ _ _ _ _ _ _ _ _ _ _ _ _ _
      | exact frame_Parse.mono _ _
      | exact frame_Print.mono _ _ _ _ _ _ _ _
      | exact frame_Right.mono _ _ _ _ _ _ _ _
      | exact frame_With.mono _ _ _ _ _ _ _ _ _
      | exact frame_Without.mono _ _ _ _ _ _ _ _
      | exact treebridgelaw01_awake.mono _
      | exact LeO.none _
      | refine LeO.ite ?_ ?_
      | refine LeO.bind ?_ (fun _ => ?_)
    · intro y0 y1 y2 y3 y4 y5 y6 y7 y8 y9 y10 y11 y12 y13 y14
      unfold treebridgelaw01_FrameBack.j1
      repeat' first
      | (with_reducible exact ih0 _ _ _ _ _ _ _ _ _ _ _ _ _ _ _ _ _)
      | (with_reducible exact ih1 _ _ _ _ _ _ _ _ _ _ _ _ _ _ _)
      | (with_reducible exact ih2 _ _ _ _ _ _ _ _ _ _)
      | (with_reducible exact ih3 _ _ _ _ _ _ _ _ _ _ _ _ _ _ _ _)
      | (with_reducible exact frame_Parse.mono _ _)
      | (with_reducible exact frame_Print.mono _ _ _ _ _ _ _ _)
      | (with_reducible exact frame_Right.mono _ _ _ _ _ _ _ _)
      | (with_reducible exact frame_With.mono _ _ _ _ _ _ _ _ _)
      | (with_reducible exact frame_Without.mono _ _ _ _ _ _ _ _)
      | (with_reducible exact treebridgelaw01_awake.mono _)
      | (with_reducible exact LeO.refl _)
      | (with_reducible exact LeO.none _)
      | (with_reducible refine LeO.ite ?_ ?_)
      | (with_reducible refine LeO.bind ?_ (fun _ => ?_))
      | exact ih0 _ _ _ _ _ _ _ _ _ _ _ _ _ _ _ _ _
      | exact ih1 _ _ _ _ _ _ _ _ _ _ _ _ _ _ _
      | exact ih2 _ _ _ _ _ _ _ _ _ _
      | exact ih3 _ _ _ _ _ _ _ _ _ _ _ _ _ _ _ _
      | exact frame_Parse.mono _ _
      | exact frame_Print.mono _ _ _ _ _ _ _ _
      | exact frame_Right.mono _ _ _ _ _ _ _ _
      | exact frame_With.mono _ _ _ _ _ _ _ _ _
      | exact frame_Without.mono _ _ _ _ _ _ _ _
      | exact treebridgelaw01_awake.mono _
      | exact LeO.none _
      | refine LeO.ite ?_ ?_
      | refine LeO.bind ?_ (fun _ => ?_)
    · intro y0 y1 y2 y3 y4 y5 y6 y7 y8 y9
      unfold treebridgelaw01_FrameBack.j2
      repeat' first
      | (with_reducible exact ih0 _ _ _ _ _ _ _ _ _ _ _ _ _ _ _ _ _)
      | (with_reducible exact ih1 _ _ _ _ _ _ _ _ _ _ _ _ _ _ _)
      | (with_reducible exact ih2 _ _ _ _ _ _ _ _ _ _)
      | (with_reducible exact ih3 _ _ _ _ _ _ _ _ _ _ _ _ _ _ _ _)
      | (with_reducible exact frame_Parse.mono _ _)
      | (with_reducible exact frame_Print.mono _ _ _ _ _ _ _ _)
      | (with_reducible exact frame_Right.mono _ _ _ _ _ _ _ _)
      | (with_reducible exact frame_With.mono _ _ _ _ _ _ _ _ _)
      | (with_reducible exact frame_Without.mono _ _ _ _ _ _ _ _)
      | (with_reducible exact treebridgelaw01_awake.mono _)
      | (with_reducible exact LeO.refl _)
      | (with_reducible exact LeO.none _)
      | (with_reducible refine LeO.ite ?_ ?_)
      | (with_reducible refine LeO.bind ?_ (fun _ => ?_))
      | exact ih0 _ _ _ _ _ _ _ _ _ _ _ _ _ _ _ _ _
      | exact ih1 _ _ _ _ _ _ _ _ _ _ _ _ _ _ _
      | exact ih2 _ _ _ _ _ _ _ _ _ _
      | exact ih3 _ _ _ _ _ _ _ _ _ _ _ _ _ _ _ _
      | exact frame_Parse.mono _ _
      | exact frame_Print.mono _ _ _ _ _ _ _ _
      | exact frame_Right.mono _ _ _ _ _ _ _ _
      | exact frame_With.mono _ _ _ _ _ _ _ _ _
      | exact frame_Without.mono _ _ _ _ _ _ _ _
      | exact treebridgelaw01_awake.mono _
      | exact LeO.none _
      | refine LeO.ite ?_ ?_
      | refine LeO.bind ?_ (fun _ => ?_)
    · intro y0 y1 y2 y3 y4 y5 y6 y7 y8 y9 y10 y11 y12 y13 y14 y15
      unfold treebridgelaw01_FrameBack.j3
      repeat' first
      | (with_reducible exact ih0 _ _ _ _ _ _ _ _ _ _ _ _ _ _ _ _ _)
      | (with_reducible exact ih1 _ _ _ _ _ _ _ _ _ _ _ _ _ _ _)
      | (with_reducible exact ih2 _ _ _ _ _ _ _ _ _ _)
      | (with_reducible exact ih3 _ _ _ _ _ _ _ _ _ _ _ _ _ _ _ _)
      | (with_reducible exact frame_Parse.mono _ _)
      | (with_reducible exact frame_Print.mono _ _ _ _ _ _ _ _)
      | (with_reducible exact frame_Right.mono _ _ _ _ _ _ _ _)
      | (with_reducible exact frame_With.mono _ _ _ _ _ _ _ _ _)
      | (with_reducible exact frame_Without.mono _ _ _ _ _ _ _ _)
      | (with_reducible exact treebridgelaw01_awake.mono _)
      | (with_reducible exact LeO.refl _)
      | (with_reducible exact LeO.none _)
      | (with_reducible refine LeO.ite ?_ ?_)
      | (with_reducible refine LeO.bind ?_ (fun _ => ?_))
      | exact ih0 _ _ _ _ _ _ _ _ _ _ _ _ _ _ _ _ _
      | exact ih1 _ _ _ _ _ _ _ _ _ _ _ _ _ _ _
      | exact ih2 _ _ _ _ _ _ _ _ _ _
      | exact ih3 _ _ _ _ _ _ _ _ _ _ _ _ _ _ _ _
      | exact frame_Parse.mono _ _
      | exact frame_Print.mono _ _ _ _ _ _ _ _
      | exact frame_Right.mono _ _ _ _ _ _ _ _
      | exact frame_With.mono _ _ _ _ _ _ _ _ _
      | exact frame_Without.mono _ _ _ _ _ _ _ _
      | exact treebridgelaw01_awake.mono _
      | exact LeO.none _
      | refine LeO.ite ?_ ?_
      | refine LeO.bind ?_ (fun _ => ?_)
theorem treebridgelaw01_FrameBack.mono : ∀ a0 a1 a2 a3 a4 a5 a6 a7 a8 a9 a10 a11 a12 a13 a14 a15 k, LeO (treebridgelaw01_FrameBack.f k a0 a1 a2 a3 a4 a5 a6 a7 a8 a9 a10 a11 a12 a13 a14 a15) (treebridgelaw01_FrameBack.f (k + 1) a0 a1 a2 a3 a4 a5 a6 a7 a8 a9 a10 a11 a12 a13 a14 a15) := by
  intro a0 a1 a2 a3 a4 a5 a6 a7 a8 a9 a10 a11 a12 a13 a14 a15 k
  obtain ⟨ih0, ih1, ih2, ih3⟩ := treebridgelaw01_FrameBack.mono_l k
  unfold treebridgelaw01_FrameBack.f
  repeat' first
      | (with_reducible exact ih0 _ _ _ _ _ _ _ _ _ _ _ _ _ _ _ _ _)
      | (with_reducible exact ih1 _ _ _ _ _ _ _ _ _ _ _ _ _ _ _)
      | (with_reducible exact ih2 _ _ _ _ _ _ _ _ _ _)
      | (with_reducible exact ih3 _ _ _ _ _ _ _ _ _ _ _ _ _ _ _ _)
      | (with_reducible exact frame_Parse.mono _ _)
      | (with_reducible exact frame_Print.mono _ _ _ _ _ _ _ _)
      | (with_reducible exact frame_Right.mono _ _ _ _ _ _ _ _)
      | (with_reducible exact frame_With.mono _ _ _ _ _ _ _ _ _)
      | (with_reducible exact frame_Without.mono _ _ _ _ _ _ _ _)
      | (with_reducible exact treebridgelaw01_awake.mono _)
      | (with_reducible exact LeO.refl _)
      | (with_reducible exact LeO.none _)
      | (with_reducible refine LeO.ite ?_ ?_)
      | (with_reducible refine LeO.bind ?_ (fun _ => ?_))
      | exact ih0 _ _ _ _ _ _ _ _ _ _ _ _ _ _ _ _ _
      | exact ih1 _ _ _ _ _ _ _ _ _ _ _ _ _ _ _
      | exact ih2 _ _ _ _ _ _ _ _ _ _
      | exact ih3 _ _ _ _ _ _ _ _ _ _ _ _ _ _ _ _
      | exact frame_Parse.mono _ _
      | exact frame_Print.mono _ _ _ _ _ _ _ _
      | exact frame_Right.mono _ _ _ _ _ _ _ _
      | exact frame_With.mono _ _ _ _ _ _ _ _ _
      | exact frame_Without.mono _ _ _ _ _ _ _ _
      | exact treebridgelaw01_awake.mono _
      | exact LeO.none _
      | refine LeO.ite ?_ ?_
      | refine LeO.bind ?_ (fun _ => ?_)
set_option maxHeartbeats 8000000 in
set_option maxRecDepth 100000 in
theorem treebridgelaw01_FrameBack.calls (k : Nat) (a0_0 : ByteArray) (a0_1 : ByteArray) (a0_2 : Bool) (a0_3 : Int) (a0_4 : Int) (a0_5 : Int) (a0_6 : ByteArray) (a1_0 : ByteArray) (a1_1 : ByteArray) (a1_2 : Bool) (a1_3 : Int) (a1_4 : Int) (a1_5 : Int) (a1_6 : ByteArray) (a2 : Int) (a3 : ByteArray) (r : Bool) (w : World) (h : treebridgelaw01_FrameBack.f k a0_0 a0_1 a0_2 a0_3 a0_4 a0_5 a0_6 a1_0 a1_1 a1_2 a1_3 a1_4 a1_5 a1_6 a2 a3 = some r) :
    Calls Try.prog 7 #[.agg #[.string a0_0, .string a0_1, .bool a0_2, .int .i64 a0_3, .int .i64 a0_4, .int .i64 a0_5, .string a0_6], .agg #[.string a1_0, .string a1_1, .bool a1_2, .int .i64 a1_3, .int .i64 a1_4, .int .i64 a1_5, .string a1_6], .int .i64 a2, .string a3] w fun e w' => e = .returned (.bool r) ∧ Below w.heap.size w w' := by
  have hu23 := Try.underlying23
  have HB := Aside0.mk (Below.refl w.heap.size w)
  have H : ((treebridgelaw01_awake.f k).bind fun t345 => (if t345 = true then ((treebridgelaw01_Few.f a0_0 a0_1 a0_2 a0_3 a0_4 a0_5 a0_6).bind fun t346 => (if t346 = true then ((treebridgelaw01_Few.f a1_0 a1_1 a1_2 a1_3 a1_4 a1_5 a1_6).bind fun t347 => (if t347 = true then (treebridgelaw01_FrameBack.j0 k a2 a3 (decide ((a3.size : Int) > 1700)) a0_0 a0_1 a0_2 a0_3 a0_4 a0_5 a0_6 a1_0 a1_1 a1_2 a1_3 a1_4 a1_5 a1_6) else (treebridgelaw01_FrameBack.j0 k a2 a3 true a0_0 a0_1 a0_2 a0_3 a0_4 a0_5 a0_6 a1_0 a1_1 a1_2 a1_3 a1_4 a1_5 a1_6))) else (treebridgelaw01_FrameBack.j0 k a2 a3 true a0_0 a0_1 a0_2 a0_3 a0_4 a0_5 a0_6 a1_0 a1_1 a1_2 a1_3 a1_4 a1_5 a1_6))) else (none))) = some r := h
  clear h
  replace H := Option.bind_eq_some_iff.mp H
  obtain ⟨t345, A50, H⟩ := H
  replace H : (if t345 = true then ((treebridgelaw01_Few.f a0_0 a0_1 a0_2 a0_3 a0_4 a0_5 a0_6).bind fun t346 => (if t346 = true then ((treebridgelaw01_Few.f a1_0 a1_1 a1_2 a1_3 a1_4 a1_5 a1_6).bind fun t347 => (if t347 = true then (treebridgelaw01_FrameBack.j0 k a2 a3 (decide ((a3.size : Int) > 1700)) a0_0 a0_1 a0_2 a0_3 a0_4 a0_5 a0_6 a1_0 a1_1 a1_2 a1_3 a1_4 a1_5 a1_6) else (treebridgelaw01_FrameBack.j0 k a2 a3 true a0_0 a0_1 a0_2 a0_3 a0_4 a0_5 a0_6 a1_0 a1_1 a1_2 a1_3 a1_4 a1_5 a1_6))) else (treebridgelaw01_FrameBack.j0 k a2 a3 true a0_0 a0_1 a0_2 a0_3 a0_4 a0_5 a0_6 a1_0 a1_1 a1_2 a1_3 a1_4 a1_5 a1_6))) else (none)) = some r := H
  have A5 := Aside0.mk A50
  clear A50
  by_cases c6 : t345 = true
  · subst c6
    have H1 : ((treebridgelaw01_Few.f a0_0 a0_1 a0_2 a0_3 a0_4 a0_5 a0_6).bind fun t346 => (if t346 = true then ((treebridgelaw01_Few.f a1_0 a1_1 a1_2 a1_3 a1_4 a1_5 a1_6).bind fun t347 => (if t347 = true then (treebridgelaw01_FrameBack.j0 k a2 a3 (decide ((a3.size : Int) > 1700)) a0_0 a0_1 a0_2 a0_3 a0_4 a0_5 a0_6 a1_0 a1_1 a1_2 a1_3 a1_4 a1_5 a1_6) else (treebridgelaw01_FrameBack.j0 k a2 a3 true a0_0 a0_1 a0_2 a0_3 a0_4 a0_5 a0_6 a1_0 a1_1 a1_2 a1_3 a1_4 a1_5 a1_6))) else (treebridgelaw01_FrameBack.j0 k a2 a3 true a0_0 a0_1 a0_2 a0_3 a0_4 a0_5 a0_6 a1_0 a1_1 a1_2 a1_3 a1_4 a1_5 a1_6))) = some r := by rw [if_pos rfl] at H; exact H
    clear H
    have H := H1
    clear H1
    have HC7 := Aside0.mk H
    clear H
    go_enter Try.func7, Try.ntmps7
    go_upto_region 3 with (first | ((with_reducible refine gate_dst (N := 4) rfl ?_); (try (refine gate_guard (by rfl) ?_; dsimp only)); refine box_event ?hg (N := 4) ?hd (cs := #[.string a0_0, .string a0_1, .bool a0_2, .int .i64 a0_3, .int .i64 a0_4, .int .i64 a0_5, .string a0_6]) (t := 23) ?hr ?_; (case hd => rfl); (case hg => rfl); (case hr => first | (go_simp; done) | (go_simp; rfl)); intro gb343 hg w8 hbox hb; have n0_ := Aside0.mk (below_step (by repeat (first | (with_reducible first | exact HB.out | apply below_alloc | apply pw_below_drewN | apply below_drew1) | exact HB.out)) hb); have n1_ := Aside0.mk (hbox); have n2_ := Aside0.mk ((by rw [hg]; exact (below_size (by repeat (first | (with_reducible first | exact HB.out | apply below_alloc | apply pw_below_drewN | apply below_drew1) | exact HB.out))) : w.heap.size ≤ gb343)); have n3_ := Aside0.mk ((by rw [hg]; exact (below_size (by repeat (first | (with_reducible first | exact HB.out | apply below_alloc | apply pw_below_drewN | apply below_drew1) | exact HB.out))) : w.heap.size ≤ gb343)); clear HB; have HB := n0_; have BK343 := n1_; have GW343 := n2_; have GE343 := n3_; clear n0_ n1_ n2_ n3_; clear hb hbox hg) | ((with_reducible refine gate_dst (N := 5) rfl ?_); (try (refine gate_guard (by rfl) ?_; dsimp only)); refine box_event ?hg (N := 5) ?hd (cs := #[.string a1_0, .string a1_1, .bool a1_2, .int .i64 a1_3, .int .i64 a1_4, .int .i64 a1_5, .string a1_6]) (t := 23) ?hr ?_; (case hd => rfl); (case hg => rfl); (case hr => first | (go_simp; done) | (go_simp; rfl)); intro gb344 hg w9 hbox hb; have n0_ := Aside0.mk (blk_below (g := gb343) (o := .cells #[.string a0_0, .string a0_1, .bool a0_2, .int .i64 a0_3, .int .i64 a0_4, .int .i64 a0_5, .string a0_6] 23 (0, 0)) (by (with_reducible repeat (first | refine blk_drewN ?_ _ | refine blk_drew ?_ | refine blk_alloc ?_ _)); exact BK343.out) hb); have n1_ := Aside0.mk (below_step (by repeat (first | (with_reducible first | exact HB.out | apply below_alloc | apply pw_below_drewN | apply below_drew1 | refine below_set ?_ GE343.out) | exact HB.out)) hb); have n2_ := Aside0.mk (hbox); have n3_ := Aside0.mk ((by rw [hg]; exact (below_size (by repeat (first | (with_reducible first | exact HB.out | apply below_alloc | apply pw_below_drewN | apply below_drew1 | refine below_set ?_ GE343.out) | exact HB.out))) : w.heap.size ≤ gb344)); have n4_ := Aside0.mk ((by rw [hg]; exact (below_size (by repeat (first | (with_reducible first | exact HB.out | apply below_alloc | apply pw_below_drewN | apply below_drew1 | refine below_set ?_ GE343.out) | exact HB.out))) : w.heap.size ≤ gb344)); have n5_ := Aside0.mk ((by rw [hg]; exact Nat.ne_of_lt (blk_lt (g := gb343) (o := .cells #[.string a0_0, .string a0_1, .bool a0_2, .int .i64 a0_3, .int .i64 a0_4, .int .i64 a0_5, .string a0_6] 23 (0, 0)) (by (with_reducible repeat (first | refine blk_drewN ?_ _ | refine blk_drew ?_ | refine blk_alloc ?_ _)); exact BK343.out)) : gb343 ≠ gb344)); have n6_ := Aside0.mk ((by rw [hg]; exact Nat.ne_of_gt (blk_lt (g := gb343) (o := .cells #[.string a0_0, .string a0_1, .bool a0_2, .int .i64 a0_3, .int .i64 a0_4, .int .i64 a0_5, .string a0_6] 23 (0, 0)) (by (with_reducible repeat (first | refine blk_drewN ?_ _ | refine blk_drew ?_ | refine blk_alloc ?_ _)); exact BK343.out)) : gb344 ≠ gb343)); clear BK343; clear HB; have BK343 := n0_; have HB := n1_; have BK344 := n2_; have GW344 := n3_; have GE344 := n4_; have NB343_344 := n5_; have NB344_343 := n6_; clear n0_ n1_ n2_ n3_ n4_ n5_ n6_; clear hb hbox hg) | ((with_reducible refine gate_callee (f := 28) rfl ?_); refine goesL_ (some 25) rfl rfl Try.func28 (by kernel_rfl) rfl #[] rfl (by (try simp only [List.map_toArray, List.map_cons, List.map_nil]); first | done | rfl | (simp only [List.length_drop, List.length_take]; rfl)) ?_; (with_reducible refine (treebridgelaw01_awake.calls k  true _ A5.out).mono ?_); rintro e w10 ⟨rfl, hb⟩; refine ⟨_, rfl, ?_⟩; have n0_ := Aside0.mk (blk_below (g := gb343) (o := .cells #[.string a0_0, .string a0_1, .bool a0_2, .int .i64 a0_3, .int .i64 a0_4, .int .i64 a0_5, .string a0_6] 23 (0, 0)) (by (with_reducible repeat (first | refine blk_drewN ?_ _ | refine blk_drew ?_ | refine blk_alloc ?_ _)); exact BK343.out) hb); have n1_ := Aside0.mk (blk_below (g := gb344) (o := .cells #[.string a1_0, .string a1_1, .bool a1_2, .int .i64 a1_3, .int .i64 a1_4, .int .i64 a1_5, .string a1_6] 23 (0, 0)) (by (with_reducible repeat (first | refine blk_drewN ?_ _ | refine blk_drew ?_ | refine blk_alloc ?_ _)); exact BK344.out) hb); have n2_ := Aside0.mk (below_step (by repeat (first | (with_reducible first | exact HB.out | apply below_alloc | apply pw_below_drewN | apply below_drew1 | refine below_set ?_ GE343.out | refine below_set ?_ GE344.out) | exact HB.out)) hb); clear BK343; clear BK344; clear HB; have BK343 := n0_; have BK344 := n1_; have HB := n2_; clear n0_ n1_ n2_; (try clear hb); (try clear hb2); (try clear hk); (try clear hi)))
    (try simp only [Act.put, List.setIfInBounds_toArray, List.set_cons_zero, List.set_cons_succ])
    go_cut [39] (fun v39 wc => ∃ (kq : Nat) (x39_6 : Bool), v39 = .bool x39_6 ∧ Aside0 (treebridgelaw01_FrameBack.j0 kq a2 a3 x39_6 a0_0 a0_1 a0_2 a0_3 a0_4 a0_5 a0_6 a1_0 a1_1 a1_2 a1_3 a1_4 a1_5 a1_6 = some r) ∧ Aside0 (kq ≤ k) ∧ Aside0 (wc.heap[gb343]? = some (.cells #[.string a0_0, .string a0_1, .bool a0_2, .int .i64 a0_3, .int .i64 a0_4, .int .i64 a0_5, .string a0_6] 23 (0, 0))) ∧ Aside0 (wc.heap[gb344]? = some (.cells #[.string a1_0, .string a1_1, .bool a1_2, .int .i64 a1_3, .int .i64 a1_4, .int .i64 a1_5, .string a1_6] 23 (0, 0))) ∧ Aside0 (Below w.heap.size w wc))
    case first =>
      have H := HC7.out
      clear HC7
      replace H := Option.bind_eq_some_iff.mp H
      obtain ⟨t346, A110, H⟩ := H
      replace H : (if t346 = true then ((treebridgelaw01_Few.f a1_0 a1_1 a1_2 a1_3 a1_4 a1_5 a1_6).bind fun t347 => (if t347 = true then (treebridgelaw01_FrameBack.j0 k a2 a3 (decide ((a3.size : Int) > 1700)) a0_0 a0_1 a0_2 a0_3 a0_4 a0_5 a0_6 a1_0 a1_1 a1_2 a1_3 a1_4 a1_5 a1_6) else (treebridgelaw01_FrameBack.j0 k a2 a3 true a0_0 a0_1 a0_2 a0_3 a0_4 a0_5 a0_6 a1_0 a1_1 a1_2 a1_3 a1_4 a1_5 a1_6))) else (treebridgelaw01_FrameBack.j0 k a2 a3 true a0_0 a0_1 a0_2 a0_3 a0_4 a0_5 a0_6 a1_0 a1_1 a1_2 a1_3 a1_4 a1_5 a1_6)) = some r := H
      have A11 := Aside0.mk A110
      clear A110
      by_cases c12 : t346 = true
      · subst c12
        have H1 : ((treebridgelaw01_Few.f a1_0 a1_1 a1_2 a1_3 a1_4 a1_5 a1_6).bind fun t347 => (if t347 = true then (treebridgelaw01_FrameBack.j0 k a2 a3 (decide ((a3.size : Int) > 1700)) a0_0 a0_1 a0_2 a0_3 a0_4 a0_5 a0_6 a1_0 a1_1 a1_2 a1_3 a1_4 a1_5 a1_6) else (treebridgelaw01_FrameBack.j0 k a2 a3 true a0_0 a0_1 a0_2 a0_3 a0_4 a0_5 a0_6 a1_0 a1_1 a1_2 a1_3 a1_4 a1_5 a1_6))) = some r := by rw [if_pos rfl] at H; exact H
        clear H
        have H := H1
        clear H1
        replace H := Option.bind_eq_some_iff.mp H
        obtain ⟨t347, A130, H⟩ := H
        replace H : (if t347 = true then (treebridgelaw01_FrameBack.j0 k a2 a3 (decide ((a3.size : Int) > 1700)) a0_0 a0_1 a0_2 a0_3 a0_4 a0_5 a0_6 a1_0 a1_1 a1_2 a1_3 a1_4 a1_5 a1_6) else (treebridgelaw01_FrameBack.j0 k a2 a3 true a0_0 a0_1 a0_2 a0_3 a0_4 a0_5 a0_6 a1_0 a1_1 a1_2 a1_3 a1_4 a1_5 a1_6)) = some r := H
        have A13 := Aside0.mk A130
        clear A130
        by_cases c14 : t347 = true
        · subst c14
          have H1 : (treebridgelaw01_FrameBack.j0 k a2 a3 (decide ((a3.size : Int) > 1700)) a0_0 a0_1 a0_2 a0_3 a0_4 a0_5 a0_6 a1_0 a1_1 a1_2 a1_3 a1_4 a1_5 a1_6) = some r := by rw [if_pos rfl] at H; exact H
          clear H
          have H := H1
          clear H1
          have H' := Aside0.mk H
          clear H
          have hnb15 := NB343_344.out
          have hnc15 := NB344_343.out
          have hcz16_0 : w10.cell? ⟨gb343, 0, none⟩ = some (.string a0_0) := (blk_cell BK343.out 0).trans rfl
          have hcz16_1 : w10.cell? ⟨gb343, 1, none⟩ = some (.string a0_1) := (blk_cell BK343.out 1).trans rfl
          have hcz16_2 : w10.cell? ⟨gb343, 2, none⟩ = some (.bool a0_2) := (blk_cell BK343.out 2).trans rfl
          have hcz16_3 : w10.cell? ⟨gb343, 3, none⟩ = some (.int .i64 a0_3) := (blk_cell BK343.out 3).trans rfl
          have hcz16_4 : w10.cell? ⟨gb343, 4, none⟩ = some (.int .i64 a0_4) := (blk_cell BK343.out 4).trans rfl
          have hcz16_5 : w10.cell? ⟨gb343, 5, none⟩ = some (.int .i64 a0_5) := (blk_cell BK343.out 5).trans rfl
          have hcz16_6 : w10.cell? ⟨gb343, 6, none⟩ = some (.string a0_6) := (blk_cell BK343.out 6).trans rfl
          have hfz16_0 := blk_frozen BK343.out 0
          have hfz16_1 := blk_frozen BK343.out 1
          have hfz16_2 := blk_frozen BK343.out 2
          have hfz16_3 := blk_frozen BK343.out 3
          have hfz16_4 := blk_frozen BK343.out 4
          have hfz16_5 := blk_frozen BK343.out 5
          have hfz16_6 := blk_frozen BK343.out 6
          go_wp2_with (first | ((with_reducible refine gate_callee (f := 16) rfl ?_); refine goesL_ (some 28) rfl rfl Try.func16 (by kernel_rfl) rfl #[.agg #[.string a0_0, .string a0_1, .bool a0_2, .int .i64 a0_3, .int .i64 a0_4, .int .i64 a0_5, .string a0_6]] rfl (by (try simp only [List.map_toArray, List.map_cons, List.map_nil]); first | done | rfl | (simp only [List.length_drop, List.length_take]; rfl)) ?_; (with_reducible refine (treebridgelaw01_Few.calls a0_0 a0_1 a0_2 a0_3 a0_4 a0_5 a0_6 true _ A11.out).mono ?_); rintro e w17 ⟨rfl, hb⟩; refine ⟨_, rfl, ?_⟩; have n0_ := Aside0.mk (blk_below (g := gb343) (o := .cells #[.string a0_0, .string a0_1, .bool a0_2, .int .i64 a0_3, .int .i64 a0_4, .int .i64 a0_5, .string a0_6] 23 (0, 0)) (by (with_reducible repeat (first | refine blk_drewN ?_ _ | refine blk_drew ?_ | refine blk_alloc ?_ _)); exact BK343.out) hb); have n1_ := Aside0.mk (blk_below (g := gb344) (o := .cells #[.string a1_0, .string a1_1, .bool a1_2, .int .i64 a1_3, .int .i64 a1_4, .int .i64 a1_5, .string a1_6] 23 (0, 0)) (by (with_reducible repeat (first | refine blk_drewN ?_ _ | refine blk_drew ?_ | refine blk_alloc ?_ _)); exact BK344.out) hb); have n2_ := Aside0.mk (below_step (by repeat (first | (with_reducible first | exact HB.out | apply below_alloc | apply pw_below_drewN | apply below_drew1 | refine below_set ?_ GE343.out | refine below_set ?_ GE344.out) | exact HB.out)) hb); clear BK343; clear BK344; clear HB; have BK343 := n0_; have BK344 := n1_; have HB := n2_; clear n0_ n1_ n2_; (try clear hb); (try clear hb2); (try clear hk); (try clear hi); have hcz18_0 : w17.cell? ⟨gb344, 0, none⟩ = some (.string a1_0) := (blk_cell BK344.out 0).trans rfl; have hcz18_1 : w17.cell? ⟨gb344, 1, none⟩ = some (.string a1_1) := (blk_cell BK344.out 1).trans rfl; have hcz18_2 : w17.cell? ⟨gb344, 2, none⟩ = some (.bool a1_2) := (blk_cell BK344.out 2).trans rfl; have hcz18_3 : w17.cell? ⟨gb344, 3, none⟩ = some (.int .i64 a1_3) := (blk_cell BK344.out 3).trans rfl; have hcz18_4 : w17.cell? ⟨gb344, 4, none⟩ = some (.int .i64 a1_4) := (blk_cell BK344.out 4).trans rfl; have hcz18_5 : w17.cell? ⟨gb344, 5, none⟩ = some (.int .i64 a1_5) := (blk_cell BK344.out 5).trans rfl; have hcz18_6 : w17.cell? ⟨gb344, 6, none⟩ = some (.string a1_6) := (blk_cell BK344.out 6).trans rfl; have hfz18_0 := blk_frozen BK344.out 0; have hfz18_1 := blk_frozen BK344.out 1; have hfz18_2 := blk_frozen BK344.out 2; have hfz18_3 := blk_frozen BK344.out 3; have hfz18_4 := blk_frozen BK344.out 4; have hfz18_5 := blk_frozen BK344.out 5; have hfz18_6 := blk_frozen BK344.out 6) | (go_at_call 16; (with_reducible refine (treebridgelaw01_Few.calls a1_0 a1_1 a1_2 a1_3 a1_4 a1_5 a1_6 true _ A13.out).mono ?_); rintro e w19 ⟨rfl, hb⟩; have n0_ := Aside0.mk (blk_below (g := gb343) (o := .cells #[.string a0_0, .string a0_1, .bool a0_2, .int .i64 a0_3, .int .i64 a0_4, .int .i64 a0_5, .string a0_6] 23 (0, 0)) (by (with_reducible repeat (first | refine blk_drewN ?_ _ | refine blk_drew ?_ | refine blk_alloc ?_ _)); exact BK343.out) hb); have n1_ := Aside0.mk (blk_below (g := gb344) (o := .cells #[.string a1_0, .string a1_1, .bool a1_2, .int .i64 a1_3, .int .i64 a1_4, .int .i64 a1_5, .string a1_6] 23 (0, 0)) (by (with_reducible repeat (first | refine blk_drewN ?_ _ | refine blk_drew ?_ | refine blk_alloc ?_ _)); exact BK344.out) hb); have n2_ := Aside0.mk (below_step (by repeat (first | (with_reducible first | exact HB.out | apply below_alloc | apply pw_below_drewN | apply below_drew1 | refine below_set ?_ GE343.out | refine below_set ?_ GE344.out) | exact HB.out)) hb); clear BK343; clear BK344; clear HB; have BK343 := n0_; have BK344 := n1_; have HB := n2_; clear n0_ n1_ n2_; (try clear hb); (try clear hb2); (try clear hk); (try clear hi)))
          go_meet
          case rel => exact ⟨_, (decide ((a3.size : Int) > 1700)), (by first | rfl | (simp; done) | (simp [*]; done)), H', ⟨by first | omega | exact Nat.le_refl _⟩, ⟨by (with_reducible repeat (first | refine blk_drewN ?_ _ | refine blk_drew ?_ | refine blk_alloc ?_ _)); exact BK343.out⟩, ⟨by (with_reducible repeat (first | refine blk_drewN ?_ _ | refine blk_drew ?_ | refine blk_alloc ?_ _)); exact BK344.out⟩, ⟨by repeat (first | (with_reducible first | exact HB.out | apply below_alloc | apply pw_below_drewN | apply below_drew1 | refine below_set ?_ GE343.out | refine below_set ?_ GE344.out) | exact HB.out)⟩⟩
        · replace c14 := Bool.eq_false_iff.mpr c14
          subst c14
          have H1 : (treebridgelaw01_FrameBack.j0 k a2 a3 true a0_0 a0_1 a0_2 a0_3 a0_4 a0_5 a0_6 a1_0 a1_1 a1_2 a1_3 a1_4 a1_5 a1_6) = some r := by rw [if_neg (show ¬ (false = true) by decide)] at H; exact H
          clear H
          have H := H1
          clear H1
          have H' := Aside0.mk H
          clear H
          have hnb20 := NB343_344.out
          have hnc20 := NB344_343.out
          have hcz21_0 : w10.cell? ⟨gb343, 0, none⟩ = some (.string a0_0) := (blk_cell BK343.out 0).trans rfl
          have hcz21_1 : w10.cell? ⟨gb343, 1, none⟩ = some (.string a0_1) := (blk_cell BK343.out 1).trans rfl
          have hcz21_2 : w10.cell? ⟨gb343, 2, none⟩ = some (.bool a0_2) := (blk_cell BK343.out 2).trans rfl
          have hcz21_3 : w10.cell? ⟨gb343, 3, none⟩ = some (.int .i64 a0_3) := (blk_cell BK343.out 3).trans rfl
          have hcz21_4 : w10.cell? ⟨gb343, 4, none⟩ = some (.int .i64 a0_4) := (blk_cell BK343.out 4).trans rfl
          have hcz21_5 : w10.cell? ⟨gb343, 5, none⟩ = some (.int .i64 a0_5) := (blk_cell BK343.out 5).trans rfl
          have hcz21_6 : w10.cell? ⟨gb343, 6, none⟩ = some (.string a0_6) := (blk_cell BK343.out 6).trans rfl
          have hfz21_0 := blk_frozen BK343.out 0
          have hfz21_1 := blk_frozen BK343.out 1
          have hfz21_2 := blk_frozen BK343.out 2
          have hfz21_3 := blk_frozen BK343.out 3
          have hfz21_4 := blk_frozen BK343.out 4
          have hfz21_5 := blk_frozen BK343.out 5
          have hfz21_6 := blk_frozen BK343.out 6
          go_wp2_with (first | ((with_reducible refine gate_callee (f := 16) rfl ?_); refine goesL_ (some 28) rfl rfl Try.func16 (by kernel_rfl) rfl #[.agg #[.string a0_0, .string a0_1, .bool a0_2, .int .i64 a0_3, .int .i64 a0_4, .int .i64 a0_5, .string a0_6]] rfl (by (try simp only [List.map_toArray, List.map_cons, List.map_nil]); first | done | rfl | (simp only [List.length_drop, List.length_take]; rfl)) ?_; (with_reducible refine (treebridgelaw01_Few.calls a0_0 a0_1 a0_2 a0_3 a0_4 a0_5 a0_6 true _ A11.out).mono ?_); rintro e w22 ⟨rfl, hb⟩; refine ⟨_, rfl, ?_⟩; have n0_ := Aside0.mk (blk_below (g := gb343) (o := .cells #[.string a0_0, .string a0_1, .bool a0_2, .int .i64 a0_3, .int .i64 a0_4, .int .i64 a0_5, .string a0_6] 23 (0, 0)) (by (with_reducible repeat (first | refine blk_drewN ?_ _ | refine blk_drew ?_ | refine blk_alloc ?_ _)); exact BK343.out) hb); have n1_ := Aside0.mk (blk_below (g := gb344) (o := .cells #[.string a1_0, .string a1_1, .bool a1_2, .int .i64 a1_3, .int .i64 a1_4, .int .i64 a1_5, .string a1_6] 23 (0, 0)) (by (with_reducible repeat (first | refine blk_drewN ?_ _ | refine blk_drew ?_ | refine blk_alloc ?_ _)); exact BK344.out) hb); have n2_ := Aside0.mk (below_step (by repeat (first | (with_reducible first | exact HB.out | apply below_alloc | apply pw_below_drewN | apply below_drew1 | refine below_set ?_ GE343.out | refine below_set ?_ GE344.out) | exact HB.out)) hb); clear BK343; clear BK344; clear HB; have BK343 := n0_; have BK344 := n1_; have HB := n2_; clear n0_ n1_ n2_; (try clear hb); (try clear hb2); (try clear hk); (try clear hi); have hcz23_0 : w22.cell? ⟨gb344, 0, none⟩ = some (.string a1_0) := (blk_cell BK344.out 0).trans rfl; have hcz23_1 : w22.cell? ⟨gb344, 1, none⟩ = some (.string a1_1) := (blk_cell BK344.out 1).trans rfl; have hcz23_2 : w22.cell? ⟨gb344, 2, none⟩ = some (.bool a1_2) := (blk_cell BK344.out 2).trans rfl; have hcz23_3 : w22.cell? ⟨gb344, 3, none⟩ = some (.int .i64 a1_3) := (blk_cell BK344.out 3).trans rfl; have hcz23_4 : w22.cell? ⟨gb344, 4, none⟩ = some (.int .i64 a1_4) := (blk_cell BK344.out 4).trans rfl; have hcz23_5 : w22.cell? ⟨gb344, 5, none⟩ = some (.int .i64 a1_5) := (blk_cell BK344.out 5).trans rfl; have hcz23_6 : w22.cell? ⟨gb344, 6, none⟩ = some (.string a1_6) := (blk_cell BK344.out 6).trans rfl; have hfz23_0 := blk_frozen BK344.out 0; have hfz23_1 := blk_frozen BK344.out 1; have hfz23_2 := blk_frozen BK344.out 2; have hfz23_3 := blk_frozen BK344.out 3; have hfz23_4 := blk_frozen BK344.out 4; have hfz23_5 := blk_frozen BK344.out 5; have hfz23_6 := blk_frozen BK344.out 6) | (go_at_call 16; (with_reducible refine (treebridgelaw01_Few.calls a1_0 a1_1 a1_2 a1_3 a1_4 a1_5 a1_6 false _ A13.out).mono ?_); rintro e w24 ⟨rfl, hb⟩; have n0_ := Aside0.mk (blk_below (g := gb343) (o := .cells #[.string a0_0, .string a0_1, .bool a0_2, .int .i64 a0_3, .int .i64 a0_4, .int .i64 a0_5, .string a0_6] 23 (0, 0)) (by (with_reducible repeat (first | refine blk_drewN ?_ _ | refine blk_drew ?_ | refine blk_alloc ?_ _)); exact BK343.out) hb); have n1_ := Aside0.mk (blk_below (g := gb344) (o := .cells #[.string a1_0, .string a1_1, .bool a1_2, .int .i64 a1_3, .int .i64 a1_4, .int .i64 a1_5, .string a1_6] 23 (0, 0)) (by (with_reducible repeat (first | refine blk_drewN ?_ _ | refine blk_drew ?_ | refine blk_alloc ?_ _)); exact BK344.out) hb); have n2_ := Aside0.mk (below_step (by repeat (first | (with_reducible first | exact HB.out | apply below_alloc | apply pw_below_drewN | apply below_drew1 | refine below_set ?_ GE343.out | refine below_set ?_ GE344.out) | exact HB.out)) hb); clear BK343; clear BK344; clear HB; have BK343 := n0_; have BK344 := n1_; have HB := n2_; clear n0_ n1_ n2_; (try clear hb); (try clear hb2); (try clear hk); (try clear hi)))
          go_meet
          case rel => exact ⟨_, (true), (by first | rfl | (simp; done) | (simp [*]; done)), H', ⟨by first | omega | exact Nat.le_refl _⟩, ⟨by (with_reducible repeat (first | refine blk_drewN ?_ _ | refine blk_drew ?_ | refine blk_alloc ?_ _)); exact BK343.out⟩, ⟨by (with_reducible repeat (first | refine blk_drewN ?_ _ | refine blk_drew ?_ | refine blk_alloc ?_ _)); exact BK344.out⟩, ⟨by repeat (first | (with_reducible first | exact HB.out | apply below_alloc | apply pw_below_drewN | apply below_drew1 | refine below_set ?_ GE343.out | refine below_set ?_ GE344.out) | exact HB.out)⟩⟩
      · replace c12 := Bool.eq_false_iff.mpr c12
        subst c12
        have H1 : (treebridgelaw01_FrameBack.j0 k a2 a3 true a0_0 a0_1 a0_2 a0_3 a0_4 a0_5 a0_6 a1_0 a1_1 a1_2 a1_3 a1_4 a1_5 a1_6) = some r := by rw [if_neg (show ¬ (false = true) by decide)] at H; exact H
        clear H
        have H := H1
        clear H1
        have H' := Aside0.mk H
        clear H
        have hnb25 := NB343_344.out
        have hnc25 := NB344_343.out
        have hcz26_0 : w10.cell? ⟨gb343, 0, none⟩ = some (.string a0_0) := (blk_cell BK343.out 0).trans rfl
        have hcz26_1 : w10.cell? ⟨gb343, 1, none⟩ = some (.string a0_1) := (blk_cell BK343.out 1).trans rfl
        have hcz26_2 : w10.cell? ⟨gb343, 2, none⟩ = some (.bool a0_2) := (blk_cell BK343.out 2).trans rfl
        have hcz26_3 : w10.cell? ⟨gb343, 3, none⟩ = some (.int .i64 a0_3) := (blk_cell BK343.out 3).trans rfl
        have hcz26_4 : w10.cell? ⟨gb343, 4, none⟩ = some (.int .i64 a0_4) := (blk_cell BK343.out 4).trans rfl
        have hcz26_5 : w10.cell? ⟨gb343, 5, none⟩ = some (.int .i64 a0_5) := (blk_cell BK343.out 5).trans rfl
        have hcz26_6 : w10.cell? ⟨gb343, 6, none⟩ = some (.string a0_6) := (blk_cell BK343.out 6).trans rfl
        have hfz26_0 := blk_frozen BK343.out 0
        have hfz26_1 := blk_frozen BK343.out 1
        have hfz26_2 := blk_frozen BK343.out 2
        have hfz26_3 := blk_frozen BK343.out 3
        have hfz26_4 := blk_frozen BK343.out 4
        have hfz26_5 := blk_frozen BK343.out 5
        have hfz26_6 := blk_frozen BK343.out 6
        go_wp2_with (first | ((with_reducible refine gate_callee (f := 16) rfl ?_); refine goesL_ (some 28) rfl rfl Try.func16 (by kernel_rfl) rfl #[.agg #[.string a0_0, .string a0_1, .bool a0_2, .int .i64 a0_3, .int .i64 a0_4, .int .i64 a0_5, .string a0_6]] rfl (by (try simp only [List.map_toArray, List.map_cons, List.map_nil]); first | done | rfl | (simp only [List.length_drop, List.length_take]; rfl)) ?_; (with_reducible refine (treebridgelaw01_Few.calls a0_0 a0_1 a0_2 a0_3 a0_4 a0_5 a0_6 false _ A11.out).mono ?_); rintro e w27 ⟨rfl, hb⟩; refine ⟨_, rfl, ?_⟩; have n0_ := Aside0.mk (blk_below (g := gb343) (o := .cells #[.string a0_0, .string a0_1, .bool a0_2, .int .i64 a0_3, .int .i64 a0_4, .int .i64 a0_5, .string a0_6] 23 (0, 0)) (by (with_reducible repeat (first | refine blk_drewN ?_ _ | refine blk_drew ?_ | refine blk_alloc ?_ _)); exact BK343.out) hb); have n1_ := Aside0.mk (blk_below (g := gb344) (o := .cells #[.string a1_0, .string a1_1, .bool a1_2, .int .i64 a1_3, .int .i64 a1_4, .int .i64 a1_5, .string a1_6] 23 (0, 0)) (by (with_reducible repeat (first | refine blk_drewN ?_ _ | refine blk_drew ?_ | refine blk_alloc ?_ _)); exact BK344.out) hb); have n2_ := Aside0.mk (below_step (by repeat (first | (with_reducible first | exact HB.out | apply below_alloc | apply pw_below_drewN | apply below_drew1 | refine below_set ?_ GE343.out | refine below_set ?_ GE344.out) | exact HB.out)) hb); clear BK343; clear BK344; clear HB; have BK343 := n0_; have BK344 := n1_; have HB := n2_; clear n0_ n1_ n2_; (try clear hb); (try clear hb2); (try clear hk); (try clear hi)))
        go_meet
        case rel => exact ⟨_, (true), (by first | rfl | (simp; done) | (simp [*]; done)), H', ⟨by first | omega | exact Nat.le_refl _⟩, ⟨by (with_reducible repeat (first | refine blk_drewN ?_ _ | refine blk_drew ?_ | refine blk_alloc ?_ _)); exact BK343.out⟩, ⟨by (with_reducible repeat (first | refine blk_drewN ?_ _ | refine blk_drew ?_ | refine blk_alloc ?_ _)); exact BK344.out⟩, ⟨by repeat (first | (with_reducible first | exact HB.out | apply below_alloc | apply pw_below_drewN | apply below_drew1 | refine below_set ?_ GE343.out | refine below_set ?_ GE344.out) | exact HB.out)⟩⟩
    case rest =>
      clear HC7
      try clear c1
      try clear c2
      try clear p2
      try clear c6
      try clear c7
      try clear c12
      try clear c14
      try clear c15
      try clear c16
      try clear c20
      try clear c25
      try clear hcz16_0
      try clear hcz16_1
      try clear hcz16_2
      try clear hcz16_3
      try clear hcz16_4
      try clear hcz16_5
      try clear hcz16_6
      try clear hcz18_0
      try clear hcz18_1
      try clear hcz18_2
      try clear hcz18_3
      try clear hcz18_4
      try clear hcz18_5
      try clear hcz18_6
      try clear hcz21_0
      try clear hcz21_1
      try clear hcz21_2
      try clear hcz21_3
      try clear hcz21_4
      try clear hcz21_5
      try clear hcz21_6
      try clear hcz23_0
      try clear hcz23_1
      try clear hcz23_2
      try clear hcz23_3
      try clear hcz23_4
      try clear hcz23_5
      try clear hcz23_6
      try clear hcz26_0
      try clear hcz26_1
      try clear hcz26_2
      try clear hcz26_3
      try clear hcz26_4
      try clear hcz26_5
      try clear hcz26_6
      try clear hfz16_0
      try clear hfz16_1
      try clear hfz16_2
      try clear hfz16_3
      try clear hfz16_4
      try clear hfz16_5
      try clear hfz16_6
      try clear hfz18_0
      try clear hfz18_1
      try clear hfz18_2
      try clear hfz18_3
      try clear hfz18_4
      try clear hfz18_5
      try clear hfz18_6
      try clear hfz21_0
      try clear hfz21_1
      try clear hfz21_2
      try clear hfz21_3
      try clear hfz21_4
      try clear hfz21_5
      try clear hfz21_6
      try clear hfz23_0
      try clear hfz23_1
      try clear hfz23_2
      try clear hfz23_3
      try clear hfz23_4
      try clear hfz23_5
      try clear hfz23_6
      try clear hfz26_0
      try clear hfz26_1
      try clear hfz26_2
      try clear hfz26_3
      try clear hfz26_4
      try clear hfz26_5
      try clear hfz26_6
      obtain ⟨kq, x39_6, rfl, HA, HJ6, BK343, BK344, HB⟩ := hcut
      cases kq with
      | zero => exact absurd HA.out (by simp [treebridgelaw01_FrameBack.j0])
      | succ kj6 =>
        have H := HA.out
        clear HA
        simp only [treebridgelaw01_FrameBack.j0] at H
        by_cases c28 : x39_6 = true
        · subst c28
          have H1 : (some true) = some r := by rw [if_pos rfl] at H; exact H
          clear H
          have H := H1
          clear H1
          obtain rfl := Option.some.inj H
          go_wp2
          go_ret
          exact ⟨by first | rfl | (simp [errW_none, errW_some] <;> rfl) | (simp [*, errW_none, errW_some] <;> rfl), by repeat (first | (with_reducible first | exact HB.out | apply below_alloc | apply pw_below_drewN | apply below_drew1 | refine below_set ?_ GE343.out | refine below_set ?_ GE344.out) | exact HB.out)⟩
        · replace c28 := Bool.eq_false_iff.mpr c28
          subst c28
          have H1 : ((frame_Parse.f kj6 a3).bind fun bt348 => (if bt348.2.2.2.2.2.2.2 = 0 then ((frame_Print.f kj6 bt348.1 bt348.2.1 bt348.2.2.1 bt348.2.2.2.1 bt348.2.2.2.2.1 bt348.2.2.2.2.2.1 bt348.2.2.2.2.2.2.1).bind fun bt357 => (if bt357.1.toList = a3.toList then (if bt357.2 = 0 then (treebridgelaw01_FrameBack.j1 kj6 a2 a0_0 a0_1 a0_2 a0_3 a0_4 a0_5 a0_6 a1_0 a1_1 a1_2 a1_3 a1_4 a1_5 a1_6) else (none)) else (none))) else (treebridgelaw01_FrameBack.j1 kj6 a2 a0_0 a0_1 a0_2 a0_3 a0_4 a0_5 a0_6 a1_0 a1_1 a1_2 a1_3 a1_4 a1_5 a1_6))) = some r := by rw [if_neg (show ¬ (false = true) by decide)] at H; exact H
          clear H
          have H := H1
          clear H1
          replace H := Option.bind_eq_some_iff.mp H
          obtain ⟨⟨t348, t349, t350, t351, t352, t353, t354, t355⟩, A290, H⟩ := H
          replace H : (if t355 = 0 then ((frame_Print.f kj6 t348 t349 t350 t351 t352 t353 t354).bind fun bt357 => (if bt357.1.toList = a3.toList then (if bt357.2 = 0 then (treebridgelaw01_FrameBack.j1 kj6 a2 a0_0 a0_1 a0_2 a0_3 a0_4 a0_5 a0_6 a1_0 a1_1 a1_2 a1_3 a1_4 a1_5 a1_6) else (none)) else (none))) else (treebridgelaw01_FrameBack.j1 kj6 a2 a0_0 a0_1 a0_2 a0_3 a0_4 a0_5 a0_6 a1_0 a1_1 a1_2 a1_3 a1_4 a1_5 a1_6)) = some r := H
          have A29 := Aside0.mk A290
          clear A290
          have HC30 := Aside0.mk H
          clear H
          go_upto_if 46 with (first | ((with_reducible refine gate_callee (f := 31) rfl ?_); refine goesL_ (some 42) rfl rfl Try.func31 (by kernel_rfl) rfl #[.string a3] rfl (by (try simp only [List.map_toArray, List.map_cons, List.map_nil]); first | done | rfl | (simp only [List.length_drop, List.length_take]; rfl)) ?_; (with_reducible refine (frame_Parse.calls kj6 a3 t348 t349 t350 t351 t352 t353 t354 t355 _ A29.out).mono ?_); rintro e w31 ⟨rfl, hb⟩; refine ⟨_, rfl, ?_⟩; have n0_ := Aside0.mk (blk_below (g := gb343) (o := .cells #[.string a0_0, .string a0_1, .bool a0_2, .int .i64 a0_3, .int .i64 a0_4, .int .i64 a0_5, .string a0_6] 23 (0, 0)) (by (with_reducible repeat (first | refine blk_drewN ?_ _ | refine blk_drew ?_ | refine blk_alloc ?_ _)); exact BK343.out) hb); have n1_ := Aside0.mk (blk_below (g := gb344) (o := .cells #[.string a1_0, .string a1_1, .bool a1_2, .int .i64 a1_3, .int .i64 a1_4, .int .i64 a1_5, .string a1_6] 23 (0, 0)) (by (with_reducible repeat (first | refine blk_drewN ?_ _ | refine blk_drew ?_ | refine blk_alloc ?_ _)); exact BK344.out) hb); have n2_ := Aside0.mk (below_step (by repeat (first | (with_reducible first | exact HB.out | apply below_alloc | apply pw_below_drewN | apply below_drew1 | refine below_set ?_ GE343.out | refine below_set ?_ GE344.out) | exact HB.out)) hb); clear BK343; clear BK344; clear HB; have BK343 := n0_; have BK344 := n1_; have HB := n2_; clear n0_ n1_ n2_; (try clear hb); (try clear hb2); (try clear hk); (try clear hi)) | ((with_reducible refine gate_dst (N := 9) rfl ?_); (try (refine gate_guard (by rfl) ?_; dsimp only)); refine box_event ?hg (N := 9) ?hd (cs := #[.string (⟨#[]⟩ : ByteArray), .string (⟨#[]⟩ : ByteArray), .bool false, .int .i64 0, .int .i64 0, .int .i64 0, .string (⟨#[]⟩ : ByteArray)]) (t := 23) ?hr ?_; (case hd => rfl); (case hg => rfl); (case hr => first | (go_simp; done) | (go_simp; rfl)); intro gb356 hg w32 hbox hb; have n0_ := Aside0.mk (blk_below (g := gb343) (o := .cells #[.string a0_0, .string a0_1, .bool a0_2, .int .i64 a0_3, .int .i64 a0_4, .int .i64 a0_5, .string a0_6] 23 (0, 0)) (by (with_reducible repeat (first | refine blk_drewN ?_ _ | refine blk_drew ?_ | refine blk_alloc ?_ _)); exact BK343.out) hb); have n1_ := Aside0.mk (blk_below (g := gb344) (o := .cells #[.string a1_0, .string a1_1, .bool a1_2, .int .i64 a1_3, .int .i64 a1_4, .int .i64 a1_5, .string a1_6] 23 (0, 0)) (by (with_reducible repeat (first | refine blk_drewN ?_ _ | refine blk_drew ?_ | refine blk_alloc ?_ _)); exact BK344.out) hb); have n2_ := Aside0.mk (below_step (by repeat (first | (with_reducible first | exact HB.out | apply below_alloc | apply pw_below_drewN | apply below_drew1 | refine below_set ?_ GE343.out | refine below_set ?_ GE344.out) | exact HB.out)) hb); have n3_ := Aside0.mk (hbox); have n4_ := Aside0.mk ((by rw [hg]; exact (below_size (by repeat (first | (with_reducible first | exact HB.out | apply below_alloc | apply pw_below_drewN | apply below_drew1 | refine below_set ?_ GE343.out | refine below_set ?_ GE344.out) | exact HB.out))) : w.heap.size ≤ gb356)); have n5_ := Aside0.mk ((by rw [hg]; exact (below_size (by repeat (first | (with_reducible first | exact HB.out | apply below_alloc | apply pw_below_drewN | apply below_drew1 | refine below_set ?_ GE343.out | refine below_set ?_ GE344.out) | exact HB.out))) : w.heap.size ≤ gb356)); have n6_ := Aside0.mk ((by rw [hg]; exact Nat.ne_of_lt (blk_lt (g := gb343) (o := .cells #[.string a0_0, .string a0_1, .bool a0_2, .int .i64 a0_3, .int .i64 a0_4, .int .i64 a0_5, .string a0_6] 23 (0, 0)) (by (with_reducible repeat (first | refine blk_drewN ?_ _ | refine blk_drew ?_ | refine blk_alloc ?_ _)); exact BK343.out)) : gb343 ≠ gb356)); have n7_ := Aside0.mk ((by rw [hg]; exact Nat.ne_of_gt (blk_lt (g := gb343) (o := .cells #[.string a0_0, .string a0_1, .bool a0_2, .int .i64 a0_3, .int .i64 a0_4, .int .i64 a0_5, .string a0_6] 23 (0, 0)) (by (with_reducible repeat (first | refine blk_drewN ?_ _ | refine blk_drew ?_ | refine blk_alloc ?_ _)); exact BK343.out)) : gb356 ≠ gb343)); have n8_ := Aside0.mk ((by rw [hg]; exact Nat.ne_of_lt (blk_lt (g := gb344) (o := .cells #[.string a1_0, .string a1_1, .bool a1_2, .int .i64 a1_3, .int .i64 a1_4, .int .i64 a1_5, .string a1_6] 23 (0, 0)) (by (with_reducible repeat (first | refine blk_drewN ?_ _ | refine blk_drew ?_ | refine blk_alloc ?_ _)); exact BK344.out)) : gb344 ≠ gb356)); have n9_ := Aside0.mk ((by rw [hg]; exact Nat.ne_of_gt (blk_lt (g := gb344) (o := .cells #[.string a1_0, .string a1_1, .bool a1_2, .int .i64 a1_3, .int .i64 a1_4, .int .i64 a1_5, .string a1_6] 23 (0, 0)) (by (with_reducible repeat (first | refine blk_drewN ?_ _ | refine blk_drew ?_ | refine blk_alloc ?_ _)); exact BK344.out)) : gb356 ≠ gb344)); clear BK343; clear BK344; clear HB; have BK343 := n0_; have BK344 := n1_; have HB := n2_; have BK356 := n3_; have GW356 := n4_; have GE356 := n5_; have NB343_356 := n6_; have NB356_343 := n7_; have NB344_356 := n8_; have NB356_344 := n9_; clear n0_ n1_ n2_ n3_ n4_ n5_ n6_ n7_ n8_ n9_; clear hb hbox hg; have hnb33 := NB356_343.out; have hnc33 := NB343_356.out; have hnb34 := NB356_344.out; have hnc34 := NB344_356.out; have hcz35_0 : w32.cell? ⟨gb356, 0, none⟩ = some (.string (⟨#[]⟩ : ByteArray)) := (blk_cell BK356.out 0).trans rfl; have hcz35_1 : w32.cell? ⟨gb356, 1, none⟩ = some (.string (⟨#[]⟩ : ByteArray)) := (blk_cell BK356.out 1).trans rfl; have hcz35_2 : w32.cell? ⟨gb356, 2, none⟩ = some (.bool false) := (blk_cell BK356.out 2).trans rfl; have hcz35_3 : w32.cell? ⟨gb356, 3, none⟩ = some (.int .i64 0) := (blk_cell BK356.out 3).trans rfl; have hcz35_4 : w32.cell? ⟨gb356, 4, none⟩ = some (.int .i64 0) := (blk_cell BK356.out 4).trans rfl; have hcz35_5 : w32.cell? ⟨gb356, 5, none⟩ = some (.int .i64 0) := (blk_cell BK356.out 5).trans rfl; have hcz35_6 : w32.cell? ⟨gb356, 6, none⟩ = some (.string (⟨#[]⟩ : ByteArray)) := (blk_cell BK356.out 6).trans rfl; have hfz35_0 := blk_frozen BK356.out 0; have hfz35_1 := blk_frozen BK356.out 1; have hfz35_2 := blk_frozen BK356.out 2; have hfz35_3 := blk_frozen BK356.out 3; have hfz35_4 := blk_frozen BK356.out 4; have hfz35_5 := blk_frozen BK356.out 5; have hfz35_6 := blk_frozen BK356.out 6))
          (try simp only [Act.put, List.setIfInBounds_toArray, List.set_cons_zero, List.set_cons_succ])
          go_cut [] (fun wc => ∃ (kq : Nat), Aside0 (treebridgelaw01_FrameBack.j1 kq a2 a0_0 a0_1 a0_2 a0_3 a0_4 a0_5 a0_6 a1_0 a1_1 a1_2 a1_3 a1_4 a1_5 a1_6 = some r) ∧ Aside0 (kq ≤ kj6) ∧ Aside0 (wc.heap[gb343]? = some (.cells #[.string a0_0, .string a0_1, .bool a0_2, .int .i64 a0_3, .int .i64 a0_4, .int .i64 a0_5, .string a0_6] 23 (0, 0))) ∧ Aside0 (wc.heap[gb344]? = some (.cells #[.string a1_0, .string a1_1, .bool a1_2, .int .i64 a1_3, .int .i64 a1_4, .int .i64 a1_5, .string a1_6] 23 (0, 0))) ∧ Aside0 (wc.heap[gb356]? = some (.cells #[.string t348, .string t349, .bool t350, .int .i64 t351, .int .i64 t352, .int .i64 t353, .string t354] 23 (0, 0))) ∧ Aside0 (Below w.heap.size w wc))
          case first =>
            have H := HC30.out
            clear HC30
            by_cases c36 : t355 = 0
            · rw [if_pos c36] at H
              have c36b0 : (t355 == 0) = true := beq_iff_eq.mpr c36
              have c36b1 : (t355 != 0) = false := bne_eq_false_iff_eq.mpr c36
              clear c36
              (first | rw [c36b0] | (simp only [i64_w, i32_w]; rw [c36b0]) | skip)
              replace H := Option.bind_eq_some_iff.mp H
              obtain ⟨⟨t357, t358⟩, A370, H⟩ := H
              replace H : (if t357.toList = a3.toList then (if t358 = 0 then (treebridgelaw01_FrameBack.j1 kj6 a2 a0_0 a0_1 a0_2 a0_3 a0_4 a0_5 a0_6 a1_0 a1_1 a1_2 a1_3 a1_4 a1_5 a1_6) else (none)) else (none)) = some r := H
              have A37 := Aside0.mk A370
              clear A370
              by_cases c38 : t357.toList = a3.toList
              · rw [if_pos c38] at H
                have c38b0 : (t357.toList == a3.toList) = true := beq_iff_eq.mpr c38
                have c38b1 : (t357.toList != a3.toList) = false := bne_eq_false_iff_eq.mpr c38
                clear c38
                by_cases c39 : t358 = 0
                · rw [if_pos c39] at H
                  have c39b0 : (t358 == 0) = true := beq_iff_eq.mpr c39
                  have c39b1 : (t358 != 0) = false := bne_eq_false_iff_eq.mpr c39
                  clear c39
                  have H' := Aside0.mk H
                  clear H
                  have hnb40 := NB356_343.out
                  have hnc40 := NB343_356.out
                  have hnb41 := NB356_344.out
                  have hnc41 := NB344_356.out
                  have hcz42_0 : w32.cell? ⟨gb356, 0, none⟩ = some (.string (⟨#[]⟩ : ByteArray)) := (blk_cell BK356.out 0).trans rfl
                  have hcz42_1 : w32.cell? ⟨gb356, 1, none⟩ = some (.string (⟨#[]⟩ : ByteArray)) := (blk_cell BK356.out 1).trans rfl
                  have hcz42_2 : w32.cell? ⟨gb356, 2, none⟩ = some (.bool false) := (blk_cell BK356.out 2).trans rfl
                  have hcz42_3 : w32.cell? ⟨gb356, 3, none⟩ = some (.int .i64 0) := (blk_cell BK356.out 3).trans rfl
                  have hcz42_4 : w32.cell? ⟨gb356, 4, none⟩ = some (.int .i64 0) := (blk_cell BK356.out 4).trans rfl
                  have hcz42_5 : w32.cell? ⟨gb356, 5, none⟩ = some (.int .i64 0) := (blk_cell BK356.out 5).trans rfl
                  have hcz42_6 : w32.cell? ⟨gb356, 6, none⟩ = some (.string (⟨#[]⟩ : ByteArray)) := (blk_cell BK356.out 6).trans rfl
                  have hfz42_0 := blk_frozen BK356.out 0
                  have hfz42_1 := blk_frozen BK356.out 1
                  have hfz42_2 := blk_frozen BK356.out 2
                  have hfz42_3 := blk_frozen BK356.out 3
                  have hfz42_4 := blk_frozen BK356.out 4
                  have hfz42_5 := blk_frozen BK356.out 5
                  have hfz42_6 := blk_frozen BK356.out 6
                  go_wp2_with (first | ((with_reducible refine gate_callee (f := 33) rfl ?_); refine goesL_ (some 49) rfl rfl Try.func33 (by kernel_rfl) rfl #[.agg #[.string t348, .string t349, .bool t350, .int .i64 t351, .int .i64 t352, .int .i64 t353, .string t354]] rfl (by (try simp only [List.map_toArray, List.map_cons, List.map_nil]); first | done | rfl | (simp only [List.length_drop, List.length_take]; rfl)) ?_; (with_reducible refine (frame_Print.calls kj6 t348 t349 t350 t351 t352 t353 t354 t357 t358 _ A37.out).mono ?_); rintro e w43 ⟨rfl, hb⟩; refine ⟨_, rfl, ?_⟩; have n0_ := Aside0.mk (blk_below (g := gb343) (o := .cells #[.string a0_0, .string a0_1, .bool a0_2, .int .i64 a0_3, .int .i64 a0_4, .int .i64 a0_5, .string a0_6] 23 (0, 0)) (by (with_reducible repeat (first | refine blk_drewN ?_ _ | refine blk_drew ?_ | refine blk_alloc ?_ _)); refine blk_far ?_ NB343_356.out _; (with_reducible repeat (first | refine blk_drewN ?_ _ | refine blk_drew ?_ | refine blk_alloc ?_ _)); refine blk_far ?_ NB343_356.out _; (with_reducible repeat (first | refine blk_drewN ?_ _ | refine blk_drew ?_ | refine blk_alloc ?_ _)); refine blk_far ?_ NB343_356.out _; (with_reducible repeat (first | refine blk_drewN ?_ _ | refine blk_drew ?_ | refine blk_alloc ?_ _)); refine blk_far ?_ NB343_356.out _; (with_reducible repeat (first | refine blk_drewN ?_ _ | refine blk_drew ?_ | refine blk_alloc ?_ _)); refine blk_far ?_ NB343_356.out _; (with_reducible repeat (first | refine blk_drewN ?_ _ | refine blk_drew ?_ | refine blk_alloc ?_ _)); refine blk_far ?_ NB343_356.out _; (with_reducible repeat (first | refine blk_drewN ?_ _ | refine blk_drew ?_ | refine blk_alloc ?_ _)); refine blk_far ?_ NB343_356.out _; (with_reducible repeat (first | refine blk_drewN ?_ _ | refine blk_drew ?_ | refine blk_alloc ?_ _)); exact BK343.out) hb); have n1_ := Aside0.mk (blk_below (g := gb344) (o := .cells #[.string a1_0, .string a1_1, .bool a1_2, .int .i64 a1_3, .int .i64 a1_4, .int .i64 a1_5, .string a1_6] 23 (0, 0)) (by (with_reducible repeat (first | refine blk_drewN ?_ _ | refine blk_drew ?_ | refine blk_alloc ?_ _)); refine blk_far ?_ NB344_356.out _; (with_reducible repeat (first | refine blk_drewN ?_ _ | refine blk_drew ?_ | refine blk_alloc ?_ _)); refine blk_far ?_ NB344_356.out _; (with_reducible repeat (first | refine blk_drewN ?_ _ | refine blk_drew ?_ | refine blk_alloc ?_ _)); refine blk_far ?_ NB344_356.out _; (with_reducible repeat (first | refine blk_drewN ?_ _ | refine blk_drew ?_ | refine blk_alloc ?_ _)); refine blk_far ?_ NB344_356.out _; (with_reducible repeat (first | refine blk_drewN ?_ _ | refine blk_drew ?_ | refine blk_alloc ?_ _)); refine blk_far ?_ NB344_356.out _; (with_reducible repeat (first | refine blk_drewN ?_ _ | refine blk_drew ?_ | refine blk_alloc ?_ _)); refine blk_far ?_ NB344_356.out _; (with_reducible repeat (first | refine blk_drewN ?_ _ | refine blk_drew ?_ | refine blk_alloc ?_ _)); refine blk_far ?_ NB344_356.out _; (with_reducible repeat (first | refine blk_drewN ?_ _ | refine blk_drew ?_ | refine blk_alloc ?_ _)); exact BK344.out) hb); have n2_ := Aside0.mk (blk_below (g := gb356) (o := .cells #[.string t348, .string t349, .bool t350, .int .i64 t351, .int .i64 t352, .int .i64 t353, .string t354] 23 (0, 0)) (by (with_reducible repeat (first | refine blk_drewN ?_ _ | refine blk_drew ?_ | refine blk_alloc ?_ _)); refine blk_put (cs := #[.string t348, .string t349, .bool t350, .int .i64 t351, .int .i64 t352, .int .i64 t353, .string (⟨#[]⟩ : ByteArray)]) ?_ 6 _ rfl; (with_reducible repeat (first | refine blk_drewN ?_ _ | refine blk_drew ?_ | refine blk_alloc ?_ _)); refine blk_put (cs := #[.string t348, .string t349, .bool t350, .int .i64 t351, .int .i64 t352, .int .i64 0, .string (⟨#[]⟩ : ByteArray)]) ?_ 5 _ rfl; (with_reducible repeat (first | refine blk_drewN ?_ _ | refine blk_drew ?_ | refine blk_alloc ?_ _)); refine blk_put (cs := #[.string t348, .string t349, .bool t350, .int .i64 t351, .int .i64 0, .int .i64 0, .string (⟨#[]⟩ : ByteArray)]) ?_ 4 _ rfl; (with_reducible repeat (first | refine blk_drewN ?_ _ | refine blk_drew ?_ | refine blk_alloc ?_ _)); refine blk_put (cs := #[.string t348, .string t349, .bool t350, .int .i64 0, .int .i64 0, .int .i64 0, .string (⟨#[]⟩ : ByteArray)]) ?_ 3 _ rfl; (with_reducible repeat (first | refine blk_drewN ?_ _ | refine blk_drew ?_ | refine blk_alloc ?_ _)); refine blk_put (cs := #[.string t348, .string t349, .bool false, .int .i64 0, .int .i64 0, .int .i64 0, .string (⟨#[]⟩ : ByteArray)]) ?_ 2 _ rfl; (with_reducible repeat (first | refine blk_drewN ?_ _ | refine blk_drew ?_ | refine blk_alloc ?_ _)); refine blk_put (cs := #[.string t348, .string (⟨#[]⟩ : ByteArray), .bool false, .int .i64 0, .int .i64 0, .int .i64 0, .string (⟨#[]⟩ : ByteArray)]) ?_ 1 _ rfl; (with_reducible repeat (first | refine blk_drewN ?_ _ | refine blk_drew ?_ | refine blk_alloc ?_ _)); refine blk_put (cs := #[.string (⟨#[]⟩ : ByteArray), .string (⟨#[]⟩ : ByteArray), .bool false, .int .i64 0, .int .i64 0, .int .i64 0, .string (⟨#[]⟩ : ByteArray)]) ?_ 0 _ rfl; (with_reducible repeat (first | refine blk_drewN ?_ _ | refine blk_drew ?_ | refine blk_alloc ?_ _)); exact BK356.out) hb); have n3_ := Aside0.mk (below_step (by repeat (first | (with_reducible first | exact HB.out | apply below_alloc | apply pw_below_drewN | apply below_drew1 | refine below_set ?_ GE343.out | refine below_set ?_ GE344.out | refine below_set ?_ GE356.out) | exact HB.out)) hb); clear BK343; clear BK344; clear BK356; clear HB; have BK343 := n0_; have BK344 := n1_; have BK356 := n2_; have HB := n3_; clear n0_ n1_ n2_ n3_; (try clear hb); (try clear hb2); (try clear hk); (try clear hi)))
                  go_meet
                  case rel => exact ⟨_, H', ⟨by have := HJ6.out; first | omega | exact Nat.le_refl _⟩, ⟨by (with_reducible repeat (first | refine blk_drewN ?_ _ | refine blk_drew ?_ | refine blk_alloc ?_ _)); exact BK343.out⟩, ⟨by (with_reducible repeat (first | refine blk_drewN ?_ _ | refine blk_drew ?_ | refine blk_alloc ?_ _)); exact BK344.out⟩, ⟨by (with_reducible repeat (first | refine blk_drewN ?_ _ | refine blk_drew ?_ | refine blk_alloc ?_ _)); exact BK356.out⟩, ⟨by repeat (first | (with_reducible first | exact HB.out | apply below_alloc | apply pw_below_drewN | apply below_drew1 | refine below_set ?_ GE343.out | refine below_set ?_ GE344.out | refine below_set ?_ GE356.out) | exact HB.out)⟩⟩
                · rw [if_neg c39] at H
                  exact absurd H (by simp)
              · rw [if_neg c38] at H
                exact absurd H (by simp)
            · rw [if_neg c36] at H
              have c36b0 : (t355 == 0) = false := beq_eq_false_iff_ne.mpr c36
              have c36b1 : (t355 != 0) = true := bne_iff_ne.mpr c36
              (first | rw [c36b0] | (simp only [i64_w, i32_w]; rw [c36b0]) | skip)
              have H' := Aside0.mk H
              clear H
              go_wp2
              go_meet
              case rel => exact ⟨_, H', ⟨by have := HJ6.out; first | omega | exact Nat.le_refl _⟩, ⟨by (with_reducible repeat (first | refine blk_drewN ?_ _ | refine blk_drew ?_ | refine blk_alloc ?_ _)); refine blk_far ?_ NB343_356.out _; (with_reducible repeat (first | refine blk_drewN ?_ _ | refine blk_drew ?_ | refine blk_alloc ?_ _)); refine blk_far ?_ NB343_356.out _; (with_reducible repeat (first | refine blk_drewN ?_ _ | refine blk_drew ?_ | refine blk_alloc ?_ _)); refine blk_far ?_ NB343_356.out _; (with_reducible repeat (first | refine blk_drewN ?_ _ | refine blk_drew ?_ | refine blk_alloc ?_ _)); refine blk_far ?_ NB343_356.out _; (with_reducible repeat (first | refine blk_drewN ?_ _ | refine blk_drew ?_ | refine blk_alloc ?_ _)); refine blk_far ?_ NB343_356.out _; (with_reducible repeat (first | refine blk_drewN ?_ _ | refine blk_drew ?_ | refine blk_alloc ?_ _)); refine blk_far ?_ NB343_356.out _; (with_reducible repeat (first | refine blk_drewN ?_ _ | refine blk_drew ?_ | refine blk_alloc ?_ _)); refine blk_far ?_ NB343_356.out _; (with_reducible repeat (first | refine blk_drewN ?_ _ | refine blk_drew ?_ | refine blk_alloc ?_ _)); exact BK343.out⟩, ⟨by (with_reducible repeat (first | refine blk_drewN ?_ _ | refine blk_drew ?_ | refine blk_alloc ?_ _)); refine blk_far ?_ NB344_356.out _; (with_reducible repeat (first | refine blk_drewN ?_ _ | refine blk_drew ?_ | refine blk_alloc ?_ _)); refine blk_far ?_ NB344_356.out _; (with_reducible repeat (first | refine blk_drewN ?_ _ | refine blk_drew ?_ | refine blk_alloc ?_ _)); refine blk_far ?_ NB344_356.out _; (with_reducible repeat (first | refine blk_drewN ?_ _ | refine blk_drew ?_ | refine blk_alloc ?_ _)); refine blk_far ?_ NB344_356.out _; (with_reducible repeat (first | refine blk_drewN ?_ _ | refine blk_drew ?_ | refine blk_alloc ?_ _)); refine blk_far ?_ NB344_356.out _; (with_reducible repeat (first | refine blk_drewN ?_ _ | refine blk_drew ?_ | refine blk_alloc ?_ _)); refine blk_far ?_ NB344_356.out _; (with_reducible repeat (first | refine blk_drewN ?_ _ | refine blk_drew ?_ | refine blk_alloc ?_ _)); refine blk_far ?_ NB344_356.out _; (with_reducible repeat (first | refine blk_drewN ?_ _ | refine blk_drew ?_ | refine blk_alloc ?_ _)); exact BK344.out⟩, ⟨by (with_reducible repeat (first | refine blk_drewN ?_ _ | refine blk_drew ?_ | refine blk_alloc ?_ _)); refine blk_put (cs := #[.string t348, .string t349, .bool t350, .int .i64 t351, .int .i64 t352, .int .i64 t353, .string (⟨#[]⟩ : ByteArray)]) ?_ 6 _ rfl; (with_reducible repeat (first | refine blk_drewN ?_ _ | refine blk_drew ?_ | refine blk_alloc ?_ _)); refine blk_put (cs := #[.string t348, .string t349, .bool t350, .int .i64 t351, .int .i64 t352, .int .i64 0, .string (⟨#[]⟩ : ByteArray)]) ?_ 5 _ rfl; (with_reducible repeat (first | refine blk_drewN ?_ _ | refine blk_drew ?_ | refine blk_alloc ?_ _)); refine blk_put (cs := #[.string t348, .string t349, .bool t350, .int .i64 t351, .int .i64 0, .int .i64 0, .string (⟨#[]⟩ : ByteArray)]) ?_ 4 _ rfl; (with_reducible repeat (first | refine blk_drewN ?_ _ | refine blk_drew ?_ | refine blk_alloc ?_ _)); refine blk_put (cs := #[.string t348, .string t349, .bool t350, .int .i64 0, .int .i64 0, .int .i64 0, .string (⟨#[]⟩ : ByteArray)]) ?_ 3 _ rfl; (with_reducible repeat (first | refine blk_drewN ?_ _ | refine blk_drew ?_ | refine blk_alloc ?_ _)); refine blk_put (cs := #[.string t348, .string t349, .bool false, .int .i64 0, .int .i64 0, .int .i64 0, .string (⟨#[]⟩ : ByteArray)]) ?_ 2 _ rfl; (with_reducible repeat (first | refine blk_drewN ?_ _ | refine blk_drew ?_ | refine blk_alloc ?_ _)); refine blk_put (cs := #[.string t348, .string (⟨#[]⟩ : ByteArray), .bool false, .int .i64 0, .int .i64 0, .int .i64 0, .string (⟨#[]⟩ : ByteArray)]) ?_ 1 _ rfl; (with_reducible repeat (first | refine blk_drewN ?_ _ | refine blk_drew ?_ | refine blk_alloc ?_ _)); refine blk_put (cs := #[.string (⟨#[]⟩ : ByteArray), .string (⟨#[]⟩ : ByteArray), .bool false, .int .i64 0, .int .i64 0, .int .i64 0, .string (⟨#[]⟩ : ByteArray)]) ?_ 0 _ rfl; (with_reducible repeat (first | refine blk_drewN ?_ _ | refine blk_drew ?_ | refine blk_alloc ?_ _)); exact BK356.out⟩, ⟨by repeat (first | (with_reducible first | exact HB.out | apply below_alloc | apply pw_below_drewN | apply below_drew1 | refine below_set ?_ GE343.out | refine below_set ?_ GE344.out | refine below_set ?_ GE356.out) | exact HB.out)⟩⟩
          case rest =>
            clear HC30
            try clear c1
            try clear c2
            try clear p2
            try clear c3
            try clear c4
            try clear c6
            try clear c7
            try clear c12
            try clear c14
            try clear c15
            try clear c16
            try clear c20
            try clear c25
            try clear c28
            try clear c31
            try clear c33
            try clear c34
            try clear c36
            try clear c36b0
            try clear c36b1
            try clear c38
            try clear c38b0
            try clear c38b1
            try clear c39
            try clear c39b0
            try clear c39b1
            try clear c40
            try clear c41
            try clear hcz16_0
            try clear hcz16_1
            try clear hcz16_2
            try clear hcz16_3
            try clear hcz16_4
            try clear hcz16_5
            try clear hcz16_6
            try clear hcz18_0
            try clear hcz18_1
            try clear hcz18_2
            try clear hcz18_3
            try clear hcz18_4
            try clear hcz18_5
            try clear hcz18_6
            try clear hcz21_0
            try clear hcz21_1
            try clear hcz21_2
            try clear hcz21_3
            try clear hcz21_4
            try clear hcz21_5
            try clear hcz21_6
            try clear hcz23_0
            try clear hcz23_1
            try clear hcz23_2
            try clear hcz23_3
            try clear hcz23_4
            try clear hcz23_5
            try clear hcz23_6
            try clear hcz26_0
            try clear hcz26_1
            try clear hcz26_2
            try clear hcz26_3
            try clear hcz26_4
            try clear hcz26_5
            try clear hcz26_6
            try clear hcz35_0
            try clear hcz35_1
            try clear hcz35_2
            try clear hcz35_3
            try clear hcz35_4
            try clear hcz35_5
            try clear hcz35_6
            try clear hcz42_0
            try clear hcz42_1
            try clear hcz42_2
            try clear hcz42_3
            try clear hcz42_4
            try clear hcz42_5
            try clear hcz42_6
            try clear hfz16_0
            try clear hfz16_1
            try clear hfz16_2
            try clear hfz16_3
            try clear hfz16_4
            try clear hfz16_5
            try clear hfz16_6
            try clear hfz18_0
            try clear hfz18_1
            try clear hfz18_2
            try clear hfz18_3
            try clear hfz18_4
            try clear hfz18_5
            try clear hfz18_6
            try clear hfz21_0
            try clear hfz21_1
            try clear hfz21_2
            try clear hfz21_3
            try clear hfz21_4
            try clear hfz21_5
            try clear hfz21_6
            try clear hfz23_0
            try clear hfz23_1
            try clear hfz23_2
            try clear hfz23_3
            try clear hfz23_4
            try clear hfz23_5
            try clear hfz23_6
            try clear hfz26_0
            try clear hfz26_1
            try clear hfz26_2
            try clear hfz26_3
            try clear hfz26_4
            try clear hfz26_5
            try clear hfz26_6
            try clear hfz35_0
            try clear hfz35_1
            try clear hfz35_2
            try clear hfz35_3
            try clear hfz35_4
            try clear hfz35_5
            try clear hfz35_6
            try clear hfz42_0
            try clear hfz42_1
            try clear hfz42_2
            try clear hfz42_3
            try clear hfz42_4
            try clear hfz42_5
            try clear hfz42_6
            try clear p2
            obtain ⟨kq, HA, HJ29, BK343, BK344, BK356, HB⟩ := hcut
            cases kq with
            | zero => exact absurd HA.out (by simp [treebridgelaw01_FrameBack.j1])
            | succ kj29 =>
              have H := HA.out
              clear HA
              simp only [treebridgelaw01_FrameBack.j1] at H
              replace H := Option.bind_eq_some_iff.mp H
              obtain ⟨⟨t359, t360⟩, A440, H⟩ := H
              replace H : ((frame_Print.f kj29 a1_0 a1_1 a1_2 a1_3 a1_4 a1_5 a1_6).bind fun bt361 => (if t360 = 0 then ((frame_Parse.f kj29 t359).bind fun bt364 => (if (!(bt364.1.toList == a0_0.toList) || (!(bt364.2.1.toList == a0_1.toList) || (!(bt364.2.2.1 == a0_2) || (!(bt364.2.2.2.1 == a0_3) || (!(bt364.2.2.2.2.1 == a0_4) || (!(bt364.2.2.2.2.2.1 == a0_5) || (!(bt364.2.2.2.2.2.2.1.toList == a0_6.toList)))))))) = true then (treebridgelaw01_FrameBack.j2 kj29 a2 t359 true a0_0 a0_1 a0_2 a0_3 a0_4 a0_5 a0_6) else (if bt364.2.2.2.2.2.2.2 = 0 then (if bt361.2 = 0 then (treebridgelaw01_FrameBack.j2 kj29 a2 t359 ((t359.toList == bt361.1.toList) != (a0_0.toList == a1_0.toList && (a0_1.toList == a1_1.toList && (a0_2 == a1_2 && (a0_3 == a1_3 && (a0_4 == a1_4 && (a0_5 == a1_5 && (a0_6.toList == a1_6.toList)))))))) a0_0 a0_1 a0_2 a0_3 a0_4 a0_5 a0_6) else (treebridgelaw01_FrameBack.j2 kj29 a2 t359 false a0_0 a0_1 a0_2 a0_3 a0_4 a0_5 a0_6)) else (treebridgelaw01_FrameBack.j2 kj29 a2 t359 true a0_0 a0_1 a0_2 a0_3 a0_4 a0_5 a0_6)))) else (if t359.toList = ([] : List UInt8) then ((frame_Right.f kj29 a0_0 a0_1 a0_2 a0_3 a0_4 a0_5 a0_6).bind fun t363 => (some (!t363))) else (none)))) = some r := H
              have A44 := Aside0.mk A440
              clear A440
              replace H := Option.bind_eq_some_iff.mp H
              obtain ⟨⟨t361, t362⟩, A450, H⟩ := H
              replace H : (if t360 = 0 then ((frame_Parse.f kj29 t359).bind fun bt364 => (if (!(bt364.1.toList == a0_0.toList) || (!(bt364.2.1.toList == a0_1.toList) || (!(bt364.2.2.1 == a0_2) || (!(bt364.2.2.2.1 == a0_3) || (!(bt364.2.2.2.2.1 == a0_4) || (!(bt364.2.2.2.2.2.1 == a0_5) || (!(bt364.2.2.2.2.2.2.1.toList == a0_6.toList)))))))) = true then (treebridgelaw01_FrameBack.j2 kj29 a2 t359 true a0_0 a0_1 a0_2 a0_3 a0_4 a0_5 a0_6) else (if bt364.2.2.2.2.2.2.2 = 0 then (if t362 = 0 then (treebridgelaw01_FrameBack.j2 kj29 a2 t359 ((t359.toList == t361.toList) != (a0_0.toList == a1_0.toList && (a0_1.toList == a1_1.toList && (a0_2 == a1_2 && (a0_3 == a1_3 && (a0_4 == a1_4 && (a0_5 == a1_5 && (a0_6.toList == a1_6.toList)))))))) a0_0 a0_1 a0_2 a0_3 a0_4 a0_5 a0_6) else (treebridgelaw01_FrameBack.j2 kj29 a2 t359 false a0_0 a0_1 a0_2 a0_3 a0_4 a0_5 a0_6)) else (treebridgelaw01_FrameBack.j2 kj29 a2 t359 true a0_0 a0_1 a0_2 a0_3 a0_4 a0_5 a0_6)))) else (if t359.toList = ([] : List UInt8) then ((frame_Right.f kj29 a0_0 a0_1 a0_2 a0_3 a0_4 a0_5 a0_6).bind fun t363 => (some (!t363))) else (none))) = some r := H
              have A45 := Aside0.mk A450
              clear A450
              by_cases c46 : t360 = 0
              · rw [if_pos c46] at H
                have c46b0 : (t360 == 0) = true := beq_iff_eq.mpr c46
                have c46b1 : (t360 != 0) = false := bne_eq_false_iff_eq.mpr c46
                clear c46
                replace H := Option.bind_eq_some_iff.mp H
                obtain ⟨⟨t364, t365, t366, t367, t368, t369, t370, t371⟩, A470, H⟩ := H
                replace H : (if (!(t364.toList == a0_0.toList) || (!(t365.toList == a0_1.toList) || (!(t366 == a0_2) || (!(t367 == a0_3) || (!(t368 == a0_4) || (!(t369 == a0_5) || (!(t370.toList == a0_6.toList)))))))) = true then (treebridgelaw01_FrameBack.j2 kj29 a2 t359 true a0_0 a0_1 a0_2 a0_3 a0_4 a0_5 a0_6) else (if t371 = 0 then (if t362 = 0 then (treebridgelaw01_FrameBack.j2 kj29 a2 t359 ((t359.toList == t361.toList) != (a0_0.toList == a1_0.toList && (a0_1.toList == a1_1.toList && (a0_2 == a1_2 && (a0_3 == a1_3 && (a0_4 == a1_4 && (a0_5 == a1_5 && (a0_6.toList == a1_6.toList)))))))) a0_0 a0_1 a0_2 a0_3 a0_4 a0_5 a0_6) else (treebridgelaw01_FrameBack.j2 kj29 a2 t359 false a0_0 a0_1 a0_2 a0_3 a0_4 a0_5 a0_6)) else (treebridgelaw01_FrameBack.j2 kj29 a2 t359 true a0_0 a0_1 a0_2 a0_3 a0_4 a0_5 a0_6))) = some r := H
                have A47 := Aside0.mk A470
                clear A470
                have HC48 := Aside0.mk H
                clear H
                have hnb49 := NB343_344.out
                have hnc49 := NB344_343.out
                have hnb50 := NB343_356.out
                have hnc50 := NB356_343.out
                have hcz51_0 : wc.cell? ⟨gb343, 0, none⟩ = some (.string a0_0) := (blk_cell BK343.out 0).trans rfl
                have hcz51_1 : wc.cell? ⟨gb343, 1, none⟩ = some (.string a0_1) := (blk_cell BK343.out 1).trans rfl
                have hcz51_2 : wc.cell? ⟨gb343, 2, none⟩ = some (.bool a0_2) := (blk_cell BK343.out 2).trans rfl
                have hcz51_3 : wc.cell? ⟨gb343, 3, none⟩ = some (.int .i64 a0_3) := (blk_cell BK343.out 3).trans rfl
                have hcz51_4 : wc.cell? ⟨gb343, 4, none⟩ = some (.int .i64 a0_4) := (blk_cell BK343.out 4).trans rfl
                have hcz51_5 : wc.cell? ⟨gb343, 5, none⟩ = some (.int .i64 a0_5) := (blk_cell BK343.out 5).trans rfl
                have hcz51_6 : wc.cell? ⟨gb343, 6, none⟩ = some (.string a0_6) := (blk_cell BK343.out 6).trans rfl
                have hfz51_0 := blk_frozen BK343.out 0
                have hfz51_1 := blk_frozen BK343.out 1
                have hfz51_2 := blk_frozen BK343.out 2
                have hfz51_3 := blk_frozen BK343.out 3
                have hfz51_4 := blk_frozen BK343.out 4
                have hfz51_5 := blk_frozen BK343.out 5
                have hfz51_6 := blk_frozen BK343.out 6
                go_upto_region 15 with (first | ((with_reducible refine gate_callee (f := 33) rfl ?_); refine goesL_ (some 61) rfl rfl Try.func33 (by kernel_rfl) rfl #[.agg #[.string a0_0, .string a0_1, .bool a0_2, .int .i64 a0_3, .int .i64 a0_4, .int .i64 a0_5, .string a0_6]] rfl (by (try simp only [List.map_toArray, List.map_cons, List.map_nil]); first | done | rfl | (simp only [List.length_drop, List.length_take]; rfl)) ?_; (with_reducible refine (frame_Print.calls kj29 a0_0 a0_1 a0_2 a0_3 a0_4 a0_5 a0_6 t359 t360 _ A44.out).mono ?_); rintro e w52 ⟨rfl, hb⟩; refine ⟨_, rfl, ?_⟩; have n0_ := Aside0.mk (blk_below (g := gb343) (o := .cells #[.string a0_0, .string a0_1, .bool a0_2, .int .i64 a0_3, .int .i64 a0_4, .int .i64 a0_5, .string a0_6] 23 (0, 0)) (by (with_reducible repeat (first | refine blk_drewN ?_ _ | refine blk_drew ?_ | refine blk_alloc ?_ _)); exact BK343.out) hb); have n1_ := Aside0.mk (blk_below (g := gb344) (o := .cells #[.string a1_0, .string a1_1, .bool a1_2, .int .i64 a1_3, .int .i64 a1_4, .int .i64 a1_5, .string a1_6] 23 (0, 0)) (by (with_reducible repeat (first | refine blk_drewN ?_ _ | refine blk_drew ?_ | refine blk_alloc ?_ _)); exact BK344.out) hb); have n2_ := Aside0.mk (blk_below (g := gb356) (o := .cells #[.string t348, .string t349, .bool t350, .int .i64 t351, .int .i64 t352, .int .i64 t353, .string t354] 23 (0, 0)) (by (with_reducible repeat (first | refine blk_drewN ?_ _ | refine blk_drew ?_ | refine blk_alloc ?_ _)); exact BK356.out) hb); have n3_ := Aside0.mk (below_step (by repeat (first | (with_reducible first | exact HB.out | apply below_alloc | apply pw_below_drewN | apply below_drew1 | refine below_set ?_ GE343.out | refine below_set ?_ GE344.out | refine below_set ?_ GE356.out) | exact HB.out)) hb); clear BK343; clear BK344; clear BK356; clear HB; have BK343 := n0_; have BK344 := n1_; have BK356 := n2_; have HB := n3_; clear n0_ n1_ n2_ n3_; (try clear hb); (try clear hb2); (try clear hk); (try clear hi); have hnb53 := NB344_356.out; have hnc53 := NB356_344.out; have hcz54_0 : w52.cell? ⟨gb344, 0, none⟩ = some (.string a1_0) := (blk_cell BK344.out 0).trans rfl; have hcz54_1 : w52.cell? ⟨gb344, 1, none⟩ = some (.string a1_1) := (blk_cell BK344.out 1).trans rfl; have hcz54_2 : w52.cell? ⟨gb344, 2, none⟩ = some (.bool a1_2) := (blk_cell BK344.out 2).trans rfl; have hcz54_3 : w52.cell? ⟨gb344, 3, none⟩ = some (.int .i64 a1_3) := (blk_cell BK344.out 3).trans rfl; have hcz54_4 : w52.cell? ⟨gb344, 4, none⟩ = some (.int .i64 a1_4) := (blk_cell BK344.out 4).trans rfl; have hcz54_5 : w52.cell? ⟨gb344, 5, none⟩ = some (.int .i64 a1_5) := (blk_cell BK344.out 5).trans rfl; have hcz54_6 : w52.cell? ⟨gb344, 6, none⟩ = some (.string a1_6) := (blk_cell BK344.out 6).trans rfl; have hfz54_0 := blk_frozen BK344.out 0; have hfz54_1 := blk_frozen BK344.out 1; have hfz54_2 := blk_frozen BK344.out 2; have hfz54_3 := blk_frozen BK344.out 3; have hfz54_4 := blk_frozen BK344.out 4; have hfz54_5 := blk_frozen BK344.out 5; have hfz54_6 := blk_frozen BK344.out 6) | ((with_reducible refine gate_callee (f := 33) rfl ?_); refine goesL_ (some 66) rfl rfl Try.func33 (by kernel_rfl) rfl #[.agg #[.string a1_0, .string a1_1, .bool a1_2, .int .i64 a1_3, .int .i64 a1_4, .int .i64 a1_5, .string a1_6]] rfl (by (try simp only [List.map_toArray, List.map_cons, List.map_nil]); first | done | rfl | (simp only [List.length_drop, List.length_take]; rfl)) ?_; (with_reducible refine (frame_Print.calls kj29 a1_0 a1_1 a1_2 a1_3 a1_4 a1_5 a1_6 t361 t362 _ A45.out).mono ?_); rintro e w55 ⟨rfl, hb⟩; refine ⟨_, rfl, ?_⟩; have n0_ := Aside0.mk (blk_below (g := gb343) (o := .cells #[.string a0_0, .string a0_1, .bool a0_2, .int .i64 a0_3, .int .i64 a0_4, .int .i64 a0_5, .string a0_6] 23 (0, 0)) (by (with_reducible repeat (first | refine blk_drewN ?_ _ | refine blk_drew ?_ | refine blk_alloc ?_ _)); exact BK343.out) hb); have n1_ := Aside0.mk (blk_below (g := gb344) (o := .cells #[.string a1_0, .string a1_1, .bool a1_2, .int .i64 a1_3, .int .i64 a1_4, .int .i64 a1_5, .string a1_6] 23 (0, 0)) (by (with_reducible repeat (first | refine blk_drewN ?_ _ | refine blk_drew ?_ | refine blk_alloc ?_ _)); exact BK344.out) hb); have n2_ := Aside0.mk (blk_below (g := gb356) (o := .cells #[.string t348, .string t349, .bool t350, .int .i64 t351, .int .i64 t352, .int .i64 t353, .string t354] 23 (0, 0)) (by (with_reducible repeat (first | refine blk_drewN ?_ _ | refine blk_drew ?_ | refine blk_alloc ?_ _)); exact BK356.out) hb); have n3_ := Aside0.mk (below_step (by repeat (first | (with_reducible first | exact HB.out | apply below_alloc | apply pw_below_drewN | apply below_drew1 | refine below_set ?_ GE343.out | refine below_set ?_ GE344.out | refine below_set ?_ GE356.out) | exact HB.out)) hb); clear BK343; clear BK344; clear BK356; clear HB; have BK343 := n0_; have BK344 := n1_; have BK356 := n2_; have HB := n3_; clear n0_ n1_ n2_ n3_; (try clear hb); (try clear hb2); (try clear hk); (try clear hi)) | ((with_reducible refine gate_callee (f := 31) rfl ?_); refine goesL_ (some 80) rfl rfl Try.func31 (by kernel_rfl) rfl #[.string t359] rfl (by (try simp only [List.map_toArray, List.map_cons, List.map_nil]); first | done | rfl | (simp only [List.length_drop, List.length_take]; rfl)) ?_; (with_reducible refine (frame_Parse.calls kj29 t359 t364 t365 t366 t367 t368 t369 t370 t371 _ A47.out).mono ?_); rintro e w56 ⟨rfl, hb⟩; refine ⟨_, rfl, ?_⟩; have n0_ := Aside0.mk (blk_below (g := gb343) (o := .cells #[.string a0_0, .string a0_1, .bool a0_2, .int .i64 a0_3, .int .i64 a0_4, .int .i64 a0_5, .string a0_6] 23 (0, 0)) (by (with_reducible repeat (first | refine blk_drewN ?_ _ | refine blk_drew ?_ | refine blk_alloc ?_ _)); exact BK343.out) hb); have n1_ := Aside0.mk (blk_below (g := gb344) (o := .cells #[.string a1_0, .string a1_1, .bool a1_2, .int .i64 a1_3, .int .i64 a1_4, .int .i64 a1_5, .string a1_6] 23 (0, 0)) (by (with_reducible repeat (first | refine blk_drewN ?_ _ | refine blk_drew ?_ | refine blk_alloc ?_ _)); exact BK344.out) hb); have n2_ := Aside0.mk (blk_below (g := gb356) (o := .cells #[.string t348, .string t349, .bool t350, .int .i64 t351, .int .i64 t352, .int .i64 t353, .string t354] 23 (0, 0)) (by (with_reducible repeat (first | refine blk_drewN ?_ _ | refine blk_drew ?_ | refine blk_alloc ?_ _)); exact BK356.out) hb); have n3_ := Aside0.mk (below_step (by repeat (first | (with_reducible first | exact HB.out | apply below_alloc | apply pw_below_drewN | apply below_drew1 | refine below_set ?_ GE343.out | refine below_set ?_ GE344.out | refine below_set ?_ GE356.out) | exact HB.out)) hb); clear BK343; clear BK344; clear BK356; clear HB; have BK343 := n0_; have BK344 := n1_; have BK356 := n2_; have HB := n3_; clear n0_ n1_ n2_ n3_; (try clear hb); (try clear hb2); (try clear hk); (try clear hi)) | ((with_reducible refine gate_dst (N := 17) rfl ?_); (try (refine gate_guard (by rfl) ?_; dsimp only)); refine box_event ?hg (N := 17) ?hd (cs := #[.string (⟨#[]⟩ : ByteArray), .string (⟨#[]⟩ : ByteArray), .bool false, .int .i64 0, .int .i64 0, .int .i64 0, .string (⟨#[]⟩ : ByteArray)]) (t := 23) ?hr ?_; (case hd => rfl); (case hg => rfl); (case hr => first | (go_simp; done) | (go_simp; rfl)); intro gb372 hg w57 hbox hb; have n0_ := Aside0.mk (blk_below (g := gb343) (o := .cells #[.string a0_0, .string a0_1, .bool a0_2, .int .i64 a0_3, .int .i64 a0_4, .int .i64 a0_5, .string a0_6] 23 (0, 0)) (by (with_reducible repeat (first | refine blk_drewN ?_ _ | refine blk_drew ?_ | refine blk_alloc ?_ _)); exact BK343.out) hb); have n1_ := Aside0.mk (blk_below (g := gb344) (o := .cells #[.string a1_0, .string a1_1, .bool a1_2, .int .i64 a1_3, .int .i64 a1_4, .int .i64 a1_5, .string a1_6] 23 (0, 0)) (by (with_reducible repeat (first | refine blk_drewN ?_ _ | refine blk_drew ?_ | refine blk_alloc ?_ _)); exact BK344.out) hb); have n2_ := Aside0.mk (blk_below (g := gb356) (o := .cells #[.string t348, .string t349, .bool t350, .int .i64 t351, .int .i64 t352, .int .i64 t353, .string t354] 23 (0, 0)) (by (with_reducible repeat (first | refine blk_drewN ?_ _ | refine blk_drew ?_ | refine blk_alloc ?_ _)); exact BK356.out) hb); have n3_ := Aside0.mk (below_step (by repeat (first | (with_reducible first | exact HB.out | apply below_alloc | apply pw_below_drewN | apply below_drew1 | refine below_set ?_ GE343.out | refine below_set ?_ GE344.out | refine below_set ?_ GE356.out) | exact HB.out)) hb); have n4_ := Aside0.mk (hbox); have n5_ := Aside0.mk ((by rw [hg]; exact (below_size (by repeat (first | (with_reducible first | exact HB.out | apply below_alloc | apply pw_below_drewN | apply below_drew1 | refine below_set ?_ GE343.out | refine below_set ?_ GE344.out | refine below_set ?_ GE356.out) | exact HB.out))) : w.heap.size ≤ gb372)); have n6_ := Aside0.mk ((by rw [hg]; exact (below_size (by repeat (first | (with_reducible first | exact HB.out | apply below_alloc | apply pw_below_drewN | apply below_drew1 | refine below_set ?_ GE343.out | refine below_set ?_ GE344.out | refine below_set ?_ GE356.out) | exact HB.out))) : w.heap.size ≤ gb372)); have n7_ := Aside0.mk ((by rw [hg]; exact Nat.ne_of_lt (blk_lt (g := gb343) (o := .cells #[.string a0_0, .string a0_1, .bool a0_2, .int .i64 a0_3, .int .i64 a0_4, .int .i64 a0_5, .string a0_6] 23 (0, 0)) (by (with_reducible repeat (first | refine blk_drewN ?_ _ | refine blk_drew ?_ | refine blk_alloc ?_ _)); exact BK343.out)) : gb343 ≠ gb372)); have n8_ := Aside0.mk ((by rw [hg]; exact Nat.ne_of_gt (blk_lt (g := gb343) (o := .cells #[.string a0_0, .string a0_1, .bool a0_2, .int .i64 a0_3, .int .i64 a0_4, .int .i64 a0_5, .string a0_6] 23 (0, 0)) (by (with_reducible repeat (first | refine blk_drewN ?_ _ | refine blk_drew ?_ | refine blk_alloc ?_ _)); exact BK343.out)) : gb372 ≠ gb343)); have n9_ := Aside0.mk ((by rw [hg]; exact Nat.ne_of_lt (blk_lt (g := gb344) (o := .cells #[.string a1_0, .string a1_1, .bool a1_2, .int .i64 a1_3, .int .i64 a1_4, .int .i64 a1_5, .string a1_6] 23 (0, 0)) (by (with_reducible repeat (first | refine blk_drewN ?_ _ | refine blk_drew ?_ | refine blk_alloc ?_ _)); exact BK344.out)) : gb344 ≠ gb372)); have n10_ := Aside0.mk ((by rw [hg]; exact Nat.ne_of_gt (blk_lt (g := gb344) (o := .cells #[.string a1_0, .string a1_1, .bool a1_2, .int .i64 a1_3, .int .i64 a1_4, .int .i64 a1_5, .string a1_6] 23 (0, 0)) (by (with_reducible repeat (first | refine blk_drewN ?_ _ | refine blk_drew ?_ | refine blk_alloc ?_ _)); exact BK344.out)) : gb372 ≠ gb344)); have n11_ := Aside0.mk ((by rw [hg]; exact Nat.ne_of_lt (blk_lt (g := gb356) (o := .cells #[.string t348, .string t349, .bool t350, .int .i64 t351, .int .i64 t352, .int .i64 t353, .string t354] 23 (0, 0)) (by (with_reducible repeat (first | refine blk_drewN ?_ _ | refine blk_drew ?_ | refine blk_alloc ?_ _)); exact BK356.out)) : gb356 ≠ gb372)); have n12_ := Aside0.mk ((by rw [hg]; exact Nat.ne_of_gt (blk_lt (g := gb356) (o := .cells #[.string t348, .string t349, .bool t350, .int .i64 t351, .int .i64 t352, .int .i64 t353, .string t354] 23 (0, 0)) (by (with_reducible repeat (first | refine blk_drewN ?_ _ | refine blk_drew ?_ | refine blk_alloc ?_ _)); exact BK356.out)) : gb372 ≠ gb356)); clear BK343; clear BK344; clear BK356; clear HB; have BK343 := n0_; have BK344 := n1_; have BK356 := n2_; have HB := n3_; have BK372 := n4_; have GW372 := n5_; have GE372 := n6_; have NB343_372 := n7_; have NB372_343 := n8_; have NB344_372 := n9_; have NB372_344 := n10_; have NB356_372 := n11_; have NB372_356 := n12_; clear n0_ n1_ n2_ n3_ n4_ n5_ n6_ n7_ n8_ n9_ n10_ n11_ n12_; clear hb hbox hg; have hnb58 := NB372_343.out; have hnc58 := NB343_372.out; have hnb59 := NB372_344.out; have hnc59 := NB344_372.out; have hnb60 := NB372_356.out; have hnc60 := NB356_372.out; have hcz61_0 : w57.cell? ⟨gb372, 0, none⟩ = some (.string (⟨#[]⟩ : ByteArray)) := (blk_cell BK372.out 0).trans rfl; have hcz61_1 : w57.cell? ⟨gb372, 1, none⟩ = some (.string (⟨#[]⟩ : ByteArray)) := (blk_cell BK372.out 1).trans rfl; have hcz61_2 : w57.cell? ⟨gb372, 2, none⟩ = some (.bool false) := (blk_cell BK372.out 2).trans rfl; have hcz61_3 : w57.cell? ⟨gb372, 3, none⟩ = some (.int .i64 0) := (blk_cell BK372.out 3).trans rfl; have hcz61_4 : w57.cell? ⟨gb372, 4, none⟩ = some (.int .i64 0) := (blk_cell BK372.out 4).trans rfl; have hcz61_5 : w57.cell? ⟨gb372, 5, none⟩ = some (.int .i64 0) := (blk_cell BK372.out 5).trans rfl; have hcz61_6 : w57.cell? ⟨gb372, 6, none⟩ = some (.string (⟨#[]⟩ : ByteArray)) := (blk_cell BK372.out 6).trans rfl; have hfz61_0 := blk_frozen BK372.out 0; have hfz61_1 := blk_frozen BK372.out 1; have hfz61_2 := blk_frozen BK372.out 2; have hfz61_3 := blk_frozen BK372.out 3; have hfz61_4 := blk_frozen BK372.out 4; have hfz61_5 := blk_frozen BK372.out 5; have hfz61_6 := blk_frozen BK372.out 6))
                (try simp only [Act.put, List.setIfInBounds_toArray, List.set_cons_zero, List.set_cons_succ])
                go_cut [102] (fun v102 wc => ∃ (kq : Nat) (x102_47 : Bool), v102 = .bool x102_47 ∧ Aside0 (treebridgelaw01_FrameBack.j2 kq a2 t359 x102_47 a0_0 a0_1 a0_2 a0_3 a0_4 a0_5 a0_6 = some r) ∧ Aside0 (kq ≤ kj29) ∧ Aside0 (wc.heap[gb343]? = some (.cells #[.string a0_0, .string a0_1, .bool a0_2, .int .i64 a0_3, .int .i64 a0_4, .int .i64 a0_5, .string a0_6] 23 (0, 0))) ∧ Aside0 (wc.heap[gb344]? = some (.cells #[.string a1_0, .string a1_1, .bool a1_2, .int .i64 a1_3, .int .i64 a1_4, .int .i64 a1_5, .string a1_6] 23 (0, 0))) ∧ Aside0 (wc.heap[gb356]? = some (.cells #[.string t348, .string t349, .bool t350, .int .i64 t351, .int .i64 t352, .int .i64 t353, .string t354] 23 (0, 0))) ∧ Aside0 (wc.heap[gb372]? = some (.cells #[.string t364, .string t365, .bool t366, .int .i64 t367, .int .i64 t368, .int .i64 t369, .string t370] 23 (0, 0))) ∧ Aside0 (Below w.heap.size w wc))
                case first =>
                  have H := HC48.out
                  clear HC48
                  by_cases c62 : (!(t364.toList == a0_0.toList) || (!(t365.toList == a0_1.toList) || (!(t366 == a0_2) || (!(t367 == a0_3) || (!(t368 == a0_4) || (!(t369 == a0_5) || (!(t370.toList == a0_6.toList)))))))) = true
                  · rw [if_pos c62] at H
                    have c62b0 : (!(t364.toList == a0_0.toList) || (!(t365.toList == a0_1.toList) || (!(t366 == a0_2) || (!(t367 == a0_3) || (!(t368 == a0_4) || (!(t369 == a0_5) || (!(t370.toList == a0_6.toList)))))))) = true := c62
                    clear c62
                    (first | rw [c62b0] | (simp only [i64_w, i32_w]; rw [c62b0]) | skip)
                    have H' := Aside0.mk H
                    clear H
                    have hnb63 := NB372_343.out
                    have hnc63 := NB343_372.out
                    have hnb64 := NB372_344.out
                    have hnc64 := NB344_372.out
                    have hnb65 := NB372_356.out
                    have hnc65 := NB356_372.out
                    have hcz66_0 : w57.cell? ⟨gb372, 0, none⟩ = some (.string (⟨#[]⟩ : ByteArray)) := (blk_cell BK372.out 0).trans rfl
                    have hcz66_1 : w57.cell? ⟨gb372, 1, none⟩ = some (.string (⟨#[]⟩ : ByteArray)) := (blk_cell BK372.out 1).trans rfl
                    have hcz66_2 : w57.cell? ⟨gb372, 2, none⟩ = some (.bool false) := (blk_cell BK372.out 2).trans rfl
                    have hcz66_3 : w57.cell? ⟨gb372, 3, none⟩ = some (.int .i64 0) := (blk_cell BK372.out 3).trans rfl
                    have hcz66_4 : w57.cell? ⟨gb372, 4, none⟩ = some (.int .i64 0) := (blk_cell BK372.out 4).trans rfl
                    have hcz66_5 : w57.cell? ⟨gb372, 5, none⟩ = some (.int .i64 0) := (blk_cell BK372.out 5).trans rfl
                    have hcz66_6 : w57.cell? ⟨gb372, 6, none⟩ = some (.string (⟨#[]⟩ : ByteArray)) := (blk_cell BK372.out 6).trans rfl
                    have hfz66_0 := blk_frozen BK372.out 0
                    have hfz66_1 := blk_frozen BK372.out 1
                    have hfz66_2 := blk_frozen BK372.out 2
                    have hfz66_3 := blk_frozen BK372.out 3
                    have hfz66_4 := blk_frozen BK372.out 4
                    have hfz66_5 := blk_frozen BK372.out 5
                    have hfz66_6 := blk_frozen BK372.out 6
                    have hnb67 := NB343_344.out
                    have hnc67 := NB344_343.out
                    have hnb68 := NB343_356.out
                    have hnc68 := NB356_343.out
                    have hcz69_0 : w57.cell? ⟨gb343, 0, none⟩ = some (.string a0_0) := (blk_cell BK343.out 0).trans rfl
                    have hcz69_1 : w57.cell? ⟨gb343, 1, none⟩ = some (.string a0_1) := (blk_cell BK343.out 1).trans rfl
                    have hcz69_2 : w57.cell? ⟨gb343, 2, none⟩ = some (.bool a0_2) := (blk_cell BK343.out 2).trans rfl
                    have hcz69_3 : w57.cell? ⟨gb343, 3, none⟩ = some (.int .i64 a0_3) := (blk_cell BK343.out 3).trans rfl
                    have hcz69_4 : w57.cell? ⟨gb343, 4, none⟩ = some (.int .i64 a0_4) := (blk_cell BK343.out 4).trans rfl
                    have hcz69_5 : w57.cell? ⟨gb343, 5, none⟩ = some (.int .i64 a0_5) := (blk_cell BK343.out 5).trans rfl
                    have hcz69_6 : w57.cell? ⟨gb343, 6, none⟩ = some (.string a0_6) := (blk_cell BK343.out 6).trans rfl
                    have hfz69_0 := blk_frozen BK343.out 0
                    have hfz69_1 := blk_frozen BK343.out 1
                    have hfz69_2 := blk_frozen BK343.out 2
                    have hfz69_3 := blk_frozen BK343.out 3
                    have hfz69_4 := blk_frozen BK343.out 4
                    have hfz69_5 := blk_frozen BK343.out 5
                    have hfz69_6 := blk_frozen BK343.out 6
                    go_wp2
                    go_meet
                    case rel => exact ⟨_, (true), (by first | rfl | (simp; done) | (simp [*]; done)), H', ⟨by have := HJ6.out; have := HJ29.out; first | omega | exact Nat.le_refl _⟩, ⟨by (with_reducible repeat (first | refine blk_drewN ?_ _ | refine blk_drew ?_ | refine blk_alloc ?_ _)); refine blk_far ?_ NB343_372.out _; (with_reducible repeat (first | refine blk_drewN ?_ _ | refine blk_drew ?_ | refine blk_alloc ?_ _)); refine blk_far ?_ NB343_372.out _; (with_reducible repeat (first | refine blk_drewN ?_ _ | refine blk_drew ?_ | refine blk_alloc ?_ _)); refine blk_far ?_ NB343_372.out _; (with_reducible repeat (first | refine blk_drewN ?_ _ | refine blk_drew ?_ | refine blk_alloc ?_ _)); refine blk_far ?_ NB343_372.out _; (with_reducible repeat (first | refine blk_drewN ?_ _ | refine blk_drew ?_ | refine blk_alloc ?_ _)); refine blk_far ?_ NB343_372.out _; (with_reducible repeat (first | refine blk_drewN ?_ _ | refine blk_drew ?_ | refine blk_alloc ?_ _)); refine blk_far ?_ NB343_372.out _; (with_reducible repeat (first | refine blk_drewN ?_ _ | refine blk_drew ?_ | refine blk_alloc ?_ _)); refine blk_far ?_ NB343_372.out _; (with_reducible repeat (first | refine blk_drewN ?_ _ | refine blk_drew ?_ | refine blk_alloc ?_ _)); exact BK343.out⟩, ⟨by (with_reducible repeat (first | refine blk_drewN ?_ _ | refine blk_drew ?_ | refine blk_alloc ?_ _)); refine blk_far ?_ NB344_372.out _; (with_reducible repeat (first | refine blk_drewN ?_ _ | refine blk_drew ?_ | refine blk_alloc ?_ _)); refine blk_far ?_ NB344_372.out _; (with_reducible repeat (first | refine blk_drewN ?_ _ | refine blk_drew ?_ | refine blk_alloc ?_ _)); refine blk_far ?_ NB344_372.out _; (with_reducible repeat (first | refine blk_drewN ?_ _ | refine blk_drew ?_ | refine blk_alloc ?_ _)); refine blk_far ?_ NB344_372.out _; (with_reducible repeat (first | refine blk_drewN ?_ _ | refine blk_drew ?_ | refine blk_alloc ?_ _)); refine blk_far ?_ NB344_372.out _; (with_reducible repeat (first | refine blk_drewN ?_ _ | refine blk_drew ?_ | refine blk_alloc ?_ _)); refine blk_far ?_ NB344_372.out _; (with_reducible repeat (first | refine blk_drewN ?_ _ | refine blk_drew ?_ | refine blk_alloc ?_ _)); refine blk_far ?_ NB344_372.out _; (with_reducible repeat (first | refine blk_drewN ?_ _ | refine blk_drew ?_ | refine blk_alloc ?_ _)); exact BK344.out⟩, ⟨by (with_reducible repeat (first | refine blk_drewN ?_ _ | refine blk_drew ?_ | refine blk_alloc ?_ _)); refine blk_far ?_ NB356_372.out _; (with_reducible repeat (first | refine blk_drewN ?_ _ | refine blk_drew ?_ | refine blk_alloc ?_ _)); refine blk_far ?_ NB356_372.out _; (with_reducible repeat (first | refine blk_drewN ?_ _ | refine blk_drew ?_ | refine blk_alloc ?_ _)); refine blk_far ?_ NB356_372.out _; (with_reducible repeat (first | refine blk_drewN ?_ _ | refine blk_drew ?_ | refine blk_alloc ?_ _)); refine blk_far ?_ NB356_372.out _; (with_reducible repeat (first | refine blk_drewN ?_ _ | refine blk_drew ?_ | refine blk_alloc ?_ _)); refine blk_far ?_ NB356_372.out _; (with_reducible repeat (first | refine blk_drewN ?_ _ | refine blk_drew ?_ | refine blk_alloc ?_ _)); refine blk_far ?_ NB356_372.out _; (with_reducible repeat (first | refine blk_drewN ?_ _ | refine blk_drew ?_ | refine blk_alloc ?_ _)); refine blk_far ?_ NB356_372.out _; (with_reducible repeat (first | refine blk_drewN ?_ _ | refine blk_drew ?_ | refine blk_alloc ?_ _)); exact BK356.out⟩, ⟨by (with_reducible repeat (first | refine blk_drewN ?_ _ | refine blk_drew ?_ | refine blk_alloc ?_ _)); refine blk_put (cs := #[.string t364, .string t365, .bool t366, .int .i64 t367, .int .i64 t368, .int .i64 t369, .string (⟨#[]⟩ : ByteArray)]) ?_ 6 _ rfl; (with_reducible repeat (first | refine blk_drewN ?_ _ | refine blk_drew ?_ | refine blk_alloc ?_ _)); refine blk_put (cs := #[.string t364, .string t365, .bool t366, .int .i64 t367, .int .i64 t368, .int .i64 0, .string (⟨#[]⟩ : ByteArray)]) ?_ 5 _ rfl; (with_reducible repeat (first | refine blk_drewN ?_ _ | refine blk_drew ?_ | refine blk_alloc ?_ _)); refine blk_put (cs := #[.string t364, .string t365, .bool t366, .int .i64 t367, .int .i64 0, .int .i64 0, .string (⟨#[]⟩ : ByteArray)]) ?_ 4 _ rfl; (with_reducible repeat (first | refine blk_drewN ?_ _ | refine blk_drew ?_ | refine blk_alloc ?_ _)); refine blk_put (cs := #[.string t364, .string t365, .bool t366, .int .i64 0, .int .i64 0, .int .i64 0, .string (⟨#[]⟩ : ByteArray)]) ?_ 3 _ rfl; (with_reducible repeat (first | refine blk_drewN ?_ _ | refine blk_drew ?_ | refine blk_alloc ?_ _)); refine blk_put (cs := #[.string t364, .string t365, .bool false, .int .i64 0, .int .i64 0, .int .i64 0, .string (⟨#[]⟩ : ByteArray)]) ?_ 2 _ rfl; (with_reducible repeat (first | refine blk_drewN ?_ _ | refine blk_drew ?_ | refine blk_alloc ?_ _)); refine blk_put (cs := #[.string t364, .string (⟨#[]⟩ : ByteArray), .bool false, .int .i64 0, .int .i64 0, .int .i64 0, .string (⟨#[]⟩ : ByteArray)]) ?_ 1 _ rfl; (with_reducible repeat (first | refine blk_drewN ?_ _ | refine blk_drew ?_ | refine blk_alloc ?_ _)); refine blk_put (cs := #[.string (⟨#[]⟩ : ByteArray), .string (⟨#[]⟩ : ByteArray), .bool false, .int .i64 0, .int .i64 0, .int .i64 0, .string (⟨#[]⟩ : ByteArray)]) ?_ 0 _ rfl; (with_reducible repeat (first | refine blk_drewN ?_ _ | refine blk_drew ?_ | refine blk_alloc ?_ _)); exact BK372.out⟩, ⟨by repeat (first | (with_reducible first | exact HB.out | apply below_alloc | apply pw_below_drewN | apply below_drew1 | refine below_set ?_ GE343.out | refine below_set ?_ GE344.out | refine below_set ?_ GE356.out | refine below_set ?_ GE372.out) | exact HB.out)⟩⟩
                  · rw [if_neg c62] at H
                    have c62b0 : (!(t364.toList == a0_0.toList) || (!(t365.toList == a0_1.toList) || (!(t366 == a0_2) || (!(t367 == a0_3) || (!(t368 == a0_4) || (!(t369 == a0_5) || (!(t370.toList == a0_6.toList)))))))) = false := by simpa using c62
                    clear c62
                    (first | rw [c62b0] | (simp only [i64_w, i32_w]; rw [c62b0]) | skip)
                    by_cases c70 : t371 = 0
                    · rw [if_pos c70] at H
                      have c70b0 : (t371 == 0) = true := beq_iff_eq.mpr c70
                      have c70b1 : (t371 != 0) = false := bne_eq_false_iff_eq.mpr c70
                      clear c70
                      by_cases c71 : t362 = 0
                      · rw [if_pos c71] at H
                        have c71b0 : (t362 == 0) = true := beq_iff_eq.mpr c71
                        have c71b1 : (t362 != 0) = false := bne_eq_false_iff_eq.mpr c71
                        clear c71
                        have H' := Aside0.mk H
                        clear H
                        have hnb72 := NB372_343.out
                        have hnc72 := NB343_372.out
                        have hnb73 := NB372_344.out
                        have hnc73 := NB344_372.out
                        have hnb74 := NB372_356.out
                        have hnc74 := NB356_372.out
                        have hcz75_0 : w57.cell? ⟨gb372, 0, none⟩ = some (.string (⟨#[]⟩ : ByteArray)) := (blk_cell BK372.out 0).trans rfl
                        have hcz75_1 : w57.cell? ⟨gb372, 1, none⟩ = some (.string (⟨#[]⟩ : ByteArray)) := (blk_cell BK372.out 1).trans rfl
                        have hcz75_2 : w57.cell? ⟨gb372, 2, none⟩ = some (.bool false) := (blk_cell BK372.out 2).trans rfl
                        have hcz75_3 : w57.cell? ⟨gb372, 3, none⟩ = some (.int .i64 0) := (blk_cell BK372.out 3).trans rfl
                        have hcz75_4 : w57.cell? ⟨gb372, 4, none⟩ = some (.int .i64 0) := (blk_cell BK372.out 4).trans rfl
                        have hcz75_5 : w57.cell? ⟨gb372, 5, none⟩ = some (.int .i64 0) := (blk_cell BK372.out 5).trans rfl
                        have hcz75_6 : w57.cell? ⟨gb372, 6, none⟩ = some (.string (⟨#[]⟩ : ByteArray)) := (blk_cell BK372.out 6).trans rfl
                        have hfz75_0 := blk_frozen BK372.out 0
                        have hfz75_1 := blk_frozen BK372.out 1
                        have hfz75_2 := blk_frozen BK372.out 2
                        have hfz75_3 := blk_frozen BK372.out 3
                        have hfz75_4 := blk_frozen BK372.out 4
                        have hfz75_5 := blk_frozen BK372.out 5
                        have hfz75_6 := blk_frozen BK372.out 6
                        have hnb76 := NB343_344.out
                        have hnc76 := NB344_343.out
                        have hnb77 := NB343_356.out
                        have hnc77 := NB356_343.out
                        have hcz78_0 : w57.cell? ⟨gb343, 0, none⟩ = some (.string a0_0) := (blk_cell BK343.out 0).trans rfl
                        have hcz78_1 : w57.cell? ⟨gb343, 1, none⟩ = some (.string a0_1) := (blk_cell BK343.out 1).trans rfl
                        have hcz78_2 : w57.cell? ⟨gb343, 2, none⟩ = some (.bool a0_2) := (blk_cell BK343.out 2).trans rfl
                        have hcz78_3 : w57.cell? ⟨gb343, 3, none⟩ = some (.int .i64 a0_3) := (blk_cell BK343.out 3).trans rfl
                        have hcz78_4 : w57.cell? ⟨gb343, 4, none⟩ = some (.int .i64 a0_4) := (blk_cell BK343.out 4).trans rfl
                        have hcz78_5 : w57.cell? ⟨gb343, 5, none⟩ = some (.int .i64 a0_5) := (blk_cell BK343.out 5).trans rfl
                        have hcz78_6 : w57.cell? ⟨gb343, 6, none⟩ = some (.string a0_6) := (blk_cell BK343.out 6).trans rfl
                        have hfz78_0 := blk_frozen BK343.out 0
                        have hfz78_1 := blk_frozen BK343.out 1
                        have hfz78_2 := blk_frozen BK343.out 2
                        have hfz78_3 := blk_frozen BK343.out 3
                        have hfz78_4 := blk_frozen BK343.out 4
                        have hfz78_5 := blk_frozen BK343.out 5
                        have hfz78_6 := blk_frozen BK343.out 6
                        have hnb79 := NB344_356.out
                        have hnc79 := NB356_344.out
                        have hcz80_0 : w57.cell? ⟨gb344, 0, none⟩ = some (.string a1_0) := (blk_cell BK344.out 0).trans rfl
                        have hcz80_1 : w57.cell? ⟨gb344, 1, none⟩ = some (.string a1_1) := (blk_cell BK344.out 1).trans rfl
                        have hcz80_2 : w57.cell? ⟨gb344, 2, none⟩ = some (.bool a1_2) := (blk_cell BK344.out 2).trans rfl
                        have hcz80_3 : w57.cell? ⟨gb344, 3, none⟩ = some (.int .i64 a1_3) := (blk_cell BK344.out 3).trans rfl
                        have hcz80_4 : w57.cell? ⟨gb344, 4, none⟩ = some (.int .i64 a1_4) := (blk_cell BK344.out 4).trans rfl
                        have hcz80_5 : w57.cell? ⟨gb344, 5, none⟩ = some (.int .i64 a1_5) := (blk_cell BK344.out 5).trans rfl
                        have hcz80_6 : w57.cell? ⟨gb344, 6, none⟩ = some (.string a1_6) := (blk_cell BK344.out 6).trans rfl
                        have hfz80_0 := blk_frozen BK344.out 0
                        have hfz80_1 := blk_frozen BK344.out 1
                        have hfz80_2 := blk_frozen BK344.out 2
                        have hfz80_3 := blk_frozen BK344.out 3
                        have hfz80_4 := blk_frozen BK344.out 4
                        have hfz80_5 := blk_frozen BK344.out 5
                        have hfz80_6 := blk_frozen BK344.out 6
                        go_wp2
                        go_meet
                        case rel => exact ⟨_, (((t359.toList == t361.toList) != (a0_0.toList == a1_0.toList && (a0_1.toList == a1_1.toList && (a0_2 == a1_2 && (a0_3 == a1_3 && (a0_4 == a1_4 && (a0_5 == a1_5 && (a0_6.toList == a1_6.toList))))))))), (by first | rfl | (simp; done) | (simp [*]; done)), H', ⟨by have := HJ6.out; have := HJ29.out; first | omega | exact Nat.le_refl _⟩, ⟨by (with_reducible repeat (first | refine blk_drewN ?_ _ | refine blk_drew ?_ | refine blk_alloc ?_ _)); refine blk_far ?_ NB343_372.out _; (with_reducible repeat (first | refine blk_drewN ?_ _ | refine blk_drew ?_ | refine blk_alloc ?_ _)); refine blk_far ?_ NB343_372.out _; (with_reducible repeat (first | refine blk_drewN ?_ _ | refine blk_drew ?_ | refine blk_alloc ?_ _)); refine blk_far ?_ NB343_372.out _; (with_reducible repeat (first | refine blk_drewN ?_ _ | refine blk_drew ?_ | refine blk_alloc ?_ _)); refine blk_far ?_ NB343_372.out _; (with_reducible repeat (first | refine blk_drewN ?_ _ | refine blk_drew ?_ | refine blk_alloc ?_ _)); refine blk_far ?_ NB343_372.out _; (with_reducible repeat (first | refine blk_drewN ?_ _ | refine blk_drew ?_ | refine blk_alloc ?_ _)); refine blk_far ?_ NB343_372.out _; (with_reducible repeat (first | refine blk_drewN ?_ _ | refine blk_drew ?_ | refine blk_alloc ?_ _)); refine blk_far ?_ NB343_372.out _; (with_reducible repeat (first | refine blk_drewN ?_ _ | refine blk_drew ?_ | refine blk_alloc ?_ _)); exact BK343.out⟩, ⟨by (with_reducible repeat (first | refine blk_drewN ?_ _ | refine blk_drew ?_ | refine blk_alloc ?_ _)); refine blk_far ?_ NB344_372.out _; (with_reducible repeat (first | refine blk_drewN ?_ _ | refine blk_drew ?_ | refine blk_alloc ?_ _)); refine blk_far ?_ NB344_372.out _; (with_reducible repeat (first | refine blk_drewN ?_ _ | refine blk_drew ?_ | refine blk_alloc ?_ _)); refine blk_far ?_ NB344_372.out _; (with_reducible repeat (first | refine blk_drewN ?_ _ | refine blk_drew ?_ | refine blk_alloc ?_ _)); refine blk_far ?_ NB344_372.out _; (with_reducible repeat (first | refine blk_drewN ?_ _ | refine blk_drew ?_ | refine blk_alloc ?_ _)); refine blk_far ?_ NB344_372.out _; (with_reducible repeat (first | refine blk_drewN ?_ _ | refine blk_drew ?_ | refine blk_alloc ?_ _)); refine blk_far ?_ NB344_372.out _; (with_reducible repeat (first | refine blk_drewN ?_ _ | refine blk_drew ?_ | refine blk_alloc ?_ _)); refine blk_far ?_ NB344_372.out _; (with_reducible repeat (first | refine blk_drewN ?_ _ | refine blk_drew ?_ | refine blk_alloc ?_ _)); exact BK344.out⟩, ⟨by (with_reducible repeat (first | refine blk_drewN ?_ _ | refine blk_drew ?_ | refine blk_alloc ?_ _)); refine blk_far ?_ NB356_372.out _; (with_reducible repeat (first | refine blk_drewN ?_ _ | refine blk_drew ?_ | refine blk_alloc ?_ _)); refine blk_far ?_ NB356_372.out _; (with_reducible repeat (first | refine blk_drewN ?_ _ | refine blk_drew ?_ | refine blk_alloc ?_ _)); refine blk_far ?_ NB356_372.out _; (with_reducible repeat (first | refine blk_drewN ?_ _ | refine blk_drew ?_ | refine blk_alloc ?_ _)); refine blk_far ?_ NB356_372.out _; (with_reducible repeat (first | refine blk_drewN ?_ _ | refine blk_drew ?_ | refine blk_alloc ?_ _)); refine blk_far ?_ NB356_372.out _; (with_reducible repeat (first | refine blk_drewN ?_ _ | refine blk_drew ?_ | refine blk_alloc ?_ _)); refine blk_far ?_ NB356_372.out _; (with_reducible repeat (first | refine blk_drewN ?_ _ | refine blk_drew ?_ | refine blk_alloc ?_ _)); refine blk_far ?_ NB356_372.out _; (with_reducible repeat (first | refine blk_drewN ?_ _ | refine blk_drew ?_ | refine blk_alloc ?_ _)); exact BK356.out⟩, ⟨by (with_reducible repeat (first | refine blk_drewN ?_ _ | refine blk_drew ?_ | refine blk_alloc ?_ _)); refine blk_put (cs := #[.string t364, .string t365, .bool t366, .int .i64 t367, .int .i64 t368, .int .i64 t369, .string (⟨#[]⟩ : ByteArray)]) ?_ 6 _ rfl; (with_reducible repeat (first | refine blk_drewN ?_ _ | refine blk_drew ?_ | refine blk_alloc ?_ _)); refine blk_put (cs := #[.string t364, .string t365, .bool t366, .int .i64 t367, .int .i64 t368, .int .i64 0, .string (⟨#[]⟩ : ByteArray)]) ?_ 5 _ rfl; (with_reducible repeat (first | refine blk_drewN ?_ _ | refine blk_drew ?_ | refine blk_alloc ?_ _)); refine blk_put (cs := #[.string t364, .string t365, .bool t366, .int .i64 t367, .int .i64 0, .int .i64 0, .string (⟨#[]⟩ : ByteArray)]) ?_ 4 _ rfl; (with_reducible repeat (first | refine blk_drewN ?_ _ | refine blk_drew ?_ | refine blk_alloc ?_ _)); refine blk_put (cs := #[.string t364, .string t365, .bool t366, .int .i64 0, .int .i64 0, .int .i64 0, .string (⟨#[]⟩ : ByteArray)]) ?_ 3 _ rfl; (with_reducible repeat (first | refine blk_drewN ?_ _ | refine blk_drew ?_ | refine blk_alloc ?_ _)); refine blk_put (cs := #[.string t364, .string t365, .bool false, .int .i64 0, .int .i64 0, .int .i64 0, .string (⟨#[]⟩ : ByteArray)]) ?_ 2 _ rfl; (with_reducible repeat (first | refine blk_drewN ?_ _ | refine blk_drew ?_ | refine blk_alloc ?_ _)); refine blk_put (cs := #[.string t364, .string (⟨#[]⟩ : ByteArray), .bool false, .int .i64 0, .int .i64 0, .int .i64 0, .string (⟨#[]⟩ : ByteArray)]) ?_ 1 _ rfl; (with_reducible repeat (first | refine blk_drewN ?_ _ | refine blk_drew ?_ | refine blk_alloc ?_ _)); refine blk_put (cs := #[.string (⟨#[]⟩ : ByteArray), .string (⟨#[]⟩ : ByteArray), .bool false, .int .i64 0, .int .i64 0, .int .i64 0, .string (⟨#[]⟩ : ByteArray)]) ?_ 0 _ rfl; (with_reducible repeat (first | refine blk_drewN ?_ _ | refine blk_drew ?_ | refine blk_alloc ?_ _)); exact BK372.out⟩, ⟨by repeat (first | (with_reducible first | exact HB.out | apply below_alloc | apply pw_below_drewN | apply below_drew1 | refine below_set ?_ GE343.out | refine below_set ?_ GE344.out | refine below_set ?_ GE356.out | refine below_set ?_ GE372.out) | exact HB.out)⟩⟩
                      · rw [if_neg c71] at H
                        have c71b0 : (t362 == 0) = false := beq_eq_false_iff_ne.mpr c71
                        have c71b1 : (t362 != 0) = true := bne_iff_ne.mpr c71
                        have H' := Aside0.mk H
                        clear H
                        have hnb81 := NB372_343.out
                        have hnc81 := NB343_372.out
                        have hnb82 := NB372_344.out
                        have hnc82 := NB344_372.out
                        have hnb83 := NB372_356.out
                        have hnc83 := NB356_372.out
                        have hcz84_0 : w57.cell? ⟨gb372, 0, none⟩ = some (.string (⟨#[]⟩ : ByteArray)) := (blk_cell BK372.out 0).trans rfl
                        have hcz84_1 : w57.cell? ⟨gb372, 1, none⟩ = some (.string (⟨#[]⟩ : ByteArray)) := (blk_cell BK372.out 1).trans rfl
                        have hcz84_2 : w57.cell? ⟨gb372, 2, none⟩ = some (.bool false) := (blk_cell BK372.out 2).trans rfl
                        have hcz84_3 : w57.cell? ⟨gb372, 3, none⟩ = some (.int .i64 0) := (blk_cell BK372.out 3).trans rfl
                        have hcz84_4 : w57.cell? ⟨gb372, 4, none⟩ = some (.int .i64 0) := (blk_cell BK372.out 4).trans rfl
                        have hcz84_5 : w57.cell? ⟨gb372, 5, none⟩ = some (.int .i64 0) := (blk_cell BK372.out 5).trans rfl
                        have hcz84_6 : w57.cell? ⟨gb372, 6, none⟩ = some (.string (⟨#[]⟩ : ByteArray)) := (blk_cell BK372.out 6).trans rfl
                        have hfz84_0 := blk_frozen BK372.out 0
                        have hfz84_1 := blk_frozen BK372.out 1
                        have hfz84_2 := blk_frozen BK372.out 2
                        have hfz84_3 := blk_frozen BK372.out 3
                        have hfz84_4 := blk_frozen BK372.out 4
                        have hfz84_5 := blk_frozen BK372.out 5
                        have hfz84_6 := blk_frozen BK372.out 6
                        have hnb85 := NB343_344.out
                        have hnc85 := NB344_343.out
                        have hnb86 := NB343_356.out
                        have hnc86 := NB356_343.out
                        have hcz87_0 : w57.cell? ⟨gb343, 0, none⟩ = some (.string a0_0) := (blk_cell BK343.out 0).trans rfl
                        have hcz87_1 : w57.cell? ⟨gb343, 1, none⟩ = some (.string a0_1) := (blk_cell BK343.out 1).trans rfl
                        have hcz87_2 : w57.cell? ⟨gb343, 2, none⟩ = some (.bool a0_2) := (blk_cell BK343.out 2).trans rfl
                        have hcz87_3 : w57.cell? ⟨gb343, 3, none⟩ = some (.int .i64 a0_3) := (blk_cell BK343.out 3).trans rfl
                        have hcz87_4 : w57.cell? ⟨gb343, 4, none⟩ = some (.int .i64 a0_4) := (blk_cell BK343.out 4).trans rfl
                        have hcz87_5 : w57.cell? ⟨gb343, 5, none⟩ = some (.int .i64 a0_5) := (blk_cell BK343.out 5).trans rfl
                        have hcz87_6 : w57.cell? ⟨gb343, 6, none⟩ = some (.string a0_6) := (blk_cell BK343.out 6).trans rfl
                        have hfz87_0 := blk_frozen BK343.out 0
                        have hfz87_1 := blk_frozen BK343.out 1
                        have hfz87_2 := blk_frozen BK343.out 2
                        have hfz87_3 := blk_frozen BK343.out 3
                        have hfz87_4 := blk_frozen BK343.out 4
                        have hfz87_5 := blk_frozen BK343.out 5
                        have hfz87_6 := blk_frozen BK343.out 6
                        go_wp2
                        go_meet
                        case rel => exact ⟨_, (false), (by first | rfl | (simp; done) | (simp [*]; done)), H', ⟨by have := HJ6.out; have := HJ29.out; first | omega | exact Nat.le_refl _⟩, ⟨by (with_reducible repeat (first | refine blk_drewN ?_ _ | refine blk_drew ?_ | refine blk_alloc ?_ _)); refine blk_far ?_ NB343_372.out _; (with_reducible repeat (first | refine blk_drewN ?_ _ | refine blk_drew ?_ | refine blk_alloc ?_ _)); refine blk_far ?_ NB343_372.out _; (with_reducible repeat (first | refine blk_drewN ?_ _ | refine blk_drew ?_ | refine blk_alloc ?_ _)); refine blk_far ?_ NB343_372.out _; (with_reducible repeat (first | refine blk_drewN ?_ _ | refine blk_drew ?_ | refine blk_alloc ?_ _)); refine blk_far ?_ NB343_372.out _; (with_reducible repeat (first | refine blk_drewN ?_ _ | refine blk_drew ?_ | refine blk_alloc ?_ _)); refine blk_far ?_ NB343_372.out _; (with_reducible repeat (first | refine blk_drewN ?_ _ | refine blk_drew ?_ | refine blk_alloc ?_ _)); refine blk_far ?_ NB343_372.out _; (with_reducible repeat (first | refine blk_drewN ?_ _ | refine blk_drew ?_ | refine blk_alloc ?_ _)); refine blk_far ?_ NB343_372.out _; (with_reducible repeat (first | refine blk_drewN ?_ _ | refine blk_drew ?_ | refine blk_alloc ?_ _)); exact BK343.out⟩, ⟨by (with_reducible repeat (first | refine blk_drewN ?_ _ | refine blk_drew ?_ | refine blk_alloc ?_ _)); refine blk_far ?_ NB344_372.out _; (with_reducible repeat (first | refine blk_drewN ?_ _ | refine blk_drew ?_ | refine blk_alloc ?_ _)); refine blk_far ?_ NB344_372.out _; (with_reducible repeat (first | refine blk_drewN ?_ _ | refine blk_drew ?_ | refine blk_alloc ?_ _)); refine blk_far ?_ NB344_372.out _; (with_reducible repeat (first | refine blk_drewN ?_ _ | refine blk_drew ?_ | refine blk_alloc ?_ _)); refine blk_far ?_ NB344_372.out _; (with_reducible repeat (first | refine blk_drewN ?_ _ | refine blk_drew ?_ | refine blk_alloc ?_ _)); refine blk_far ?_ NB344_372.out _; (with_reducible repeat (first | refine blk_drewN ?_ _ | refine blk_drew ?_ | refine blk_alloc ?_ _)); refine blk_far ?_ NB344_372.out _; (with_reducible repeat (first | refine blk_drewN ?_ _ | refine blk_drew ?_ | refine blk_alloc ?_ _)); refine blk_far ?_ NB344_372.out _; (with_reducible repeat (first | refine blk_drewN ?_ _ | refine blk_drew ?_ | refine blk_alloc ?_ _)); exact BK344.out⟩, ⟨by (with_reducible repeat (first | refine blk_drewN ?_ _ | refine blk_drew ?_ | refine blk_alloc ?_ _)); refine blk_far ?_ NB356_372.out _; (with_reducible repeat (first | refine blk_drewN ?_ _ | refine blk_drew ?_ | refine blk_alloc ?_ _)); refine blk_far ?_ NB356_372.out _; (with_reducible repeat (first | refine blk_drewN ?_ _ | refine blk_drew ?_ | refine blk_alloc ?_ _)); refine blk_far ?_ NB356_372.out _; (with_reducible repeat (first | refine blk_drewN ?_ _ | refine blk_drew ?_ | refine blk_alloc ?_ _)); refine blk_far ?_ NB356_372.out _; (with_reducible repeat (first | refine blk_drewN ?_ _ | refine blk_drew ?_ | refine blk_alloc ?_ _)); refine blk_far ?_ NB356_372.out _; (with_reducible repeat (first | refine blk_drewN ?_ _ | refine blk_drew ?_ | refine blk_alloc ?_ _)); refine blk_far ?_ NB356_372.out _; (with_reducible repeat (first | refine blk_drewN ?_ _ | refine blk_drew ?_ | refine blk_alloc ?_ _)); refine blk_far ?_ NB356_372.out _; (with_reducible repeat (first | refine blk_drewN ?_ _ | refine blk_drew ?_ | refine blk_alloc ?_ _)); exact BK356.out⟩, ⟨by (with_reducible repeat (first | refine blk_drewN ?_ _ | refine blk_drew ?_ | refine blk_alloc ?_ _)); refine blk_put (cs := #[.string t364, .string t365, .bool t366, .int .i64 t367, .int .i64 t368, .int .i64 t369, .string (⟨#[]⟩ : ByteArray)]) ?_ 6 _ rfl; (with_reducible repeat (first | refine blk_drewN ?_ _ | refine blk_drew ?_ | refine blk_alloc ?_ _)); refine blk_put (cs := #[.string t364, .string t365, .bool t366, .int .i64 t367, .int .i64 t368, .int .i64 0, .string (⟨#[]⟩ : ByteArray)]) ?_ 5 _ rfl; (with_reducible repeat (first | refine blk_drewN ?_ _ | refine blk_drew ?_ | refine blk_alloc ?_ _)); refine blk_put (cs := #[.string t364, .string t365, .bool t366, .int .i64 t367, .int .i64 0, .int .i64 0, .string (⟨#[]⟩ : ByteArray)]) ?_ 4 _ rfl; (with_reducible repeat (first | refine blk_drewN ?_ _ | refine blk_drew ?_ | refine blk_alloc ?_ _)); refine blk_put (cs := #[.string t364, .string t365, .bool t366, .int .i64 0, .int .i64 0, .int .i64 0, .string (⟨#[]⟩ : ByteArray)]) ?_ 3 _ rfl; (with_reducible repeat (first | refine blk_drewN ?_ _ | refine blk_drew ?_ | refine blk_alloc ?_ _)); refine blk_put (cs := #[.string t364, .string t365, .bool false, .int .i64 0, .int .i64 0, .int .i64 0, .string (⟨#[]⟩ : ByteArray)]) ?_ 2 _ rfl; (with_reducible repeat (first | refine blk_drewN ?_ _ | refine blk_drew ?_ | refine blk_alloc ?_ _)); refine blk_put (cs := #[.string t364, .string (⟨#[]⟩ : ByteArray), .bool false, .int .i64 0, .int .i64 0, .int .i64 0, .string (⟨#[]⟩ : ByteArray)]) ?_ 1 _ rfl; (with_reducible repeat (first | refine blk_drewN ?_ _ | refine blk_drew ?_ | refine blk_alloc ?_ _)); refine blk_put (cs := #[.string (⟨#[]⟩ : ByteArray), .string (⟨#[]⟩ : ByteArray), .bool false, .int .i64 0, .int .i64 0, .int .i64 0, .string (⟨#[]⟩ : ByteArray)]) ?_ 0 _ rfl; (with_reducible repeat (first | refine blk_drewN ?_ _ | refine blk_drew ?_ | refine blk_alloc ?_ _)); exact BK372.out⟩, ⟨by repeat (first | (with_reducible first | exact HB.out | apply below_alloc | apply pw_below_drewN | apply below_drew1 | refine below_set ?_ GE343.out | refine below_set ?_ GE344.out | refine below_set ?_ GE356.out | refine below_set ?_ GE372.out) | exact HB.out)⟩⟩
                    · rw [if_neg c70] at H
                      have c70b0 : (t371 == 0) = false := beq_eq_false_iff_ne.mpr c70
                      have c70b1 : (t371 != 0) = true := bne_iff_ne.mpr c70
                      have H' := Aside0.mk H
                      clear H
                      have hnb88 := NB372_343.out
                      have hnc88 := NB343_372.out
                      have hnb89 := NB372_344.out
                      have hnc89 := NB344_372.out
                      have hnb90 := NB372_356.out
                      have hnc90 := NB356_372.out
                      have hcz91_0 : w57.cell? ⟨gb372, 0, none⟩ = some (.string (⟨#[]⟩ : ByteArray)) := (blk_cell BK372.out 0).trans rfl
                      have hcz91_1 : w57.cell? ⟨gb372, 1, none⟩ = some (.string (⟨#[]⟩ : ByteArray)) := (blk_cell BK372.out 1).trans rfl
                      have hcz91_2 : w57.cell? ⟨gb372, 2, none⟩ = some (.bool false) := (blk_cell BK372.out 2).trans rfl
                      have hcz91_3 : w57.cell? ⟨gb372, 3, none⟩ = some (.int .i64 0) := (blk_cell BK372.out 3).trans rfl
                      have hcz91_4 : w57.cell? ⟨gb372, 4, none⟩ = some (.int .i64 0) := (blk_cell BK372.out 4).trans rfl
                      have hcz91_5 : w57.cell? ⟨gb372, 5, none⟩ = some (.int .i64 0) := (blk_cell BK372.out 5).trans rfl
                      have hcz91_6 : w57.cell? ⟨gb372, 6, none⟩ = some (.string (⟨#[]⟩ : ByteArray)) := (blk_cell BK372.out 6).trans rfl
                      have hfz91_0 := blk_frozen BK372.out 0
                      have hfz91_1 := blk_frozen BK372.out 1
                      have hfz91_2 := blk_frozen BK372.out 2
                      have hfz91_3 := blk_frozen BK372.out 3
                      have hfz91_4 := blk_frozen BK372.out 4
                      have hfz91_5 := blk_frozen BK372.out 5
                      have hfz91_6 := blk_frozen BK372.out 6
                      have hnb92 := NB343_344.out
                      have hnc92 := NB344_343.out
                      have hnb93 := NB343_356.out
                      have hnc93 := NB356_343.out
                      have hcz94_0 : w57.cell? ⟨gb343, 0, none⟩ = some (.string a0_0) := (blk_cell BK343.out 0).trans rfl
                      have hcz94_1 : w57.cell? ⟨gb343, 1, none⟩ = some (.string a0_1) := (blk_cell BK343.out 1).trans rfl
                      have hcz94_2 : w57.cell? ⟨gb343, 2, none⟩ = some (.bool a0_2) := (blk_cell BK343.out 2).trans rfl
                      have hcz94_3 : w57.cell? ⟨gb343, 3, none⟩ = some (.int .i64 a0_3) := (blk_cell BK343.out 3).trans rfl
                      have hcz94_4 : w57.cell? ⟨gb343, 4, none⟩ = some (.int .i64 a0_4) := (blk_cell BK343.out 4).trans rfl
                      have hcz94_5 : w57.cell? ⟨gb343, 5, none⟩ = some (.int .i64 a0_5) := (blk_cell BK343.out 5).trans rfl
                      have hcz94_6 : w57.cell? ⟨gb343, 6, none⟩ = some (.string a0_6) := (blk_cell BK343.out 6).trans rfl
                      have hfz94_0 := blk_frozen BK343.out 0
                      have hfz94_1 := blk_frozen BK343.out 1
                      have hfz94_2 := blk_frozen BK343.out 2
                      have hfz94_3 := blk_frozen BK343.out 3
                      have hfz94_4 := blk_frozen BK343.out 4
                      have hfz94_5 := blk_frozen BK343.out 5
                      have hfz94_6 := blk_frozen BK343.out 6
                      go_wp2
                      go_meet
                      case rel => exact ⟨_, (true), (by first | rfl | (simp; done) | (simp [*]; done)), H', ⟨by have := HJ6.out; have := HJ29.out; first | omega | exact Nat.le_refl _⟩, ⟨by (with_reducible repeat (first | refine blk_drewN ?_ _ | refine blk_drew ?_ | refine blk_alloc ?_ _)); refine blk_far ?_ NB343_372.out _; (with_reducible repeat (first | refine blk_drewN ?_ _ | refine blk_drew ?_ | refine blk_alloc ?_ _)); refine blk_far ?_ NB343_372.out _; (with_reducible repeat (first | refine blk_drewN ?_ _ | refine blk_drew ?_ | refine blk_alloc ?_ _)); refine blk_far ?_ NB343_372.out _; (with_reducible repeat (first | refine blk_drewN ?_ _ | refine blk_drew ?_ | refine blk_alloc ?_ _)); refine blk_far ?_ NB343_372.out _; (with_reducible repeat (first | refine blk_drewN ?_ _ | refine blk_drew ?_ | refine blk_alloc ?_ _)); refine blk_far ?_ NB343_372.out _; (with_reducible repeat (first | refine blk_drewN ?_ _ | refine blk_drew ?_ | refine blk_alloc ?_ _)); refine blk_far ?_ NB343_372.out _; (with_reducible repeat (first | refine blk_drewN ?_ _ | refine blk_drew ?_ | refine blk_alloc ?_ _)); refine blk_far ?_ NB343_372.out _; (with_reducible repeat (first | refine blk_drewN ?_ _ | refine blk_drew ?_ | refine blk_alloc ?_ _)); exact BK343.out⟩, ⟨by (with_reducible repeat (first | refine blk_drewN ?_ _ | refine blk_drew ?_ | refine blk_alloc ?_ _)); refine blk_far ?_ NB344_372.out _; (with_reducible repeat (first | refine blk_drewN ?_ _ | refine blk_drew ?_ | refine blk_alloc ?_ _)); refine blk_far ?_ NB344_372.out _; (with_reducible repeat (first | refine blk_drewN ?_ _ | refine blk_drew ?_ | refine blk_alloc ?_ _)); refine blk_far ?_ NB344_372.out _; (with_reducible repeat (first | refine blk_drewN ?_ _ | refine blk_drew ?_ | refine blk_alloc ?_ _)); refine blk_far ?_ NB344_372.out _; (with_reducible repeat (first | refine blk_drewN ?_ _ | refine blk_drew ?_ | refine blk_alloc ?_ _)); refine blk_far ?_ NB344_372.out _; (with_reducible repeat (first | refine blk_drewN ?_ _ | refine blk_drew ?_ | refine blk_alloc ?_ _)); refine blk_far ?_ NB344_372.out _; (with_reducible repeat (first | refine blk_drewN ?_ _ | refine blk_drew ?_ | refine blk_alloc ?_ _)); refine blk_far ?_ NB344_372.out _; (with_reducible repeat (first | refine blk_drewN ?_ _ | refine blk_drew ?_ | refine blk_alloc ?_ _)); exact BK344.out⟩, ⟨by (with_reducible repeat (first | refine blk_drewN ?_ _ | refine blk_drew ?_ | refine blk_alloc ?_ _)); refine blk_far ?_ NB356_372.out _; (with_reducible repeat (first | refine blk_drewN ?_ _ | refine blk_drew ?_ | refine blk_alloc ?_ _)); refine blk_far ?_ NB356_372.out _; (with_reducible repeat (first | refine blk_drewN ?_ _ | refine blk_drew ?_ | refine blk_alloc ?_ _)); refine blk_far ?_ NB356_372.out _; (with_reducible repeat (first | refine blk_drewN ?_ _ | refine blk_drew ?_ | refine blk_alloc ?_ _)); refine blk_far ?_ NB356_372.out _; (with_reducible repeat (first | refine blk_drewN ?_ _ | refine blk_drew ?_ | refine blk_alloc ?_ _)); refine blk_far ?_ NB356_372.out _; (with_reducible repeat (first | refine blk_drewN ?_ _ | refine blk_drew ?_ | refine blk_alloc ?_ _)); refine blk_far ?_ NB356_372.out _; (with_reducible repeat (first | refine blk_drewN ?_ _ | refine blk_drew ?_ | refine blk_alloc ?_ _)); refine blk_far ?_ NB356_372.out _; (with_reducible repeat (first | refine blk_drewN ?_ _ | refine blk_drew ?_ | refine blk_alloc ?_ _)); exact BK356.out⟩, ⟨by (with_reducible repeat (first | refine blk_drewN ?_ _ | refine blk_drew ?_ | refine blk_alloc ?_ _)); refine blk_put (cs := #[.string t364, .string t365, .bool t366, .int .i64 t367, .int .i64 t368, .int .i64 t369, .string (⟨#[]⟩ : ByteArray)]) ?_ 6 _ rfl; (with_reducible repeat (first | refine blk_drewN ?_ _ | refine blk_drew ?_ | refine blk_alloc ?_ _)); refine blk_put (cs := #[.string t364, .string t365, .bool t366, .int .i64 t367, .int .i64 t368, .int .i64 0, .string (⟨#[]⟩ : ByteArray)]) ?_ 5 _ rfl; (with_reducible repeat (first | refine blk_drewN ?_ _ | refine blk_drew ?_ | refine blk_alloc ?_ _)); refine blk_put (cs := #[.string t364, .string t365, .bool t366, .int .i64 t367, .int .i64 0, .int .i64 0, .string (⟨#[]⟩ : ByteArray)]) ?_ 4 _ rfl; (with_reducible repeat (first | refine blk_drewN ?_ _ | refine blk_drew ?_ | refine blk_alloc ?_ _)); refine blk_put (cs := #[.string t364, .string t365, .bool t366, .int .i64 0, .int .i64 0, .int .i64 0, .string (⟨#[]⟩ : ByteArray)]) ?_ 3 _ rfl; (with_reducible repeat (first | refine blk_drewN ?_ _ | refine blk_drew ?_ | refine blk_alloc ?_ _)); refine blk_put (cs := #[.string t364, .string t365, .bool false, .int .i64 0, .int .i64 0, .int .i64 0, .string (⟨#[]⟩ : ByteArray)]) ?_ 2 _ rfl; (with_reducible repeat (first | refine blk_drewN ?_ _ | refine blk_drew ?_ | refine blk_alloc ?_ _)); refine blk_put (cs := #[.string t364, .string (⟨#[]⟩ : ByteArray), .bool false, .int .i64 0, .int .i64 0, .int .i64 0, .string (⟨#[]⟩ : ByteArray)]) ?_ 1 _ rfl; (with_reducible repeat (first | refine blk_drewN ?_ _ | refine blk_drew ?_ | refine blk_alloc ?_ _)); refine blk_put (cs := #[.string (⟨#[]⟩ : ByteArray), .string (⟨#[]⟩ : ByteArray), .bool false, .int .i64 0, .int .i64 0, .int .i64 0, .string (⟨#[]⟩ : ByteArray)]) ?_ 0 _ rfl; (with_reducible repeat (first | refine blk_drewN ?_ _ | refine blk_drew ?_ | refine blk_alloc ?_ _)); exact BK372.out⟩, ⟨by repeat (first | (with_reducible first | exact HB.out | apply below_alloc | apply pw_below_drewN | apply below_drew1 | refine below_set ?_ GE343.out | refine below_set ?_ GE344.out | refine below_set ?_ GE356.out | refine below_set ?_ GE372.out) | exact HB.out)⟩⟩
                case rest =>
                  clear HC48
                  try clear c1
                  try clear c2
                  try clear p2
                  try clear c3
                  try clear c4
                  try clear c5
                  try clear c6
                  try clear c7
                  try clear c8
                  try clear c9
                  try clear c12
                  try clear c14
                  try clear c15
                  try clear c16
                  try clear c20
                  try clear c25
                  try clear c28
                  try clear c31
                  try clear c33
                  try clear c34
                  try clear c36
                  try clear c36b0
                  try clear c36b1
                  try clear c38
                  try clear c38b0
                  try clear c38b1
                  try clear c39
                  try clear c39b0
                  try clear c39b1
                  try clear c40
                  try clear c41
                  try clear c46
                  try clear c46b0
                  try clear c46b1
                  try clear c49
                  try clear c50
                  try clear c53
                  try clear c58
                  try clear c59
                  try clear c60
                  try clear c62
                  try clear c62b0
                  try clear c63
                  try clear c64
                  try clear c65
                  try clear c67
                  try clear c68
                  try clear c70
                  try clear c70b0
                  try clear c70b1
                  try clear c71
                  try clear c71b0
                  try clear c71b1
                  try clear c72
                  try clear c73
                  try clear c74
                  try clear c76
                  try clear c77
                  try clear c79
                  try clear c81
                  try clear c82
                  try clear c83
                  try clear c85
                  try clear c86
                  try clear c88
                  try clear c89
                  try clear c90
                  try clear c92
                  try clear c93
                  try clear hcz16_0
                  try clear hcz16_1
                  try clear hcz16_2
                  try clear hcz16_3
                  try clear hcz16_4
                  try clear hcz16_5
                  try clear hcz16_6
                  try clear hcz18_0
                  try clear hcz18_1
                  try clear hcz18_2
                  try clear hcz18_3
                  try clear hcz18_4
                  try clear hcz18_5
                  try clear hcz18_6
                  try clear hcz21_0
                  try clear hcz21_1
                  try clear hcz21_2
                  try clear hcz21_3
                  try clear hcz21_4
                  try clear hcz21_5
                  try clear hcz21_6
                  try clear hcz23_0
                  try clear hcz23_1
                  try clear hcz23_2
                  try clear hcz23_3
                  try clear hcz23_4
                  try clear hcz23_5
                  try clear hcz23_6
                  try clear hcz26_0
                  try clear hcz26_1
                  try clear hcz26_2
                  try clear hcz26_3
                  try clear hcz26_4
                  try clear hcz26_5
                  try clear hcz26_6
                  try clear hcz35_0
                  try clear hcz35_1
                  try clear hcz35_2
                  try clear hcz35_3
                  try clear hcz35_4
                  try clear hcz35_5
                  try clear hcz35_6
                  try clear hcz42_0
                  try clear hcz42_1
                  try clear hcz42_2
                  try clear hcz42_3
                  try clear hcz42_4
                  try clear hcz42_5
                  try clear hcz42_6
                  try clear hcz51_0
                  try clear hcz51_1
                  try clear hcz51_2
                  try clear hcz51_3
                  try clear hcz51_4
                  try clear hcz51_5
                  try clear hcz51_6
                  try clear hcz54_0
                  try clear hcz54_1
                  try clear hcz54_2
                  try clear hcz54_3
                  try clear hcz54_4
                  try clear hcz54_5
                  try clear hcz54_6
                  try clear hcz61_0
                  try clear hcz61_1
                  try clear hcz61_2
                  try clear hcz61_3
                  try clear hcz61_4
                  try clear hcz61_5
                  try clear hcz61_6
                  try clear hcz66_0
                  try clear hcz66_1
                  try clear hcz66_2
                  try clear hcz66_3
                  try clear hcz66_4
                  try clear hcz66_5
                  try clear hcz66_6
                  try clear hcz69_0
                  try clear hcz69_1
                  try clear hcz69_2
                  try clear hcz69_3
                  try clear hcz69_4
                  try clear hcz69_5
                  try clear hcz69_6
                  try clear hcz75_0
                  try clear hcz75_1
                  try clear hcz75_2
                  try clear hcz75_3
                  try clear hcz75_4
                  try clear hcz75_5
                  try clear hcz75_6
                  try clear hcz78_0
                  try clear hcz78_1
                  try clear hcz78_2
                  try clear hcz78_3
                  try clear hcz78_4
                  try clear hcz78_5
                  try clear hcz78_6
                  try clear hcz80_0
                  try clear hcz80_1
                  try clear hcz80_2
                  try clear hcz80_3
                  try clear hcz80_4
                  try clear hcz80_5
                  try clear hcz80_6
                  try clear hcz84_0
                  try clear hcz84_1
                  try clear hcz84_2
                  try clear hcz84_3
                  try clear hcz84_4
                  try clear hcz84_5
                  try clear hcz84_6
                  try clear hcz87_0
                  try clear hcz87_1
                  try clear hcz87_2
                  try clear hcz87_3
                  try clear hcz87_4
                  try clear hcz87_5
                  try clear hcz87_6
                  try clear hcz91_0
                  try clear hcz91_1
                  try clear hcz91_2
                  try clear hcz91_3
                  try clear hcz91_4
                  try clear hcz91_5
                  try clear hcz91_6
                  try clear hcz94_0
                  try clear hcz94_1
                  try clear hcz94_2
                  try clear hcz94_3
                  try clear hcz94_4
                  try clear hcz94_5
                  try clear hcz94_6
                  try clear hfz16_0
                  try clear hfz16_1
                  try clear hfz16_2
                  try clear hfz16_3
                  try clear hfz16_4
                  try clear hfz16_5
                  try clear hfz16_6
                  try clear hfz18_0
                  try clear hfz18_1
                  try clear hfz18_2
                  try clear hfz18_3
                  try clear hfz18_4
                  try clear hfz18_5
                  try clear hfz18_6
                  try clear hfz21_0
                  try clear hfz21_1
                  try clear hfz21_2
                  try clear hfz21_3
                  try clear hfz21_4
                  try clear hfz21_5
                  try clear hfz21_6
                  try clear hfz23_0
                  try clear hfz23_1
                  try clear hfz23_2
                  try clear hfz23_3
                  try clear hfz23_4
                  try clear hfz23_5
                  try clear hfz23_6
                  try clear hfz26_0
                  try clear hfz26_1
                  try clear hfz26_2
                  try clear hfz26_3
                  try clear hfz26_4
                  try clear hfz26_5
                  try clear hfz26_6
                  try clear hfz35_0
                  try clear hfz35_1
                  try clear hfz35_2
                  try clear hfz35_3
                  try clear hfz35_4
                  try clear hfz35_5
                  try clear hfz35_6
                  try clear hfz42_0
                  try clear hfz42_1
                  try clear hfz42_2
                  try clear hfz42_3
                  try clear hfz42_4
                  try clear hfz42_5
                  try clear hfz42_6
                  try clear hfz51_0
                  try clear hfz51_1
                  try clear hfz51_2
                  try clear hfz51_3
                  try clear hfz51_4
                  try clear hfz51_5
                  try clear hfz51_6
                  try clear hfz54_0
                  try clear hfz54_1
                  try clear hfz54_2
                  try clear hfz54_3
                  try clear hfz54_4
                  try clear hfz54_5
                  try clear hfz54_6
                  try clear hfz61_0
                  try clear hfz61_1
                  try clear hfz61_2
                  try clear hfz61_3
                  try clear hfz61_4
                  try clear hfz61_5
                  try clear hfz61_6
                  try clear hfz66_0
                  try clear hfz66_1
                  try clear hfz66_2
                  try clear hfz66_3
                  try clear hfz66_4
                  try clear hfz66_5
                  try clear hfz66_6
                  try clear hfz69_0
                  try clear hfz69_1
                  try clear hfz69_2
                  try clear hfz69_3
                  try clear hfz69_4
                  try clear hfz69_5
                  try clear hfz69_6
                  try clear hfz75_0
                  try clear hfz75_1
                  try clear hfz75_2
                  try clear hfz75_3
                  try clear hfz75_4
                  try clear hfz75_5
                  try clear hfz75_6
                  try clear hfz78_0
                  try clear hfz78_1
                  try clear hfz78_2
                  try clear hfz78_3
                  try clear hfz78_4
                  try clear hfz78_5
                  try clear hfz78_6
                  try clear hfz80_0
                  try clear hfz80_1
                  try clear hfz80_2
                  try clear hfz80_3
                  try clear hfz80_4
                  try clear hfz80_5
                  try clear hfz80_6
                  try clear hfz84_0
                  try clear hfz84_1
                  try clear hfz84_2
                  try clear hfz84_3
                  try clear hfz84_4
                  try clear hfz84_5
                  try clear hfz84_6
                  try clear hfz87_0
                  try clear hfz87_1
                  try clear hfz87_2
                  try clear hfz87_3
                  try clear hfz87_4
                  try clear hfz87_5
                  try clear hfz87_6
                  try clear hfz91_0
                  try clear hfz91_1
                  try clear hfz91_2
                  try clear hfz91_3
                  try clear hfz91_4
                  try clear hfz91_5
                  try clear hfz91_6
                  try clear hfz94_0
                  try clear hfz94_1
                  try clear hfz94_2
                  try clear hfz94_3
                  try clear hfz94_4
                  try clear hfz94_5
                  try clear hfz94_6
                  try clear p2
                  obtain ⟨kq, x102_47, rfl, HA, HJ47, BK343, BK344, BK356, BK372, HB⟩ := hcut
                  cases kq with
                  | zero => exact absurd HA.out (by simp [treebridgelaw01_FrameBack.j2])
                  | succ kj47 =>
                    have H := HA.out
                    clear HA
                    simp only [treebridgelaw01_FrameBack.j2] at H
                    by_cases c95 : x102_47 = true
                    · subst c95
                      have H1 : (none) = some r := by rw [if_pos rfl] at H; exact H
                      clear H
                      have H := H1
                      clear H1
                      exact absurd H (by simp)
                    · replace c95 := Bool.eq_false_iff.mpr c95
                      subst c95
                      have H1 : ((frame_With.f kj47 a0_0 a0_1 a0_2 a0_3 a0_4 a0_5 a0_6 a2).bind fun bt373 => (if bt373.2.2.2.2.2.2.2 = 0 then (treebridgelaw01_FrameBack.j3 kj47 t359 a0_2 a0_0 a0_1 a0_2 a0_3 a0_4 a0_5 a0_6 bt373.1 bt373.2.1 bt373.2.2.1 bt373.2.2.2.1 bt373.2.2.2.2.1 bt373.2.2.2.2.2.1 bt373.2.2.2.2.2.2.1) else (treebridgelaw01_FrameBack.j3 kj47 t359 true a0_0 a0_1 a0_2 a0_3 a0_4 a0_5 a0_6 bt373.1 bt373.2.1 bt373.2.2.1 bt373.2.2.2.1 bt373.2.2.2.2.1 bt373.2.2.2.2.2.1 bt373.2.2.2.2.2.2.1))) = some r := by rw [if_neg (show ¬ (false = true) by decide)] at H; exact H
                      clear H
                      have H := H1
                      clear H1
                      replace H := Option.bind_eq_some_iff.mp H
                      obtain ⟨⟨t373, t374, t375, t376, t377, t378, t379, t380⟩, A960, H⟩ := H
                      replace H : (if t380 = 0 then (treebridgelaw01_FrameBack.j3 kj47 t359 a0_2 a0_0 a0_1 a0_2 a0_3 a0_4 a0_5 a0_6 t373 t374 t375 t376 t377 t378 t379) else (treebridgelaw01_FrameBack.j3 kj47 t359 true a0_0 a0_1 a0_2 a0_3 a0_4 a0_5 a0_6 t373 t374 t375 t376 t377 t378 t379)) = some r := H
                      have A96 := Aside0.mk A960
                      clear A960
                      have HC97 := Aside0.mk H
                      clear H
                      have hnb98 := NB343_344.out
                      have hnc98 := NB344_343.out
                      have hnb99 := NB343_356.out
                      have hnc99 := NB356_343.out
                      have hnb100 := NB343_372.out
                      have hnc100 := NB372_343.out
                      have hcz101_0 : wc.cell? ⟨gb343, 0, none⟩ = some (.string a0_0) := (blk_cell BK343.out 0).trans rfl
                      have hcz101_1 : wc.cell? ⟨gb343, 1, none⟩ = some (.string a0_1) := (blk_cell BK343.out 1).trans rfl
                      have hcz101_2 : wc.cell? ⟨gb343, 2, none⟩ = some (.bool a0_2) := (blk_cell BK343.out 2).trans rfl
                      have hcz101_3 : wc.cell? ⟨gb343, 3, none⟩ = some (.int .i64 a0_3) := (blk_cell BK343.out 3).trans rfl
                      have hcz101_4 : wc.cell? ⟨gb343, 4, none⟩ = some (.int .i64 a0_4) := (blk_cell BK343.out 4).trans rfl
                      have hcz101_5 : wc.cell? ⟨gb343, 5, none⟩ = some (.int .i64 a0_5) := (blk_cell BK343.out 5).trans rfl
                      have hcz101_6 : wc.cell? ⟨gb343, 6, none⟩ = some (.string a0_6) := (blk_cell BK343.out 6).trans rfl
                      have hfz101_0 := blk_frozen BK343.out 0
                      have hfz101_1 := blk_frozen BK343.out 1
                      have hfz101_2 := blk_frozen BK343.out 2
                      have hfz101_3 := blk_frozen BK343.out 3
                      have hfz101_4 := blk_frozen BK343.out 4
                      have hfz101_5 := blk_frozen BK343.out 5
                      have hfz101_6 := blk_frozen BK343.out 6
                      go_upto_region 18 with (first | ((with_reducible refine gate_callee (f := 27) rfl ?_); refine goesL_ (some 106) rfl rfl Try.func27 (by kernel_rfl) rfl #[.agg #[.string a0_0, .string a0_1, .bool a0_2, .int .i64 a0_3, .int .i64 a0_4, .int .i64 a0_5, .string a0_6], .int .i64 a2] rfl (by (try simp only [List.map_toArray, List.map_cons, List.map_nil]); first | done | rfl | (simp only [List.length_drop, List.length_take]; rfl)) ?_; (with_reducible refine (frame_With.calls kj47 a0_0 a0_1 a0_2 a0_3 a0_4 a0_5 a0_6 a2 t373 t374 t375 t376 t377 t378 t379 t380 _ A96.out).mono ?_); rintro e w102 ⟨rfl, hb⟩; refine ⟨_, rfl, ?_⟩; have n0_ := Aside0.mk (blk_below (g := gb343) (o := .cells #[.string a0_0, .string a0_1, .bool a0_2, .int .i64 a0_3, .int .i64 a0_4, .int .i64 a0_5, .string a0_6] 23 (0, 0)) (by (with_reducible repeat (first | refine blk_drewN ?_ _ | refine blk_drew ?_ | refine blk_alloc ?_ _)); exact BK343.out) hb); have n1_ := Aside0.mk (blk_below (g := gb344) (o := .cells #[.string a1_0, .string a1_1, .bool a1_2, .int .i64 a1_3, .int .i64 a1_4, .int .i64 a1_5, .string a1_6] 23 (0, 0)) (by (with_reducible repeat (first | refine blk_drewN ?_ _ | refine blk_drew ?_ | refine blk_alloc ?_ _)); exact BK344.out) hb); have n2_ := Aside0.mk (blk_below (g := gb356) (o := .cells #[.string t348, .string t349, .bool t350, .int .i64 t351, .int .i64 t352, .int .i64 t353, .string t354] 23 (0, 0)) (by (with_reducible repeat (first | refine blk_drewN ?_ _ | refine blk_drew ?_ | refine blk_alloc ?_ _)); exact BK356.out) hb); have n3_ := Aside0.mk (blk_below (g := gb372) (o := .cells #[.string t364, .string t365, .bool t366, .int .i64 t367, .int .i64 t368, .int .i64 t369, .string t370] 23 (0, 0)) (by (with_reducible repeat (first | refine blk_drewN ?_ _ | refine blk_drew ?_ | refine blk_alloc ?_ _)); exact BK372.out) hb); have n4_ := Aside0.mk (below_step (by repeat (first | (with_reducible first | exact HB.out | apply below_alloc | apply pw_below_drewN | apply below_drew1 | refine below_set ?_ GE343.out | refine below_set ?_ GE344.out | refine below_set ?_ GE356.out | refine below_set ?_ GE372.out) | exact HB.out)) hb); clear BK343; clear BK344; clear BK356; clear BK372; clear HB; have BK343 := n0_; have BK344 := n1_; have BK356 := n2_; have BK372 := n3_; have HB := n4_; clear n0_ n1_ n2_ n3_ n4_; (try clear hb); (try clear hb2); (try clear hk); (try clear hi)) | ((with_reducible refine gate_dst (N := 19) rfl ?_); (try (refine gate_guard (by rfl) ?_; dsimp only)); refine box_event ?hg (N := 19) ?hd (cs := #[.string (⟨#[]⟩ : ByteArray), .string (⟨#[]⟩ : ByteArray), .bool false, .int .i64 0, .int .i64 0, .int .i64 0, .string (⟨#[]⟩ : ByteArray)]) (t := 23) ?hr ?_; (case hd => rfl); (case hg => rfl); (case hr => first | (go_simp; done) | (go_simp; rfl)); intro gb381 hg w103 hbox hb; have n0_ := Aside0.mk (blk_below (g := gb343) (o := .cells #[.string a0_0, .string a0_1, .bool a0_2, .int .i64 a0_3, .int .i64 a0_4, .int .i64 a0_5, .string a0_6] 23 (0, 0)) (by (with_reducible repeat (first | refine blk_drewN ?_ _ | refine blk_drew ?_ | refine blk_alloc ?_ _)); exact BK343.out) hb); have n1_ := Aside0.mk (blk_below (g := gb344) (o := .cells #[.string a1_0, .string a1_1, .bool a1_2, .int .i64 a1_3, .int .i64 a1_4, .int .i64 a1_5, .string a1_6] 23 (0, 0)) (by (with_reducible repeat (first | refine blk_drewN ?_ _ | refine blk_drew ?_ | refine blk_alloc ?_ _)); exact BK344.out) hb); have n2_ := Aside0.mk (blk_below (g := gb356) (o := .cells #[.string t348, .string t349, .bool t350, .int .i64 t351, .int .i64 t352, .int .i64 t353, .string t354] 23 (0, 0)) (by (with_reducible repeat (first | refine blk_drewN ?_ _ | refine blk_drew ?_ | refine blk_alloc ?_ _)); exact BK356.out) hb); have n3_ := Aside0.mk (blk_below (g := gb372) (o := .cells #[.string t364, .string t365, .bool t366, .int .i64 t367, .int .i64 t368, .int .i64 t369, .string t370] 23 (0, 0)) (by (with_reducible repeat (first | refine blk_drewN ?_ _ | refine blk_drew ?_ | refine blk_alloc ?_ _)); exact BK372.out) hb); have n4_ := Aside0.mk (below_step (by repeat (first | (with_reducible first | exact HB.out | apply below_alloc | apply pw_below_drewN | apply below_drew1 | refine below_set ?_ GE343.out | refine below_set ?_ GE344.out | refine below_set ?_ GE356.out | refine below_set ?_ GE372.out) | exact HB.out)) hb); have n5_ := Aside0.mk (hbox); have n6_ := Aside0.mk ((by rw [hg]; exact (below_size (by repeat (first | (with_reducible first | exact HB.out | apply below_alloc | apply pw_below_drewN | apply below_drew1 | refine below_set ?_ GE343.out | refine below_set ?_ GE344.out | refine below_set ?_ GE356.out | refine below_set ?_ GE372.out) | exact HB.out))) : w.heap.size ≤ gb381)); have n7_ := Aside0.mk ((by rw [hg]; exact (below_size (by repeat (first | (with_reducible first | exact HB.out | apply below_alloc | apply pw_below_drewN | apply below_drew1 | refine below_set ?_ GE343.out | refine below_set ?_ GE344.out | refine below_set ?_ GE356.out | refine below_set ?_ GE372.out) | exact HB.out))) : w.heap.size ≤ gb381)); have n8_ := Aside0.mk ((by rw [hg]; exact Nat.ne_of_lt (blk_lt (g := gb343) (o := .cells #[.string a0_0, .string a0_1, .bool a0_2, .int .i64 a0_3, .int .i64 a0_4, .int .i64 a0_5, .string a0_6] 23 (0, 0)) (by (with_reducible repeat (first | refine blk_drewN ?_ _ | refine blk_drew ?_ | refine blk_alloc ?_ _)); exact BK343.out)) : gb343 ≠ gb381)); have n9_ := Aside0.mk ((by rw [hg]; exact Nat.ne_of_gt (blk_lt (g := gb343) (o := .cells #[.string a0_0, .string a0_1, .bool a0_2, .int .i64 a0_3, .int .i64 a0_4, .int .i64 a0_5, .string a0_6] 23 (0, 0)) (by (with_reducible repeat (first | refine blk_drewN ?_ _ | refine blk_drew ?_ | refine blk_alloc ?_ _)); exact BK343.out)) : gb381 ≠ gb343)); have n10_ := Aside0.mk ((by rw [hg]; exact Nat.ne_of_lt (blk_lt (g := gb344) (o := .cells #[.string a1_0, .string a1_1, .bool a1_2, .int .i64 a1_3, .int .i64 a1_4, .int .i64 a1_5, .string a1_6] 23 (0, 0)) (by (with_reducible repeat (first | refine blk_drewN ?_ _ | refine blk_drew ?_ | refine blk_alloc ?_ _)); exact BK344.out)) : gb344 ≠ gb381)); have n11_ := Aside0.mk ((by rw [hg]; exact Nat.ne_of_gt (blk_lt (g := gb344) (o := .cells #[.string a1_0, .string a1_1, .bool a1_2, .int .i64 a1_3, .int .i64 a1_4, .int .i64 a1_5, .string a1_6] 23 (0, 0)) (by (with_reducible repeat (first | refine blk_drewN ?_ _ | refine blk_drew ?_ | refine blk_alloc ?_ _)); exact BK344.out)) : gb381 ≠ gb344)); have n12_ := Aside0.mk ((by rw [hg]; exact Nat.ne_of_lt (blk_lt (g := gb356) (o := .cells #[.string t348, .string t349, .bool t350, .int .i64 t351, .int .i64 t352, .int .i64 t353, .string t354] 23 (0, 0)) (by (with_reducible repeat (first | refine blk_drewN ?_ _ | refine blk_drew ?_ | refine blk_alloc ?_ _)); exact BK356.out)) : gb356 ≠ gb381)); have n13_ := Aside0.mk ((by rw [hg]; exact Nat.ne_of_gt (blk_lt (g := gb356) (o := .cells #[.string t348, .string t349, .bool t350, .int .i64 t351, .int .i64 t352, .int .i64 t353, .string t354] 23 (0, 0)) (by (with_reducible repeat (first | refine blk_drewN ?_ _ | refine blk_drew ?_ | refine blk_alloc ?_ _)); exact BK356.out)) : gb381 ≠ gb356)); have n14_ := Aside0.mk ((by rw [hg]; exact Nat.ne_of_lt (blk_lt (g := gb372) (o := .cells #[.string t364, .string t365, .bool t366, .int .i64 t367, .int .i64 t368, .int .i64 t369, .string t370] 23 (0, 0)) (by (with_reducible repeat (first | refine blk_drewN ?_ _ | refine blk_drew ?_ | refine blk_alloc ?_ _)); exact BK372.out)) : gb372 ≠ gb381)); have n15_ := Aside0.mk ((by rw [hg]; exact Nat.ne_of_gt (blk_lt (g := gb372) (o := .cells #[.string t364, .string t365, .bool t366, .int .i64 t367, .int .i64 t368, .int .i64 t369, .string t370] 23 (0, 0)) (by (with_reducible repeat (first | refine blk_drewN ?_ _ | refine blk_drew ?_ | refine blk_alloc ?_ _)); exact BK372.out)) : gb381 ≠ gb372)); clear BK343; clear BK344; clear BK356; clear BK372; clear HB; have BK343 := n0_; have BK344 := n1_; have BK356 := n2_; have BK372 := n3_; have HB := n4_; have BK381 := n5_; have GW381 := n6_; have GE381 := n7_; have NB343_381 := n8_; have NB381_343 := n9_; have NB344_381 := n10_; have NB381_344 := n11_; have NB356_381 := n12_; have NB381_356 := n13_; have NB372_381 := n14_; have NB381_372 := n15_; clear n0_ n1_ n2_ n3_ n4_ n5_ n6_ n7_ n8_ n9_ n10_ n11_ n12_ n13_ n14_ n15_; clear hb hbox hg; have hnb104 := NB381_343.out; have hnc104 := NB343_381.out; have hnb105 := NB381_344.out; have hnc105 := NB344_381.out; have hnb106 := NB381_356.out; have hnc106 := NB356_381.out; have hnb107 := NB381_372.out; have hnc107 := NB372_381.out; have hcz108_0 : w103.cell? ⟨gb381, 0, none⟩ = some (.string (⟨#[]⟩ : ByteArray)) := (blk_cell BK381.out 0).trans rfl; have hcz108_1 : w103.cell? ⟨gb381, 1, none⟩ = some (.string (⟨#[]⟩ : ByteArray)) := (blk_cell BK381.out 1).trans rfl; have hcz108_2 : w103.cell? ⟨gb381, 2, none⟩ = some (.bool false) := (blk_cell BK381.out 2).trans rfl; have hcz108_3 : w103.cell? ⟨gb381, 3, none⟩ = some (.int .i64 0) := (blk_cell BK381.out 3).trans rfl; have hcz108_4 : w103.cell? ⟨gb381, 4, none⟩ = some (.int .i64 0) := (blk_cell BK381.out 4).trans rfl; have hcz108_5 : w103.cell? ⟨gb381, 5, none⟩ = some (.int .i64 0) := (blk_cell BK381.out 5).trans rfl; have hcz108_6 : w103.cell? ⟨gb381, 6, none⟩ = some (.string (⟨#[]⟩ : ByteArray)) := (blk_cell BK381.out 6).trans rfl; have hfz108_0 := blk_frozen BK381.out 0; have hfz108_1 := blk_frozen BK381.out 1; have hfz108_2 := blk_frozen BK381.out 2; have hfz108_3 := blk_frozen BK381.out 3; have hfz108_4 := blk_frozen BK381.out 4; have hfz108_5 := blk_frozen BK381.out 5; have hfz108_6 := blk_frozen BK381.out 6))
                      (try simp only [Act.put, List.setIfInBounds_toArray, List.set_cons_zero, List.set_cons_succ])
                      go_cut [114] (fun v114 wc => ∃ (kq : Nat) (x114_96 : Bool), v114 = .bool x114_96 ∧ Aside0 (treebridgelaw01_FrameBack.j3 kq t359 x114_96 a0_0 a0_1 a0_2 a0_3 a0_4 a0_5 a0_6 t373 t374 t375 t376 t377 t378 t379 = some r) ∧ Aside0 (kq ≤ kj47) ∧ Aside0 (wc.heap[gb343]? = some (.cells #[.string a0_0, .string a0_1, .bool a0_2, .int .i64 a0_3, .int .i64 a0_4, .int .i64 a0_5, .string a0_6] 23 (0, 0))) ∧ Aside0 (wc.heap[gb344]? = some (.cells #[.string a1_0, .string a1_1, .bool a1_2, .int .i64 a1_3, .int .i64 a1_4, .int .i64 a1_5, .string a1_6] 23 (0, 0))) ∧ Aside0 (wc.heap[gb356]? = some (.cells #[.string t348, .string t349, .bool t350, .int .i64 t351, .int .i64 t352, .int .i64 t353, .string t354] 23 (0, 0))) ∧ Aside0 (wc.heap[gb372]? = some (.cells #[.string t364, .string t365, .bool t366, .int .i64 t367, .int .i64 t368, .int .i64 t369, .string t370] 23 (0, 0))) ∧ Aside0 (wc.heap[gb381]? = some (.cells #[.string t373, .string t374, .bool t375, .int .i64 t376, .int .i64 t377, .int .i64 t378, .string t379] 23 (0, 0))) ∧ Aside0 (Below w.heap.size w wc))
                      case first =>
                        have H := HC97.out
                        clear HC97
                        by_cases c109 : t380 = 0
                        · rw [if_pos c109] at H
                          have c109b0 : (t380 == 0) = true := beq_iff_eq.mpr c109
                          have c109b1 : (t380 != 0) = false := bne_eq_false_iff_eq.mpr c109
                          clear c109
                          (first | rw [c109b0] | (simp only [i64_w, i32_w]; rw [c109b0]) | skip)
                          have H' := Aside0.mk H
                          clear H
                          have hnb110 := NB343_344.out
                          have hnc110 := NB344_343.out
                          have hnb111 := NB343_356.out
                          have hnc111 := NB356_343.out
                          have hnb112 := NB343_372.out
                          have hnc112 := NB372_343.out
                          have hnb113 := NB343_381.out
                          have hnc113 := NB381_343.out
                          have hcz114_0 : w103.cell? ⟨gb343, 0, none⟩ = some (.string a0_0) := (blk_cell BK343.out 0).trans rfl
                          have hcz114_1 : w103.cell? ⟨gb343, 1, none⟩ = some (.string a0_1) := (blk_cell BK343.out 1).trans rfl
                          have hcz114_2 : w103.cell? ⟨gb343, 2, none⟩ = some (.bool a0_2) := (blk_cell BK343.out 2).trans rfl
                          have hcz114_3 : w103.cell? ⟨gb343, 3, none⟩ = some (.int .i64 a0_3) := (blk_cell BK343.out 3).trans rfl
                          have hcz114_4 : w103.cell? ⟨gb343, 4, none⟩ = some (.int .i64 a0_4) := (blk_cell BK343.out 4).trans rfl
                          have hcz114_5 : w103.cell? ⟨gb343, 5, none⟩ = some (.int .i64 a0_5) := (blk_cell BK343.out 5).trans rfl
                          have hcz114_6 : w103.cell? ⟨gb343, 6, none⟩ = some (.string a0_6) := (blk_cell BK343.out 6).trans rfl
                          have hfz114_0 := blk_frozen BK343.out 0
                          have hfz114_1 := blk_frozen BK343.out 1
                          have hfz114_2 := blk_frozen BK343.out 2
                          have hfz114_3 := blk_frozen BK343.out 3
                          have hfz114_4 := blk_frozen BK343.out 4
                          have hfz114_5 := blk_frozen BK343.out 5
                          have hfz114_6 := blk_frozen BK343.out 6
                          go_wp2
                          go_meet
                          case rel => exact ⟨_, (a0_2), (by first | rfl | (simp; done) | (simp [*]; done)), H', ⟨by have := HJ6.out; have := HJ29.out; have := HJ47.out; first | omega | exact Nat.le_refl _⟩, ⟨by (with_reducible repeat (first | refine blk_drewN ?_ _ | refine blk_drew ?_ | refine blk_alloc ?_ _)); refine blk_far ?_ NB343_381.out _; (with_reducible repeat (first | refine blk_drewN ?_ _ | refine blk_drew ?_ | refine blk_alloc ?_ _)); refine blk_far ?_ NB343_381.out _; (with_reducible repeat (first | refine blk_drewN ?_ _ | refine blk_drew ?_ | refine blk_alloc ?_ _)); refine blk_far ?_ NB343_381.out _; (with_reducible repeat (first | refine blk_drewN ?_ _ | refine blk_drew ?_ | refine blk_alloc ?_ _)); refine blk_far ?_ NB343_381.out _; (with_reducible repeat (first | refine blk_drewN ?_ _ | refine blk_drew ?_ | refine blk_alloc ?_ _)); refine blk_far ?_ NB343_381.out _; (with_reducible repeat (first | refine blk_drewN ?_ _ | refine blk_drew ?_ | refine blk_alloc ?_ _)); refine blk_far ?_ NB343_381.out _; (with_reducible repeat (first | refine blk_drewN ?_ _ | refine blk_drew ?_ | refine blk_alloc ?_ _)); refine blk_far ?_ NB343_381.out _; (with_reducible repeat (first | refine blk_drewN ?_ _ | refine blk_drew ?_ | refine blk_alloc ?_ _)); exact BK343.out⟩, ⟨by (with_reducible repeat (first | refine blk_drewN ?_ _ | refine blk_drew ?_ | refine blk_alloc ?_ _)); refine blk_far ?_ NB344_381.out _; (with_reducible repeat (first | refine blk_drewN ?_ _ | refine blk_drew ?_ | refine blk_alloc ?_ _)); refine blk_far ?_ NB344_381.out _; (with_reducible repeat (first | refine blk_drewN ?_ _ | refine blk_drew ?_ | refine blk_alloc ?_ _)); refine blk_far ?_ NB344_381.out _; (with_reducible repeat (first | refine blk_drewN ?_ _ | refine blk_drew ?_ | refine blk_alloc ?_ _)); refine blk_far ?_ NB344_381.out _; (with_reducible repeat (first | refine blk_drewN ?_ _ | refine blk_drew ?_ | refine blk_alloc ?_ _)); refine blk_far ?_ NB344_381.out _; (with_reducible repeat (first | refine blk_drewN ?_ _ | refine blk_drew ?_ | refine blk_alloc ?_ _)); refine blk_far ?_ NB344_381.out _; (with_reducible repeat (first | refine blk_drewN ?_ _ | refine blk_drew ?_ | refine blk_alloc ?_ _)); refine blk_far ?_ NB344_381.out _; (with_reducible repeat (first | refine blk_drewN ?_ _ | refine blk_drew ?_ | refine blk_alloc ?_ _)); exact BK344.out⟩, ⟨by (with_reducible repeat (first | refine blk_drewN ?_ _ | refine blk_drew ?_ | refine blk_alloc ?_ _)); refine blk_far ?_ NB356_381.out _; (with_reducible repeat (first | refine blk_drewN ?_ _ | refine blk_drew ?_ | refine blk_alloc ?_ _)); refine blk_far ?_ NB356_381.out _; (with_reducible repeat (first | refine blk_drewN ?_ _ | refine blk_drew ?_ | refine blk_alloc ?_ _)); refine blk_far ?_ NB356_381.out _; (with_reducible repeat (first | refine blk_drewN ?_ _ | refine blk_drew ?_ | refine blk_alloc ?_ _)); refine blk_far ?_ NB356_381.out _; (with_reducible repeat (first | refine blk_drewN ?_ _ | refine blk_drew ?_ | refine blk_alloc ?_ _)); refine blk_far ?_ NB356_381.out _; (with_reducible repeat (first | refine blk_drewN ?_ _ | refine blk_drew ?_ | refine blk_alloc ?_ _)); refine blk_far ?_ NB356_381.out _; (with_reducible repeat (first | refine blk_drewN ?_ _ | refine blk_drew ?_ | refine blk_alloc ?_ _)); refine blk_far ?_ NB356_381.out _; (with_reducible repeat (first | refine blk_drewN ?_ _ | refine blk_drew ?_ | refine blk_alloc ?_ _)); exact BK356.out⟩, ⟨by (with_reducible repeat (first | refine blk_drewN ?_ _ | refine blk_drew ?_ | refine blk_alloc ?_ _)); refine blk_far ?_ NB372_381.out _; (with_reducible repeat (first | refine blk_drewN ?_ _ | refine blk_drew ?_ | refine blk_alloc ?_ _)); refine blk_far ?_ NB372_381.out _; (with_reducible repeat (first | refine blk_drewN ?_ _ | refine blk_drew ?_ | refine blk_alloc ?_ _)); refine blk_far ?_ NB372_381.out _; (with_reducible repeat (first | refine blk_drewN ?_ _ | refine blk_drew ?_ | refine blk_alloc ?_ _)); refine blk_far ?_ NB372_381.out _; (with_reducible repeat (first | refine blk_drewN ?_ _ | refine blk_drew ?_ | refine blk_alloc ?_ _)); refine blk_far ?_ NB372_381.out _; (with_reducible repeat (first | refine blk_drewN ?_ _ | refine blk_drew ?_ | refine blk_alloc ?_ _)); refine blk_far ?_ NB372_381.out _; (with_reducible repeat (first | refine blk_drewN ?_ _ | refine blk_drew ?_ | refine blk_alloc ?_ _)); refine blk_far ?_ NB372_381.out _; (with_reducible repeat (first | refine blk_drewN ?_ _ | refine blk_drew ?_ | refine blk_alloc ?_ _)); exact BK372.out⟩, ⟨by (with_reducible repeat (first | refine blk_drewN ?_ _ | refine blk_drew ?_ | refine blk_alloc ?_ _)); refine blk_put (cs := #[.string t373, .string t374, .bool t375, .int .i64 t376, .int .i64 t377, .int .i64 t378, .string (⟨#[]⟩ : ByteArray)]) ?_ 6 _ rfl; (with_reducible repeat (first | refine blk_drewN ?_ _ | refine blk_drew ?_ | refine blk_alloc ?_ _)); refine blk_put (cs := #[.string t373, .string t374, .bool t375, .int .i64 t376, .int .i64 t377, .int .i64 0, .string (⟨#[]⟩ : ByteArray)]) ?_ 5 _ rfl; (with_reducible repeat (first | refine blk_drewN ?_ _ | refine blk_drew ?_ | refine blk_alloc ?_ _)); refine blk_put (cs := #[.string t373, .string t374, .bool t375, .int .i64 t376, .int .i64 0, .int .i64 0, .string (⟨#[]⟩ : ByteArray)]) ?_ 4 _ rfl; (with_reducible repeat (first | refine blk_drewN ?_ _ | refine blk_drew ?_ | refine blk_alloc ?_ _)); refine blk_put (cs := #[.string t373, .string t374, .bool t375, .int .i64 0, .int .i64 0, .int .i64 0, .string (⟨#[]⟩ : ByteArray)]) ?_ 3 _ rfl; (with_reducible repeat (first | refine blk_drewN ?_ _ | refine blk_drew ?_ | refine blk_alloc ?_ _)); refine blk_put (cs := #[.string t373, .string t374, .bool false, .int .i64 0, .int .i64 0, .int .i64 0, .string (⟨#[]⟩ : ByteArray)]) ?_ 2 _ rfl; (with_reducible repeat (first | refine blk_drewN ?_ _ | refine blk_drew ?_ | refine blk_alloc ?_ _)); refine blk_put (cs := #[.string t373, .string (⟨#[]⟩ : ByteArray), .bool false, .int .i64 0, .int .i64 0, .int .i64 0, .string (⟨#[]⟩ : ByteArray)]) ?_ 1 _ rfl; (with_reducible repeat (first | refine blk_drewN ?_ _ | refine blk_drew ?_ | refine blk_alloc ?_ _)); refine blk_put (cs := #[.string (⟨#[]⟩ : ByteArray), .string (⟨#[]⟩ : ByteArray), .bool false, .int .i64 0, .int .i64 0, .int .i64 0, .string (⟨#[]⟩ : ByteArray)]) ?_ 0 _ rfl; (with_reducible repeat (first | refine blk_drewN ?_ _ | refine blk_drew ?_ | refine blk_alloc ?_ _)); exact BK381.out⟩, ⟨by repeat (first | (with_reducible first | exact HB.out | apply below_alloc | apply pw_below_drewN | apply below_drew1 | refine below_set ?_ GE343.out | refine below_set ?_ GE344.out | refine below_set ?_ GE356.out | refine below_set ?_ GE372.out | refine below_set ?_ GE381.out) | exact HB.out)⟩⟩
                        · rw [if_neg c109] at H
                          have c109b0 : (t380 == 0) = false := beq_eq_false_iff_ne.mpr c109
                          have c109b1 : (t380 != 0) = true := bne_iff_ne.mpr c109
                          (first | rw [c109b0] | (simp only [i64_w, i32_w]; rw [c109b0]) | skip)
                          have H' := Aside0.mk H
                          clear H
                          go_wp2
                          go_meet
                          case rel => exact ⟨_, (true), (by first | rfl | (simp; done) | (simp [*]; done)), H', ⟨by have := HJ6.out; have := HJ29.out; have := HJ47.out; first | omega | exact Nat.le_refl _⟩, ⟨by (with_reducible repeat (first | refine blk_drewN ?_ _ | refine blk_drew ?_ | refine blk_alloc ?_ _)); refine blk_far ?_ NB343_381.out _; (with_reducible repeat (first | refine blk_drewN ?_ _ | refine blk_drew ?_ | refine blk_alloc ?_ _)); refine blk_far ?_ NB343_381.out _; (with_reducible repeat (first | refine blk_drewN ?_ _ | refine blk_drew ?_ | refine blk_alloc ?_ _)); refine blk_far ?_ NB343_381.out _; (with_reducible repeat (first | refine blk_drewN ?_ _ | refine blk_drew ?_ | refine blk_alloc ?_ _)); refine blk_far ?_ NB343_381.out _; (with_reducible repeat (first | refine blk_drewN ?_ _ | refine blk_drew ?_ | refine blk_alloc ?_ _)); refine blk_far ?_ NB343_381.out _; (with_reducible repeat (first | refine blk_drewN ?_ _ | refine blk_drew ?_ | refine blk_alloc ?_ _)); refine blk_far ?_ NB343_381.out _; (with_reducible repeat (first | refine blk_drewN ?_ _ | refine blk_drew ?_ | refine blk_alloc ?_ _)); refine blk_far ?_ NB343_381.out _; (with_reducible repeat (first | refine blk_drewN ?_ _ | refine blk_drew ?_ | refine blk_alloc ?_ _)); exact BK343.out⟩, ⟨by (with_reducible repeat (first | refine blk_drewN ?_ _ | refine blk_drew ?_ | refine blk_alloc ?_ _)); refine blk_far ?_ NB344_381.out _; (with_reducible repeat (first | refine blk_drewN ?_ _ | refine blk_drew ?_ | refine blk_alloc ?_ _)); refine blk_far ?_ NB344_381.out _; (with_reducible repeat (first | refine blk_drewN ?_ _ | refine blk_drew ?_ | refine blk_alloc ?_ _)); refine blk_far ?_ NB344_381.out _; (with_reducible repeat (first | refine blk_drewN ?_ _ | refine blk_drew ?_ | refine blk_alloc ?_ _)); refine blk_far ?_ NB344_381.out _; (with_reducible repeat (first | refine blk_drewN ?_ _ | refine blk_drew ?_ | refine blk_alloc ?_ _)); refine blk_far ?_ NB344_381.out _; (with_reducible repeat (first | refine blk_drewN ?_ _ | refine blk_drew ?_ | refine blk_alloc ?_ _)); refine blk_far ?_ NB344_381.out _; (with_reducible repeat (first | refine blk_drewN ?_ _ | refine blk_drew ?_ | refine blk_alloc ?_ _)); refine blk_far ?_ NB344_381.out _; (with_reducible repeat (first | refine blk_drewN ?_ _ | refine blk_drew ?_ | refine blk_alloc ?_ _)); exact BK344.out⟩, ⟨by (with_reducible repeat (first | refine blk_drewN ?_ _ | refine blk_drew ?_ | refine blk_alloc ?_ _)); refine blk_far ?_ NB356_381.out _; (with_reducible repeat (first | refine blk_drewN ?_ _ | refine blk_drew ?_ | refine blk_alloc ?_ _)); refine blk_far ?_ NB356_381.out _; (with_reducible repeat (first | refine blk_drewN ?_ _ | refine blk_drew ?_ | refine blk_alloc ?_ _)); refine blk_far ?_ NB356_381.out _; (with_reducible repeat (first | refine blk_drewN ?_ _ | refine blk_drew ?_ | refine blk_alloc ?_ _)); refine blk_far ?_ NB356_381.out _; (with_reducible repeat (first | refine blk_drewN ?_ _ | refine blk_drew ?_ | refine blk_alloc ?_ _)); refine blk_far ?_ NB356_381.out _; (with_reducible repeat (first | refine blk_drewN ?_ _ | refine blk_drew ?_ | refine blk_alloc ?_ _)); refine blk_far ?_ NB356_381.out _; (with_reducible repeat (first | refine blk_drewN ?_ _ | refine blk_drew ?_ | refine blk_alloc ?_ _)); refine blk_far ?_ NB356_381.out _; (with_reducible repeat (first | refine blk_drewN ?_ _ | refine blk_drew ?_ | refine blk_alloc ?_ _)); exact BK356.out⟩, ⟨by (with_reducible repeat (first | refine blk_drewN ?_ _ | refine blk_drew ?_ | refine blk_alloc ?_ _)); refine blk_far ?_ NB372_381.out _; (with_reducible repeat (first | refine blk_drewN ?_ _ | refine blk_drew ?_ | refine blk_alloc ?_ _)); refine blk_far ?_ NB372_381.out _; (with_reducible repeat (first | refine blk_drewN ?_ _ | refine blk_drew ?_ | refine blk_alloc ?_ _)); refine blk_far ?_ NB372_381.out _; (with_reducible repeat (first | refine blk_drewN ?_ _ | refine blk_drew ?_ | refine blk_alloc ?_ _)); refine blk_far ?_ NB372_381.out _; (with_reducible repeat (first | refine blk_drewN ?_ _ | refine blk_drew ?_ | refine blk_alloc ?_ _)); refine blk_far ?_ NB372_381.out _; (with_reducible repeat (first | refine blk_drewN ?_ _ | refine blk_drew ?_ | refine blk_alloc ?_ _)); refine blk_far ?_ NB372_381.out _; (with_reducible repeat (first | refine blk_drewN ?_ _ | refine blk_drew ?_ | refine blk_alloc ?_ _)); refine blk_far ?_ NB372_381.out _; (with_reducible repeat (first | refine blk_drewN ?_ _ | refine blk_drew ?_ | refine blk_alloc ?_ _)); exact BK372.out⟩, ⟨by (with_reducible repeat (first | refine blk_drewN ?_ _ | refine blk_drew ?_ | refine blk_alloc ?_ _)); refine blk_put (cs := #[.string t373, .string t374, .bool t375, .int .i64 t376, .int .i64 t377, .int .i64 t378, .string (⟨#[]⟩ : ByteArray)]) ?_ 6 _ rfl; (with_reducible repeat (first | refine blk_drewN ?_ _ | refine blk_drew ?_ | refine blk_alloc ?_ _)); refine blk_put (cs := #[.string t373, .string t374, .bool t375, .int .i64 t376, .int .i64 t377, .int .i64 0, .string (⟨#[]⟩ : ByteArray)]) ?_ 5 _ rfl; (with_reducible repeat (first | refine blk_drewN ?_ _ | refine blk_drew ?_ | refine blk_alloc ?_ _)); refine blk_put (cs := #[.string t373, .string t374, .bool t375, .int .i64 t376, .int .i64 0, .int .i64 0, .string (⟨#[]⟩ : ByteArray)]) ?_ 4 _ rfl; (with_reducible repeat (first | refine blk_drewN ?_ _ | refine blk_drew ?_ | refine blk_alloc ?_ _)); refine blk_put (cs := #[.string t373, .string t374, .bool t375, .int .i64 0, .int .i64 0, .int .i64 0, .string (⟨#[]⟩ : ByteArray)]) ?_ 3 _ rfl; (with_reducible repeat (first | refine blk_drewN ?_ _ | refine blk_drew ?_ | refine blk_alloc ?_ _)); refine blk_put (cs := #[.string t373, .string t374, .bool false, .int .i64 0, .int .i64 0, .int .i64 0, .string (⟨#[]⟩ : ByteArray)]) ?_ 2 _ rfl; (with_reducible repeat (first | refine blk_drewN ?_ _ | refine blk_drew ?_ | refine blk_alloc ?_ _)); refine blk_put (cs := #[.string t373, .string (⟨#[]⟩ : ByteArray), .bool false, .int .i64 0, .int .i64 0, .int .i64 0, .string (⟨#[]⟩ : ByteArray)]) ?_ 1 _ rfl; (with_reducible repeat (first | refine blk_drewN ?_ _ | refine blk_drew ?_ | refine blk_alloc ?_ _)); refine blk_put (cs := #[.string (⟨#[]⟩ : ByteArray), .string (⟨#[]⟩ : ByteArray), .bool false, .int .i64 0, .int .i64 0, .int .i64 0, .string (⟨#[]⟩ : ByteArray)]) ?_ 0 _ rfl; (with_reducible repeat (first | refine blk_drewN ?_ _ | refine blk_drew ?_ | refine blk_alloc ?_ _)); exact BK381.out⟩, ⟨by repeat (first | (with_reducible first | exact HB.out | apply below_alloc | apply pw_below_drewN | apply below_drew1 | refine below_set ?_ GE343.out | refine below_set ?_ GE344.out | refine below_set ?_ GE356.out | refine below_set ?_ GE372.out | refine below_set ?_ GE381.out) | exact HB.out)⟩⟩
                      case rest =>
                        clear HC97
                        try clear c1
                        try clear c2
                        try clear p2
                        try clear c3
                        try clear c4
                        try clear c5
                        try clear c6
                        try clear c7
                        try clear c8
                        try clear c9
                        try clear c10
                        try clear c11
                        try clear c12
                        try clear c14
                        try clear c15
                        try clear c16
                        try clear c20
                        try clear c25
                        try clear c27
                        try clear c28
                        try clear c31
                        try clear c33
                        try clear c34
                        try clear c36
                        try clear c36b0
                        try clear c36b1
                        try clear c38
                        try clear c38b0
                        try clear c38b1
                        try clear c39
                        try clear c39b0
                        try clear c39b1
                        try clear c40
                        try clear c41
                        try clear c46
                        try clear c46b0
                        try clear c46b1
                        try clear c49
                        try clear c50
                        try clear c53
                        try clear c58
                        try clear c59
                        try clear c60
                        try clear c62
                        try clear c62b0
                        try clear c63
                        try clear c64
                        try clear c65
                        try clear c67
                        try clear c68
                        try clear c70
                        try clear c70b0
                        try clear c70b1
                        try clear c71
                        try clear c71b0
                        try clear c71b1
                        try clear c72
                        try clear c73
                        try clear c74
                        try clear c76
                        try clear c77
                        try clear c79
                        try clear c81
                        try clear c82
                        try clear c83
                        try clear c85
                        try clear c86
                        try clear c88
                        try clear c89
                        try clear c90
                        try clear c92
                        try clear c93
                        try clear c95
                        try clear c98
                        try clear c99
                        try clear c100
                        try clear c104
                        try clear c105
                        try clear c106
                        try clear c107
                        try clear c109
                        try clear c109b0
                        try clear c109b1
                        try clear c110
                        try clear c111
                        try clear c112
                        try clear c113
                        try clear hcz101_0
                        try clear hcz101_1
                        try clear hcz101_2
                        try clear hcz101_3
                        try clear hcz101_4
                        try clear hcz101_5
                        try clear hcz101_6
                        try clear hcz108_0
                        try clear hcz108_1
                        try clear hcz108_2
                        try clear hcz108_3
                        try clear hcz108_4
                        try clear hcz108_5
                        try clear hcz108_6
                        try clear hcz114_0
                        try clear hcz114_1
                        try clear hcz114_2
                        try clear hcz114_3
                        try clear hcz114_4
                        try clear hcz114_5
                        try clear hcz114_6
                        try clear hcz16_0
                        try clear hcz16_1
                        try clear hcz16_2
                        try clear hcz16_3
                        try clear hcz16_4
                        try clear hcz16_5
                        try clear hcz16_6
                        try clear hcz18_0
                        try clear hcz18_1
                        try clear hcz18_2
                        try clear hcz18_3
                        try clear hcz18_4
                        try clear hcz18_5
                        try clear hcz18_6
                        try clear hcz21_0
                        try clear hcz21_1
                        try clear hcz21_2
                        try clear hcz21_3
                        try clear hcz21_4
                        try clear hcz21_5
                        try clear hcz21_6
                        try clear hcz23_0
                        try clear hcz23_1
                        try clear hcz23_2
                        try clear hcz23_3
                        try clear hcz23_4
                        try clear hcz23_5
                        try clear hcz23_6
                        try clear hcz26_0
                        try clear hcz26_1
                        try clear hcz26_2
                        try clear hcz26_3
                        try clear hcz26_4
                        try clear hcz26_5
                        try clear hcz26_6
                        try clear hcz35_0
                        try clear hcz35_1
                        try clear hcz35_2
                        try clear hcz35_3
                        try clear hcz35_4
                        try clear hcz35_5
                        try clear hcz35_6
                        try clear hcz42_0
                        try clear hcz42_1
                        try clear hcz42_2
                        try clear hcz42_3
                        try clear hcz42_4
                        try clear hcz42_5
                        try clear hcz42_6
                        try clear hcz51_0
                        try clear hcz51_1
                        try clear hcz51_2
                        try clear hcz51_3
                        try clear hcz51_4
                        try clear hcz51_5
                        try clear hcz51_6
                        try clear hcz54_0
                        try clear hcz54_1
                        try clear hcz54_2
                        try clear hcz54_3
                        try clear hcz54_4
                        try clear hcz54_5
                        try clear hcz54_6
                        try clear hcz61_0
                        try clear hcz61_1
                        try clear hcz61_2
                        try clear hcz61_3
                        try clear hcz61_4
                        try clear hcz61_5
                        try clear hcz61_6
                        try clear hcz66_0
                        try clear hcz66_1
                        try clear hcz66_2
                        try clear hcz66_3
                        try clear hcz66_4
                        try clear hcz66_5
                        try clear hcz66_6
                        try clear hcz69_0
                        try clear hcz69_1
                        try clear hcz69_2
                        try clear hcz69_3
                        try clear hcz69_4
                        try clear hcz69_5
                        try clear hcz69_6
                        try clear hcz75_0
                        try clear hcz75_1
                        try clear hcz75_2
                        try clear hcz75_3
                        try clear hcz75_4
                        try clear hcz75_5
                        try clear hcz75_6
                        try clear hcz78_0
                        try clear hcz78_1
                        try clear hcz78_2
                        try clear hcz78_3
                        try clear hcz78_4
                        try clear hcz78_5
                        try clear hcz78_6
                        try clear hcz80_0
                        try clear hcz80_1
                        try clear hcz80_2
                        try clear hcz80_3
                        try clear hcz80_4
                        try clear hcz80_5
                        try clear hcz80_6
                        try clear hcz84_0
                        try clear hcz84_1
                        try clear hcz84_2
                        try clear hcz84_3
                        try clear hcz84_4
                        try clear hcz84_5
                        try clear hcz84_6
                        try clear hcz87_0
                        try clear hcz87_1
                        try clear hcz87_2
                        try clear hcz87_3
                        try clear hcz87_4
                        try clear hcz87_5
                        try clear hcz87_6
                        try clear hcz91_0
                        try clear hcz91_1
                        try clear hcz91_2
                        try clear hcz91_3
                        try clear hcz91_4
                        try clear hcz91_5
                        try clear hcz91_6
                        try clear hcz94_0
                        try clear hcz94_1
                        try clear hcz94_2
                        try clear hcz94_3
                        try clear hcz94_4
                        try clear hcz94_5
                        try clear hcz94_6
                        try clear hfz101_0
                        try clear hfz101_1
                        try clear hfz101_2
                        try clear hfz101_3
                        try clear hfz101_4
                        try clear hfz101_5
                        try clear hfz101_6
                        try clear hfz108_0
                        try clear hfz108_1
                        try clear hfz108_2
                        try clear hfz108_3
                        try clear hfz108_4
                        try clear hfz108_5
                        try clear hfz108_6
                        try clear hfz114_0
                        try clear hfz114_1
                        try clear hfz114_2
                        try clear hfz114_3
                        try clear hfz114_4
                        try clear hfz114_5
                        try clear hfz114_6
                        try clear hfz16_0
                        try clear hfz16_1
                        try clear hfz16_2
                        try clear hfz16_3
                        try clear hfz16_4
                        try clear hfz16_5
                        try clear hfz16_6
                        try clear hfz18_0
                        try clear hfz18_1
                        try clear hfz18_2
                        try clear hfz18_3
                        try clear hfz18_4
                        try clear hfz18_5
                        try clear hfz18_6
                        try clear hfz21_0
                        try clear hfz21_1
                        try clear hfz21_2
                        try clear hfz21_3
                        try clear hfz21_4
                        try clear hfz21_5
                        try clear hfz21_6
                        try clear hfz23_0
                        try clear hfz23_1
                        try clear hfz23_2
                        try clear hfz23_3
                        try clear hfz23_4
                        try clear hfz23_5
                        try clear hfz23_6
                        try clear hfz26_0
                        try clear hfz26_1
                        try clear hfz26_2
                        try clear hfz26_3
                        try clear hfz26_4
                        try clear hfz26_5
                        try clear hfz26_6
                        try clear hfz35_0
                        try clear hfz35_1
                        try clear hfz35_2
                        try clear hfz35_3
                        try clear hfz35_4
                        try clear hfz35_5
                        try clear hfz35_6
                        try clear hfz42_0
                        try clear hfz42_1
                        try clear hfz42_2
                        try clear hfz42_3
                        try clear hfz42_4
                        try clear hfz42_5
                        try clear hfz42_6
                        try clear hfz51_0
                        try clear hfz51_1
                        try clear hfz51_2
                        try clear hfz51_3
                        try clear hfz51_4
                        try clear hfz51_5
                        try clear hfz51_6
                        try clear hfz54_0
                        try clear hfz54_1
                        try clear hfz54_2
                        try clear hfz54_3
                        try clear hfz54_4
                        try clear hfz54_5
                        try clear hfz54_6
                        try clear hfz61_0
                        try clear hfz61_1
                        try clear hfz61_2
                        try clear hfz61_3
                        try clear hfz61_4
                        try clear hfz61_5
                        try clear hfz61_6
                        try clear hfz66_0
                        try clear hfz66_1
                        try clear hfz66_2
                        try clear hfz66_3
                        try clear hfz66_4
                        try clear hfz66_5
                        try clear hfz66_6
                        try clear hfz69_0
                        try clear hfz69_1
                        try clear hfz69_2
                        try clear hfz69_3
                        try clear hfz69_4
                        try clear hfz69_5
                        try clear hfz69_6
                        try clear hfz75_0
                        try clear hfz75_1
                        try clear hfz75_2
                        try clear hfz75_3
                        try clear hfz75_4
                        try clear hfz75_5
                        try clear hfz75_6
                        try clear hfz78_0
                        try clear hfz78_1
                        try clear hfz78_2
                        try clear hfz78_3
                        try clear hfz78_4
                        try clear hfz78_5
                        try clear hfz78_6
                        try clear hfz80_0
                        try clear hfz80_1
                        try clear hfz80_2
                        try clear hfz80_3
                        try clear hfz80_4
                        try clear hfz80_5
                        try clear hfz80_6
                        try clear hfz84_0
                        try clear hfz84_1
                        try clear hfz84_2
                        try clear hfz84_3
                        try clear hfz84_4
                        try clear hfz84_5
                        try clear hfz84_6
                        try clear hfz87_0
                        try clear hfz87_1
                        try clear hfz87_2
                        try clear hfz87_3
                        try clear hfz87_4
                        try clear hfz87_5
                        try clear hfz87_6
                        try clear hfz91_0
                        try clear hfz91_1
                        try clear hfz91_2
                        try clear hfz91_3
                        try clear hfz91_4
                        try clear hfz91_5
                        try clear hfz91_6
                        try clear hfz94_0
                        try clear hfz94_1
                        try clear hfz94_2
                        try clear hfz94_3
                        try clear hfz94_4
                        try clear hfz94_5
                        try clear hfz94_6
                        try clear p2
                        obtain ⟨kq, x114_96, rfl, HA, HJ96, BK343, BK344, BK356, BK372, BK381, HB⟩ := hcut
                        cases kq with
                        | zero => exact absurd HA.out (by simp [treebridgelaw01_FrameBack.j3])
                        | succ kj96 =>
                          have H := HA.out
                          clear HA
                          simp only [treebridgelaw01_FrameBack.j3] at H
                          by_cases c115 : x114_96 = true
                          · subst c115
                            have H1 : (some true) = some r := by rw [if_pos rfl] at H; exact H
                            clear H
                            have H := H1
                            clear H1
                            obtain rfl := Option.some.inj H
                            go_wp2
                            go_ret
                            exact ⟨by first | rfl | (simp [errW_none, errW_some] <;> rfl) | (simp [*, errW_none, errW_some] <;> rfl), by repeat (first | (with_reducible first | exact HB.out | apply below_alloc | apply pw_below_drewN | apply below_drew1 | refine below_set ?_ GE343.out | refine below_set ?_ GE344.out | refine below_set ?_ GE356.out | refine below_set ?_ GE372.out | refine below_set ?_ GE381.out) | exact HB.out)⟩
                          · replace c115 := Bool.eq_false_iff.mpr c115
                            subst c115
                            have H1 : ((frame_Print.f kj96 t373 t374 t375 t376 t377 t378 t379).bind fun bt382 => ((frame_Without.f kj96 t373 t374 t375 t376 t377 t378 t379).bind fun bt384 => (if bt382.2 = 0 then (if (bt382.1.size : Int) = (wrap64 ((t359.size : Int) + 4)) then (if (bt384.1.toList == a0_0.toList && (bt384.2.1.toList == a0_1.toList && (bt384.2.2.1 == a0_2 && (bt384.2.2.2.1 == a0_3 && (bt384.2.2.2.2.1 == a0_4 && (bt384.2.2.2.2.2.1 == a0_5 && (bt384.2.2.2.2.2.2.1.toList == a0_6.toList))))))) = true then (some (bt384.2.2.2.2.2.2.2 == 0)) else (none)) else (none)) else (none)))) = some r := by rw [if_neg (show ¬ (false = true) by decide)] at H; exact H
                            clear H
                            have H := H1
                            clear H1
                            replace H := Option.bind_eq_some_iff.mp H
                            obtain ⟨⟨t382, t383⟩, A1160, H⟩ := H
                            replace H : ((frame_Without.f kj96 t373 t374 t375 t376 t377 t378 t379).bind fun bt384 => (if t383 = 0 then (if (t382.size : Int) = (wrap64 ((t359.size : Int) + 4)) then (if (bt384.1.toList == a0_0.toList && (bt384.2.1.toList == a0_1.toList && (bt384.2.2.1 == a0_2 && (bt384.2.2.2.1 == a0_3 && (bt384.2.2.2.2.1 == a0_4 && (bt384.2.2.2.2.2.1 == a0_5 && (bt384.2.2.2.2.2.2.1.toList == a0_6.toList))))))) = true then (some (bt384.2.2.2.2.2.2.2 == 0)) else (none)) else (none)) else (none))) = some r := H
                            have A116 := Aside0.mk A1160
                            clear A1160
                            replace H := Option.bind_eq_some_iff.mp H
                            obtain ⟨⟨t384, t385, t386, t387, t388, t389, t390, t391⟩, A1170, H⟩ := H
                            replace H : (if t383 = 0 then (if (t382.size : Int) = (wrap64 ((t359.size : Int) + 4)) then (if (t384.toList == a0_0.toList && (t385.toList == a0_1.toList && (t386 == a0_2 && (t387 == a0_3 && (t388 == a0_4 && (t389 == a0_5 && (t390.toList == a0_6.toList))))))) = true then (some (t391 == 0)) else (none)) else (none)) else (none)) = some r := H
                            have A117 := Aside0.mk A1170
                            clear A1170
                            by_cases c118 : t383 = 0
                            · rw [if_pos c118] at H
                              have c118b0 : (t383 == 0) = true := beq_iff_eq.mpr c118
                              have c118b1 : (t383 != 0) = false := bne_eq_false_iff_eq.mpr c118
                              clear c118
                              by_cases c119 : (t382.size : Int) = (wrap64 ((t359.size : Int) + 4))
                              · rw [if_pos c119] at H
                                have c119b0 : ((t382.size : Int) == (wrap64 ((t359.size : Int) + 4))) = true := beq_iff_eq.mpr c119
                                have c119b1 : ((t382.size : Int) != (wrap64 ((t359.size : Int) + 4))) = false := bne_eq_false_iff_eq.mpr c119
                                clear c119
                                by_cases c120 : (t384.toList == a0_0.toList && (t385.toList == a0_1.toList && (t386 == a0_2 && (t387 == a0_3 && (t388 == a0_4 && (t389 == a0_5 && (t390.toList == a0_6.toList))))))) = true
                                · rw [if_pos c120] at H
                                  have c120b0 : (t384.toList == a0_0.toList && (t385.toList == a0_1.toList && (t386 == a0_2 && (t387 == a0_3 && (t388 == a0_4 && (t389 == a0_5 && (t390.toList == a0_6.toList))))))) = true := c120
                                  (try (have c120b1 : decide (t384.toList = a0_0.toList && (t385.toList == a0_1.toList && (t386 == a0_2 && (t387 == a0_3 && (t388 == a0_4 && (t389 == a0_5 && (t390.toList == a0_6.toList))))))) = true := by simpa using c120))
                                  (try (have c120b2 : (t384.toList == a0_0.toList && (t385.toList == a0_1.toList && (t386 == a0_2 && (t387 == a0_3 && (t388 == a0_4 && (t389 == a0_5 && (t390.toList == a0_6.toList))))))) = true := by simpa using c120))
                                  clear c120
                                  obtain rfl := Option.some.inj H
                                  have hnb121 := NB381_343.out
                                  have hnc121 := NB343_381.out
                                  have hnb122 := NB381_344.out
                                  have hnc122 := NB344_381.out
                                  have hnb123 := NB381_356.out
                                  have hnc123 := NB356_381.out
                                  have hnb124 := NB381_372.out
                                  have hnc124 := NB372_381.out
                                  have hcz125_0 : wc.cell? ⟨gb381, 0, none⟩ = some (.string t373) := (blk_cell BK381.out 0).trans rfl
                                  have hcz125_1 : wc.cell? ⟨gb381, 1, none⟩ = some (.string t374) := (blk_cell BK381.out 1).trans rfl
                                  have hcz125_2 : wc.cell? ⟨gb381, 2, none⟩ = some (.bool t375) := (blk_cell BK381.out 2).trans rfl
                                  have hcz125_3 : wc.cell? ⟨gb381, 3, none⟩ = some (.int .i64 t376) := (blk_cell BK381.out 3).trans rfl
                                  have hcz125_4 : wc.cell? ⟨gb381, 4, none⟩ = some (.int .i64 t377) := (blk_cell BK381.out 4).trans rfl
                                  have hcz125_5 : wc.cell? ⟨gb381, 5, none⟩ = some (.int .i64 t378) := (blk_cell BK381.out 5).trans rfl
                                  have hcz125_6 : wc.cell? ⟨gb381, 6, none⟩ = some (.string t379) := (blk_cell BK381.out 6).trans rfl
                                  have hfz125_0 := blk_frozen BK381.out 0
                                  have hfz125_1 := blk_frozen BK381.out 1
                                  have hfz125_2 := blk_frozen BK381.out 2
                                  have hfz125_3 := blk_frozen BK381.out 3
                                  have hfz125_4 := blk_frozen BK381.out 4
                                  have hfz125_5 := blk_frozen BK381.out 5
                                  have hfz125_6 := blk_frozen BK381.out 6
                                  go_wp2_with (first | ((with_reducible refine gate_callee (f := 33) rfl ?_); refine goesL_ (some 117) rfl rfl Try.func33 (by kernel_rfl) rfl #[.agg #[.string t373, .string t374, .bool t375, .int .i64 t376, .int .i64 t377, .int .i64 t378, .string t379]] rfl (by (try simp only [List.map_toArray, List.map_cons, List.map_nil]); first | done | rfl | (simp only [List.length_drop, List.length_take]; rfl)) ?_; (with_reducible refine (frame_Print.calls kj96 t373 t374 t375 t376 t377 t378 t379 t382 t383 _ A116.out).mono ?_); rintro e w126 ⟨rfl, hb⟩; refine ⟨_, rfl, ?_⟩; have n0_ := Aside0.mk (blk_below (g := gb343) (o := .cells #[.string a0_0, .string a0_1, .bool a0_2, .int .i64 a0_3, .int .i64 a0_4, .int .i64 a0_5, .string a0_6] 23 (0, 0)) (by (with_reducible repeat (first | refine blk_drewN ?_ _ | refine blk_drew ?_ | refine blk_alloc ?_ _)); exact BK343.out) hb); have n1_ := Aside0.mk (blk_below (g := gb344) (o := .cells #[.string a1_0, .string a1_1, .bool a1_2, .int .i64 a1_3, .int .i64 a1_4, .int .i64 a1_5, .string a1_6] 23 (0, 0)) (by (with_reducible repeat (first | refine blk_drewN ?_ _ | refine blk_drew ?_ | refine blk_alloc ?_ _)); exact BK344.out) hb); have n2_ := Aside0.mk (blk_below (g := gb356) (o := .cells #[.string t348, .string t349, .bool t350, .int .i64 t351, .int .i64 t352, .int .i64 t353, .string t354] 23 (0, 0)) (by (with_reducible repeat (first | refine blk_drewN ?_ _ | refine blk_drew ?_ | refine blk_alloc ?_ _)); exact BK356.out) hb); have n3_ := Aside0.mk (blk_below (g := gb372) (o := .cells #[.string t364, .string t365, .bool t366, .int .i64 t367, .int .i64 t368, .int .i64 t369, .string t370] 23 (0, 0)) (by (with_reducible repeat (first | refine blk_drewN ?_ _ | refine blk_drew ?_ | refine blk_alloc ?_ _)); exact BK372.out) hb); have n4_ := Aside0.mk (blk_below (g := gb381) (o := .cells #[.string t373, .string t374, .bool t375, .int .i64 t376, .int .i64 t377, .int .i64 t378, .string t379] 23 (0, 0)) (by (with_reducible repeat (first | refine blk_drewN ?_ _ | refine blk_drew ?_ | refine blk_alloc ?_ _)); exact BK381.out) hb); have n5_ := Aside0.mk (below_step (by repeat (first | (with_reducible first | exact HB.out | apply below_alloc | apply pw_below_drewN | apply below_drew1 | refine below_set ?_ GE343.out | refine below_set ?_ GE344.out | refine below_set ?_ GE356.out | refine below_set ?_ GE372.out | refine below_set ?_ GE381.out) | exact HB.out)) hb); clear BK343; clear BK344; clear BK356; clear BK372; clear BK381; clear HB; have BK343 := n0_; have BK344 := n1_; have BK356 := n2_; have BK372 := n3_; have BK381 := n4_; have HB := n5_; clear n0_ n1_ n2_ n3_ n4_ n5_; (try clear hb); (try clear hb2); (try clear hk); (try clear hi); have hcz127_0 : w126.cell? ⟨gb381, 0, none⟩ = some (.string t373) := (blk_cell BK381.out 0).trans rfl; have hcz127_1 : w126.cell? ⟨gb381, 1, none⟩ = some (.string t374) := (blk_cell BK381.out 1).trans rfl; have hcz127_2 : w126.cell? ⟨gb381, 2, none⟩ = some (.bool t375) := (blk_cell BK381.out 2).trans rfl; have hcz127_3 : w126.cell? ⟨gb381, 3, none⟩ = some (.int .i64 t376) := (blk_cell BK381.out 3).trans rfl; have hcz127_4 : w126.cell? ⟨gb381, 4, none⟩ = some (.int .i64 t377) := (blk_cell BK381.out 4).trans rfl; have hcz127_5 : w126.cell? ⟨gb381, 5, none⟩ = some (.int .i64 t378) := (blk_cell BK381.out 5).trans rfl; have hcz127_6 : w126.cell? ⟨gb381, 6, none⟩ = some (.string t379) := (blk_cell BK381.out 6).trans rfl; have hfz127_0 := blk_frozen BK381.out 0; have hfz127_1 := blk_frozen BK381.out 1; have hfz127_2 := blk_frozen BK381.out 2; have hfz127_3 := blk_frozen BK381.out 3; have hfz127_4 := blk_frozen BK381.out 4; have hfz127_5 := blk_frozen BK381.out 5; have hfz127_6 := blk_frozen BK381.out 6) | ((with_reducible refine gate_callee (f := 39) rfl ?_); refine goesL_ (some 122) rfl rfl Try.func39 (by kernel_rfl) rfl #[.agg #[.string t373, .string t374, .bool t375, .int .i64 t376, .int .i64 t377, .int .i64 t378, .string t379]] rfl (by (try simp only [List.map_toArray, List.map_cons, List.map_nil]); first | done | rfl | (simp only [List.length_drop, List.length_take]; rfl)) ?_; (with_reducible refine (frame_Without.calls kj96 t373 t374 t375 t376 t377 t378 t379 t384 t385 t386 t387 t388 t389 t390 t391 _ A117.out).mono ?_); rintro e w128 ⟨rfl, hb⟩; refine ⟨_, rfl, ?_⟩; have n0_ := Aside0.mk (blk_below (g := gb343) (o := .cells #[.string a0_0, .string a0_1, .bool a0_2, .int .i64 a0_3, .int .i64 a0_4, .int .i64 a0_5, .string a0_6] 23 (0, 0)) (by (with_reducible repeat (first | refine blk_drewN ?_ _ | refine blk_drew ?_ | refine blk_alloc ?_ _)); exact BK343.out) hb); have n1_ := Aside0.mk (blk_below (g := gb344) (o := .cells #[.string a1_0, .string a1_1, .bool a1_2, .int .i64 a1_3, .int .i64 a1_4, .int .i64 a1_5, .string a1_6] 23 (0, 0)) (by (with_reducible repeat (first | refine blk_drewN ?_ _ | refine blk_drew ?_ | refine blk_alloc ?_ _)); exact BK344.out) hb); have n2_ := Aside0.mk (blk_below (g := gb356) (o := .cells #[.string t348, .string t349, .bool t350, .int .i64 t351, .int .i64 t352, .int .i64 t353, .string t354] 23 (0, 0)) (by (with_reducible repeat (first | refine blk_drewN ?_ _ | refine blk_drew ?_ | refine blk_alloc ?_ _)); exact BK356.out) hb); have n3_ := Aside0.mk (blk_below (g := gb372) (o := .cells #[.string t364, .string t365, .bool t366, .int .i64 t367, .int .i64 t368, .int .i64 t369, .string t370] 23 (0, 0)) (by (with_reducible repeat (first | refine blk_drewN ?_ _ | refine blk_drew ?_ | refine blk_alloc ?_ _)); exact BK372.out) hb); have n4_ := Aside0.mk (blk_below (g := gb381) (o := .cells #[.string t373, .string t374, .bool t375, .int .i64 t376, .int .i64 t377, .int .i64 t378, .string t379] 23 (0, 0)) (by (with_reducible repeat (first | refine blk_drewN ?_ _ | refine blk_drew ?_ | refine blk_alloc ?_ _)); exact BK381.out) hb); have n5_ := Aside0.mk (below_step (by repeat (first | (with_reducible first | exact HB.out | apply below_alloc | apply pw_below_drewN | apply below_drew1 | refine below_set ?_ GE343.out | refine below_set ?_ GE344.out | refine below_set ?_ GE356.out | refine below_set ?_ GE372.out | refine below_set ?_ GE381.out) | exact HB.out)) hb); clear BK343; clear BK344; clear BK356; clear BK372; clear BK381; clear HB; have BK343 := n0_; have BK344 := n1_; have BK356 := n2_; have BK372 := n3_; have BK381 := n4_; have HB := n5_; clear n0_ n1_ n2_ n3_ n4_ n5_; (try clear hb); (try clear hb2); (try clear hk); (try clear hi)) | ((with_reducible refine gate_dst (N := 23) rfl ?_); (try (refine gate_guard (by rfl) ?_; dsimp only)); refine box_event ?hg (N := 23) ?hd (cs := #[.string (⟨#[]⟩ : ByteArray), .string (⟨#[]⟩ : ByteArray), .bool false, .int .i64 0, .int .i64 0, .int .i64 0, .string (⟨#[]⟩ : ByteArray)]) (t := 23) ?hr ?_; (case hd => rfl); (case hg => rfl); (case hr => first | (go_simp; done) | (go_simp; rfl)); intro gb392 hg w129 hbox hb; have n0_ := Aside0.mk (blk_below (g := gb343) (o := .cells #[.string a0_0, .string a0_1, .bool a0_2, .int .i64 a0_3, .int .i64 a0_4, .int .i64 a0_5, .string a0_6] 23 (0, 0)) (by (with_reducible repeat (first | refine blk_drewN ?_ _ | refine blk_drew ?_ | refine blk_alloc ?_ _)); exact BK343.out) hb); have n1_ := Aside0.mk (blk_below (g := gb344) (o := .cells #[.string a1_0, .string a1_1, .bool a1_2, .int .i64 a1_3, .int .i64 a1_4, .int .i64 a1_5, .string a1_6] 23 (0, 0)) (by (with_reducible repeat (first | refine blk_drewN ?_ _ | refine blk_drew ?_ | refine blk_alloc ?_ _)); exact BK344.out) hb); have n2_ := Aside0.mk (blk_below (g := gb356) (o := .cells #[.string t348, .string t349, .bool t350, .int .i64 t351, .int .i64 t352, .int .i64 t353, .string t354] 23 (0, 0)) (by (with_reducible repeat (first | refine blk_drewN ?_ _ | refine blk_drew ?_ | refine blk_alloc ?_ _)); exact BK356.out) hb); have n3_ := Aside0.mk (blk_below (g := gb372) (o := .cells #[.string t364, .string t365, .bool t366, .int .i64 t367, .int .i64 t368, .int .i64 t369, .string t370] 23 (0, 0)) (by (with_reducible repeat (first | refine blk_drewN ?_ _ | refine blk_drew ?_ | refine blk_alloc ?_ _)); exact BK372.out) hb); have n4_ := Aside0.mk (blk_below (g := gb381) (o := .cells #[.string t373, .string t374, .bool t375, .int .i64 t376, .int .i64 t377, .int .i64 t378, .string t379] 23 (0, 0)) (by (with_reducible repeat (first | refine blk_drewN ?_ _ | refine blk_drew ?_ | refine blk_alloc ?_ _)); exact BK381.out) hb); have n5_ := Aside0.mk (below_step (by repeat (first | (with_reducible first | exact HB.out | apply below_alloc | apply pw_below_drewN | apply below_drew1 | refine below_set ?_ GE343.out | refine below_set ?_ GE344.out | refine below_set ?_ GE356.out | refine below_set ?_ GE372.out | refine below_set ?_ GE381.out) | exact HB.out)) hb); have n6_ := Aside0.mk (hbox); have n7_ := Aside0.mk ((by rw [hg]; exact (below_size (by repeat (first | (with_reducible first | exact HB.out | apply below_alloc | apply pw_below_drewN | apply below_drew1 | refine below_set ?_ GE343.out | refine below_set ?_ GE344.out | refine below_set ?_ GE356.out | refine below_set ?_ GE372.out | refine below_set ?_ GE381.out) | exact HB.out))) : w.heap.size ≤ gb392)); have n8_ := Aside0.mk ((by rw [hg]; exact (below_size (by repeat (first | (with_reducible first | exact HB.out | apply below_alloc | apply pw_below_drewN | apply below_drew1 | refine below_set ?_ GE343.out | refine below_set ?_ GE344.out | refine below_set ?_ GE356.out | refine below_set ?_ GE372.out | refine below_set ?_ GE381.out) | exact HB.out))) : w.heap.size ≤ gb392)); have n9_ := Aside0.mk ((by rw [hg]; exact Nat.ne_of_lt (blk_lt (g := gb343) (o := .cells #[.string a0_0, .string a0_1, .bool a0_2, .int .i64 a0_3, .int .i64 a0_4, .int .i64 a0_5, .string a0_6] 23 (0, 0)) (by (with_reducible repeat (first | refine blk_drewN ?_ _ | refine blk_drew ?_ | refine blk_alloc ?_ _)); exact BK343.out)) : gb343 ≠ gb392)); have n10_ := Aside0.mk ((by rw [hg]; exact Nat.ne_of_gt (blk_lt (g := gb343) (o := .cells #[.string a0_0, .string a0_1, .bool a0_2, .int .i64 a0_3, .int .i64 a0_4, .int .i64 a0_5, .string a0_6] 23 (0, 0)) (by (with_reducible repeat (first | refine blk_drewN ?_ _ | refine blk_drew ?_ | refine blk_alloc ?_ _)); exact BK343.out)) : gb392 ≠ gb343)); have n11_ := Aside0.mk ((by rw [hg]; exact Nat.ne_of_lt (blk_lt (g := gb344) (o := .cells #[.string a1_0, .string a1_1, .bool a1_2, .int .i64 a1_3, .int .i64 a1_4, .int .i64 a1_5, .string a1_6] 23 (0, 0)) (by (with_reducible repeat (first | refine blk_drewN ?_ _ | refine blk_drew ?_ | refine blk_alloc ?_ _)); exact BK344.out)) : gb344 ≠ gb392)); have n12_ := Aside0.mk ((by rw [hg]; exact Nat.ne_of_gt (blk_lt (g := gb344) (o := .cells #[.string a1_0, .string a1_1, .bool a1_2, .int .i64 a1_3, .int .i64 a1_4, .int .i64 a1_5, .string a1_6] 23 (0, 0)) (by (with_reducible repeat (first | refine blk_drewN ?_ _ | refine blk_drew ?_ | refine blk_alloc ?_ _)); exact BK344.out)) : gb392 ≠ gb344)); have n13_ := Aside0.mk ((by rw [hg]; exact Nat.ne_of_lt (blk_lt (g := gb356) (o := .cells #[.string t348, .string t349, .bool t350, .int .i64 t351, .int .i64 t352, .int .i64 t353, .string t354] 23 (0, 0)) (by (with_reducible repeat (first | refine blk_drewN ?_ _ | refine blk_drew ?_ | refine blk_alloc ?_ _)); exact BK356.out)) : gb356 ≠ gb392)); have n14_ := Aside0.mk ((by rw [hg]; exact Nat.ne_of_gt (blk_lt (g := gb356) (o := .cells #[.string t348, .string t349, .bool t350, .int .i64 t351, .int .i64 t352, .int .i64 t353, .string t354] 23 (0, 0)) (by (with_reducible repeat (first | refine blk_drewN ?_ _ | refine blk_drew ?_ | refine blk_alloc ?_ _)); exact BK356.out)) : gb392 ≠ gb356)); have n15_ := Aside0.mk ((by rw [hg]; exact Nat.ne_of_lt (blk_lt (g := gb372) (o := .cells #[.string t364, .string t365, .bool t366, .int .i64 t367, .int .i64 t368, .int .i64 t369, .string t370] 23 (0, 0)) (by (with_reducible repeat (first | refine blk_drewN ?_ _ | refine blk_drew ?_ | refine blk_alloc ?_ _)); exact BK372.out)) : gb372 ≠ gb392)); have n16_ := Aside0.mk ((by rw [hg]; exact Nat.ne_of_gt (blk_lt (g := gb372) (o := .cells #[.string t364, .string t365, .bool t366, .int .i64 t367, .int .i64 t368, .int .i64 t369, .string t370] 23 (0, 0)) (by (with_reducible repeat (first | refine blk_drewN ?_ _ | refine blk_drew ?_ | refine blk_alloc ?_ _)); exact BK372.out)) : gb392 ≠ gb372)); have n17_ := Aside0.mk ((by rw [hg]; exact Nat.ne_of_lt (blk_lt (g := gb381) (o := .cells #[.string t373, .string t374, .bool t375, .int .i64 t376, .int .i64 t377, .int .i64 t378, .string t379] 23 (0, 0)) (by (with_reducible repeat (first | refine blk_drewN ?_ _ | refine blk_drew ?_ | refine blk_alloc ?_ _)); exact BK381.out)) : gb381 ≠ gb392)); have n18_ := Aside0.mk ((by rw [hg]; exact Nat.ne_of_gt (blk_lt (g := gb381) (o := .cells #[.string t373, .string t374, .bool t375, .int .i64 t376, .int .i64 t377, .int .i64 t378, .string t379] 23 (0, 0)) (by (with_reducible repeat (first | refine blk_drewN ?_ _ | refine blk_drew ?_ | refine blk_alloc ?_ _)); exact BK381.out)) : gb392 ≠ gb381)); clear BK343; clear BK344; clear BK356; clear BK372; clear BK381; clear HB; have BK343 := n0_; have BK344 := n1_; have BK356 := n2_; have BK372 := n3_; have BK381 := n4_; have HB := n5_; have BK392 := n6_; have GW392 := n7_; have GE392 := n8_; have NB343_392 := n9_; have NB392_343 := n10_; have NB344_392 := n11_; have NB392_344 := n12_; have NB356_392 := n13_; have NB392_356 := n14_; have NB372_392 := n15_; have NB392_372 := n16_; have NB381_392 := n17_; have NB392_381 := n18_; clear n0_ n1_ n2_ n3_ n4_ n5_ n6_ n7_ n8_ n9_ n10_ n11_ n12_ n13_ n14_ n15_ n16_ n17_ n18_; clear hb hbox hg; have hnb130 := NB392_343.out; have hnc130 := NB343_392.out; have hnb131 := NB392_344.out; have hnc131 := NB344_392.out; have hnb132 := NB392_356.out; have hnc132 := NB356_392.out; have hnb133 := NB392_372.out; have hnc133 := NB372_392.out; have hnb134 := NB392_381.out; have hnc134 := NB381_392.out; have hcz135_0 : w129.cell? ⟨gb392, 0, none⟩ = some (.string (⟨#[]⟩ : ByteArray)) := (blk_cell BK392.out 0).trans rfl; have hcz135_1 : w129.cell? ⟨gb392, 1, none⟩ = some (.string (⟨#[]⟩ : ByteArray)) := (blk_cell BK392.out 1).trans rfl; have hcz135_2 : w129.cell? ⟨gb392, 2, none⟩ = some (.bool false) := (blk_cell BK392.out 2).trans rfl; have hcz135_3 : w129.cell? ⟨gb392, 3, none⟩ = some (.int .i64 0) := (blk_cell BK392.out 3).trans rfl; have hcz135_4 : w129.cell? ⟨gb392, 4, none⟩ = some (.int .i64 0) := (blk_cell BK392.out 4).trans rfl; have hcz135_5 : w129.cell? ⟨gb392, 5, none⟩ = some (.int .i64 0) := (blk_cell BK392.out 5).trans rfl; have hcz135_6 : w129.cell? ⟨gb392, 6, none⟩ = some (.string (⟨#[]⟩ : ByteArray)) := (blk_cell BK392.out 6).trans rfl; have hfz135_0 := blk_frozen BK392.out 0; have hfz135_1 := blk_frozen BK392.out 1; have hfz135_2 := blk_frozen BK392.out 2; have hfz135_3 := blk_frozen BK392.out 3; have hfz135_4 := blk_frozen BK392.out 4; have hfz135_5 := blk_frozen BK392.out 5; have hfz135_6 := blk_frozen BK392.out 6; have hnb136 := NB343_344.out; have hnc136 := NB344_343.out; have hnb137 := NB343_356.out; have hnc137 := NB356_343.out; have hnb138 := NB343_372.out; have hnc138 := NB372_343.out; have hcz139_0 : w129.cell? ⟨gb343, 0, none⟩ = some (.string a0_0) := (blk_cell BK343.out 0).trans rfl; have hcz139_1 : w129.cell? ⟨gb343, 1, none⟩ = some (.string a0_1) := (blk_cell BK343.out 1).trans rfl; have hcz139_2 : w129.cell? ⟨gb343, 2, none⟩ = some (.bool a0_2) := (blk_cell BK343.out 2).trans rfl; have hcz139_3 : w129.cell? ⟨gb343, 3, none⟩ = some (.int .i64 a0_3) := (blk_cell BK343.out 3).trans rfl; have hcz139_4 : w129.cell? ⟨gb343, 4, none⟩ = some (.int .i64 a0_4) := (blk_cell BK343.out 4).trans rfl; have hcz139_5 : w129.cell? ⟨gb343, 5, none⟩ = some (.int .i64 a0_5) := (blk_cell BK343.out 5).trans rfl; have hcz139_6 : w129.cell? ⟨gb343, 6, none⟩ = some (.string a0_6) := (blk_cell BK343.out 6).trans rfl; have hfz139_0 := blk_frozen BK343.out 0; have hfz139_1 := blk_frozen BK343.out 1; have hfz139_2 := blk_frozen BK343.out 2; have hfz139_3 := blk_frozen BK343.out 3; have hfz139_4 := blk_frozen BK343.out 4; have hfz139_5 := blk_frozen BK343.out 5; have hfz139_6 := blk_frozen BK343.out 6))
                                  go_ret
                                  exact ⟨by first | rfl | (simp [errW_none, errW_some] <;> rfl) | (simp [*, errW_none, errW_some] <;> rfl), by repeat (first | (with_reducible first | exact HB.out | apply below_alloc | apply pw_below_drewN | apply below_drew1 | refine below_set ?_ GE343.out | refine below_set ?_ GE344.out | refine below_set ?_ GE356.out | refine below_set ?_ GE372.out | refine below_set ?_ GE381.out | refine below_set ?_ GE392.out) | exact HB.out)⟩
                                · rw [if_neg c120] at H
                                  exact absurd H (by simp)
                              · rw [if_neg c119] at H
                                exact absurd H (by simp)
                            · rw [if_neg c118] at H
                              exact absurd H (by simp)
              · rw [if_neg c46] at H
                have c46b0 : (t360 == 0) = false := beq_eq_false_iff_ne.mpr c46
                have c46b1 : (t360 != 0) = true := bne_iff_ne.mpr c46
                by_cases c140 : t359.toList = ([] : List UInt8)
                · rw [if_pos c140] at H
                  have c140b0 : (t359.toList == ([] : List UInt8)) = true := beq_iff_eq.mpr c140
                  have c140b1 : (t359.toList != ([] : List UInt8)) = false := bne_eq_false_iff_eq.mpr c140
                  clear c140
                  replace H := Option.bind_eq_some_iff.mp H
                  obtain ⟨t363, A1410, H⟩ := H
                  replace H : (some (!t363)) = some r := H
                  have A141 := Aside0.mk A1410
                  clear A1410
                  obtain rfl := Option.some.inj H
                  have hnb142 := NB343_344.out
                  have hnc142 := NB344_343.out
                  have hnb143 := NB343_356.out
                  have hnc143 := NB356_343.out
                  have hcz144_0 : wc.cell? ⟨gb343, 0, none⟩ = some (.string a0_0) := (blk_cell BK343.out 0).trans rfl
                  have hcz144_1 : wc.cell? ⟨gb343, 1, none⟩ = some (.string a0_1) := (blk_cell BK343.out 1).trans rfl
                  have hcz144_2 : wc.cell? ⟨gb343, 2, none⟩ = some (.bool a0_2) := (blk_cell BK343.out 2).trans rfl
                  have hcz144_3 : wc.cell? ⟨gb343, 3, none⟩ = some (.int .i64 a0_3) := (blk_cell BK343.out 3).trans rfl
                  have hcz144_4 : wc.cell? ⟨gb343, 4, none⟩ = some (.int .i64 a0_4) := (blk_cell BK343.out 4).trans rfl
                  have hcz144_5 : wc.cell? ⟨gb343, 5, none⟩ = some (.int .i64 a0_5) := (blk_cell BK343.out 5).trans rfl
                  have hcz144_6 : wc.cell? ⟨gb343, 6, none⟩ = some (.string a0_6) := (blk_cell BK343.out 6).trans rfl
                  have hfz144_0 := blk_frozen BK343.out 0
                  have hfz144_1 := blk_frozen BK343.out 1
                  have hfz144_2 := blk_frozen BK343.out 2
                  have hfz144_3 := blk_frozen BK343.out 3
                  have hfz144_4 := blk_frozen BK343.out 4
                  have hfz144_5 := blk_frozen BK343.out 5
                  have hfz144_6 := blk_frozen BK343.out 6
                  go_wp2_with (first | ((with_reducible refine gate_callee (f := 33) rfl ?_); refine goesL_ (some 61) rfl rfl Try.func33 (by kernel_rfl) rfl #[.agg #[.string a0_0, .string a0_1, .bool a0_2, .int .i64 a0_3, .int .i64 a0_4, .int .i64 a0_5, .string a0_6]] rfl (by (try simp only [List.map_toArray, List.map_cons, List.map_nil]); first | done | rfl | (simp only [List.length_drop, List.length_take]; rfl)) ?_; (with_reducible refine (frame_Print.calls kj29 a0_0 a0_1 a0_2 a0_3 a0_4 a0_5 a0_6 t359 t360 _ A44.out).mono ?_); rintro e w145 ⟨rfl, hb⟩; refine ⟨_, rfl, ?_⟩; have n0_ := Aside0.mk (blk_below (g := gb343) (o := .cells #[.string a0_0, .string a0_1, .bool a0_2, .int .i64 a0_3, .int .i64 a0_4, .int .i64 a0_5, .string a0_6] 23 (0, 0)) (by (with_reducible repeat (first | refine blk_drewN ?_ _ | refine blk_drew ?_ | refine blk_alloc ?_ _)); exact BK343.out) hb); have n1_ := Aside0.mk (blk_below (g := gb344) (o := .cells #[.string a1_0, .string a1_1, .bool a1_2, .int .i64 a1_3, .int .i64 a1_4, .int .i64 a1_5, .string a1_6] 23 (0, 0)) (by (with_reducible repeat (first | refine blk_drewN ?_ _ | refine blk_drew ?_ | refine blk_alloc ?_ _)); exact BK344.out) hb); have n2_ := Aside0.mk (blk_below (g := gb356) (o := .cells #[.string t348, .string t349, .bool t350, .int .i64 t351, .int .i64 t352, .int .i64 t353, .string t354] 23 (0, 0)) (by (with_reducible repeat (first | refine blk_drewN ?_ _ | refine blk_drew ?_ | refine blk_alloc ?_ _)); exact BK356.out) hb); have n3_ := Aside0.mk (below_step (by repeat (first | (with_reducible first | exact HB.out | apply below_alloc | apply pw_below_drewN | apply below_drew1 | refine below_set ?_ GE343.out | refine below_set ?_ GE344.out | refine below_set ?_ GE356.out) | exact HB.out)) hb); clear BK343; clear BK344; clear BK356; clear HB; have BK343 := n0_; have BK344 := n1_; have BK356 := n2_; have HB := n3_; clear n0_ n1_ n2_ n3_; (try clear hb); (try clear hb2); (try clear hk); (try clear hi); have hnb146 := NB344_356.out; have hnc146 := NB356_344.out; have hcz147_0 : w145.cell? ⟨gb344, 0, none⟩ = some (.string a1_0) := (blk_cell BK344.out 0).trans rfl; have hcz147_1 : w145.cell? ⟨gb344, 1, none⟩ = some (.string a1_1) := (blk_cell BK344.out 1).trans rfl; have hcz147_2 : w145.cell? ⟨gb344, 2, none⟩ = some (.bool a1_2) := (blk_cell BK344.out 2).trans rfl; have hcz147_3 : w145.cell? ⟨gb344, 3, none⟩ = some (.int .i64 a1_3) := (blk_cell BK344.out 3).trans rfl; have hcz147_4 : w145.cell? ⟨gb344, 4, none⟩ = some (.int .i64 a1_4) := (blk_cell BK344.out 4).trans rfl; have hcz147_5 : w145.cell? ⟨gb344, 5, none⟩ = some (.int .i64 a1_5) := (blk_cell BK344.out 5).trans rfl; have hcz147_6 : w145.cell? ⟨gb344, 6, none⟩ = some (.string a1_6) := (blk_cell BK344.out 6).trans rfl; have hfz147_0 := blk_frozen BK344.out 0; have hfz147_1 := blk_frozen BK344.out 1; have hfz147_2 := blk_frozen BK344.out 2; have hfz147_3 := blk_frozen BK344.out 3; have hfz147_4 := blk_frozen BK344.out 4; have hfz147_5 := blk_frozen BK344.out 5; have hfz147_6 := blk_frozen BK344.out 6) | ((with_reducible refine gate_callee (f := 33) rfl ?_); refine goesL_ (some 66) rfl rfl Try.func33 (by kernel_rfl) rfl #[.agg #[.string a1_0, .string a1_1, .bool a1_2, .int .i64 a1_3, .int .i64 a1_4, .int .i64 a1_5, .string a1_6]] rfl (by (try simp only [List.map_toArray, List.map_cons, List.map_nil]); first | done | rfl | (simp only [List.length_drop, List.length_take]; rfl)) ?_; (with_reducible refine (frame_Print.calls kj29 a1_0 a1_1 a1_2 a1_3 a1_4 a1_5 a1_6 t361 t362 _ A45.out).mono ?_); rintro e w148 ⟨rfl, hb⟩; refine ⟨_, rfl, ?_⟩; have n0_ := Aside0.mk (blk_below (g := gb343) (o := .cells #[.string a0_0, .string a0_1, .bool a0_2, .int .i64 a0_3, .int .i64 a0_4, .int .i64 a0_5, .string a0_6] 23 (0, 0)) (by (with_reducible repeat (first | refine blk_drewN ?_ _ | refine blk_drew ?_ | refine blk_alloc ?_ _)); exact BK343.out) hb); have n1_ := Aside0.mk (blk_below (g := gb344) (o := .cells #[.string a1_0, .string a1_1, .bool a1_2, .int .i64 a1_3, .int .i64 a1_4, .int .i64 a1_5, .string a1_6] 23 (0, 0)) (by (with_reducible repeat (first | refine blk_drewN ?_ _ | refine blk_drew ?_ | refine blk_alloc ?_ _)); exact BK344.out) hb); have n2_ := Aside0.mk (blk_below (g := gb356) (o := .cells #[.string t348, .string t349, .bool t350, .int .i64 t351, .int .i64 t352, .int .i64 t353, .string t354] 23 (0, 0)) (by (with_reducible repeat (first | refine blk_drewN ?_ _ | refine blk_drew ?_ | refine blk_alloc ?_ _)); exact BK356.out) hb); have n3_ := Aside0.mk (below_step (by repeat (first | (with_reducible first | exact HB.out | apply below_alloc | apply pw_below_drewN | apply below_drew1 | refine below_set ?_ GE343.out | refine below_set ?_ GE344.out | refine below_set ?_ GE356.out) | exact HB.out)) hb); clear BK343; clear BK344; clear BK356; clear HB; have BK343 := n0_; have BK344 := n1_; have BK356 := n2_; have HB := n3_; clear n0_ n1_ n2_ n3_; (try clear hb); (try clear hb2); (try clear hk); (try clear hi); have hcz149_0 : w148.cell? ⟨gb343, 0, none⟩ = some (.string a0_0) := (blk_cell BK343.out 0).trans rfl; have hcz149_1 : w148.cell? ⟨gb343, 1, none⟩ = some (.string a0_1) := (blk_cell BK343.out 1).trans rfl; have hcz149_2 : w148.cell? ⟨gb343, 2, none⟩ = some (.bool a0_2) := (blk_cell BK343.out 2).trans rfl; have hcz149_3 : w148.cell? ⟨gb343, 3, none⟩ = some (.int .i64 a0_3) := (blk_cell BK343.out 3).trans rfl; have hcz149_4 : w148.cell? ⟨gb343, 4, none⟩ = some (.int .i64 a0_4) := (blk_cell BK343.out 4).trans rfl; have hcz149_5 : w148.cell? ⟨gb343, 5, none⟩ = some (.int .i64 a0_5) := (blk_cell BK343.out 5).trans rfl; have hcz149_6 : w148.cell? ⟨gb343, 6, none⟩ = some (.string a0_6) := (blk_cell BK343.out 6).trans rfl; have hfz149_0 := blk_frozen BK343.out 0; have hfz149_1 := blk_frozen BK343.out 1; have hfz149_2 := blk_frozen BK343.out 2; have hfz149_3 := blk_frozen BK343.out 3; have hfz149_4 := blk_frozen BK343.out 4; have hfz149_5 := blk_frozen BK343.out 5; have hfz149_6 := blk_frozen BK343.out 6) | (go_at_call 26; (with_reducible refine (frame_Right.calls kj29 a0_0 a0_1 a0_2 a0_3 a0_4 a0_5 a0_6 t363 _ A141.out).mono ?_); rintro e w150 ⟨rfl, hb⟩; have n0_ := Aside0.mk (blk_below (g := gb343) (o := .cells #[.string a0_0, .string a0_1, .bool a0_2, .int .i64 a0_3, .int .i64 a0_4, .int .i64 a0_5, .string a0_6] 23 (0, 0)) (by (with_reducible repeat (first | refine blk_drewN ?_ _ | refine blk_drew ?_ | refine blk_alloc ?_ _)); exact BK343.out) hb); have n1_ := Aside0.mk (blk_below (g := gb344) (o := .cells #[.string a1_0, .string a1_1, .bool a1_2, .int .i64 a1_3, .int .i64 a1_4, .int .i64 a1_5, .string a1_6] 23 (0, 0)) (by (with_reducible repeat (first | refine blk_drewN ?_ _ | refine blk_drew ?_ | refine blk_alloc ?_ _)); exact BK344.out) hb); have n2_ := Aside0.mk (blk_below (g := gb356) (o := .cells #[.string t348, .string t349, .bool t350, .int .i64 t351, .int .i64 t352, .int .i64 t353, .string t354] 23 (0, 0)) (by (with_reducible repeat (first | refine blk_drewN ?_ _ | refine blk_drew ?_ | refine blk_alloc ?_ _)); exact BK356.out) hb); have n3_ := Aside0.mk (below_step (by repeat (first | (with_reducible first | exact HB.out | apply below_alloc | apply pw_below_drewN | apply below_drew1 | refine below_set ?_ GE343.out | refine below_set ?_ GE344.out | refine below_set ?_ GE356.out) | exact HB.out)) hb); clear BK343; clear BK344; clear BK356; clear HB; have BK343 := n0_; have BK344 := n1_; have BK356 := n2_; have HB := n3_; clear n0_ n1_ n2_ n3_; (try clear hb); (try clear hb2); (try clear hk); (try clear hi)))
                  go_ret
                  exact ⟨by first | rfl | (simp [errW_none, errW_some] <;> rfl) | (simp [*, errW_none, errW_some] <;> rfl), by repeat (first | (with_reducible first | exact HB.out | apply below_alloc | apply pw_below_drewN | apply below_drew1 | refine below_set ?_ GE343.out | refine below_set ?_ GE344.out | refine below_set ?_ GE356.out) | exact HB.out)⟩
                · rw [if_neg c140] at H
                  exact absurd H (by simp)
  · replace c6 := Bool.eq_false_iff.mpr c6
    subst c6
    have H1 : (none) = some r := by rw [if_neg (show ¬ (false = true) by decide)] at H; exact H
    clear H
    have H := H1
    clear H1
    exact absurd H (by simp)

end Go.Proofs.Yticobcojmpakfaa.P
