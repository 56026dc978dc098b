-- Written by a program of this session (pp.py, over the kit's printer and texts given by hand).
import Derived.Test.YticobcojmpakfaaP0
import Derived.Test.YticobcojmpakfaaPtreebridgeref01Print
namespace Go.Proofs.Yticobcojmpakfaa.P
open Go.RowKit Go.Proofs.YticobcojmpakfaaW.PrintWords Go.Proofs.YticobcojmpakfaaW.PrintLast Go.Proofs.YticobcojmpakfaaW.PrintMore
attribute [local go_sem] max2_int min2_int max_two min_two max_three min_three max_four min_four   -- for this text's walks alone
set_option linter.unusedVariables false
set_option linter.unusedSimpArgs false


/-! ### given by hand: treebridgeref01_Parse: function 35 -/
def treebridgeref01_Parse.z (e : Int) : ByteArray × ByteArray × Bool × Int × Int × Int × ByteArray × Int := (⟨#[]⟩, ⟨#[]⟩, false, 0, 0, 0, ⟨#[]⟩, e)
/-- What stands behind a tag, or behind the addresses. -/
def treebridgeref01_Parse.rest (k : Nat) (s : ByteArray) (tg : Bool) (p v a : Int) : Option (ByteArray × ByteArray × Bool × Int × Int × Int × ByteArray × Int) :=
  if 1500 < (s.size : Int) - (a + 2) then some (treebridgeref01_Parse.z 4)
  else (treebridgeref01_Print.f k (s.extract 0 6) (s.extract 6 12) tg p v (bt s a * 256 + bt s (a + 1)) (s.extract (a + 2).toNat s.size)).bind fun r =>
    if r.2 = 0 then
      if r.1 = s then some (s.extract 0 6, s.extract 6 12, tg, p, v, bt s a * 256 + bt s (a + 1), s.extract (a + 2).toNat s.size, 0)
      else some (treebridgeref01_Parse.z 2)
    else some (treebridgeref01_Parse.z 2)
def treebridgeref01_Parse.f (k : Nat) (s : ByteArray) : Option (ByteArray × ByteArray × Bool × Int × Int × Int × ByteArray × Int) :=
  if s.size ≤ 9223372036854775807 then
    if (s.size : Int) < 14 then some (treebridgeref01_Parse.z 3)
    else if bt s 12 = 129 ∧ bt s 13 = 0 then
      if (s.size : Int) < 18 then some (treebridgeref01_Parse.z 3)
      else treebridgeref01_Parse.rest k s true ((bt s 14 * 256 + bt s 15) / 8192) ((bt s 14 * 256 + bt s 15) % 4096) 16
    else treebridgeref01_Parse.rest k s false 0 0 12
  else none
theorem treebridgeref01_Parse.mono : ∀ a0 k, LeO (treebridgeref01_Parse.f k a0) (treebridgeref01_Parse.f (k + 1) a0) := by
  intro a0 k
  unfold treebridgeref01_Parse.f treebridgeref01_Parse.rest
  repeat' first
      | (with_reducible exact treebridgeref01_Print.mono _ _ _ _ _ _ _ _)
      | (with_reducible exact LeO.refl _)
      | (with_reducible exact LeO.none _)
      | (with_reducible refine LeO.ite ?_ ?_)
      | (with_reducible refine LeO.bind ?_ (fun _ => ?_))

theorem treebridgeref01_Parse.ne {a b : ByteArray} (h : ¬ a = b) : (a.toList == b.toList) = false := by
  rw [beq_eq_false_iff_ne]
  intro e
  have hl : ∀ s : ByteArray, s.toList = s.data.toList := fun s => by first | exact ByteArray.toList_eq s | simp
  rw [hl, hl] at e
  exact h (ByteArray.ext (Array.ext' e))

set_option maxHeartbeats 4000000 in
set_option maxRecDepth 100000 in
theorem treebridgeref01_Parse.short (s : ByteArray) (w : World) (h1 : s.size < 14) :
    Calls Try.prog 35 #[.string s] w fun e w' => e = .returned (.tuple #[.agg #[.string ⟨#[]⟩, .string ⟨#[]⟩, .bool false, .int .i64 0, .int .i64 0, .int .i64 0, .string ⟨#[]⟩], .int .i64 3]) ∧ Below w.heap.size w w' := by
  have hu23 := Try.underlying23
  have c1 : decide ((s.size : Int) < 14) = true := decide_eq_true (by omega)
  have c2 : decide (s.size < 14) = true := decide_eq_true (by omega)
  go_enter Try.func35, Try.ntmps35
  go_wp2
  refine bodyPost_ret (v := .tuple #[.agg #[.string ⟨#[]⟩, .string ⟨#[]⟩, .bool false, .int .i64 0, .int .i64 0, .int .i64 0, .string ⟨#[]⟩], .int .i64 3]) (by simp [results, Try.results35, go_sem]) rfl ⟨rfl, ?_⟩
  repeat (with_reducible first | exact Below.refl _ _ | apply below_alloc | apply pw_below_drewN | apply below_drew1 | refine below_set ?_ (by omega))

set_option maxHeartbeats 4000000 in
set_option maxRecDepth 100000 in
theorem treebridgeref01_Parse.plain1 (k : Nat) (s : ByteArray) (r1 r2 : ByteArray) (r3 : Bool) (r4 r5 r6 : Int) (r7 : ByteArray) (r8 : Int) (w : World) (h1 : 14 ≤ s.size) (hs : s.size ≤ 9223372036854775807) (q1 : bt s 12 = 129) (q2 : ¬ bt s 13 = 0)
    (h : treebridgeref01_Parse.rest k s false 0 0 12 = some (r1, r2, r3, r4, r5, r6, r7, r8)) :
    Calls Try.prog 35 #[.string s] w fun e w' => e = .returned (.tuple #[.agg #[.string r1, .string r2, .bool r3, .int .i64 r4, .int .i64 r5, .int .i64 r6, .string r7], .int .i64 r8]) ∧ Below w.heap.size w w' := by
  have hu23 := Try.underlying23
  have c1 : decide ((s.size : Int) < 14) = false := decide_eq_false (by omega)
  have c2 : decide (s.size < 14) = false := decide_eq_false (by omega)
  have d1 : (6 : Int) ≤ s.size := by omega
  have d2 : (12 : Int) ≤ s.size := by omega
  have d3 : (6 : Nat) ≤ s.size := by omega
  have d4 : (12 : Nat) ≤ s.size := by omega
  have d5 : (14 : Int) ≤ s.size := by omega
  have d6 : (14 : Nat) ≤ s.size := by omega
  have e1 : IntKind.i64.wrap 14 = 14 := by decide
  have hw2 : w.heap.size < w.heap.size + 1 + 1 := by omega
  have hw3 : w.heap.size + 1 < w.heap.size + 1 + 1 := by omega
  have p12 : 12 < s.size := by omega
  have p13 : 13 < s.size := by omega
  have x12 : (s[12].toNat : Int) = bt s 12 := bt_at s 12 p12
  have x13 : (s[13].toNat : Int) = bt s 13 := bt_at s 13 p13
  have b12 := bt_range s 12
  have b13 := bt_range s 13
  have e4 : IntKind.i64.wrap 13 = 13 := by decide
  have e12a : IntKind.i64.wrap (bt s 12 * 256) = bt s 12 * 256 := IntWalk.i64_in _ (by omega)
  have e12b : IntKind.i64.wrap (bt s 12 * 256 + bt s 13) = bt s 12 * 256 + bt s 13 := IntWalk.i64_in _ (by omega)
  have e12c : IntKind.i64.wrap 13 = 13 := by decide
  have hN : bt s 12 * 256 + bt s (12 + 1) = 33024 + bt s 13 := by rw [q1]; rfl
  have Hh := Aside0.mk h
  clear h
  go_enter Try.func35, Try.ntmps35
  go_wp2
  go_region
  go_wp2_with fail
  go_region
  all_goals
   by_cases c : 1500 < (s.size : Int) - 14
   · have hh := Hh.out
     unfold treebridgeref01_Parse.rest at hh
     simp only [hN] at hh
     rw [if_pos (by omega)] at hh
     simp only [treebridgeref01_Parse.z, Option.some.injEq, Prod.mk.injEq] at hh
     obtain ⟨rfl, rfl, rfl, rfl, rfl, rfl, rfl, rfl⟩ := hh
     have c' : 1500 < ((s.size - 14 : Nat) : Int) := by omega
     go_wp2_with fail
     refine bodyPost_ret (v := .tuple #[.agg #[.string ⟨#[]⟩, .string ⟨#[]⟩, .bool false, .int .i64 0, .int .i64 0, .int .i64 0, .string ⟨#[]⟩], .int .i64 4]) (by simp [results, Try.results35, go_sem, hw2, hw3]) rfl ⟨rfl, ?_⟩
     repeat (with_reducible first | exact Below.refl _ _ | apply below_alloc | apply pw_below_drewN | apply below_drew1 | refine below_set ?_ (by omega))
   · have hh := Hh.out
     unfold treebridgeref01_Parse.rest at hh
     simp only [hN] at hh
     rw [if_neg (by omega)] at hh
     obtain ⟨⟨b, e⟩, hb, hh⟩ := Option.bind_eq_some_iff.mp hh
     have Hb := Aside0.mk hb
     clear hb
     have c' : ((s.size - 14 : Nat) : Int) ≤ 1500 := by omega
     go_wp2_with fail
     refine (treebridgeref01_Print.calls k _ _ _ _ _ _ _ b e _ Hb.out).mono ?_
     rintro e1 w1 ⟨rfl, hbl⟩
     obtain ⟨hc, hf⟩ := bcell hbl
     have hz := hbl.size
     simp [World.size_setCell, World.size_alloc] at hz
     by_cases he : e = 0
     · by_cases hs2 : b = s
       · rw [if_pos he, if_pos hs2] at hh
         simp only [Option.some.injEq, Prod.mk.injEq] at hh
         obtain ⟨rfl, rfl, rfl, rfl, rfl, rfl, rfl, rfl⟩ := hh
         subst he
         have hs3 : (b.toList == s.toList) = true := by rw [hs2]; exact beq_self_eq_true _
         clear hs2
         go_wp2_with fail
         refine bodyPost_ret (v := .tuple #[.agg #[.string (s.extract 0 6), .string (s.extract 6 12), .bool false, .int .i64 0, .int .i64 0, .int .i64 (33024 + bt s 13), .string (s.extract 14 s.size)], .int .i64 0]) (by simp [results, Try.results35, go_sem, hc, hz, hw2, hw3]) rfl ⟨rfl, ?_⟩
         repeat (with_reducible first | exact Below.refl _ _ | apply below_alloc | apply pw_below_drewN | apply below_drew1 | refine below_set ?_ (by omega) | refine below_step ?_ hbl)
       · rw [if_pos he, if_neg hs2] at hh
         simp only [treebridgeref01_Parse.z, Option.some.injEq, Prod.mk.injEq] at hh
         obtain ⟨rfl, rfl, rfl, rfl, rfl, rfl, rfl, rfl⟩ := hh
         subst he
         have hs3 := treebridgeref01_Parse.ne hs2
         clear hs2
         go_wp2_with fail
         refine bodyPost_ret (v := .tuple #[.agg #[.string ⟨#[]⟩, .string ⟨#[]⟩, .bool false, .int .i64 0, .int .i64 0, .int .i64 0, .string ⟨#[]⟩], .int .i64 2]) (by simp [results, Try.results35, go_sem, hc, hz, hw2, hw3]) rfl ⟨rfl, ?_⟩
         repeat (with_reducible first | exact Below.refl _ _ | apply below_alloc | apply pw_below_drewN | apply below_drew1 | refine below_set ?_ (by omega) | refine below_step ?_ hbl)
     · rw [if_neg he] at hh
       simp only [treebridgeref01_Parse.z, Option.some.injEq, Prod.mk.injEq] at hh
       obtain ⟨rfl, rfl, rfl, rfl, rfl, rfl, rfl, rfl⟩ := hh
       go_wp2_with fail
       refine bodyPost_ret (v := .tuple #[.agg #[.string ⟨#[]⟩, .string ⟨#[]⟩, .bool false, .int .i64 0, .int .i64 0, .int .i64 0, .string ⟨#[]⟩], .int .i64 2]) (by simp [results, Try.results35, go_sem, hc, hz, hw2, hw3]) rfl ⟨rfl, ?_⟩
       repeat (with_reducible first | exact Below.refl _ _ | apply below_alloc | apply pw_below_drewN | apply below_drew1 | refine below_set ?_ (by omega) | refine below_step ?_ hbl)

set_option maxHeartbeats 4000000 in
set_option maxRecDepth 100000 in
theorem treebridgeref01_Parse.plain2 (k : Nat) (s : ByteArray) (r1 r2 : ByteArray) (r3 : Bool) (r4 r5 r6 : Int) (r7 : ByteArray) (r8 : Int) (w : World) (h1 : 14 ≤ s.size) (hs : s.size ≤ 9223372036854775807) (q1 : ¬ bt s 12 = 129)
    (h : treebridgeref01_Parse.rest k s false 0 0 12 = some (r1, r2, r3, r4, r5, r6, r7, r8)) :
    Calls Try.prog 35 #[.string s] w fun e w' => e = .returned (.tuple #[.agg #[.string r1, .string r2, .bool r3, .int .i64 r4, .int .i64 r5, .int .i64 r6, .string r7], .int .i64 r8]) ∧ Below w.heap.size w w' := by
  have hu23 := Try.underlying23
  have c1 : decide ((s.size : Int) < 14) = false := decide_eq_false (by omega)
  have c2 : decide (s.size < 14) = false := decide_eq_false (by omega)
  have d1 : (6 : Int) ≤ s.size := by omega
  have d2 : (12 : Int) ≤ s.size := by omega
  have d3 : (6 : Nat) ≤ s.size := by omega
  have d4 : (12 : Nat) ≤ s.size := by omega
  have d5 : (14 : Int) ≤ s.size := by omega
  have d6 : (14 : Nat) ≤ s.size := by omega
  have e1 : IntKind.i64.wrap 14 = 14 := by decide
  have hw2 : w.heap.size < w.heap.size + 1 + 1 := by omega
  have hw3 : w.heap.size + 1 < w.heap.size + 1 + 1 := by omega
  have p12 : 12 < s.size := by omega
  have p13 : 13 < s.size := by omega
  have x12 : (s[12].toNat : Int) = bt s 12 := bt_at s 12 p12
  have x13 : (s[13].toNat : Int) = bt s 13 := bt_at s 13 p13
  have b12 := bt_range s 12
  have b13 := bt_range s 13
  have e4 : IntKind.i64.wrap 13 = 13 := by decide
  have e12a : IntKind.i64.wrap (bt s 12 * 256) = bt s 12 * 256 := IntWalk.i64_in _ (by omega)
  have e12b : IntKind.i64.wrap (bt s 12 * 256 + bt s 13) = bt s 12 * 256 + bt s 13 := IntWalk.i64_in _ (by omega)
  have e12c : IntKind.i64.wrap 13 = 13 := by decide
  have hN : bt s 12 * 256 + bt s (12 + 1) = bt s 12 * 256 + bt s 13 := rfl
  have Hh := Aside0.mk h
  clear h
  go_enter Try.func35, Try.ntmps35
  go_wp2
  go_region
  go_wp2_with fail
  go_region
  all_goals
   by_cases c : 1500 < (s.size : Int) - 14
   · have hh := Hh.out
     unfold treebridgeref01_Parse.rest at hh
     simp only [hN] at hh
     rw [if_pos (by omega)] at hh
     simp only [treebridgeref01_Parse.z, Option.some.injEq, Prod.mk.injEq] at hh
     obtain ⟨rfl, rfl, rfl, rfl, rfl, rfl, rfl, rfl⟩ := hh
     have c' : 1500 < ((s.size - 14 : Nat) : Int) := by omega
     go_wp2_with fail
     refine bodyPost_ret (v := .tuple #[.agg #[.string ⟨#[]⟩, .string ⟨#[]⟩, .bool false, .int .i64 0, .int .i64 0, .int .i64 0, .string ⟨#[]⟩], .int .i64 4]) (by simp [results, Try.results35, go_sem, hw2, hw3]) rfl ⟨rfl, ?_⟩
     repeat (with_reducible first | exact Below.refl _ _ | apply below_alloc | apply pw_below_drewN | apply below_drew1 | refine below_set ?_ (by omega))
   · have hh := Hh.out
     unfold treebridgeref01_Parse.rest at hh
     simp only [hN] at hh
     rw [if_neg (by omega)] at hh
     obtain ⟨⟨b, e⟩, hb, hh⟩ := Option.bind_eq_some_iff.mp hh
     have Hb := Aside0.mk hb
     clear hb
     have c' : ((s.size - 14 : Nat) : Int) ≤ 1500 := by omega
     go_wp2_with fail
     refine (treebridgeref01_Print.calls k _ _ _ _ _ _ _ b e _ Hb.out).mono ?_
     rintro e1 w1 ⟨rfl, hbl⟩
     obtain ⟨hc, hf⟩ := bcell hbl
     have hz := hbl.size
     simp [World.size_setCell, World.size_alloc] at hz
     by_cases he : e = 0
     · by_cases hs2 : b = s
       · rw [if_pos he, if_pos hs2] at hh
         simp only [Option.some.injEq, Prod.mk.injEq] at hh
         obtain ⟨rfl, rfl, rfl, rfl, rfl, rfl, rfl, rfl⟩ := hh
         subst he
         have hs3 : (b.toList == s.toList) = true := by rw [hs2]; exact beq_self_eq_true _
         clear hs2
         go_wp2_with fail
         refine bodyPost_ret (v := .tuple #[.agg #[.string (s.extract 0 6), .string (s.extract 6 12), .bool false, .int .i64 0, .int .i64 0, .int .i64 (bt s 12 * 256 + bt s 13), .string (s.extract 14 s.size)], .int .i64 0]) (by simp [results, Try.results35, go_sem, hc, hz, hw2, hw3]) rfl ⟨rfl, ?_⟩
         repeat (with_reducible first | exact Below.refl _ _ | apply below_alloc | apply pw_below_drewN | apply below_drew1 | refine below_set ?_ (by omega) | refine below_step ?_ hbl)
       · rw [if_pos he, if_neg hs2] at hh
         simp only [treebridgeref01_Parse.z, Option.some.injEq, Prod.mk.injEq] at hh
         obtain ⟨rfl, rfl, rfl, rfl, rfl, rfl, rfl, rfl⟩ := hh
         subst he
         have hs3 := treebridgeref01_Parse.ne hs2
         clear hs2
         go_wp2_with fail
         refine bodyPost_ret (v := .tuple #[.agg #[.string ⟨#[]⟩, .string ⟨#[]⟩, .bool false, .int .i64 0, .int .i64 0, .int .i64 0, .string ⟨#[]⟩], .int .i64 2]) (by simp [results, Try.results35, go_sem, hc, hz, hw2, hw3]) rfl ⟨rfl, ?_⟩
         repeat (with_reducible first | exact Below.refl _ _ | apply below_alloc | apply pw_below_drewN | apply below_drew1 | refine below_set ?_ (by omega) | refine below_step ?_ hbl)
     · rw [if_neg he] at hh
       simp only [treebridgeref01_Parse.z, Option.some.injEq, Prod.mk.injEq] at hh
       obtain ⟨rfl, rfl, rfl, rfl, rfl, rfl, rfl, rfl⟩ := hh
       go_wp2_with fail
       refine bodyPost_ret (v := .tuple #[.agg #[.string ⟨#[]⟩, .string ⟨#[]⟩, .bool false, .int .i64 0, .int .i64 0, .int .i64 0, .string ⟨#[]⟩], .int .i64 2]) (by simp [results, Try.results35, go_sem, hc, hz, hw2, hw3]) rfl ⟨rfl, ?_⟩
       repeat (with_reducible first | exact Below.refl _ _ | apply below_alloc | apply pw_below_drewN | apply below_drew1 | refine below_set ?_ (by omega) | refine below_step ?_ hbl)

set_option maxHeartbeats 4000000 in
set_option maxRecDepth 100000 in
theorem treebridgeref01_Parse.cut (s : ByteArray) (w : World) (h1 : 14 ≤ s.size) (h2 : s.size < 18) (hs : s.size ≤ 9223372036854775807) (q1 : bt s 12 = 129) (q2 : bt s 13 = 0) :
    Calls Try.prog 35 #[.string s] w fun e w' => e = .returned (.tuple #[.agg #[.string ⟨#[]⟩, .string ⟨#[]⟩, .bool false, .int .i64 0, .int .i64 0, .int .i64 0, .string ⟨#[]⟩], .int .i64 3]) ∧ Below w.heap.size w w' := by
  have hu23 := Try.underlying23
  have c1 : decide ((s.size : Int) < 14) = false := decide_eq_false (by omega)
  have c2 : decide (s.size < 14) = false := decide_eq_false (by omega)
  have d1 : (6 : Int) ≤ s.size := by omega
  have d2 : (12 : Int) ≤ s.size := by omega
  have d3 : (6 : Nat) ≤ s.size := by omega
  have d4 : (12 : Nat) ≤ s.size := by omega
  have d5 : (14 : Int) ≤ s.size := by omega
  have d6 : (14 : Nat) ≤ s.size := by omega
  have e1 : IntKind.i64.wrap 14 = 14 := by decide
  have hw2 : w.heap.size < w.heap.size + 1 + 1 := by omega
  have hw3 : w.heap.size + 1 < w.heap.size + 1 + 1 := by omega
  have p12 : 12 < s.size := by omega
  have p13 : 13 < s.size := by omega
  have x12 : (s[12].toNat : Int) = bt s 12 := bt_at s 12 p12
  have x13 : (s[13].toNat : Int) = bt s 13 := bt_at s 13 p13
  have b12 := bt_range s 12
  have b13 := bt_range s 13
  have e4 : IntKind.i64.wrap 13 = 13 := by decide
  have c3 : decide ((s.size : Int) < 18) = true := decide_eq_true (by omega)
  have c4 : decide (s.size < 18) = true := decide_eq_true (by omega)
  go_enter Try.func35, Try.ntmps35
  go_wp2
  go_region
  go_wp2_with fail
  refine bodyPost_ret (v := .tuple #[.agg #[.string ⟨#[]⟩, .string ⟨#[]⟩, .bool false, .int .i64 0, .int .i64 0, .int .i64 0, .string ⟨#[]⟩], .int .i64 3]) (by simp [results, Try.results35, go_sem, hw2, hw3]) rfl ⟨rfl, ?_⟩
  repeat (with_reducible first | exact Below.refl _ _ | apply below_alloc | apply pw_below_drewN | apply below_drew1 | refine below_set ?_ (by omega))

set_option maxHeartbeats 4000000 in
set_option maxRecDepth 100000 in
theorem treebridgeref01_Parse.tagged (k : Nat) (s : ByteArray) (r1 r2 : ByteArray) (r3 : Bool) (r4 r5 r6 : Int) (r7 : ByteArray) (r8 : Int) (w : World) (h1 : 18 ≤ s.size) (hs : s.size ≤ 9223372036854775807) (q1 : bt s 12 = 129) (q2 : bt s 13 = 0)
    (h : treebridgeref01_Parse.rest k s true ((bt s 14 * 256 + bt s 15) / 8192) ((bt s 14 * 256 + bt s 15) % 4096) 16 = some (r1, r2, r3, r4, r5, r6, r7, r8)) :
    Calls Try.prog 35 #[.string s] w fun e w' => e = .returned (.tuple #[.agg #[.string r1, .string r2, .bool r3, .int .i64 r4, .int .i64 r5, .int .i64 r6, .string r7], .int .i64 r8]) ∧ Below w.heap.size w w' := by
  have hu23 := Try.underlying23
  have c1 : decide ((s.size : Int) < 14) = false := decide_eq_false (by omega)
  have c2 : decide (s.size < 14) = false := decide_eq_false (by omega)
  have d1 : (6 : Int) ≤ s.size := by omega
  have d2 : (12 : Int) ≤ s.size := by omega
  have d3 : (6 : Nat) ≤ s.size := by omega
  have d4 : (12 : Nat) ≤ s.size := by omega
  have d5 : (14 : Int) ≤ s.size := by omega
  have d6 : (14 : Nat) ≤ s.size := by omega
  have e1 : IntKind.i64.wrap 18 = 18 := by decide
  have hw2 : w.heap.size < w.heap.size + 1 + 1 := by omega
  have hw3 : w.heap.size + 1 < w.heap.size + 1 + 1 := by omega
  have p12 : 12 < s.size := by omega
  have p13 : 13 < s.size := by omega
  have x12 : (s[12].toNat : Int) = bt s 12 := bt_at s 12 p12
  have x13 : (s[13].toNat : Int) = bt s 13 := bt_at s 13 p13
  have b12 := bt_range s 12
  have b13 := bt_range s 13
  have e4 : IntKind.i64.wrap 13 = 13 := by decide
  have c3 : decide ((s.size : Int) < 18) = false := decide_eq_false (by omega)
  have c4 : decide (s.size < 18) = false := decide_eq_false (by omega)
  have d7 : (18 : Int) ≤ s.size := by omega
  have d8 : (18 : Nat) ≤ s.size := by omega
  have p14 : 14 < s.size := by omega
  have x14 : (s[14].toNat : Int) = bt s 14 := bt_at s 14 p14
  have b14 := bt_range s 14
  have p15 : 15 < s.size := by omega
  have x15 : (s[15].toNat : Int) = bt s 15 := bt_at s 15 p15
  have b15 := bt_range s 15
  have p16 : 16 < s.size := by omega
  have x16 : (s[16].toNat : Int) = bt s 16 := bt_at s 16 p16
  have b16 := bt_range s 16
  have p17 : 17 < s.size := by omega
  have x17 : (s[17].toNat : Int) = bt s 17 := bt_at s 17 p17
  have b17 := bt_range s 17
  have e14a : IntKind.i64.wrap (bt s 14 * 256) = bt s 14 * 256 := IntWalk.i64_in _ (by omega)
  have e14b : IntKind.i64.wrap (bt s 14 * 256 + bt s 15) = bt s 14 * 256 + bt s 15 := IntWalk.i64_in _ (by omega)
  have e14c : IntKind.i64.wrap 15 = 15 := by decide
  have e16a : IntKind.i64.wrap (bt s 16 * 256) = bt s 16 * 256 := IntWalk.i64_in _ (by omega)
  have e16b : IntKind.i64.wrap (bt s 16 * 256 + bt s 17) = bt s 16 * 256 + bt s 17 := IntWalk.i64_in _ (by omega)
  have e16c : IntKind.i64.wrap 17 = 17 := by decide
  have hN : bt s 16 * 256 + bt s (16 + 1) = bt s 16 * 256 + bt s 17 := rfl
  have Hh := Aside0.mk h
  clear h
  go_enter Try.func35, Try.ntmps35
  go_wp2
  go_region
  go_wp2_with fail
  go_region
  all_goals
   go_wp2_with fail
   go_region
   all_goals
    by_cases c : 1500 < (s.size : Int) - 18
    · have hh := Hh.out
      unfold treebridgeref01_Parse.rest at hh
      simp only [hN] at hh
      rw [if_pos (by omega)] at hh
      simp only [treebridgeref01_Parse.z, Option.some.injEq, Prod.mk.injEq] at hh
      obtain ⟨rfl, rfl, rfl, rfl, rfl, rfl, rfl, rfl⟩ := hh
      have c' : 1500 < ((s.size - 18 : Nat) : Int) := by omega
      go_wp2_with fail
      refine bodyPost_ret (v := .tuple #[.agg #[.string ⟨#[]⟩, .string ⟨#[]⟩, .bool false, .int .i64 0, .int .i64 0, .int .i64 0, .string ⟨#[]⟩], .int .i64 4]) (by simp [results, Try.results35, go_sem, hw2, hw3]) rfl ⟨rfl, ?_⟩
      repeat (with_reducible first | exact Below.refl _ _ | apply below_alloc | apply pw_below_drewN | apply below_drew1 | refine below_set ?_ (by omega))
    · have hh := Hh.out
      unfold treebridgeref01_Parse.rest at hh
      simp only [hN] at hh
      rw [if_neg (by omega)] at hh
      obtain ⟨⟨b, e⟩, hb, hh⟩ := Option.bind_eq_some_iff.mp hh
      have Hb := Aside0.mk hb
      clear hb
      have c' : ((s.size - 18 : Nat) : Int) ≤ 1500 := by omega
      go_wp2_with fail
      refine (treebridgeref01_Print.calls k _ _ _ _ _ _ _ b e _ Hb.out).mono ?_
      rintro e1 w1 ⟨rfl, hbl⟩
      obtain ⟨hc, hf⟩ := bcell hbl
      have hz := hbl.size
      simp [World.size_setCell, World.size_alloc] at hz
      by_cases he : e = 0
      · by_cases hs2 : b = s
        · rw [if_pos he, if_pos hs2] at hh
          simp only [Option.some.injEq, Prod.mk.injEq] at hh
          obtain ⟨rfl, rfl, rfl, rfl, rfl, rfl, rfl, rfl⟩ := hh
          subst he
          have hs3 : (b.toList == s.toList) = true := by rw [hs2]; exact beq_self_eq_true _
          clear hs2
          go_wp2_with fail
          refine bodyPost_ret (v := .tuple #[.agg #[.string (s.extract 0 6), .string (s.extract 6 12), .bool true, .int .i64 ((bt s 14 * 256 + bt s 15) / 8192), .int .i64 ((bt s 14 * 256 + bt s 15) % 4096), .int .i64 (bt s 16 * 256 + bt s 17), .string (s.extract 18 s.size)], .int .i64 0]) (by simp [results, Try.results35, go_sem, hc, hz, hw2, hw3]) rfl ⟨rfl, ?_⟩
          repeat (with_reducible first | exact Below.refl _ _ | apply below_alloc | apply pw_below_drewN | apply below_drew1 | refine below_set ?_ (by omega) | refine below_step ?_ hbl)
        · rw [if_pos he, if_neg hs2] at hh
          simp only [treebridgeref01_Parse.z, Option.some.injEq, Prod.mk.injEq] at hh
          obtain ⟨rfl, rfl, rfl, rfl, rfl, rfl, rfl, rfl⟩ := hh
          subst he
          have hs3 := treebridgeref01_Parse.ne hs2
          clear hs2
          go_wp2_with fail
          refine bodyPost_ret (v := .tuple #[.agg #[.string ⟨#[]⟩, .string ⟨#[]⟩, .bool false, .int .i64 0, .int .i64 0, .int .i64 0, .string ⟨#[]⟩], .int .i64 2]) (by simp [results, Try.results35, go_sem, hc, hz, hw2, hw3]) rfl ⟨rfl, ?_⟩
          repeat (with_reducible first | exact Below.refl _ _ | apply below_alloc | apply pw_below_drewN | apply below_drew1 | refine below_set ?_ (by omega) | refine below_step ?_ hbl)
      · rw [if_neg he] at hh
        simp only [treebridgeref01_Parse.z, Option.some.injEq, Prod.mk.injEq] at hh
        obtain ⟨rfl, rfl, rfl, rfl, rfl, rfl, rfl, rfl⟩ := hh
        go_wp2_with fail
        refine bodyPost_ret (v := .tuple #[.agg #[.string ⟨#[]⟩, .string ⟨#[]⟩, .bool false, .int .i64 0, .int .i64 0, .int .i64 0, .string ⟨#[]⟩], .int .i64 2]) (by simp [results, Try.results35, go_sem, hc, hz, hw2, hw3]) rfl ⟨rfl, ?_⟩
        repeat (with_reducible first | exact Below.refl _ _ | apply below_alloc | apply pw_below_drewN | apply below_drew1 | refine below_set ?_ (by omega) | refine below_step ?_ hbl)

theorem treebridgeref01_Parse.calls (k : Nat) (a0 : ByteArray) (r1 r2 : ByteArray) (r3 : Bool) (r4 r5 r6 : Int) (r7 : ByteArray) (r8 : Int) (w : World) (h : treebridgeref01_Parse.f k a0 = some (r1, r2, r3, r4, r5, r6, r7, r8)) :
    Calls Try.prog 35 #[.string a0] w fun e w' => e = .returned (.tuple #[.agg #[.string r1, .string r2, .bool r3, .int .i64 r4, .int .i64 r5, .int .i64 r6, .string r7], .int .i64 r8]) ∧ Below w.heap.size w w' := by
  unfold treebridgeref01_Parse.f at h
  by_cases hs : a0.size ≤ 9223372036854775807
  · rw [if_pos hs] at h
    by_cases h1 : (a0.size : Int) < 14
    · rw [if_pos h1] at h
      simp only [treebridgeref01_Parse.z, Option.some.injEq, Prod.mk.injEq] at h
      obtain ⟨rfl, rfl, rfl, rfl, rfl, rfl, rfl, rfl⟩ := h
      exact treebridgeref01_Parse.short a0 w (by omega)
    · rw [if_neg h1] at h
      by_cases q1 : bt a0 12 = 129
      · by_cases q2 : bt a0 13 = 0
        · rw [if_pos ⟨q1, q2⟩] at h
          by_cases h2 : (a0.size : Int) < 18
          · rw [if_pos h2] at h
            simp only [treebridgeref01_Parse.z, Option.some.injEq, Prod.mk.injEq] at h
            obtain ⟨rfl, rfl, rfl, rfl, rfl, rfl, rfl, rfl⟩ := h
            exact treebridgeref01_Parse.cut a0 w (by omega) (by omega) hs q1 q2
          · rw [if_neg h2] at h
            exact treebridgeref01_Parse.tagged k a0 r1 r2 r3 r4 r5 r6 r7 r8 w (by omega) hs q1 q2 h
        · rw [if_neg (fun h => q2 h.2)] at h
          exact treebridgeref01_Parse.plain1 k a0 r1 r2 r3 r4 r5 r6 r7 r8 w (by omega) hs q1 q2 h
      · rw [if_neg (fun h => q1 h.1)] at h
        exact treebridgeref01_Parse.plain2 k a0 r1 r2 r3 r4 r5 r6 r7 r8 w (by omega) hs q1 h
  · rw [if_neg hs] at h
    exact absurd h (by simp)


end Go.Proofs.Yticobcojmpakfaa.P
