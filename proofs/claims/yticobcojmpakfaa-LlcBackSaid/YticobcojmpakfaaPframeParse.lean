-- Written by a program of this session (pp.py, over the kit's printer and texts given by hand).
import Derived.Test.YticobcojmpakfaaP0
import Derived.Test.YticobcojmpakfaaPframeRight
import Derived.Test.YticobcojmpakfaaPstringsHasPrefix
namespace Go.Proofs.Yticobcojmpakfaa.P
open Go.RowKit Go.Proofs.YticobcojmpakfaaW.PrintWords Go.Proofs.YticobcojmpakfaaW.PrintLast Go.Proofs.YticobcojmpakfaaW.PrintMore
attribute [local go_sem] max2_int min2_int max_two min_two max_three min_three max_four min_four   -- for this text's walks alone
set_option linter.unusedVariables false
set_option linter.unusedSimpArgs false


/-! ### given by hand: frame_Parse: function 31 -/
set_option maxHeartbeats 1000000 in
theorem frame_number (s : ByteArray) (g : Nat) (a : Int) (w : World) (hc : w.cell? ⟨g, 0, none⟩ = some (.string s)) (h0 : 0 ≤ a) (h1 : a + 1 < s.size) (hs : s.size ≤ 9223372036854775807) :
    Calls Try.prog 68 #[.int .i64 a, .pointer (some ⟨g, 0, none⟩)] w fun e w' => e = .returned (.int .i64 (bt s a * 256 + bt s (a + 1))) ∧ Drawn0 w w' := by
  have hb0 := bt_range s a
  have hb1 := bt_range s (a + 1)
  have hor := or8 (bt s a) (bt s (a + 1)) hb0 hb1
  have Hor := Aside0.mk hor
  clear hor
  have p1 : a < (s.size : Int) := by omega
  have p2 : a.toNat < s.size := by omega
  have p3 : (a + 1).toNat < s.size := by omega
  have q4 : 0 ≤ a + 1 := by omega
  have hx0 : (s[a.toNat].toNat : Int) = bt s a := bt_at s a p2
  have hx1 : (s[(a + 1).toNat].toNat : Int) = bt s (a + 1) := bt_at s (a + 1) p3
  have hx2 : IntKind.i64.wrap (a + 1) = a + 1 := IntWalk.i64_in _ (by omega)
  go_enter Try.func68, Try.ntmps68
  go_wp2
  go_quiet (fail)
  go_wp2
  go_ret
  rw [← Hor.out]
  exact ⟨rfl, ⟨_, rfl⟩⟩

def frame_Parse.z (e : Int) : ByteArray × ByteArray × Bool × Int × Int × Int × ByteArray × Int := (⟨#[]⟩, ⟨#[]⟩, false, 0, 0, 0, ⟨#[]⟩, e)
/-- What stands behind a tag, or behind the addresses. -/
def frame_Parse.rest (k : Nat) (s : ByteArray) (tg : Bool) (p v a : Int) (ok : Bool) : Option (ByteArray × ByteArray × Bool × Int × Int × Int × ByteArray × Int) :=
  if 1500 < (s.size : Int) - (a + 2) then some (frame_Parse.z 4)
  else if ok = false then some (frame_Parse.z 2)
  else (frame_Right.f k (s.extract 0 6) (s.extract 6 12) tg p v (bt s a * 256 + bt s (a + 1)) (s.extract (a + 2).toNat s.size)).bind fun r => if r = true then some (s.extract 0 6, s.extract 6 12, tg, p, v, bt s a * 256 + bt s (a + 1), s.extract (a + 2).toNat s.size, 0) else some (frame_Parse.z 2)
def frame_Parse.f (k : Nat) (s : ByteArray) : Option (ByteArray × ByteArray × Bool × Int × Int × Int × ByteArray × Int) :=
  if s.size ≤ 9223372036854775807 then
    if (s.size : Int) < 14 then some (frame_Parse.z 3)
    else (strings_HasPrefix.f (s.extract 12 s.size) (⟨#[129, 0]⟩ : ByteArray)).bind fun t =>
      if t = true then
        if (s.size : Int) < 18 then some (frame_Parse.z 3)
        else frame_Parse.rest k s true ((bt s 14 * 256 + bt s 15) / 8192) (Go.bits .and .i64 (bt s 14 * 256 + bt s 15) 4095) 16 (Go.bits .and .i64 (bt s 14 * 256 + bt s 15) 4096 == 0)
      else frame_Parse.rest k s false 0 0 12 true
  else none
theorem frame_Parse.mono : ∀ a0 k, LeO (frame_Parse.f k a0) (frame_Parse.f (k + 1) a0) := by
  intro a0 k
  unfold frame_Parse.f frame_Parse.rest
  repeat' first
      | (with_reducible exact frame_Right.mono _ _ _ _ _ _ _ _)
      | (with_reducible exact LeO.refl _)
      | (with_reducible exact LeO.none _)
      | (with_reducible refine LeO.ite ?_ ?_)
      | (with_reducible refine LeO.bind ?_ (fun _ => ?_))

set_option maxHeartbeats 2000000 in
set_option maxRecDepth 100000 in
theorem frame_Parse.short (s : ByteArray) (w : World) (h1 : s.size < 14) :
    Calls Try.prog 31 #[.string s] w fun e w' => e = .returned (.tuple #[.agg #[.string ⟨#[]⟩, .string ⟨#[]⟩, .bool false, .int .i64 0, .int .i64 0, .int .i64 0, .string ⟨#[]⟩], .int .i64 3]) ∧ Below w.heap.size w w' := by
  have hu23 := Try.underlying23
  have c1 : decide ((s.size : Int) < 14) = true := decide_eq_true (by omega)
  have c2 : decide (s.size < 14) = true := decide_eq_true (by omega)
  go_enter Try.func31, Try.ntmps31
  go_wp2
  refine bodyPost_ret (v := .tuple #[.agg #[.string ⟨#[]⟩, .string ⟨#[]⟩, .bool false, .int .i64 0, .int .i64 0, .int .i64 0, .string ⟨#[]⟩], .int .i64 3]) (by simp [results, Try.results31, go_sem]) rfl ⟨rfl, ?_⟩
  exact ((Below.refl _ _).alloc (Nat.le_refl _) _).alloc (by simp) _
set_option maxHeartbeats 1000000 in
set_option maxRecDepth 100000 in
theorem frame_Parse.plain (k : Nat) (s : ByteArray) (r1 r2 : ByteArray) (r3 : Bool) (r4 r5 r6 : Int) (r7 : ByteArray) (r8 : Int) (w : World) (h1 : 14 ≤ s.size) (hs : s.size ≤ 9223372036854775807) (ht : strings_HasPrefix.f (s.extract 12 s.size) (⟨#[129, 0]⟩ : ByteArray) = some false)
    (h : frame_Parse.rest k s false 0 0 12 true = some (r1, r2, r3, r4, r5, r6, r7, r8)) :
    Calls Try.prog 31 #[.string s] w fun e w' => e = .returned (.tuple #[.agg #[.string r1, .string r2, .bool r3, .int .i64 r4, .int .i64 r5, .int .i64 r6, .string r7], .int .i64 r8]) ∧ Below w.heap.size w w' := by
  have hu23 := Try.underlying23
  have hmf := mkf Try.prog
  have c1 : decide ((s.size : Int) < 14) = false := decide_eq_false (by omega)
  have c2 : decide (s.size < 14) = false := decide_eq_false (by omega)
  have d1 : (6 : Int) ≤ s.size := by omega
  have d2 : (12 : Int) ≤ s.size := by omega
  have d3 : (6 : Nat) ≤ s.size := by omega
  have d4 : (12 : Nat) ≤ s.size := by omega
  have d5 : (14 : Int) ≤ s.size := by omega
  have d6 : (14 : Nat) ≤ s.size := by omega
  have e1 : IntKind.i64.wrap 14 = 14 := by decide
  have Ht := Aside0.mk ht
  have Hh := Aside0.mk h
  clear ht h
  go_enter Try.func31, Try.ntmps31
  go_wp2
  go_region
  go_wp2_with fail
  refine (strings_HasPrefix.calls _ _ _ _ Ht.out).mono ?_
  rintro e w' ⟨rfl, ⟨n, rfl⟩⟩
  go_wp2_with fail
  go_region_with (go_at_call 68; refine (frame_number s w.heap.size 12 _ (by go_simp) (by omega) (by omega) hs).mono ?_; rintro e w' ⟨rfl, ⟨m, rfl⟩⟩)
  all_goals
    by_cases c : 1500 < (s.size : Int) - 14
    · have hh := Hh.out
      unfold frame_Parse.rest at hh
      rw [if_pos (by omega)] at hh
      simp only [frame_Parse.z, Option.some.injEq, Prod.mk.injEq] at hh
      obtain ⟨rfl, rfl, rfl, rfl, rfl, rfl, rfl, rfl⟩ := hh
      have c' : 1500 < ((s.size - 14 : Nat) : Int) := by omega
      go_wp2_with fail
      refine bodyPost_ret (v := .tuple #[.agg #[.string ⟨#[]⟩, .string ⟨#[]⟩, .bool false, .int .i64 0, .int .i64 0, .int .i64 0, .string ⟨#[]⟩], .int .i64 4]) (by simp [results, Try.results31, go_sem]) rfl ⟨rfl, ?_⟩
      repeat (with_reducible first | exact Below.refl _ _ | apply below_alloc | apply pw_below_drewN | apply below_drew1 | refine below_set ?_ (by omega))
    · have hh := Hh.out
      unfold frame_Parse.rest at hh
      rw [if_neg (by omega), if_neg (by simp)] at hh
      obtain ⟨b, hb, hh⟩ := Option.bind_eq_some_iff.mp hh
      have Hb := Aside0.mk hb
      clear hb
      have c' : ((s.size - 14 : Nat) : Int) ≤ 1500 := by omega
      go_wp2_with fail
      refine (frame_Right.calls k _ _ _ _ _ _ _ b _ Hb.out).mono ?_
      rintro e w1 ⟨rfl, hbl⟩
      obtain ⟨hc, hf⟩ := bcell hbl
      have hz := hbl.size
      simp only [World.size_setCell, World.size_alloc] at hz
      cases b with
      | true =>
        rw [if_pos rfl] at hh
        simp only [Option.some.injEq, Prod.mk.injEq] at hh
        obtain ⟨rfl, rfl, rfl, rfl, rfl, rfl, rfl, rfl⟩ := hh
        go_wp2_with fail
        refine bodyPost_ret (v := .tuple #[.agg #[.string (s.extract 0 6), .string (s.extract 6 12), .bool false, .int .i64 0, .int .i64 0, .int .i64 (bt s 12 * 256 + bt s (13)), .string (s.extract 14 s.size)], .int .i64 0]) (by simp [results, Try.results31, go_sem, hc, hz]) rfl ⟨rfl, ?_⟩
        repeat (with_reducible first | exact Below.refl _ _ | apply below_alloc | apply pw_below_drewN | apply below_drew1 | refine below_set ?_ (by omega) | refine below_step ?_ hbl)
      | false =>
        rw [if_neg (by simp)] at hh
        simp only [frame_Parse.z, Option.some.injEq, Prod.mk.injEq] at hh
        obtain ⟨rfl, rfl, rfl, rfl, rfl, rfl, rfl, rfl⟩ := hh
        go_wp2_with fail
        refine bodyPost_ret (v := .tuple #[.agg #[.string ⟨#[]⟩, .string ⟨#[]⟩, .bool false, .int .i64 0, .int .i64 0, .int .i64 0, .string ⟨#[]⟩], .int .i64 2]) (by simp [results, Try.results31, go_sem, hc, hz]) rfl ⟨rfl, ?_⟩
        repeat (with_reducible first | exact Below.refl _ _ | apply below_alloc | apply pw_below_drewN | apply below_drew1 | refine below_set ?_ (by omega) | refine below_step ?_ hbl)

set_option maxHeartbeats 1000000 in
set_option maxRecDepth 100000 in
theorem frame_Parse.tagged (k : Nat) (s : ByteArray) (r1 r2 : ByteArray) (r3 : Bool) (r4 r5 r6 : Int) (r7 : ByteArray) (r8 : Int) (w : World) (h1 : 18 ≤ s.size) (hs : s.size ≤ 9223372036854775807) (ht : strings_HasPrefix.f (s.extract 12 s.size) (⟨#[129, 0]⟩ : ByteArray) = some true)
    (h : frame_Parse.rest k s true ((bt s 14 * 256 + bt s 15) / 8192) (Go.bits .and .i64 (bt s 14 * 256 + bt s 15) 4095) 16 (Go.bits .and .i64 (bt s 14 * 256 + bt s 15) 4096 == 0) = some (r1, r2, r3, r4, r5, r6, r7, r8)) :
    Calls Try.prog 31 #[.string s] w fun e w' => e = .returned (.tuple #[.agg #[.string r1, .string r2, .bool r3, .int .i64 r4, .int .i64 r5, .int .i64 r6, .string r7], .int .i64 r8]) ∧ Below w.heap.size w w' := by
  have hu23 := Try.underlying23
  have hmf := mkf Try.prog
  have c1 : decide ((s.size : Int) < 14) = false := decide_eq_false (by omega)
  have c2 : decide (s.size < 14) = false := decide_eq_false (by omega)
  have d1 : (6 : Int) ≤ s.size := by omega
  have d2 : (12 : Int) ≤ s.size := by omega
  have d3 : (6 : Nat) ≤ s.size := by omega
  have d4 : (12 : Nat) ≤ s.size := by omega
  have d5 : (14 : Int) ≤ s.size := by omega
  have d6 : (14 : Nat) ≤ s.size := by omega
  have e1 : IntKind.i64.wrap 18 = 18 := by decide
  have d7 : (18 : Int) ≤ s.size := by omega
  have d8 : (18 : Nat) ≤ s.size := by omega
  have c3 : decide ((s.size : Int) < 18) = false := decide_eq_false (by omega)
  have c4 : decide (s.size < 18) = false := decide_eq_false (by omega)
  have b14 := bt_range s 14
  have b15 := bt_range s 15
  have b16 := bt_range s 16
  have b17 := bt_range s 17
  have Ht := Aside0.mk ht
  have Hh := Aside0.mk h
  clear ht h
  go_enter Try.func31, Try.ntmps31
  go_wp2
  go_region
  go_wp2_with fail
  refine (strings_HasPrefix.calls _ _ _ _ Ht.out).mono ?_
  rintro e w' ⟨rfl, ⟨n, rfl⟩⟩
  go_wp2_with fail
  refine (frame_number s w.heap.size 14 _ (by go_simp) (by omega) (by omega) hs).mono ?_
  rintro e w' ⟨rfl, ⟨m2, rfl⟩⟩
  go_wp2_with fail
  go_region_with (go_at_call 68; refine (frame_number s w.heap.size 16 _ (by go_simp) (by omega) (by omega) hs).mono ?_; rintro e w' ⟨rfl, ⟨m, rfl⟩⟩)
  all_goals
    by_cases c : 1500 < (s.size : Int) - 18
    · have hh := Hh.out
      unfold frame_Parse.rest at hh
      rw [if_pos (by omega)] at hh
      simp only [frame_Parse.z, Option.some.injEq, Prod.mk.injEq] at hh
      obtain ⟨rfl, rfl, rfl, rfl, rfl, rfl, rfl, rfl⟩ := hh
      have c' : 1500 < ((s.size - 18 : Nat) : Int) := by omega
      go_wp2_with fail
      refine bodyPost_ret (v := .tuple #[.agg #[.string ⟨#[]⟩, .string ⟨#[]⟩, .bool false, .int .i64 0, .int .i64 0, .int .i64 0, .string ⟨#[]⟩], .int .i64 4]) (by simp [results, Try.results31, go_sem]) rfl ⟨rfl, ?_⟩
      repeat (with_reducible first | exact Below.refl _ _ | apply below_alloc | apply pw_below_drewN | apply below_drew1 | refine below_set ?_ (by omega))
    · have hh := Hh.out
      unfold frame_Parse.rest at hh
      rw [if_neg (by omega)] at hh
      cases hok : (Go.bits .and .i64 (bt s 14 * 256 + bt s 15) 4096 == 0) with
      | false =>
       rw [hok, if_pos rfl] at hh
       simp only [frame_Parse.z, Option.some.injEq, Prod.mk.injEq] at hh
       obtain ⟨rfl, rfl, rfl, rfl, rfl, rfl, rfl, rfl⟩ := hh
       have c' : ((s.size - 18 : Nat) : Int) ≤ 1500 := by omega
       go_wp2_with fail
       refine bodyPost_ret (v := .tuple #[.agg #[.string ⟨#[]⟩, .string ⟨#[]⟩, .bool false, .int .i64 0, .int .i64 0, .int .i64 0, .string ⟨#[]⟩], .int .i64 2]) (by simp [results, Try.results31, go_sem]) rfl ⟨rfl, ?_⟩
       repeat (with_reducible first | exact Below.refl _ _ | apply below_alloc | apply pw_below_drewN | apply below_drew1 | refine below_set ?_ (by omega))
      | true =>
      rw [hok, if_neg (by simp)] at hh
      obtain ⟨b, hb, hh⟩ := Option.bind_eq_some_iff.mp hh
      have Hb := Aside0.mk hb
      clear hb
      have c' : ((s.size - 18 : Nat) : Int) ≤ 1500 := by omega
      go_wp2_with fail
      refine (frame_Right.calls k _ _ _ _ _ _ _ b _ Hb.out).mono ?_
      rintro e w1 ⟨rfl, hbl⟩
      obtain ⟨hc, hf⟩ := bcell hbl
      have hz := hbl.size
      simp only [World.size_setCell, World.size_alloc] at hz
      cases b with
      | true =>
        rw [if_pos rfl] at hh
        simp only [Option.some.injEq, Prod.mk.injEq] at hh
        obtain ⟨rfl, rfl, rfl, rfl, rfl, rfl, rfl, rfl⟩ := hh
        go_wp2_with fail
        refine bodyPost_ret (v := .tuple #[.agg #[.string (s.extract 0 6), .string (s.extract 6 12), .bool true, .int .i64 ((bt s 14 * 256 + bt s 15) / 8192), .int .i64 (Go.bits .and .i64 (bt s 14 * 256 + bt s 15) 4095), .int .i64 (bt s 16 * 256 + bt s 17), .string (s.extract 18 s.size)], .int .i64 0]) (by simp [results, Try.results31, go_sem, hc, hz]) rfl ⟨rfl, ?_⟩
        repeat (with_reducible first | exact Below.refl _ _ | apply below_alloc | apply pw_below_drewN | apply below_drew1 | refine below_set ?_ (by omega) | refine below_step ?_ hbl)
      | false =>
        rw [if_neg (by simp)] at hh
        simp only [frame_Parse.z, Option.some.injEq, Prod.mk.injEq] at hh
        obtain ⟨rfl, rfl, rfl, rfl, rfl, rfl, rfl, rfl⟩ := hh
        go_wp2_with fail
        refine bodyPost_ret (v := .tuple #[.agg #[.string ⟨#[]⟩, .string ⟨#[]⟩, .bool false, .int .i64 0, .int .i64 0, .int .i64 0, .string ⟨#[]⟩], .int .i64 2]) (by simp [results, Try.results31, go_sem, hc, hz]) rfl ⟨rfl, ?_⟩
        repeat (with_reducible first | exact Below.refl _ _ | apply below_alloc | apply pw_below_drewN | apply below_drew1 | refine below_set ?_ (by omega) | refine below_step ?_ hbl)

set_option maxHeartbeats 1000000 in
set_option maxRecDepth 100000 in
theorem frame_Parse.cut (s : ByteArray) (w : World) (h1 : 14 ≤ s.size) (h2 : s.size < 18) (hs : s.size ≤ 9223372036854775807) (ht : strings_HasPrefix.f (s.extract 12 s.size) (⟨#[129, 0]⟩ : ByteArray) = some true) :
    Calls Try.prog 31 #[.string s] w fun e w' => e = .returned (.tuple #[.agg #[.string ⟨#[]⟩, .string ⟨#[]⟩, .bool false, .int .i64 0, .int .i64 0, .int .i64 0, .string ⟨#[]⟩], .int .i64 3]) ∧ Below w.heap.size w w' := by
  have hu23 := Try.underlying23
  have hmf := mkf Try.prog
  have c1 : decide ((s.size : Int) < 14) = false := decide_eq_false (by omega)
  have c2 : decide (s.size < 14) = false := decide_eq_false (by omega)
  have c3 : decide ((s.size : Int) < 18) = true := decide_eq_true (by omega)
  have c4 : decide (s.size < 18) = true := decide_eq_true (by omega)
  have d1 : (6 : Int) ≤ s.size := by omega
  have d2 : (12 : Int) ≤ s.size := by omega
  have d3 : (6 : Nat) ≤ s.size := by omega
  have d4 : (12 : Nat) ≤ s.size := by omega
  have d5 : (14 : Int) ≤ s.size := by omega
  have d6 : (14 : Nat) ≤ s.size := by omega
  have Ht := Aside0.mk ht
  clear ht
  go_enter Try.func31, Try.ntmps31
  go_wp2
  go_region
  go_wp2_with fail
  refine (strings_HasPrefix.calls _ _ _ _ Ht.out).mono ?_
  rintro e w' ⟨rfl, ⟨n, rfl⟩⟩
  go_wp2_with fail
  refine bodyPost_ret (v := .tuple #[.agg #[.string ⟨#[]⟩, .string ⟨#[]⟩, .bool false, .int .i64 0, .int .i64 0, .int .i64 0, .string ⟨#[]⟩], .int .i64 3]) (by simp [results, Try.results31, go_sem]) rfl ⟨rfl, ?_⟩
  repeat (with_reducible first | exact Below.refl _ _ | apply below_alloc | apply pw_below_drewN | apply below_drew1 | refine below_set ?_ (by omega))
theorem frame_Parse.calls (k : Nat) (a0 : ByteArray) (r1 r2 : ByteArray) (r3 : Bool) (r4 r5 r6 : Int) (r7 : ByteArray) (r8 : Int) (w : World) (h : frame_Parse.f k a0 = some (r1, r2, r3, r4, r5, r6, r7, r8)) :
    Calls Try.prog 31 #[.string a0] w fun e w' => e = .returned (.tuple #[.agg #[.string r1, .string r2, .bool r3, .int .i64 r4, .int .i64 r5, .int .i64 r6, .string r7], .int .i64 r8]) ∧ Below w.heap.size w w' := by
  unfold frame_Parse.f at h
  by_cases hs : a0.size ≤ 9223372036854775807
  · rw [if_pos hs] at h
    by_cases h1 : (a0.size : Int) < 14
    · rw [if_pos h1] at h
      simp only [frame_Parse.z, Option.some.injEq, Prod.mk.injEq] at h
      obtain ⟨rfl, rfl, rfl, rfl, rfl, rfl, rfl, rfl⟩ := h
      exact frame_Parse.short a0 w (by omega)
    · rw [if_neg h1] at h
      obtain ⟨t, ht, h⟩ := Option.bind_eq_some_iff.mp h
      cases t with
      | false =>
        rw [if_neg (by simp)] at h
        exact frame_Parse.plain k a0 r1 r2 r3 r4 r5 r6 r7 r8 w (by omega) hs ht h
      | true =>
        rw [if_pos rfl] at h
        by_cases h2 : (a0.size : Int) < 18
        · rw [if_pos h2] at h
          simp only [frame_Parse.z, Option.some.injEq, Prod.mk.injEq] at h
          obtain ⟨rfl, rfl, rfl, rfl, rfl, rfl, rfl, rfl⟩ := h
          exact frame_Parse.cut a0 w (by omega) (by omega) hs ht
        · rw [if_neg h2] at h
          exact frame_Parse.tagged k a0 r1 r2 r3 r4 r5 r6 r7 r8 w (by omega) hs ht h
  · rw [if_neg hs] at h
    exact absurd h (by simp)

end Go.Proofs.Yticobcojmpakfaa.P
