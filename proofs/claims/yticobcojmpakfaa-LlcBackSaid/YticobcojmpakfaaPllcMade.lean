-- Written by a program of this session (pp.py, over the kit's printer and texts given by hand).
import Derived.Test.YticobcojmpakfaaP0
import Derived.Test.YticobcojmpakfaaArr
import Derived.Test.YticobcojmpakfaaPframeRight
import Derived.Test.YticobcojmpakfaaPllcHeads
namespace Go.Proofs.Yticobcojmpakfaa.P
open Go.RowKit Go.Proofs.YticobcojmpakfaaW.PrintWords Go.Proofs.YticobcojmpakfaaW.PrintLast Go.Proofs.YticobcojmpakfaaW.PrintMore
attribute [local go_sem] max2_int min2_int max_two min_two max_three min_three max_four min_four   -- for this text's walks alone
set_option linter.unusedVariables false
set_option linter.unusedSimpArgs false


/-! ### given by hand: llc_made: function 63 -/
theorem llc_heads_is2 : llc_heads.f = some ((⟨#[]⟩ : ByteArray), (⟨#[66, 66, 3]⟩ : ByteArray), (⟨#[170, 170, 3, 0, 0, 12, 1, 11]⟩ : ByteArray)) := by decide +kernel
def llc_made.g (k : Nat) (d s pre i : ByteArray) : Option (ByteArray × ByteArray × Bool × Int × Int × Int × ByteArray × Int) :=
  if pre.size + i.size ≤ 9223372036854775807 then
    if ((pre ++ i).size : Int) > 1500 then some (⟨#[]⟩, ⟨#[]⟩, false, 0, 0, 0, ⟨#[]⟩, 4)
    else (frame_Right.f k d s false 0 0 ((pre ++ i).size : Int) (pre ++ i)).bind fun t => if t = true then some (d, s, false, 0, 0, ((pre ++ i).size : Int), pre ++ i, 0) else some (⟨#[]⟩, ⟨#[]⟩, false, 0, 0, 0, ⟨#[]⟩, 2)
  else none
def llc_made.f (k : Nat) (a0 a1 : ByteArray) (a2 : Int) (a3 : ByteArray) : Option (ByteArray × ByteArray × Bool × Int × Int × Int × ByteArray × Int) :=
  if a2 = 1 then llc_made.g k a0 a1 ⟨#[66, 66, 3]⟩ a3 else if a2 = 2 then llc_made.g k a0 a1 ⟨#[170, 170, 3, 0, 0, 12, 1, 11]⟩ a3 else none
theorem llc_made.mono : ∀ a0 a1 a2 a3 k, LeO (llc_made.f k a0 a1 a2 a3) (llc_made.f (k + 1) a0 a1 a2 a3) := by
  intro a0 a1 a2 a3 k
  unfold llc_made.f llc_made.g
  repeat' first
      | (with_reducible exact frame_Right.mono _ _ _ _ _ _ _ _)
      | (with_reducible exact LeO.refl _)
      | (with_reducible exact LeO.none _)
      | (with_reducible refine LeO.ite ?_ ?_)
      | (with_reducible refine LeO.bind ?_ (fun _ => ?_))
set_option maxHeartbeats 4000000 in
set_option maxRecDepth 100000 in
theorem llc_made_lit (k : Nat) (j : Int) (d s pre i : ByteArray) (r1 r2 : ByteArray) (r3 : Bool) (r4 r5 r6 : Int) (r7 : ByteArray) (r8 : Int) (w : World)
    (hix : ∀ w, (Instr.index 91 (.agg #[.string ⟨#[]⟩, .string ⟨#[66, 66, 3]⟩, .string ⟨#[170, 170, 3, 0, 0, 12, 1, 11]⟩]) (.int .i64 j)).run Try.prog w = .ok (.string pre) w)
    (hp : pre.size + i.size ≤ 9223372036854775807) (h : llc_made.g k d s pre i = some (r1, r2, r3, r4, r5, r6, r7, r8)) :
    Calls Try.prog 63 #[.string d, .string s, .int .i64 j, .string i] w fun e w' => e = .returned (.tuple #[.agg #[.string r1, .string r2, .bool r3, .int .i64 r4, .int .i64 r5, .int .i64 r6, .string r7], .int .i64 r8]) ∧ Below w.heap.size w w' := by
  have hu23 := Try.underlying23
  have hu91 := Try.underlying91
  have hix91_0 : ∀ (k : IntKind) (i : Int) (v0 v1 v2 : Value) (w : World), (i == 0) = true → (Instr.index 91 (.agg #[v0, v1, v2]) (.int k i)).run Try.prog w = .ok v0 w := fun k i v0 v1 v2 w hj => run_index_eq 91 9 3 _ k 0 i _ _ hu91 (by kernel_rfl) Try.underlying9 rfl (by decide) rfl hj
  have hia91_0 : ∀ (g : Nat) (k : IntKind) (i : Int) (w : World), (i == 0) = true → (Instr.indexAt 91 (.pointer (some ⟨g, 0, none⟩)) (.int k i)).run Try.prog w = .ok (.pointer (some ⟨g, 0, none⟩)) w := fun g k i w hj => run_indexAt_eq 91 9 3 g k 0 i hu91 (by kernel_rfl) (by decide) hj
  have hix91_1 : ∀ (k : IntKind) (i : Int) (v0 v1 v2 : Value) (w : World), (i == 1) = true → (Instr.index 91 (.agg #[v0, v1, v2]) (.int k i)).run Try.prog w = .ok v1 w := fun k i v0 v1 v2 w hj => run_index_eq 91 9 3 _ k 1 i _ _ hu91 (by kernel_rfl) Try.underlying9 rfl (by decide) rfl hj
  have hia91_1 : ∀ (g : Nat) (k : IntKind) (i : Int) (w : World), (i == 1) = true → (Instr.indexAt 91 (.pointer (some ⟨g, 0, none⟩)) (.int k i)).run Try.prog w = .ok (.pointer (some ⟨g, 1, none⟩)) w := fun g k i w hj => run_indexAt_eq 91 9 3 g k 1 i hu91 (by kernel_rfl) (by decide) hj
  have hix91_2 : ∀ (k : IntKind) (i : Int) (v0 v1 v2 : Value) (w : World), (i == 2) = true → (Instr.index 91 (.agg #[v0, v1, v2]) (.int k i)).run Try.prog w = .ok v2 w := fun k i v0 v1 v2 w hj => run_index_eq 91 9 3 _ k 2 i _ _ hu91 (by kernel_rfl) Try.underlying9 rfl (by decide) rfl hj
  have hia91_2 : ∀ (g : Nat) (k : IntKind) (i : Int) (w : World), (i == 2) = true → (Instr.indexAt 91 (.pointer (some ⟨g, 0, none⟩)) (.int k i)).run Try.prog w = .ok (.pointer (some ⟨g, 2, none⟩)) w := fun g k i w hj => run_indexAt_eq 91 9 3 g k 2 i hu91 (by kernel_rfl) (by decide) hj
  have Hh := Aside0.mk llc_heads_is2
  have H := Aside0.mk h
  clear h
  have hp1 : (9223372036854775807 < pre.size + i.size) = False := eq_false (by omega)
  have hp2 : (pre.size + i.size ≤ 9223372036854775807) = True := eq_true hp
  have hp3 : decide (pre.size + i.size ≤ 9223372036854775807) = true := decide_eq_true hp
  go_enter Try.func63, Try.ntmps63
  go_wp2_with fail
  refine (llc_heads.calls _ _ _ _ Hh.out).mono ?_
  rintro e w1 ⟨rfl, hb⟩
  obtain ⟨hc, hf⟩ := bcell hb
  have hz := hb.size
  simp at hz
  have q0 : w1.cell? ⟨w.heap.size, 0, none⟩ = some (.string ⟨#[]⟩) := by rw [hc _ _ (by simp)]; simp [go_sem]
  have f0 : w1.frozen? ⟨w.heap.size, 0, none⟩ = false := by rw [hf _ _ (by simp)]; simp [go_sem]
  have q1 : w1.cell? ⟨w.heap.size, 1, none⟩ = some (.string ⟨#[]⟩) := by rw [hc _ _ (by simp)]; simp [go_sem]
  have f1 : w1.frozen? ⟨w.heap.size, 1, none⟩ = false := by rw [hf _ _ (by simp)]; simp [go_sem]
  have q2 : w1.cell? ⟨w.heap.size, 2, none⟩ = some (.bool false) := by rw [hc _ _ (by simp)]; simp [go_sem]
  have f2 : w1.frozen? ⟨w.heap.size, 2, none⟩ = false := by rw [hf _ _ (by simp)]; simp [go_sem]
  have q3 : w1.cell? ⟨w.heap.size, 3, none⟩ = some (.int .i64 0) := by rw [hc _ _ (by simp)]; simp [go_sem]
  have f3 : w1.frozen? ⟨w.heap.size, 3, none⟩ = false := by rw [hf _ _ (by simp)]; simp [go_sem]
  have q4 : w1.cell? ⟨w.heap.size, 4, none⟩ = some (.int .i64 0) := by rw [hc _ _ (by simp)]; simp [go_sem]
  have f4 : w1.frozen? ⟨w.heap.size, 4, none⟩ = false := by rw [hf _ _ (by simp)]; simp [go_sem]
  have q5 : w1.cell? ⟨w.heap.size, 5, none⟩ = some (.int .i64 0) := by rw [hc _ _ (by simp)]; simp [go_sem]
  have f5 : w1.frozen? ⟨w.heap.size, 5, none⟩ = false := by rw [hf _ _ (by simp)]; simp [go_sem]
  have q6 : w1.cell? ⟨w.heap.size, 6, none⟩ = some (.string ⟨#[]⟩) := by rw [hc _ _ (by simp)]; simp [go_sem]
  have f6 : w1.frozen? ⟨w.heap.size, 6, none⟩ = false := by rw [hf _ _ (by simp)]; simp [go_sem]
  have hw1 : w.heap.size < w1.heap.size := by omega
  have hw2 : ¬ w1.heap.size = w.heap.size := by omega
  have hw3 : ¬ w.heap.size = w1.heap.size := by omega
  clear hc hf
  have hsz : ((pre ++ i).size : Int) = (pre.size : Int) + (i.size : Int) := by rw [ByteArray.size_append]; omega
  by_cases c : ((pre ++ i).size : Int) > 1500
  · have c1 : decide (1500 < (pre.size : Int) + (i.size : Int)) = true := decide_eq_true (by omega)
    have hh := H.out
    unfold llc_made.g at hh
    rw [if_pos hp, if_pos c] at hh
    simp only [Option.some.injEq, Prod.mk.injEq] at hh
    obtain ⟨rfl, rfl, rfl, rfl, rfl, rfl, rfl, rfl⟩ := hh
    clear hsz c
    go_wp2_with fail
    refine bodyPost_ret (v := .tuple #[.agg #[.string ⟨#[]⟩, .string ⟨#[]⟩, .bool false, .int .i64 0, .int .i64 0, .int .i64 0, .string ⟨#[]⟩], .int .i64 4]) (by simp [results, Try.results63, go_sem, hz, hw1, hw2, hw3, q0, q1, q2, q3, q4, q5, q6]) rfl ⟨rfl, ?_⟩
    repeat (with_reducible first | exact Below.refl _ _ | apply below_alloc | apply pw_below_drewN | apply below_drew1 | refine below_set ?_ (by omega) | refine below_step ?_ hb)
  · have c1 : decide (1500 < (pre.size : Int) + (i.size : Int)) = false := decide_eq_false (by omega)
    have hh := H.out
    unfold llc_made.g at hh
    rw [if_pos hp, if_neg c, hsz] at hh
    obtain ⟨b, hbr, hh⟩ := Option.bind_eq_some_iff.mp hh
    have Hb := Aside0.mk hbr
    clear hbr hsz c
    go_wp2_with fail
    refine (frame_Right.calls k _ _ _ _ _ _ _ b _ Hb.out).mono ?_
    rintro e w2 ⟨rfl, hb2⟩
    obtain ⟨hc, hf⟩ := bcell hb2
    have hz2 := hb2.size
    simp at hz2
    cases b with
    | true =>
      rw [if_pos rfl] at hh
      simp only [Option.some.injEq, Prod.mk.injEq] at hh
      obtain ⟨rfl, rfl, rfl, rfl, rfl, rfl, rfl, rfl⟩ := hh
      go_wp2_with fail
      have hw4 : w.heap.size < w1.heap.size + 1 := by omega
      refine bodyPost_ret (v := .tuple #[.agg #[.string d, .string s, .bool false, .int .i64 0, .int .i64 0, .int .i64 ((pre.size : Int) + (i.size : Int)), .string (pre ++ i)], .int .i64 0]) (by simp [results, Try.results63, go_sem, hz, hz2, hc, hf, hw4, hw1, hw2, hw3, q0, q1, q2, q3, q4, q5, q6]) rfl ⟨rfl, ?_⟩
      repeat (with_reducible first | exact Below.refl _ _ | apply below_alloc | apply pw_below_drewN | apply below_drew1 | refine below_set ?_ (by omega) | refine below_step ?_ hb2 | refine below_step ?_ hb)
    | false =>
      rw [if_neg (by simp)] at hh
      simp only [Option.some.injEq, Prod.mk.injEq] at hh
      obtain ⟨rfl, rfl, rfl, rfl, rfl, rfl, rfl, rfl⟩ := hh
      go_wp2_with fail
      have hw4 : w.heap.size < w1.heap.size + 1 := by omega
      refine bodyPost_ret (v := .tuple #[.agg #[.string ⟨#[]⟩, .string ⟨#[]⟩, .bool false, .int .i64 0, .int .i64 0, .int .i64 0, .string ⟨#[]⟩], .int .i64 2]) (by simp [results, Try.results63, go_sem, hz, hz2, hc, hf, hw4, hw1, hw2, hw3, q0, q1, q2, q3, q4, q5, q6]) rfl ⟨rfl, ?_⟩
      repeat (with_reducible first | exact Below.refl _ _ | apply below_alloc | apply pw_below_drewN | apply below_drew1 | refine below_set ?_ (by omega) | refine below_step ?_ hb2 | refine below_step ?_ hb)
theorem llc_made.room {k : Nat} {d s pre i : ByteArray} {r : ByteArray × ByteArray × Bool × Int × Int × Int × ByteArray × Int} (h : llc_made.g k d s pre i = some r) : pre.size + i.size ≤ 9223372036854775807 := by
  unfold llc_made.g at h
  by_cases hp : pre.size + i.size ≤ 9223372036854775807
  · exact hp
  · rw [if_neg hp] at h
    exact absurd h (by simp)
theorem llc_made.calls (k : Nat) (a0 a1 : ByteArray) (a2 : Int) (a3 : ByteArray) (r1 r2 : ByteArray) (r3 : Bool) (r4 r5 r6 : Int) (r7 : ByteArray) (r8 : Int) (w : World) (h : llc_made.f k a0 a1 a2 a3 = some (r1, r2, r3, r4, r5, r6, r7, r8)) :
    Calls Try.prog 63 #[.string a0, .string a1, .int .i64 a2, .string a3] w fun e w' => e = .returned (.tuple #[.agg #[.string r1, .string r2, .bool r3, .int .i64 r4, .int .i64 r5, .int .i64 r6, .string r7], .int .i64 r8]) ∧ Below w.heap.size w w' := by
  have hu91 := Try.underlying91
  have hix91_0 : ∀ (k : IntKind) (i : Int) (v0 v1 v2 : Value) (w : World), (i == 0) = true → (Instr.index 91 (.agg #[v0, v1, v2]) (.int k i)).run Try.prog w = .ok v0 w := fun k i v0 v1 v2 w hj => run_index_eq 91 9 3 _ k 0 i _ _ hu91 (by kernel_rfl) Try.underlying9 rfl (by decide) rfl hj
  have hia91_0 : ∀ (g : Nat) (k : IntKind) (i : Int) (w : World), (i == 0) = true → (Instr.indexAt 91 (.pointer (some ⟨g, 0, none⟩)) (.int k i)).run Try.prog w = .ok (.pointer (some ⟨g, 0, none⟩)) w := fun g k i w hj => run_indexAt_eq 91 9 3 g k 0 i hu91 (by kernel_rfl) (by decide) hj
  have hix91_1 : ∀ (k : IntKind) (i : Int) (v0 v1 v2 : Value) (w : World), (i == 1) = true → (Instr.index 91 (.agg #[v0, v1, v2]) (.int k i)).run Try.prog w = .ok v1 w := fun k i v0 v1 v2 w hj => run_index_eq 91 9 3 _ k 1 i _ _ hu91 (by kernel_rfl) Try.underlying9 rfl (by decide) rfl hj
  have hia91_1 : ∀ (g : Nat) (k : IntKind) (i : Int) (w : World), (i == 1) = true → (Instr.indexAt 91 (.pointer (some ⟨g, 0, none⟩)) (.int k i)).run Try.prog w = .ok (.pointer (some ⟨g, 1, none⟩)) w := fun g k i w hj => run_indexAt_eq 91 9 3 g k 1 i hu91 (by kernel_rfl) (by decide) hj
  have hix91_2 : ∀ (k : IntKind) (i : Int) (v0 v1 v2 : Value) (w : World), (i == 2) = true → (Instr.index 91 (.agg #[v0, v1, v2]) (.int k i)).run Try.prog w = .ok v2 w := fun k i v0 v1 v2 w hj => run_index_eq 91 9 3 _ k 2 i _ _ hu91 (by kernel_rfl) Try.underlying9 rfl (by decide) rfl hj
  have hia91_2 : ∀ (g : Nat) (k : IntKind) (i : Int) (w : World), (i == 2) = true → (Instr.indexAt 91 (.pointer (some ⟨g, 0, none⟩)) (.int k i)).run Try.prog w = .ok (.pointer (some ⟨g, 2, none⟩)) w := fun g k i w hj => run_indexAt_eq 91 9 3 g k 2 i hu91 (by kernel_rfl) (by decide) hj
  unfold llc_made.f at h
  by_cases c1 : a2 = 1
  · subst c1
    rw [if_pos rfl] at h
    exact llc_made_lit k 1 a0 a1 _ a3 r1 r2 r3 r4 r5 r6 r7 r8 w (fun w => run_index_arr 91 9 3 _ .i64 1 _ _ hu91 (by kernel_rfl) Try.underlying9 rfl (by decide) rfl) (llc_made.room h) h
  · rw [if_neg c1] at h
    by_cases c2 : a2 = 2
    · subst c2
      rw [if_pos rfl] at h
      exact llc_made_lit k 2 a0 a1 _ a3 r1 r2 r3 r4 r5 r6 r7 r8 w (fun w => run_index_arr 91 9 3 _ .i64 2 _ _ hu91 (by kernel_rfl) Try.underlying9 rfl (by decide) rfl) (llc_made.room h) h
    · rw [if_neg c2] at h
      exact absurd h (by simp)

end Go.Proofs.Yticobcojmpakfaa.P
