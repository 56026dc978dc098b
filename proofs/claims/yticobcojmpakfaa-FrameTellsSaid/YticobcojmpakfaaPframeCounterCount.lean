-- Written by a program of this session (pp.py, over the kit's printer and texts given by hand).
import Derived.Test.YticobcojmpakfaaP0
import Derived.Test.YticobcojmpakfaaPframeNew
namespace Go.Proofs.Yticobcojmpakfaa.P
open Go.RowKit Go.Proofs.YticobcojmpakfaaW.PrintWords Go.Proofs.YticobcojmpakfaaW.PrintLast Go.Proofs.YticobcojmpakfaaW.PrintMore
attribute [local go_sem] max2_int min2_int max_two min_two max_three min_three max_four min_four   -- for this text's walks alone
set_option linter.unusedVariables false
set_option linter.unusedSimpArgs false


/-! ### given by hand: frame_Counter_Count: function 32 -/
theorem atomic_load (b off : Nat) (x : Int) (w : World) (hc : w.cell? ⟨b, off, none⟩ = some (.int .i64 x)) :
    Calls Try.prog 69 #[.pointer (some ⟨b, off, none⟩)] w fun e w' => e = .returned (.int .i64 x) ∧ w = w' := by
  have hl := run_call_load (P := Try.prog) Try.func89 (by kernel_rfl) (by kernel_rfl) (by kernel_rfl) .i64 (by kernel_rfl) hc
  go_enter Try.func69, Try.ntmps69
  go_wp2
  go_ret
  exact ⟨rfl, rfl⟩
set_option maxHeartbeats 1000000 in
theorem counter_count (g : Nat) (a b : Int) (w : World) (h0 : w.cell? ⟨g, 0, none⟩ = some (.int .i64 a)) (h1 : w.cell? ⟨g, 1, none⟩ = some (.int .i64 b)) :
    Calls Try.prog 32 #[.pointer (some ⟨g, 0, none⟩)] w fun e w' => e = .returned (.tuple #[.int .i64 a, .int .i64 b]) ∧ Drawn0 w w' := by
  have hu := Try.underlying105
  go_enter Try.func32, Try.ntmps32
  go_wp2
  go_region_with (go_at_call 69; (first | ((with_reducible refine (atomic_load g 0 a _ ?_).mono ?_); exact h0) | ((with_reducible refine (atomic_load g 1 b _ ?_).mono ?_); exact h1)); rintro e w' ⟨rfl, rfl⟩)
  all_goals go_wp2
  all_goals go_ret2
  all_goals exact ⟨rfl, ⟨1, rfl⟩⟩

def frame_Counter_Count.f (s0_0 s0_1 : Int) : Option (Int × Int × Int × Int) := some (s0_0, s0_1, s0_0, s0_1)
theorem frame_Counter_Count.calls (g : Nat) (s0_0 : Int) (s0_1 : Int) (r1 r2 r3 r4 : Int) (w0 w : World) (hI : IsS105 w0 w g s0_0 s0_1) (hB : Below w0.heap.size w0 w) (h : frame_Counter_Count.f s0_0 s0_1 = some (r1, r2, r3, r4)) :
    Calls Try.prog 32 #[.pointer (some ⟨g, 0, none⟩)] w fun e w' => e = .returned (.tuple #[.int .i64 r1, .int .i64 r2]) ∧ IsS105 w0 w' g r3 r4 ∧ Below w0.heap.size w0 w' ∧ KeepBut w w' g none := by
  simp only [frame_Counter_Count.f, Option.some.injEq, Prod.mk.injEq] at h
  obtain ⟨rfl, rfl, rfl, rfl⟩ := h
  obtain ⟨hb, hg⟩ := hI
  refine (counter_count g s0_0 s0_1 w ((blk_cell hb 0).trans rfl) ((blk_cell hb 1).trans rfl)).mono ?_
  rintro e w' ⟨rfl, ⟨n, rfl⟩⟩
  exact ⟨rfl, ⟨hb, hg⟩, pw_below_drewN hB n, keep_drewN (KeepBut.refl w g none) n⟩

end Go.Proofs.Yticobcojmpakfaa.P
