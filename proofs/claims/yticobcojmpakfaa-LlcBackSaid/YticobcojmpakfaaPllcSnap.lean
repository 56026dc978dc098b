-- Written by a program of this session (pp.py, over the kit's printer and texts given by hand).
import Derived.Test.YticobcojmpakfaaP0
namespace Go.Proofs.Yticobcojmpakfaa.P
open Go.RowKit Go.Proofs.YticobcojmpakfaaW.PrintWords Go.Proofs.YticobcojmpakfaaW.PrintLast Go.Proofs.YticobcojmpakfaaW.PrintMore
attribute [local go_sem] max2_int min2_int max_two min_two max_three min_three max_four min_four   -- for this text's walks alone
set_option linter.unusedVariables false
set_option linter.unusedSimpArgs false

/-! ### llc_Snap: function 22 -/
def llc_Snap.f (a0 : ByteArray) (a1 : Int) (a2 : ByteArray) : Option (ByteArray × Int) := if (a0.size : Int) = 3 then (if a1 < 0 then (some ((⟨#[]⟩ : ByteArray), 1)) else (if a1 > 65535 then (some ((⟨#[]⟩ : ByteArray), 1)) else (if 3 + a0.size ≤ 9223372036854775807 then ((some (([(a1 / 256) % 256, (a1) % 256] : List Int) : List Int)).bind fun y101 => (if 3 + a0.size + (strOfNums y101).size ≤ 9223372036854775807 then (if 3 + a0.size + (strOfNums y101).size + a2.size ≤ 9223372036854775807 then (some ((((⟨#[170, 170, 3]⟩ : ByteArray) ++ a0) ++ (strOfNums y101)) ++ a2, 0)) else (none)) else (none))) else (none)))) else (some ((⟨#[]⟩ : ByteArray), 2))
set_option maxHeartbeats 8000000 in
set_option maxRecDepth 100000 in
theorem llc_Snap.calls (a0 : ByteArray) (a1 : Int) (a2 : ByteArray) (r1 : ByteArray) (r2 : Int) (w : World) (h : llc_Snap.f a0 a1 a2 = some (r1, r2)) :
    Calls Try.prog 22 #[.string a0, .int .i64 a1, .string a2] w fun e w' => e = .returned (.tuple #[.string r1, .int .i64 r2]) ∧ Below w.heap.size w w' := by
  have HB := Aside0.mk (Below.refl w.heap.size w)
  have H : (if (a0.size : Int) = 3 then (if a1 < 0 then (some ((⟨#[]⟩ : ByteArray), 1)) else (if a1 > 65535 then (some ((⟨#[]⟩ : ByteArray), 1)) else (if 3 + a0.size ≤ 9223372036854775807 then ((some (([(a1 / 256) % 256, (a1) % 256] : List Int) : List Int)).bind fun y101 => (if 3 + a0.size + (strOfNums y101).size ≤ 9223372036854775807 then (if 3 + a0.size + (strOfNums y101).size + a2.size ≤ 9223372036854775807 then (some ((((⟨#[170, 170, 3]⟩ : ByteArray) ++ a0) ++ (strOfNums y101)) ++ a2, 0)) else (none)) else (none))) else (none)))) else (some ((⟨#[]⟩ : ByteArray), 2))) = some (r1, r2) := h
  clear h
  by_cases c4 : (a0.size : Int) = 3
  · rw [if_pos c4] at H
    have c4b0 : ((a0.size : Int) == 3) = true := beq_iff_eq.mpr c4
    have c4b1 : ((a0.size : Int) != 3) = false := bne_eq_false_iff_eq.mpr c4
    clear c4
    by_cases c5 : a1 < 0
    · rw [if_pos c5] at H
      have c5b0 : decide (a1 < 0) = true := decide_eq_true c5
      clear c5
      simp only [Option.some.injEq, Prod.mk.injEq] at H
      obtain ⟨rfl, rfl⟩ := H
      go_enter Try.func22, Try.ntmps22
      go_wp2
      go_ret2
      exact ⟨by first | rfl | (simp [errW_none, errW_some] <;> rfl) | (simp [*, errW_none, errW_some] <;> rfl), by repeat (first | (with_reducible first | exact HB.out | apply below_alloc | apply pw_below_drewN | apply below_drew1) | exact HB.out)⟩
    · rw [if_neg c5] at H
      have c5b0 : decide (a1 < 0) = false := decide_eq_false c5
      clear c5
      by_cases c6 : a1 > 65535
      · rw [if_pos c6] at H
        have c6b0 : decide (65535 < a1) = true := decide_eq_true c6
        clear c6
        simp only [Option.some.injEq, Prod.mk.injEq] at H
        obtain ⟨rfl, rfl⟩ := H
        go_enter Try.func22, Try.ntmps22
        go_wp2
        go_ret2
        exact ⟨by first | rfl | (simp [errW_none, errW_some] <;> rfl) | (simp [*, errW_none, errW_some] <;> rfl), by repeat (first | (with_reducible first | exact HB.out | apply below_alloc | apply pw_below_drewN | apply below_drew1) | exact HB.out)⟩
      · rw [if_neg c6] at H
        have c6b0 : decide (65535 < a1) = false := decide_eq_false c6
        clear c6
        by_cases c7 : 3 + a0.size ≤ 9223372036854775807
        · rw [if_pos c7] at H
          have c7b0 := eq_true c7
          have c7b1 : decide (3 + a0.size ≤ 9223372036854775807) = true := decide_eq_true c7
          try have c7b2 : (9223372036854775807 < 3 + a0.size) = False := eq_false (Nat.not_lt.2 c7)
          obtain ⟨y101, hy101⟩ : ∃ y_ : List Int, y_ = (([(a1 / 256) % 256, (a1) % 256] : List Int)) := ⟨_, rfl⟩
          replace H : (if 3 + a0.size + (strOfNums y101).size ≤ 9223372036854775807 then (if 3 + a0.size + (strOfNums y101).size + a2.size ≤ 9223372036854775807 then (some ((((⟨#[170, 170, 3]⟩ : ByteArray) ++ a0) ++ (strOfNums y101)) ++ a2, 0)) else (none)) else (none)) = some (r1, r2) := by first | (rw [hy101]; with_reducible exact H) | (have H2_ := (Option.bind_some _ _).symm.trans H; rw [hy101]; with_reducible exact H2_) | (have H2_ := (Option.bind_some _ _).symm.trans H; with_reducible exact H2_) | with_reducible exact H | (rw [hy101]; exact H) | exact H
          have Ny101 := Aside0.mk hy101
          clear hy101
          by_cases c8 : 3 + a0.size + (strOfNums y101).size ≤ 9223372036854775807
          · rw [if_pos c8] at H
            have c8b0 := eq_true c8
            have c8b1 : decide (3 + a0.size + (strOfNums y101).size ≤ 9223372036854775807) = true := decide_eq_true c8
            try have c8b2 : (9223372036854775807 < 3 + a0.size + (strOfNums y101).size) = False := eq_false (Nat.not_lt.2 c8)
            by_cases c9 : 3 + a0.size + (strOfNums y101).size + a2.size ≤ 9223372036854775807
            · rw [if_pos c9] at H
              have c9b0 := eq_true c9
              have c9b1 : decide (3 + a0.size + (strOfNums y101).size + a2.size ≤ 9223372036854775807) = true := decide_eq_true c9
              try have c9b2 : (9223372036854775807 < 3 + a0.size + (strOfNums y101).size + a2.size) = False := eq_false (Nat.not_lt.2 c9)
              simp only [Option.some.injEq, Prod.mk.injEq] at H
              obtain ⟨rfl, rfl⟩ := H
              go_enter Try.func22, Try.ntmps22
              go_wp2_with (first | ((with_reducible refine gate_dst (N := 26) rfl ?_); refine Kd.R_lit (Kd.int .u8) _ 5 ?hg (N := 26) ?hd (xs := ([(a1 / 256) % 256, (a1) % 256] : List Int)) (inner := [.int .u8 ((a1 / 256) % 256), .int .u8 ((a1) % 256)]) (ok := fun _ => True) (okp := fun _ => True) ?hr ?hp (fun _ hk => hk) trivial (Below.refl _ _) (Nat.le_refl _) (by simp) ?_; (case hd => rfl); (case hg => rfl); (case hr => first | (go_simp; done) | (go_simp; rfl)); (case hp => exact (Reps.one (show Kd.M (Kd.int .u8) _ _ _ ((a1 / 256) % 256) [.int .u8 ((a1 / 256) % 256)] from rfl) (Reps.one (show Kd.M (Kd.int .u8) _ _ _ ((a1) % 256) [.int .u8 ((a1) % 256)] from rfl) (Reps.none _ _)))); intro v102 w10 ho11 hb hg_ hnew_; clear hg_ hnew_; (first | rw [← Ny101.out] at ho11 | (simp only [Int.reduceToNat] at ho11; rw [← Ny101.out] at ho11)); have n0_ := Aside0.mk (Kd.R_lower ho11 (below_size (by repeat (first | (with_reducible first | exact HB.out | apply below_alloc | apply pw_below_drewN | apply below_drew1) | exact HB.out)))); have n1_ := Aside0.mk (below_step (by repeat (first | (with_reducible first | exact HB.out | apply below_alloc | apply pw_below_drewN | apply below_drew1) | exact HB.out)) hb); clear HB; have HO103 := n0_; have HB := n1_; clear n0_ n1_; clear hb ho11; have hcv12 := own_string (P := Try.prog) Try.underlying94 Try.underlying5 Try.underlying9 (Kd.own_of_R HO103.out)))
              go_ret2
              exact ⟨by first | rfl | (simp [errW_none, errW_some] <;> rfl) | (simp [*, errW_none, errW_some] <;> rfl), by repeat (first | (with_reducible first | exact HB.out | apply below_alloc | apply pw_below_drewN | apply below_drew1) | exact HB.out)⟩
            · rw [if_neg c9] at H
              exact absurd H (by simp)
          · rw [if_neg c8] at H
            exact absurd H (by simp)
        · rw [if_neg c7] at H
          exact absurd H (by simp)
  · rw [if_neg c4] at H
    have c4b0 : ((a0.size : Int) == 3) = false := beq_eq_false_iff_ne.mpr c4
    have c4b1 : ((a0.size : Int) != 3) = true := bne_iff_ne.mpr c4
    simp only [Option.some.injEq, Prod.mk.injEq] at H
    obtain ⟨rfl, rfl⟩ := H
    go_enter Try.func22, Try.ntmps22
    go_wp2
    go_ret2
    exact ⟨by first | rfl | (simp [errW_none, errW_some] <;> rfl) | (simp [*, errW_none, errW_some] <;> rfl), by repeat (first | (with_reducible first | exact HB.out | apply below_alloc | apply pw_below_drewN | apply below_drew1) | exact HB.out)⟩

end Go.Proofs.Yticobcojmpakfaa.P
