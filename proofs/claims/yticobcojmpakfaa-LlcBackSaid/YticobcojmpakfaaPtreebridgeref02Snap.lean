-- Written by a program of this session (pp.py, over the kit's printer and texts given by hand).
import Derived.Test.YticobcojmpakfaaP0
namespace Go.Proofs.Yticobcojmpakfaa.P
open Go.RowKit Go.Proofs.YticobcojmpakfaaW.PrintWords Go.Proofs.YticobcojmpakfaaW.PrintLast Go.Proofs.YticobcojmpakfaaW.PrintMore
attribute [local go_sem] max2_int min2_int max_two min_two max_three min_three max_four min_four   -- for this text's walks alone
set_option linter.unusedVariables false
set_option linter.unusedSimpArgs false

/-! ### treebridgeref02_Snap: function 23 -/
def treebridgeref02_Snap.f (a0 : ByteArray) (a1 : Int) (a2 : ByteArray) : Option (ByteArray × Int) := if (a0.size : Int) = 3 then (if a1 < 0 then (some ((⟨#[]⟩ : ByteArray), 1)) else (if a1 > 65535 then (some ((⟨#[]⟩ : ByteArray), 1)) else ((some (([170, 170, 3] : List Int) : List Int)).bind fun y101 => (if (strOfNums y101).size + a0.size ≤ 9223372036854775807 then ((some (([(wrap64 (Int.tdiv a1 256)) % 256, (Int.tmod a1 256) % 256] : List Int) : List Int)).bind fun y104 => (if (strOfNums y101).size + a0.size + (strOfNums y104).size ≤ 9223372036854775807 then (if (strOfNums y101).size + a0.size + (strOfNums y104).size + a2.size ≤ 9223372036854775807 then (some ((((strOfNums y101) ++ a0) ++ (strOfNums y104)) ++ a2, 0)) else (none)) else (none))) else (none))))) else (some ((⟨#[]⟩ : ByteArray), 2))
set_option maxHeartbeats 8000000 in
set_option maxRecDepth 100000 in
theorem treebridgeref02_Snap.calls (a0 : ByteArray) (a1 : Int) (a2 : ByteArray) (r1 : ByteArray) (r2 : Int) (w : World) (h : treebridgeref02_Snap.f a0 a1 a2 = some (r1, r2)) :
    Calls Try.prog 23 #[.string a0, .int .i64 a1, .string a2] w fun e w' => e = .returned (.tuple #[.string r1, .int .i64 r2]) ∧ Below w.heap.size w w' := by
  have HB := Aside0.mk (Below.refl w.heap.size w)
  have H : (if (a0.size : Int) = 3 then (if a1 < 0 then (some ((⟨#[]⟩ : ByteArray), 1)) else (if a1 > 65535 then (some ((⟨#[]⟩ : ByteArray), 1)) else ((some (([170, 170, 3] : List Int) : List Int)).bind fun y101 => (if (strOfNums y101).size + a0.size ≤ 9223372036854775807 then ((some (([(wrap64 (Int.tdiv a1 256)) % 256, (Int.tmod a1 256) % 256] : List Int) : List Int)).bind fun y104 => (if (strOfNums y101).size + a0.size + (strOfNums y104).size ≤ 9223372036854775807 then (if (strOfNums y101).size + a0.size + (strOfNums y104).size + a2.size ≤ 9223372036854775807 then (some ((((strOfNums y101) ++ a0) ++ (strOfNums y104)) ++ a2, 0)) else (none)) else (none))) else (none))))) else (some ((⟨#[]⟩ : ByteArray), 2))) = some (r1, r2) := h
  clear h
  by_cases c4 : (a0.size : Int) = 3
  · rw [if_pos c4] at H
    have c4b0 : ((a0.size : Int) == 3) = true := beq_iff_eq.mpr c4
    have c4b1 : ((a0.size : Int) != 3) = false := bne_eq_false_iff_eq.mpr c4
    clear c4
    by_cases c5 : a1 < 0
    · rw [if_pos c5] at H
      have c5b0 : decide (a1 < 0) = true := decide_eq_true c5
      clear c5
      simp only [Option.some.injEq, Prod.mk.injEq] at H
      obtain ⟨rfl, rfl⟩ := H
      go_enter Try.func23, Try.ntmps23
      go_wp2
      go_ret2
      exact ⟨by first | rfl | (simp [errW_none, errW_some] <;> rfl) | (simp [*, errW_none, errW_some] <;> rfl), by repeat (first | (with_reducible first | exact HB.out | apply below_alloc | apply pw_below_drewN | apply below_drew1) | exact HB.out)⟩
    · rw [if_neg c5] at H
      have c5b0 : decide (a1 < 0) = false := decide_eq_false c5
      clear c5
      by_cases c6 : a1 > 65535
      · rw [if_pos c6] at H
        have c6b0 : decide (65535 < a1) = true := decide_eq_true c6
        clear c6
        simp only [Option.some.injEq, Prod.mk.injEq] at H
        obtain ⟨rfl, rfl⟩ := H
        go_enter Try.func23, Try.ntmps23
        go_wp2
        go_ret2
        exact ⟨by first | rfl | (simp [errW_none, errW_some] <;> rfl) | (simp [*, errW_none, errW_some] <;> rfl), by repeat (first | (with_reducible first | exact HB.out | apply below_alloc | apply pw_below_drewN | apply below_drew1) | exact HB.out)⟩
      · rw [if_neg c6] at H
        have c6b0 : decide (65535 < a1) = false := decide_eq_false c6
        clear c6
        obtain ⟨y101, hy101⟩ : ∃ y_ : List Int, y_ = (([170, 170, 3] : List Int)) := ⟨_, rfl⟩
        replace H : (if (strOfNums y101).size + a0.size ≤ 9223372036854775807 then ((some (([(wrap64 (Int.tdiv a1 256)) % 256, (Int.tmod a1 256) % 256] : List Int) : List Int)).bind fun y104 => (if (strOfNums y101).size + a0.size + (strOfNums y104).size ≤ 9223372036854775807 then (if (strOfNums y101).size + a0.size + (strOfNums y104).size + a2.size ≤ 9223372036854775807 then (some ((((strOfNums y101) ++ a0) ++ (strOfNums y104)) ++ a2, 0)) else (none)) else (none))) else (none)) = some (r1, r2) := by first | (rw [hy101]; with_reducible exact H) | (have H2_ := (Option.bind_some _ _).symm.trans H; rw [hy101]; with_reducible exact H2_) | (have H2_ := (Option.bind_some _ _).symm.trans H; with_reducible exact H2_) | with_reducible exact H | (rw [hy101]; exact H) | exact H
        have Ny101 := Aside0.mk hy101
        clear hy101
        by_cases c7 : (strOfNums y101).size + a0.size ≤ 9223372036854775807
        · rw [if_pos c7] at H
          have c7b0 := eq_true c7
          have c7b1 : decide ((strOfNums y101).size + a0.size ≤ 9223372036854775807) = true := decide_eq_true c7
          try have c7b2 : (9223372036854775807 < (strOfNums y101).size + a0.size) = False := eq_false (Nat.not_lt.2 c7)
          obtain ⟨y104, hy104⟩ : ∃ y_ : List Int, y_ = (([(wrap64 (Int.tdiv a1 256)) % 256, (Int.tmod a1 256) % 256] : List Int)) := ⟨_, rfl⟩
          replace H : (if (strOfNums y101).size + a0.size + (strOfNums y104).size ≤ 9223372036854775807 then (if (strOfNums y101).size + a0.size + (strOfNums y104).size + a2.size ≤ 9223372036854775807 then (some ((((strOfNums y101) ++ a0) ++ (strOfNums y104)) ++ a2, 0)) else (none)) else (none)) = some (r1, r2) := by first | (rw [hy104]; with_reducible exact H) | (have H2_ := (Option.bind_some _ _).symm.trans H; rw [hy104]; with_reducible exact H2_) | (have H2_ := (Option.bind_some _ _).symm.trans H; with_reducible exact H2_) | with_reducible exact H | (rw [hy104]; exact H) | exact H
          have Ny104 := Aside0.mk hy104
          clear hy104
          by_cases c8 : (strOfNums y101).size + a0.size + (strOfNums y104).size ≤ 9223372036854775807
          · rw [if_pos c8] at H
            have c8b0 := eq_true c8
            have c8b1 : decide ((strOfNums y101).size + a0.size + (strOfNums y104).size ≤ 9223372036854775807) = true := decide_eq_true c8
            try have c8b2 : (9223372036854775807 < (strOfNums y101).size + a0.size + (strOfNums y104).size) = False := eq_false (Nat.not_lt.2 c8)
            by_cases c9 : (strOfNums y101).size + a0.size + (strOfNums y104).size + a2.size ≤ 9223372036854775807
            · rw [if_pos c9] at H
              have c9b0 := eq_true c9
              have c9b1 : decide ((strOfNums y101).size + a0.size + (strOfNums y104).size + a2.size ≤ 9223372036854775807) = true := decide_eq_true c9
              try have c9b2 : (9223372036854775807 < (strOfNums y101).size + a0.size + (strOfNums y104).size + a2.size) = False := eq_false (Nat.not_lt.2 c9)
              simp only [Option.some.injEq, Prod.mk.injEq] at H
              obtain ⟨rfl, rfl⟩ := H
              go_enter Try.func23, Try.ntmps23
              go_wp2_with (first | ((with_reducible refine gate_dst (N := 17) rfl ?_); refine Kd.R_lit (Kd.int .u8) _ 5 ?hg (N := 17) ?hd (xs := ([170, 170, 3] : List Int)) (inner := [.int .u8 170, .int .u8 170, .int .u8 3]) (ok := fun _ => True) (okp := fun _ => True) ?hr ?hp (fun _ hk => hk) trivial (Below.refl _ _) (Nat.le_refl _) (by simp) ?_; (case hd => rfl); (case hg => rfl); (case hr => first | (go_simp; done) | (go_simp; rfl)); (case hp => exact (Reps.one (show Kd.M (Kd.int .u8) _ _ _ 170 [.int .u8 170] from rfl) (Reps.one (show Kd.M (Kd.int .u8) _ _ _ 170 [.int .u8 170] from rfl) (Reps.one (show Kd.M (Kd.int .u8) _ _ _ 3 [.int .u8 3] from rfl) (Reps.none _ _))))); intro v102 w10 ho11 hb hg_ hnew_; clear hg_ hnew_; (first | rw [← Ny101.out] at ho11 | (simp only [Int.reduceToNat] at ho11; rw [← Ny101.out] at ho11)); have n0_ := Aside0.mk (Kd.R_lower ho11 (below_size (by repeat (first | (with_reducible first | exact HB.out | apply below_alloc | apply pw_below_drewN | apply below_drew1) | exact HB.out)))); have n1_ := Aside0.mk (below_step (by repeat (first | (with_reducible first | exact HB.out | apply below_alloc | apply pw_below_drewN | apply below_drew1) | exact HB.out)) hb); clear HB; have HO103 := n0_; have HB := n1_; clear n0_ n1_; clear hb ho11; have hcv12 := own_string (P := Try.prog) Try.underlying94 Try.underlying5 Try.underlying9 (Kd.own_of_R HO103.out)) | ((with_reducible refine gate_dst (N := 27) rfl ?_); refine Kd.R_lit (Kd.int .u8) _ 5 ?hg (N := 27) ?hd (xs := ([(wrap64 (Int.tdiv a1 256)) % 256, (Int.tmod a1 256) % 256] : List Int)) (inner := [.int .u8 ((wrap64 (Int.tdiv a1 256)) % 256), .int .u8 ((Int.tmod a1 256) % 256)]) (ok := fun _ => True) (okp := fun _ => True) ?hr ?hp (fun _ hk => hk) trivial (Below.refl _ _) (Nat.le_refl _) (by simp) ?_; (case hd => rfl); (case hg => rfl); (case hr => first | (go_simp; done) | (go_simp; rfl)); (case hp => exact (Reps.one (show Kd.M (Kd.int .u8) _ _ _ ((wrap64 (Int.tdiv a1 256)) % 256) [.int .u8 ((wrap64 (Int.tdiv a1 256)) % 256)] from rfl) (Reps.one (show Kd.M (Kd.int .u8) _ _ _ ((Int.tmod a1 256) % 256) [.int .u8 ((Int.tmod a1 256) % 256)] from rfl) (Reps.none _ _)))); intro v105 w13 ho14 hb hg_ hnew_; clear hg_ hnew_; (first | rw [← Ny104.out] at ho14 | (simp only [Int.reduceToNat] at ho14; rw [← Ny104.out] at ho14)); have n0_ := Aside0.mk (Kd.R_elder' (by (with_reducible repeat (first | apply Kd.R_alloc | apply Kd.R_drewN | apply Kd.R_drew)); exact HO103.out) (Kd.R_base ho14) hb); have n1_ := Aside0.mk (Kd.R_lower (Kd.R_new' ho14 (Kd.R_lt (by (with_reducible repeat (first | apply Kd.R_alloc | apply Kd.R_drewN | apply Kd.R_drew)); exact HO103.out))) (below_size (by repeat (first | (with_reducible first | exact HB.out | apply below_alloc | apply pw_below_drewN | apply below_drew1) | exact HB.out)))); have n2_ := Aside0.mk (below_step (by repeat (first | (with_reducible first | exact HB.out | apply below_alloc | apply pw_below_drewN | apply below_drew1) | exact HB.out)) hb); clear HO103; clear HB; have HO103 := n0_; have HO106 := n1_; have HB := n2_; clear n0_ n1_ n2_; clear hb ho14; have hcv15 := own_string (P := Try.prog) Try.underlying94 Try.underlying5 Try.underlying9 (Kd.own_of_R HO106.out)))
              go_ret2
              exact ⟨by first | rfl | (simp [errW_none, errW_some] <;> rfl) | (simp [*, errW_none, errW_some] <;> rfl), by repeat (first | (with_reducible first | exact HB.out | apply below_alloc | apply pw_below_drewN | apply below_drew1) | exact HB.out)⟩
            · rw [if_neg c9] at H
              exact absurd H (by simp)
          · rw [if_neg c8] at H
            exact absurd H (by simp)
        · rw [if_neg c7] at H
          exact absurd H (by simp)
  · rw [if_neg c4] at H
    have c4b0 : ((a0.size : Int) == 3) = false := beq_eq_false_iff_ne.mpr c4
    have c4b1 : ((a0.size : Int) != 3) = true := bne_iff_ne.mpr c4
    simp only [Option.some.injEq, Prod.mk.injEq] at H
    obtain ⟨rfl, rfl⟩ := H
    go_enter Try.func23, Try.ntmps23
    go_wp2
    go_ret2
    exact ⟨by first | rfl | (simp [errW_none, errW_some] <;> rfl) | (simp [*, errW_none, errW_some] <;> rfl), by repeat (first | (with_reducible first | exact HB.out | apply below_alloc | apply pw_below_drewN | apply below_drew1) | exact HB.out)⟩

end Go.Proofs.Yticobcojmpakfaa.P
