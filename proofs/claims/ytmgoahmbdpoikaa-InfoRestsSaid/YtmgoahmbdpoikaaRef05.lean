/- The document's answer for layer 5. -/
import Derived.Test.YtmgoahmbdpoikaaRoles
set_option linter.unusedVariables false
set_option linter.unusedSimpArgs false
set_option maxRecDepth 100000
set_option maxHeartbeats 4000000
namespace Go.Proofs.Ytmgoahmbdpoikaa.Am
open Go Go.RowKit
def l4 (u : V4) : List Int := [u.1, u.2.1, u.2.2.1, u.2.2.2]
theorem cmp4_l (u v : V4) : cmp4 u v = cmpL (l4 u) (l4 v) := rfl
theorem cmpL_lt {a b : Int} (l m : List Int) (h : a < b) : cmpL (a :: l) (b :: m) = -1 := by unfold cmpL; rw [if_pos h]
theorem cmpL_gt {a b : Int} (l m : List Int) (h1 : ¬ a < b) (h : b < a) : cmpL (a :: l) (b :: m) = 1 := by unfold cmpL; rw [if_neg h1, if_pos h]
theorem cmpL_eq {a b : Int} (l m : List Int) (h1 : ¬ a < b) (h : ¬ b < a) : cmpL (a :: l) (b :: m) = cmpL l m := by conv => lhs; unfold cmpL; rw [if_neg h1, if_neg h]
theorem ok_cmp5 : (match Try.f86.body with | some c => codeOk Try.f86.ntmps c | none => false) = true := by kernel_rfl
theorem en_cmp5 : ∃ fn, Try.prog.funcs[86]? = some fn ∧ (fn.name == "runtime.NumGoroutine") = false ∧ fn.body.isNone = false := ⟨_, Try.func86, by kernel_rfl, by kernel_rfl⟩
theorem cmp5_w (u v : V4) (w : World) : PuAt Try.prog 86 [.agg ⟨encV u⟩, .agg ⟨encV v⟩] (.int .i64 (cmp4 u v)) w := by
  refine funcR_pure tyOk wide Try.func86 ok_cmp5 (Nat.le_of_ble_eq_true rfl) ?_
  rw [cmp4_l]
  obtain ⟨a, b, c, d⟩ := u
  obtain ⟨a', b', c', d'⟩ := v
  repeat' first
    | (conv => whnf
       first
       | intro _
       | (first | refine selSplit (fun h => ?_) (fun h => ?_) | refine condSplit (fun h => ?_) (fun h => ?_)) <;> first | exact (clash (by assumption) h).elim | exact (clash h (by assumption)).elim | (simp only [decide_eq_true_eq, decide_eq_false_iff_not, Bool.not_eq_true', Bool.not_eq_false', Bool.not_true, Bool.not_false, Bool.or_eq_true, Bool.and_eq_true, Bool.or_eq_false_iff, Bool.and_eq_false_iff, beq_iff_eq, beq_eq_false_iff_ne, ne_eq] at h; first | (exfalso; omega) | skip) | skip
       | (first | refine drM (.quiet 0 (.quiet 1 (.quiet 2 (.quiet 3 (.quiet 4 (.quiet 5 (.quiet 6 .done))))))) (SubL.refl _) ?_)
       | refine AltP.mk ?_ ?_
       | refine kpM ?_
       | refine SeqP.go ?_
       | refine cdM ?_
       | exact IsV.mk
       | apply GuardP.mk
       | refine Or.inl ⟨_, _, hasM, ?_⟩
       | refine Or.inl ⟨_, _, _, holeM, rfl, rfl, ?_⟩
       | refine lA ?_
       | refine lA0 ?_
       | refine lA1 ?_
       | refine lO ?_
       | refine lO0 ?_
       | refine lO1 ?_
       | refine lR ?_
       | refine lG ?_
       | refine lG0 ?_
       | refine tA ?_
       | refine tA0 ?_
       | refine tA1 ?_
       | refine BytW.ofBlk hasM rfl rfl ?_
       | refine AppW.noneB hasM leM rfl rfl rfl leM leM ?_
       | refine AppW.rowB hasM leM rfl rfl holeM leM leM ?_
       | refine AppW.blkB hasM leM rfl rfl holeM rfl rfl leM leM ?_
       | refine AppW.rowS hasM leM rfl rfl holeM (by omega) leM ?_
       | refine AppW.arrS hasM leM rfl rfl rfl holeM (by first | omega | (simp; omega)) leM ?_
       | refine ⟨sideM, ?_⟩
       | fail)
  all_goals (try conv => whnf)
  rename_i b2 b3 b5 b6
  refine .mk Nat (fun k S H => (k ≤ 4 ∧ cmpL [a, b, c, d] [a', b', c', d'] = cmpL ([a, b, c, d].drop k) ([a', b', c', d'].drop k)) ∧ S = [(7, .int .i64 k), (6, .pointer (some ⟨b6, 0, none⟩)), (5, .pointer (some ⟨b5, 0, none⟩))] ∧ H = [.blk b6 [.int .u64 a', .int .u64 b', .int .u64 c', .int .u64 d'] 137, .blk b5 [.int .u64 a, .int .u64 b, .int .u64 c, .int .u64 d] 137]) (fun k => 4 - k) 0 _ _ ⟨⟨by omega, rfl⟩, rfl, rfl⟩ subM entM ?_
  rintro k S1 H1 ⟨⟨hk, he⟩, rfl, rfl⟩
  rcases (show k = 0 ∨ k = 1 ∨ k = 2 ∨ k = 3 ∨ k = 4 by omega) with rfl | rfl | rfl | rfl | rfl
  · replace he : cmpL (l4 (a, b, c, d)) (l4 (a', b', c', d')) = cmpL [a, b, c, d] [a', b', c', d'] := he
    repeat' first
      | (conv => whnf
         first
         | intro _
         | (first | refine selSplit (fun h => ?_) (fun h => ?_) | refine condSplit (fun h => ?_) (fun h => ?_)) <;> first | exact (clash (by assumption) h).elim | exact (clash h (by assumption)).elim | (simp only [decide_eq_true_eq, decide_eq_false_iff_not, Bool.not_eq_true', Bool.not_eq_false', Bool.not_true, Bool.not_false, Bool.or_eq_true, Bool.and_eq_true, Bool.or_eq_false_iff, Bool.and_eq_false_iff, beq_iff_eq, beq_eq_false_iff_ne, ne_eq] at h; first | (exfalso; omega) | skip) | skip
         | (first | refine drM (.quiet 0 (.quiet 1 (.quiet 2 (.quiet 3 (.quiet 4 (.quiet 5 (.quiet 6 .done))))))) (SubL.refl _) ?_)
         | refine AltP.mk ?_ ?_
         | refine kpM ?_
         | refine SeqP.go ?_
         | refine cdM ?_
         | exact IsV.mk
         | apply GuardP.mk
         | refine Or.inl ⟨_, _, hasM, ?_⟩
         | refine Or.inl ⟨_, _, _, holeM, rfl, rfl, ?_⟩
         | refine lA ?_
         | refine lA0 ?_
         | refine lA1 ?_
         | refine lO ?_
         | refine lO0 ?_
         | refine lO1 ?_
         | refine lR ?_
         | refine lG ?_
         | refine lG0 ?_
         | refine tA ?_
         | refine tA0 ?_
         | refine tA1 ?_
         | refine BytW.ofBlk hasM rfl rfl ?_
         | refine AppW.noneB hasM leM rfl rfl rfl leM leM ?_
         | refine AppW.rowB hasM leM rfl rfl holeM leM leM ?_
         | refine AppW.blkB hasM leM rfl rfl holeM rfl rfl leM leM ?_
         | refine AppW.rowS hasM leM rfl rfl holeM (by omega) leM ?_
         | refine AppW.arrS hasM leM rfl rfl rfl holeM (by first | omega | (simp; omega)) leM ?_
         | refine ⟨sideM, ?_⟩
         | fail)
    all_goals (try conv => whnf)
    · refine v_int ?_; rw [he, cmpL_lt _ _ (by assumption)]
    · refine v_int ?_; rw [he, cmpL_gt _ _ (by assumption) (by assumption)]
    · rw [cmpL_eq _ _ (by assumption) (by assumption)] at he; exact .mk 1 _ _ (by omega) ⟨⟨by omega, he⟩, rfl, rfl⟩ subM entM
  · replace he : cmpL (l4 (a, b, c, d)) (l4 (a', b', c', d')) = cmpL [b, c, d] [b', c', d'] := he
    repeat' first
      | (conv => whnf
         first
         | intro _
         | (first | refine selSplit (fun h => ?_) (fun h => ?_) | refine condSplit (fun h => ?_) (fun h => ?_)) <;> first | exact (clash (by assumption) h).elim | exact (clash h (by assumption)).elim | (simp only [decide_eq_true_eq, decide_eq_false_iff_not, Bool.not_eq_true', Bool.not_eq_false', Bool.not_true, Bool.not_false, Bool.or_eq_true, Bool.and_eq_true, Bool.or_eq_false_iff, Bool.and_eq_false_iff, beq_iff_eq, beq_eq_false_iff_ne, ne_eq] at h; first | (exfalso; omega) | skip) | skip
         | (first | refine drM (.quiet 0 (.quiet 1 (.quiet 2 (.quiet 3 (.quiet 4 (.quiet 5 (.quiet 6 .done))))))) (SubL.refl _) ?_)
         | refine AltP.mk ?_ ?_
         | refine kpM ?_
         | refine SeqP.go ?_
         | refine cdM ?_
         | exact IsV.mk
         | apply GuardP.mk
         | refine Or.inl ⟨_, _, hasM, ?_⟩
         | refine Or.inl ⟨_, _, _, holeM, rfl, rfl, ?_⟩
         | refine lA ?_
         | refine lA0 ?_
         | refine lA1 ?_
         | refine lO ?_
         | refine lO0 ?_
         | refine lO1 ?_
         | refine lR ?_
         | refine lG ?_
         | refine lG0 ?_
         | refine tA ?_
         | refine tA0 ?_
         | refine tA1 ?_
         | refine BytW.ofBlk hasM rfl rfl ?_
         | refine AppW.noneB hasM leM rfl rfl rfl leM leM ?_
         | refine AppW.rowB hasM leM rfl rfl holeM leM leM ?_
         | refine AppW.blkB hasM leM rfl rfl holeM rfl rfl leM leM ?_
         | refine AppW.rowS hasM leM rfl rfl holeM (by omega) leM ?_
         | refine AppW.arrS hasM leM rfl rfl rfl holeM (by first | omega | (simp; omega)) leM ?_
         | refine ⟨sideM, ?_⟩
         | fail)
    all_goals (try conv => whnf)
    · refine v_int ?_; rw [he, cmpL_lt _ _ (by assumption)]
    · refine v_int ?_; rw [he, cmpL_gt _ _ (by assumption) (by assumption)]
    · rw [cmpL_eq _ _ (by assumption) (by assumption)] at he; exact .mk 2 _ _ (by omega) ⟨⟨by omega, he⟩, rfl, rfl⟩ subM entM
  · replace he : cmpL (l4 (a, b, c, d)) (l4 (a', b', c', d')) = cmpL [c, d] [c', d'] := he
    repeat' first
      | (conv => whnf
         first
         | intro _
         | (first | refine selSplit (fun h => ?_) (fun h => ?_) | refine condSplit (fun h => ?_) (fun h => ?_)) <;> first | exact (clash (by assumption) h).elim | exact (clash h (by assumption)).elim | (simp only [decide_eq_true_eq, decide_eq_false_iff_not, Bool.not_eq_true', Bool.not_eq_false', Bool.not_true, Bool.not_false, Bool.or_eq_true, Bool.and_eq_true, Bool.or_eq_false_iff, Bool.and_eq_false_iff, beq_iff_eq, beq_eq_false_iff_ne, ne_eq] at h; first | (exfalso; omega) | skip) | skip
         | (first | refine drM (.quiet 0 (.quiet 1 (.quiet 2 (.quiet 3 (.quiet 4 (.quiet 5 (.quiet 6 .done))))))) (SubL.refl _) ?_)
         | refine AltP.mk ?_ ?_
         | refine kpM ?_
         | refine SeqP.go ?_
         | refine cdM ?_
         | exact IsV.mk
         | apply GuardP.mk
         | refine Or.inl ⟨_, _, hasM, ?_⟩
         | refine Or.inl ⟨_, _, _, holeM, rfl, rfl, ?_⟩
         | refine lA ?_
         | refine lA0 ?_
         | refine lA1 ?_
         | refine lO ?_
         | refine lO0 ?_
         | refine lO1 ?_
         | refine lR ?_
         | refine lG ?_
         | refine lG0 ?_
         | refine tA ?_
         | refine tA0 ?_
         | refine tA1 ?_
         | refine BytW.ofBlk hasM rfl rfl ?_
         | refine AppW.noneB hasM leM rfl rfl rfl leM leM ?_
         | refine AppW.rowB hasM leM rfl rfl holeM leM leM ?_
         | refine AppW.blkB hasM leM rfl rfl holeM rfl rfl leM leM ?_
         | refine AppW.rowS hasM leM rfl rfl holeM (by omega) leM ?_
         | refine AppW.arrS hasM leM rfl rfl rfl holeM (by first | omega | (simp; omega)) leM ?_
         | refine ⟨sideM, ?_⟩
         | fail)
    all_goals (try conv => whnf)
    · refine v_int ?_; rw [he, cmpL_lt _ _ (by assumption)]
    · refine v_int ?_; rw [he, cmpL_gt _ _ (by assumption) (by assumption)]
    · rw [cmpL_eq _ _ (by assumption) (by assumption)] at he; exact .mk 3 _ _ (by omega) ⟨⟨by omega, he⟩, rfl, rfl⟩ subM entM
  · replace he : cmpL (l4 (a, b, c, d)) (l4 (a', b', c', d')) = cmpL [d] [d'] := he
    repeat' first
      | (conv => whnf
         first
         | intro _
         | (first | refine selSplit (fun h => ?_) (fun h => ?_) | refine condSplit (fun h => ?_) (fun h => ?_)) <;> first | exact (clash (by assumption) h).elim | exact (clash h (by assumption)).elim | (simp only [decide_eq_true_eq, decide_eq_false_iff_not, Bool.not_eq_true', Bool.not_eq_false', Bool.not_true, Bool.not_false, Bool.or_eq_true, Bool.and_eq_true, Bool.or_eq_false_iff, Bool.and_eq_false_iff, beq_iff_eq, beq_eq_false_iff_ne, ne_eq] at h; first | (exfalso; omega) | skip) | skip
         | (first | refine drM (.quiet 0 (.quiet 1 (.quiet 2 (.quiet 3 (.quiet 4 (.quiet 5 (.quiet 6 .done))))))) (SubL.refl _) ?_)
         | refine AltP.mk ?_ ?_
         | refine kpM ?_
         | refine SeqP.go ?_
         | refine cdM ?_
         | exact IsV.mk
         | apply GuardP.mk
         | refine Or.inl ⟨_, _, hasM, ?_⟩
         | refine Or.inl ⟨_, _, _, holeM, rfl, rfl, ?_⟩
         | refine lA ?_
         | refine lA0 ?_
         | refine lA1 ?_
         | refine lO ?_
         | refine lO0 ?_
         | refine lO1 ?_
         | refine lR ?_
         | refine lG ?_
         | refine lG0 ?_
         | refine tA ?_
         | refine tA0 ?_
         | refine tA1 ?_
         | refine BytW.ofBlk hasM rfl rfl ?_
         | refine AppW.noneB hasM leM rfl rfl rfl leM leM ?_
         | refine AppW.rowB hasM leM rfl rfl holeM leM leM ?_
         | refine AppW.blkB hasM leM rfl rfl holeM rfl rfl leM leM ?_
         | refine AppW.rowS hasM leM rfl rfl holeM (by omega) leM ?_
         | refine AppW.arrS hasM leM rfl rfl rfl holeM (by first | omega | (simp; omega)) leM ?_
         | refine ⟨sideM, ?_⟩
         | fail)
    all_goals (try conv => whnf)
    · refine v_int ?_; rw [he, cmpL_lt _ _ (by assumption)]
    · refine v_int ?_; rw [he, cmpL_gt _ _ (by assumption) (by assumption)]
    · rw [cmpL_eq _ _ (by assumption) (by assumption)] at he; exact .mk 4 _ _ (by omega) ⟨⟨by omega, he⟩, rfl, rfl⟩ subM entM
  · replace he : cmpL (l4 (a, b, c, d)) (l4 (a', b', c', d')) = cmpL [] [] := he
    repeat' first
      | (conv => whnf
         first
         | intro _
         | (first | refine selSplit (fun h => ?_) (fun h => ?_) | refine condSplit (fun h => ?_) (fun h => ?_)) <;> first | exact (clash (by assumption) h).elim | exact (clash h (by assumption)).elim | (simp only [decide_eq_true_eq, decide_eq_false_iff_not, Bool.not_eq_true', Bool.not_eq_false', Bool.not_true, Bool.not_false, Bool.or_eq_true, Bool.and_eq_true, Bool.or_eq_false_iff, Bool.and_eq_false_iff, beq_iff_eq, beq_eq_false_iff_ne, ne_eq] at h; first | (exfalso; omega) | skip) | skip
         | (first | refine drM (.quiet 0 (.quiet 1 (.quiet 2 (.quiet 3 (.quiet 4 (.quiet 5 (.quiet 6 .done))))))) (SubL.refl _) ?_)
         | refine AltP.mk ?_ ?_
         | refine kpM ?_
         | refine SeqP.go ?_
         | refine cdM ?_
         | exact IsV.mk
         | apply GuardP.mk
         | refine Or.inl ⟨_, _, hasM, ?_⟩
         | refine Or.inl ⟨_, _, _, holeM, rfl, rfl, ?_⟩
         | refine lA ?_
         | refine lA0 ?_
         | refine lA1 ?_
         | refine lO ?_
         | refine lO0 ?_
         | refine lO1 ?_
         | refine lR ?_
         | refine lG ?_
         | refine lG0 ?_
         | refine tA ?_
         | refine tA0 ?_
         | refine tA1 ?_
         | refine BytW.ofBlk hasM rfl rfl ?_
         | refine AppW.noneB hasM leM rfl rfl rfl leM leM ?_
         | refine AppW.rowB hasM leM rfl rfl holeM leM leM ?_
         | refine AppW.blkB hasM leM rfl rfl holeM rfl rfl leM leM ?_
         | refine AppW.rowS hasM leM rfl rfl holeM (by omega) leM ?_
         | refine AppW.arrS hasM leM rfl rfl rfl holeM (by first | omega | (simp; omega)) leM ?_
         | refine ⟨sideM, ?_⟩
         | fail)
    all_goals (try conv => whnf)
    refine v_int ?_; rw [he]; rfl
/-- A vector's numbers. -/
def okV (u : V4) : Prop := (0 ≤ u.2.2.1 ∧ u.2.2.1 < 18446744073709551616) ∧ (0 ≤ u.2.2.2 ∧ u.2.2.2 < 18446744073709551616)
theorem cmp4_cases (u v : V4) : cmp4 u v = -1 ∨ cmp4 u v = 0 ∨ cmp4 u v = 1 := by
  rw [cmp4_l]
  unfold l4 cmpL
  split
  · exact .inl rfl
  split
  · exact .inr (.inr rfl)
  unfold cmpL
  split
  · exact .inl rfl
  split
  · exact .inr (.inr rfl)
  unfold cmpL
  split
  · exact .inl rfl
  split
  · exact .inr (.inr rfl)
  unfold cmpL
  split
  · exact .inl rfl
  split
  · exact .inr (.inr rfl)
  exact .inr (.inl rfl)
theorem and48 {x : Int} (h : 0 ≤ x ∧ x < 18446744073709551616) : bits .and .u64 x 281474976710655 = x % 281474976710656 := and64u 48 (by decide) x h.1 h.2
theorem and12 {x : Int} (h : 0 ≤ x ∧ x < 18446744073709551616) : bits .and .u64 x 4095 = x % 4096 := and64u 12 (by decide) x h.1 h.2
theorem ok_sup5 : (match Try.f85.body with | some c => codeOk Try.f85.ntmps c | none => false) = true := by kernel_rfl
theorem en_sup5 : ∃ fn, Try.prog.funcs[85]? = some fn ∧ (fn.name == "runtime.NumGoroutine") = false ∧ fn.body.isNone = false := ⟨_, Try.func85, by kernel_rfl, by kernel_rfl⟩
theorem sup5_w (u v : V4) (hu : okV u) (hv : okV v) (w : World) : PuAt Try.prog 85 [.agg ⟨encV u⟩, .agg ⟨encV v⟩] (.bool (sup4 u v)) w := by
  refine funcR_pure tyOk wide Try.func85 ok_sup5 (Nat.le_of_ble_eq_true rfl) ?_
  repeat' first
    | (conv => whnf
       first
       | intro _
       | (first | refine selSplit (fun h => ?_) (fun h => ?_) | refine condSplit (fun h => ?_) (fun h => ?_)) <;> first | exact (clash (by assumption) h).elim | exact (clash h (by assumption)).elim | (simp only [decide_eq_true_eq, decide_eq_false_iff_not, Bool.not_eq_true', Bool.not_eq_false', Bool.not_true, Bool.not_false, Bool.or_eq_true, Bool.and_eq_true, Bool.or_eq_false_iff, Bool.and_eq_false_iff, beq_iff_eq, beq_eq_false_iff_ne, ne_eq] at h; first | (exfalso; omega) | skip) | skip
       | refine SeqP.go ?_
       | refine cdM ?_
       | exact IsV.mk
       | apply GuardP.mk
       | ((first | apply callPure' en_cmp5 | apply callQuiet' en_cmp5); · exact fun w _ => cmp5_w u v w)
       | refine Or.inl ⟨_, _, hasM, ?_⟩
       | refine Or.inl ⟨_, _, _, holeM, rfl, rfl, ?_⟩
       | refine lA ?_
       | refine lA0 ?_
       | refine lA1 ?_
       | refine lO ?_
       | refine lO0 ?_
       | refine lO1 ?_
       | refine lR ?_
       | refine lG ?_
       | refine lG0 ?_
       | refine tA ?_
       | refine tA0 ?_
       | refine tA1 ?_
       | refine BytW.ofBlk hasM rfl rfl ?_
       | refine AppW.noneB hasM leM rfl rfl rfl leM leM ?_
       | refine AppW.rowB hasM leM rfl rfl holeM leM leM ?_
       | refine AppW.blkB hasM leM rfl rfl holeM rfl rfl leM leM ?_
       | refine AppW.rowS hasM leM rfl rfl holeM (by omega) leM ?_
       | refine AppW.arrS hasM leM rfl rfl rfl holeM (by first | omega | (simp; omega)) leM ?_
       | refine ⟨sideM, ?_⟩
       | fail)
  all_goals (try conv => whnf)
  refine v_bool ?_
  have hc := cmp4_cases u v
  have e1 : decide (cmp4 u v = -1) = decide (cmp4 u v < 0) := by rcases hc with h | h | h <;> rw [h] <;> decide
  show _ = supB u.1 u.2.1 u.2.2.1 u.2.2.2 v.1 v.2.1 v.2.2.1 v.2.2.2
  unfold supB
  rw [Int.tmod_eq_emod_of_nonneg hu.1.1, Int.tmod_eq_emod_of_nonneg hv.1.1, Int.tmod_eq_emod_of_nonneg hu.2.1, Int.tmod_eq_emod_of_nonneg hv.2.1, and48 hu.1, and48 hv.1, and12 hu.2, and12 hv.2, e1]
  rfl
/-- A cost's number. -/
def u64N (x : Int) : Prop := 0 ≤ x ∧ x < 18446744073709551616
end Go.Proofs.Ytmgoahmbdpoikaa.Am
