/- The document's answer for layer 5. -/
import Derived.Test.YtgjdmlgdgbehoaaRoles
set_option linter.unusedVariables false
set_option linter.unusedSimpArgs false
set_option maxRecDepth 100000
set_option maxHeartbeats 4000000
namespace Go.Proofs.Ytgjdmlgdgbehoaa.Am
open Go Go.RowKit
def l4 (u : V4) : List Int := [u.1, u.2.1, u.2.2.1, u.2.2.2]
theorem cmp4_l (u v : V4) : cmp4 u v = cmpL (l4 u) (l4 v) := rfl
theorem cmpL_lt {a b : Int} (l m : List Int) (h : a < b) : cmpL (a :: l) (b :: m) = -1 := by unfold cmpL; rw [if_pos h]
theorem cmpL_gt {a b : Int} (l m : List Int) (h1 : ¬ a < b) (h : b < a) : cmpL (a :: l) (b :: m) = 1 := by unfold cmpL; rw [if_neg h1, if_pos h]
theorem cmpL_eq {a b : Int} (l m : List Int) (h1 : ¬ a < b) (h : ¬ b < a) : cmpL (a :: l) (b :: m) = cmpL l m := by conv => lhs; unfold cmpL; rw [if_neg h1, if_neg h]
theorem ok_cmp5 : (match Try.f62.body with | some c => codeOk Try.f62.ntmps c | none => false) = true := by kernel_rfl
theorem en_cmp5 : ∃ fn, Try.prog.funcs[62]? = some fn ∧ (fn.name == "runtime.NumGoroutine") = false ∧ fn.body.isNone = false := ⟨_, Try.func62, by kernel_rfl, by kernel_rfl⟩
theorem cmp5_w (u v : V4) (w : World) : PuAt Try.prog 62 [.agg ⟨encV u⟩, .agg ⟨encV v⟩] (.int .i64 (cmp4 u v)) w := by
  refine funcR_pure tyOk wide Try.func62 ok_cmp5 (Nat.le_of_ble_eq_true rfl) ?_
  rw [cmp4_l]
  obtain ⟨a, b, c, d⟩ := u
  obtain ⟨a', b', c', d'⟩ := v
  repeat' first
    | (conv => whnf
       first
       | intro _
       | (first | refine selSplit (fun h => ?_) (fun h => ?_) | refine condSplit (fun h => ?_) (fun h => ?_)) <;> first | exact (clash (by assumption) h).elim | exact (clash h (by assumption)).elim | (simp only [decide_eq_true_eq, decide_eq_false_iff_not, Bool.not_eq_true', Bool.not_eq_false', Bool.not_true, Bool.not_false, Bool.or_eq_true, Bool.and_eq_true, Bool.or_eq_false_iff, Bool.and_eq_false_iff, beq_iff_eq, beq_eq_false_iff_ne, ne_eq] at h; first | (exfalso; omega) | skip) | skip
       | (first | refine drM (.quiet 0 (.quiet 1 (.quiet 2 (.quiet 3 (.quiet 4 (.quiet 5 (.quiet 6 .done))))))) (SubL.refl _) ?_)
       | refine AltP.mk ?_ ?_
       | refine kpM ?_
       | refine SeqP.go ?_
       | refine cdM ?_
       | exact IsV.mk
       | apply GuardP.mk
       | refine Or.inl ⟨_, _, hasM, ?_⟩
       | refine Or.inl ⟨_, _, _, holeM, rfl, rfl, ?_⟩
       | refine lA ?_
       | refine lA0 ?_
       | refine lA1 ?_
       | refine lO ?_
       | refine lO0 ?_
       | refine lO1 ?_
       | refine lR ?_
       | refine lG ?_
       | refine lG0 ?_
       | refine tA ?_
       | refine tA0 ?_
       | refine tA1 ?_
       | refine BytW.ofBlk hasM rfl rfl ?_
       | refine AppW.noneB hasM leM rfl rfl rfl leM leM ?_
       | refine AppW.rowB hasM leM rfl rfl holeM leM leM ?_
       | refine AppW.blkB hasM leM rfl rfl holeM rfl rfl leM leM ?_
       | refine AppW.rowS hasM leM rfl rfl holeM (by omega) leM ?_
       | refine AppW.arrS hasM leM rfl rfl rfl holeM (by first | omega | (simp; omega)) leM ?_
       | refine ⟨sideM, ?_⟩
       | fail)
  all_goals (try conv => whnf)
  rename_i b2 b3 b5 b6
  refine .mk Nat (fun k S H => (k ≤ 4 ∧ cmpL [a, b, c, d] [a', b', c', d'] = cmpL ([a, b, c, d].drop k) ([a', b', c', d'].drop k)) ∧ S = [(7, .int .i64 k), (6, .pointer (some ⟨b6, 0, none⟩)), (5, .pointer (some ⟨b5, 0, none⟩))] ∧ H = [.blk b6 [.int .u64 a', .int .u64 b', .int .u64 c', .int .u64 d'] 128, .blk b5 [.int .u64 a, .int .u64 b, .int .u64 c, .int .u64 d] 128]) (fun k => 4 - k) 0 _ _ ⟨⟨by omega, rfl⟩, rfl, rfl⟩ subM entM ?_
  rintro k S1 H1 ⟨⟨hk, he⟩, rfl, rfl⟩
  rcases (show k = 0 ∨ k = 1 ∨ k = 2 ∨ k = 3 ∨ k = 4 by omega) with rfl | rfl | rfl | rfl | rfl
  · replace he : cmpL (l4 (a, b, c, d)) (l4 (a', b', c', d')) = cmpL [a, b, c, d] [a', b', c', d'] := he
    repeat' first
      | (conv => whnf
         first
         | intro _
         | (first | refine selSplit (fun h => ?_) (fun h => ?_) | refine condSplit (fun h => ?_) (fun h => ?_)) <;> first | exact (clash (by assumption) h).elim | exact (clash h (by assumption)).elim | (simp only [decide_eq_true_eq, decide_eq_false_iff_not, Bool.not_eq_true', Bool.not_eq_false', Bool.not_true, Bool.not_false, Bool.or_eq_true, Bool.and_eq_true, Bool.or_eq_false_iff, Bool.and_eq_false_iff, beq_iff_eq, beq_eq_false_iff_ne, ne_eq] at h; first | (exfalso; omega) | skip) | skip
         | (first | refine drM (.quiet 0 (.quiet 1 (.quiet 2 (.quiet 3 (.quiet 4 (.quiet 5 (.quiet 6 .done))))))) (SubL.refl _) ?_)
         | refine AltP.mk ?_ ?_
         | refine kpM ?_
         | refine SeqP.go ?_
         | refine cdM ?_
         | exact IsV.mk
         | apply GuardP.mk
         | refine Or.inl ⟨_, _, hasM, ?_⟩
         | refine Or.inl ⟨_, _, _, holeM, rfl, rfl, ?_⟩
         | refine lA ?_
         | refine lA0 ?_
         | refine lA1 ?_
         | refine lO ?_
         | refine lO0 ?_
         | refine lO1 ?_
         | refine lR ?_
         | refine lG ?_
         | refine lG0 ?_
         | refine tA ?_
         | refine tA0 ?_
         | refine tA1 ?_
         | refine BytW.ofBlk hasM rfl rfl ?_
         | refine AppW.noneB hasM leM rfl rfl rfl leM leM ?_
         | refine AppW.rowB hasM leM rfl rfl holeM leM leM ?_
         | refine AppW.blkB hasM leM rfl rfl holeM rfl rfl leM leM ?_
         | refine AppW.rowS hasM leM rfl rfl holeM (by omega) leM ?_
         | refine AppW.arrS hasM leM rfl rfl rfl holeM (by first | omega | (simp; omega)) leM ?_
         | refine ⟨sideM, ?_⟩
         | fail)
    all_goals (try conv => whnf)
    · refine v_int ?_; rw [he, cmpL_lt _ _ (by assumption)]
    · refine v_int ?_; rw [he, cmpL_gt _ _ (by assumption) (by assumption)]
    · rw [cmpL_eq _ _ (by assumption) (by assumption)] at he; exact .mk 1 _ _ (by omega) ⟨⟨by omega, he⟩, rfl, rfl⟩ subM entM
  · replace he : cmpL (l4 (a, b, c, d)) (l4 (a', b', c', d')) = cmpL [b, c, d] [b', c', d'] := he
    repeat' first
      | (conv => whnf
         first
         | intro _
         | (first | refine selSplit (fun h => ?_) (fun h => ?_) | refine condSplit (fun h => ?_) (fun h => ?_)) <;> first | exact (clash (by assumption) h).elim | exact (clash h (by assumption)).elim | (simp only [decide_eq_true_eq, decide_eq_false_iff_not, Bool.not_eq_true', Bool.not_eq_false', Bool.not_true, Bool.not_false, Bool.or_eq_true, Bool.and_eq_true, Bool.or_eq_false_iff, Bool.and_eq_false_iff, beq_iff_eq, beq_eq_false_iff_ne, ne_eq] at h; first | (exfalso; omega) | skip) | skip
         | (first | refine drM (.quiet 0 (.quiet 1 (.quiet 2 (.quiet 3 (.quiet 4 (.quiet 5 (.quiet 6 .done))))))) (SubL.refl _) ?_)
         | refine AltP.mk ?_ ?_
         | refine kpM ?_
         | refine SeqP.go ?_
         | refine cdM ?_
         | exact IsV.mk
         | apply GuardP.mk
         | refine Or.inl ⟨_, _, hasM, ?_⟩
         | refine Or.inl ⟨_, _, _, holeM, rfl, rfl, ?_⟩
         | refine lA ?_
         | refine lA0 ?_
         | refine lA1 ?_
         | refine lO ?_
         | refine lO0 ?_
         | refine lO1 ?_
         | refine lR ?_
         | refine lG ?_
         | refine lG0 ?_
         | refine tA ?_
         | refine tA0 ?_
         | refine tA1 ?_
         | refine BytW.ofBlk hasM rfl rfl ?_
         | refine AppW.noneB hasM leM rfl rfl rfl leM leM ?_
         | refine AppW.rowB hasM leM rfl rfl holeM leM leM ?_
         | refine AppW.blkB hasM leM rfl rfl holeM rfl rfl leM leM ?_
         | refine AppW.rowS hasM leM rfl rfl holeM (by omega) leM ?_
         | refine AppW.arrS hasM leM rfl rfl rfl holeM (by first | omega | (simp; omega)) leM ?_
         | refine ⟨sideM, ?_⟩
         | fail)
    all_goals (try conv => whnf)
    · refine v_int ?_; rw [he, cmpL_lt _ _ (by assumption)]
    · refine v_int ?_; rw [he, cmpL_gt _ _ (by assumption) (by assumption)]
    · rw [cmpL_eq _ _ (by assumption) (by assumption)] at he; exact .mk 2 _ _ (by omega) ⟨⟨by omega, he⟩, rfl, rfl⟩ subM entM
  · replace he : cmpL (l4 (a, b, c, d)) (l4 (a', b', c', d')) = cmpL [c, d] [c', d'] := he
    repeat' first
      | (conv => whnf
         first
         | intro _
         | (first | refine selSplit (fun h => ?_) (fun h => ?_) | refine condSplit (fun h => ?_) (fun h => ?_)) <;> first | exact (clash (by assumption) h).elim | exact (clash h (by assumption)).elim | (simp only [decide_eq_true_eq, decide_eq_false_iff_not, Bool.not_eq_true', Bool.not_eq_false', Bool.not_true, Bool.not_false, Bool.or_eq_true, Bool.and_eq_true, Bool.or_eq_false_iff, Bool.and_eq_false_iff, beq_iff_eq, beq_eq_false_iff_ne, ne_eq] at h; first | (exfalso; omega) | skip) | skip
         | (first | refine drM (.quiet 0 (.quiet 1 (.quiet 2 (.quiet 3 (.quiet 4 (.quiet 5 (.quiet 6 .done))))))) (SubL.refl _) ?_)
         | refine AltP.mk ?_ ?_
         | refine kpM ?_
         | refine SeqP.go ?_
         | refine cdM ?_
         | exact IsV.mk
         | apply GuardP.mk
         | refine Or.inl ⟨_, _, hasM, ?_⟩
         | refine Or.inl ⟨_, _, _, holeM, rfl, rfl, ?_⟩
         | refine lA ?_
         | refine lA0 ?_
         | refine lA1 ?_
         | refine lO ?_
         | refine lO0 ?_
         | refine lO1 ?_
         | refine lR ?_
         | refine lG ?_
         | refine lG0 ?_
         | refine tA ?_
         | refine tA0 ?_
         | refine tA1 ?_
         | refine BytW.ofBlk hasM rfl rfl ?_
         | refine AppW.noneB hasM leM rfl rfl rfl leM leM ?_
         | refine AppW.rowB hasM leM rfl rfl holeM leM leM ?_
         | refine AppW.blkB hasM leM rfl rfl holeM rfl rfl leM leM ?_
         | refine AppW.rowS hasM leM rfl rfl holeM (by omega) leM ?_
         | refine AppW.arrS hasM leM rfl rfl rfl holeM (by first | omega | (simp; omega)) leM ?_
         | refine ⟨sideM, ?_⟩
         | fail)
    all_goals (try conv => whnf)
    · refine v_int ?_; rw [he, cmpL_lt _ _ (by assumption)]
    · refine v_int ?_; rw [he, cmpL_gt _ _ (by assumption) (by assumption)]
    · rw [cmpL_eq _ _ (by assumption) (by assumption)] at he; exact .mk 3 _ _ (by omega) ⟨⟨by omega, he⟩, rfl, rfl⟩ subM entM
  · replace he : cmpL (l4 (a, b, c, d)) (l4 (a', b', c', d')) = cmpL [d] [d'] := he
    repeat' first
      | (conv => whnf
         first
         | intro _
         | (first | refine selSplit (fun h => ?_) (fun h => ?_) | refine condSplit (fun h => ?_) (fun h => ?_)) <;> first | exact (clash (by assumption) h).elim | exact (clash h (by assumption)).elim | (simp only [decide_eq_true_eq, decide_eq_false_iff_not, Bool.not_eq_true', Bool.not_eq_false', Bool.not_true, Bool.not_false, Bool.or_eq_true, Bool.and_eq_true, Bool.or_eq_false_iff, Bool.and_eq_false_iff, beq_iff_eq, beq_eq_false_iff_ne, ne_eq] at h; first | (exfalso; omega) | skip) | skip
         | (first | refine drM (.quiet 0 (.quiet 1 (.quiet 2 (.quiet 3 (.quiet 4 (.quiet 5 (.quiet 6 .done))))))) (SubL.refl _) ?_)
         | refine AltP.mk ?_ ?_
         | refine kpM ?_
         | refine SeqP.go ?_
         | refine cdM ?_
         | exact IsV.mk
         | apply GuardP.mk
         | refine Or.inl ⟨_, _, hasM, ?_⟩
         | refine Or.inl ⟨_, _, _, holeM, rfl, rfl, ?_⟩
         | refine lA ?_
         | refine lA0 ?_
         | refine lA1 ?_
         | refine lO ?_
         | refine lO0 ?_
         | refine lO1 ?_
         | refine lR ?_
         | refine lG ?_
         | refine lG0 ?_
         | refine tA ?_
         | refine tA0 ?_
         | refine tA1 ?_
         | refine BytW.ofBlk hasM rfl rfl ?_
         | refine AppW.noneB hasM leM rfl rfl rfl leM leM ?_
         | refine AppW.rowB hasM leM rfl rfl holeM leM leM ?_
         | refine AppW.blkB hasM leM rfl rfl holeM rfl rfl leM leM ?_
         | refine AppW.rowS hasM leM rfl rfl holeM (by omega) leM ?_
         | refine AppW.arrS hasM leM rfl rfl rfl holeM (by first | omega | (simp; omega)) leM ?_
         | refine ⟨sideM, ?_⟩
         | fail)
    all_goals (try conv => whnf)
    · refine v_int ?_; rw [he, cmpL_lt _ _ (by assumption)]
    · refine v_int ?_; rw [he, cmpL_gt _ _ (by assumption) (by assumption)]
    · rw [cmpL_eq _ _ (by assumption) (by assumption)] at he; exact .mk 4 _ _ (by omega) ⟨⟨by omega, he⟩, rfl, rfl⟩ subM entM
  · replace he : cmpL (l4 (a, b, c, d)) (l4 (a', b', c', d')) = cmpL [] [] := he
    repeat' first
      | (conv => whnf
         first
         | intro _
         | (first | refine selSplit (fun h => ?_) (fun h => ?_) | refine condSplit (fun h => ?_) (fun h => ?_)) <;> first | exact (clash (by assumption) h).elim | exact (clash h (by assumption)).elim | (simp only [decide_eq_true_eq, decide_eq_false_iff_not, Bool.not_eq_true', Bool.not_eq_false', Bool.not_true, Bool.not_false, Bool.or_eq_true, Bool.and_eq_true, Bool.or_eq_false_iff, Bool.and_eq_false_iff, beq_iff_eq, beq_eq_false_iff_ne, ne_eq] at h; first | (exfalso; omega) | skip) | skip
         | (first | refine drM (.quiet 0 (.quiet 1 (.quiet 2 (.quiet 3 (.quiet 4 (.quiet 5 (.quiet 6 .done))))))) (SubL.refl _) ?_)
         | refine AltP.mk ?_ ?_
         | refine kpM ?_
         | refine SeqP.go ?_
         | refine cdM ?_
         | exact IsV.mk
         | apply GuardP.mk
         | refine Or.inl ⟨_, _, hasM, ?_⟩
         | refine Or.inl ⟨_, _, _, holeM, rfl, rfl, ?_⟩
         | refine lA ?_
         | refine lA0 ?_
         | refine lA1 ?_
         | refine lO ?_
         | refine lO0 ?_
         | refine lO1 ?_
         | refine lR ?_
         | refine lG ?_
         | refine lG0 ?_
         | refine tA ?_
         | refine tA0 ?_
         | refine tA1 ?_
         | refine BytW.ofBlk hasM rfl rfl ?_
         | refine AppW.noneB hasM leM rfl rfl rfl leM leM ?_
         | refine AppW.rowB hasM leM rfl rfl holeM leM leM ?_
         | refine AppW.blkB hasM leM rfl rfl holeM rfl rfl leM leM ?_
         | refine AppW.rowS hasM leM rfl rfl holeM (by omega) leM ?_
         | refine AppW.arrS hasM leM rfl rfl rfl holeM (by first | omega | (simp; omega)) leM ?_
         | refine ⟨sideM, ?_⟩
         | fail)
    all_goals (try conv => whnf)
    refine v_int ?_; rw [he]; rfl
/-- A vector's numbers. -/
def okV (u : V4) : Prop := (0 ≤ u.2.2.1 ∧ u.2.2.1 < 18446744073709551616) ∧ (0 ≤ u.2.2.2 ∧ u.2.2.2 < 18446744073709551616)
theorem cmp4_cases (u v : V4) : cmp4 u v = -1 ∨ cmp4 u v = 0 ∨ cmp4 u v = 1 := by
  rw [cmp4_l]
  unfold l4 cmpL
  split
  · exact .inl rfl
  split
  · exact .inr (.inr rfl)
  unfold cmpL
  split
  · exact .inl rfl
  split
  · exact .inr (.inr rfl)
  unfold cmpL
  split
  · exact .inl rfl
  split
  · exact .inr (.inr rfl)
  unfold cmpL
  split
  · exact .inl rfl
  split
  · exact .inr (.inr rfl)
  exact .inr (.inl rfl)
theorem and48 {x : Int} (h : 0 ≤ x ∧ x < 18446744073709551616) : bits .and .u64 x 281474976710655 = x % 281474976710656 := and64u 48 (by decide) x h.1 h.2
theorem and12 {x : Int} (h : 0 ≤ x ∧ x < 18446744073709551616) : bits .and .u64 x 4095 = x % 4096 := and64u 12 (by decide) x h.1 h.2
/-- A cost's number. -/
def u64N (x : Int) : Prop := 0 ≤ x ∧ x < 18446744073709551616
theorem ok_Raise5 : (match Try.f100.body with | some c => codeOk Try.f100.ntmps c | none => false) = true := by kernel_rfl
theorem en_Raise5 : ∃ fn, Try.prog.funcs[100]? = some fn ∧ (fn.name == "runtime.NumGoroutine") = false ∧ fn.body.isNone = false := ⟨_, Try.func100, by kernel_rfl, by kernel_rfl⟩
theorem Raise5_w (v : V4) (c : Int) (hv : u64N v.2.1) (hc : u64N c) (w : World) : PuAt Try.prog 100 [.agg ⟨encV v⟩, .int .u64 c] (.agg ⟨encV (raiseV v c)⟩) w := by
  refine funcR_pure tyOk wide Try.func100 ok_Raise5 (Nat.le_of_ble_eq_true rfl) ?_
  repeat' first
    | (conv => whnf
       first
       | intro _
       | (first | refine selSplit (fun h => ?_) (fun h => ?_) | refine condSplit (fun h => ?_) (fun h => ?_)) <;> first | exact (clash (by assumption) h).elim | exact (clash h (by assumption)).elim | (simp only [decide_eq_true_eq, decide_eq_false_iff_not, Bool.not_eq_true', Bool.not_eq_false', Bool.not_true, Bool.not_false, Bool.or_eq_true, Bool.and_eq_true, Bool.or_eq_false_iff, Bool.and_eq_false_iff, beq_iff_eq, beq_eq_false_iff_ne, ne_eq] at h; first | (exfalso; omega) | skip) | skip
       | refine SeqP.go ?_
       | refine cdM ?_
       | exact IsV.mk
       | apply GuardP.mk
       | refine Or.inl ⟨_, _, hasM, ?_⟩
       | refine Or.inl ⟨_, _, _, holeM, rfl, rfl, ?_⟩
       | refine lA ?_
       | refine lA0 ?_
       | refine lA1 ?_
       | refine lO ?_
       | refine lO0 ?_
       | refine lO1 ?_
       | refine lR ?_
       | refine lG ?_
       | refine lG0 ?_
       | refine tA ?_
       | refine tA0 ?_
       | refine tA1 ?_
       | refine BytW.ofBlk hasM rfl rfl ?_
       | refine AppW.noneB hasM leM rfl rfl rfl leM leM ?_
       | refine AppW.rowB hasM leM rfl rfl holeM leM leM ?_
       | refine AppW.blkB hasM leM rfl rfl holeM rfl rfl leM leM ?_
       | refine AppW.rowS hasM leM rfl rfl holeM (by omega) leM ?_
       | refine AppW.arrS hasM leM rfl rfl rfl holeM (by first | omega | (simp; omega)) leM ?_
       | refine ⟨sideM, ?_⟩
       | fail)
  all_goals (try conv => whnf)
  · have e : raise v.2.1 c = 4294967295 := by
      unfold raise
      rw [if_pos ?_]
      rcases hv with ⟨hv0, hv1⟩
      rcases hc with ⟨hc0, hc1⟩
      by_cases g : 4294967295 < v.2.1
      · exact .inl g
      · right
        rw [wu64 (by omega) (by omega)]
        rcases h with (h | h) | h
        · omega
        · omega
        · by_cases q : 4294967295 < c
          · omega
          · rw [wu64 (by omega) (by omega)] at h; omega
    unfold raiseV; rw [e]; rfl
  · have e : raise v.2.1 c = IntKind.u64.wrap (v.2.1 + c) := by
      unfold raise
      rw [if_neg ?_]
      rcases hv with ⟨hv0, hv1⟩
      rcases hc with ⟨hc0, hc1⟩
      obtain ⟨⟨h1, h2⟩, h3⟩ := h
      rw [wu64 (by omega) (by omega)] at h3 ⊢
      omega
    unfold raiseV; rw [e]; rfl
end Go.Proofs.Ytgjdmlgdgbehoaa.Am
