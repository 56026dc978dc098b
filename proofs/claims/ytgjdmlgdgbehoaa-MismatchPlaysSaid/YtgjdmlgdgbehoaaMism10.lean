/- The law MismatchPlays. -/
import Derived.Test.YtgjdmlgdgbehoaaMism9
set_option linter.unusedVariables false
set_option linter.unusedSimpArgs false
set_option maxRecDepth 100000
set_option maxHeartbeats 4000000
namespace Go.Proofs.Ytgjdmlgdgbehoaa.Am
open Go Go.RowKit
theorem ok_Plays9 : (match Try.f8.body with | some c => codeOk Try.f8.ntmps c | none => false) = true := by kernel_rfl
theorem en_Plays9 : ∃ fn, Try.prog.funcs[8]? = some fn ∧ (fn.name == "runtime.NumGoroutine") = false ∧ fn.body.isNone = false := ⟨_, Try.func8, by kernel_rfl, by kernel_rfl⟩
theorem Plays9_w (t : Bool) (n : Int) (l : List Int) (hello : Int) (acts : List Act9) (A : Option Addr) (c : Nat) (SA : Option Addr) (sc : Nat) (w : World) (hs : SlAt w A 1 (ints l)) (hs2 : SlAt w SA 4 (acts.map Act9.enc)) : PuAt Try.prog 8 [.agg ⟨[.bool t, .int .i64 n, .slice A l.length c]⟩, .int .i64 hello, .slice SA acts.length sc] (.bool true) w := by
  refine funcR_pure tyOk wide Try.func8 ok_Plays9 (Nat.le_of_ble_eq_true rfl) ?_
  by_cases hbig : l.length > 40 ∨ acts.length > 60
  · skip
    repeat' first
      | (conv => whnf
         first
         | intro _
         | (first | refine selSplit (fun h => ?_) (fun h => ?_) | refine condSplit (fun h => ?_) (fun h => ?_)) <;> first | exact (clash (by assumption) h).elim | exact (clash h (by assumption)).elim | (simp only [decide_eq_true_eq, decide_eq_false_iff_not, Bool.not_eq_true', Bool.not_eq_false', Bool.not_true, Bool.not_false, Bool.or_eq_true, Bool.and_eq_true, Bool.or_eq_false_iff, Bool.and_eq_false_iff, beq_iff_eq, beq_eq_false_iff_ne, ne_eq] at h; first | (exfalso; omega) | skip) | skip
         | (first | refine drC (.quiet 0 (.quiet 1 (.quiet 2 (.quiet 3 (.quiet 4 (.quiet 5 (.quiet 6 (.quiet 7 (.quiet 8 (.quiet 9 (.quiet 10 (.quiet 11 (.quiet 12 (.quiet 13 (.quiet 14 (.quiet 15 (.quiet 16 (.quiet 17 (.quiet 18 (.quiet 19 (.quiet 20 (.quiet 21 (.quiet 22 (.quiet 23 .done)))))))))))))))))))))))) (SubL.refl _) ?_)
         | refine AltP.mk ?_ ?_
         | refine kpM ?_
         | refine SeqP.go ?_
         | refine cdM ?_
         | exact IsV.mk
         | apply GuardP.mk
         | ((first | apply callPure' en_awake09 | apply callQuiet' en_awake09); · exact fun w _ => awake09_w w)
         | refine Or.inl ⟨_, _, hasM, ?_⟩
         | refine Or.inl ⟨_, _, _, holeM, rfl, rfl, ?_⟩
         | refine lA ?_
         | refine lA0 ?_
         | refine lA1 ?_
         | refine lO ?_
         | refine lO0 ?_
         | refine lO1 ?_
         | refine lR ?_
         | refine lG ?_
         | refine lG0 ?_
         | refine tA ?_
         | refine tA0 ?_
         | refine tA1 ?_
         | refine BytW.ofBlk hasM rfl rfl ?_
         | refine AppW.noneB hasM leM rfl rfl rfl leM leM ?_
         | refine AppW.rowB hasM leM rfl rfl holeM leM leM ?_
         | refine AppW.blkB hasM leM rfl rfl holeM rfl rfl leM leM ?_
         | refine AppW.rowS hasM leM rfl rfl holeM (by omega) leM ?_
         | refine AppW.arrS hasM leM rfl rfl rfl holeM (by first | omega | (simp; omega)) leM ?_
         | refine ⟨sideM, ?_⟩
         | fail)
    all_goals (try conv => whnf)
    all_goals first | rfl | (exfalso; omega)
  have hl : l.length ≤ 1000 := by omega
  cases hr : vRightB t n l with
  | false =>
    have n1 := fun w hs => gNew_no t n l A c hello w hs hl (.inl hr)
    rw [hr, if_pos rfl] at n1
    have r6 := fun w hs => right6_w t n l A c w hs hl
    rw [hr] at r6
    repeat' first
      | (conv => whnf
         first
         | intro _
         | (first | refine selSplit (fun h => ?_) (fun h => ?_) | refine condSplit (fun h => ?_) (fun h => ?_)) <;> first | exact (clash (by assumption) h).elim | exact (clash h (by assumption)).elim | (simp only [decide_eq_true_eq, decide_eq_false_iff_not, Bool.not_eq_true', Bool.not_eq_false', Bool.not_true, Bool.not_false, Bool.or_eq_true, Bool.and_eq_true, Bool.or_eq_false_iff, Bool.and_eq_false_iff, beq_iff_eq, beq_eq_false_iff_ne, ne_eq] at h; first | (exfalso; omega) | skip) | skip
         | (first | refine drC (.quiet 0 (.quiet 1 (.quiet 2 (.quiet 3 (.quiet 4 (.quiet 5 (.quiet 6 (.quiet 7 (.quiet 8 (.quiet 9 (.quiet 10 (.quiet 11 (.quiet 12 (.quiet 13 (.quiet 14 (.quiet 15 (.quiet 16 (.quiet 17 (.quiet 18 (.quiet 19 (.quiet 20 (.quiet 21 (.quiet 22 (.quiet 23 .done)))))))))))))))))))))))) (SubL.refl _) ?_)
         | refine AltP.mk ?_ ?_
         | refine kpM ?_
         | refine SeqP.go ?_
         | refine cdM ?_
         | exact IsV.mk
         | apply GuardP.mk
         | ((first | apply callPure' en_awake09 | apply callQuiet' en_awake09); · exact fun w _ => awake09_w w)
         | ((first | apply callPure' en_gNew | apply callQuiet' en_gNew); · exact fun w hw => n1 w (hs.later hw))
         | ((first | apply callPure' en_right6 | apply callQuiet' en_right6); · exact fun w hw => r6 w (hs.later hw))
         | (refine ptrEqNil rfl Try.underlying80 rfl rfl ?_)
         | refine Or.inl ⟨_, _, hasM, ?_⟩
         | refine Or.inl ⟨_, _, _, holeM, rfl, rfl, ?_⟩
         | refine lA ?_
         | refine lA0 ?_
         | refine lA1 ?_
         | refine lO ?_
         | refine lO0 ?_
         | refine lO1 ?_
         | refine lR ?_
         | refine lG ?_
         | refine lG0 ?_
         | refine tA ?_
         | refine tA0 ?_
         | refine tA1 ?_
         | refine BytW.ofBlk hasM rfl rfl ?_
         | refine AppW.noneB hasM leM rfl rfl rfl leM leM ?_
         | refine AppW.rowB hasM leM rfl rfl holeM leM leM ?_
         | refine AppW.blkB hasM leM rfl rfl holeM rfl rfl leM leM ?_
         | refine AppW.rowS hasM leM rfl rfl holeM (by omega) leM ?_
         | refine AppW.arrS hasM leM rfl rfl rfl holeM (by first | omega | (simp; omega)) leM ?_
         | refine ⟨sideM, ?_⟩
         | fail)
    all_goals (try conv => whnf)
    all_goals first | rfl | (exfalso; omega) | (exfalso; simp at h; done)
  | true =>
    have r6 := fun w hs => right6_w t n l A c w hs hl
    rw [hr] at r6
    by_cases hh : 1 ≤ hello ∧ hello ≤ 10
    · have n1 := fun w hs => gNew_w t n l A c hello w hs hl hr hh
      repeat' first
        | (conv => whnf
           first
           | intro _
           | (first | refine selSplit (fun h => ?_) (fun h => ?_) | refine condSplit (fun h => ?_) (fun h => ?_)) <;> first | exact (clash (by assumption) h).elim | exact (clash h (by assumption)).elim | (simp only [decide_eq_true_eq, decide_eq_false_iff_not, Bool.not_eq_true', Bool.not_eq_false', Bool.not_true, Bool.not_false, Bool.or_eq_true, Bool.and_eq_true, Bool.or_eq_false_iff, Bool.and_eq_false_iff, beq_iff_eq, beq_eq_false_iff_ne, ne_eq] at h; first | (exfalso; omega) | skip) | skip
           | (first | refine drC (.quiet 0 (.quiet 1 (.quiet 2 (.quiet 3 (.quiet 4 (.quiet 5 (.quiet 6 (.quiet 7 (.quiet 8 (.quiet 9 (.quiet 10 (.quiet 11 (.quiet 12 (.quiet 13 (.quiet 14 (.quiet 15 (.quiet 16 (.quiet 17 (.quiet 18 (.quiet 19 (.quiet 20 (.quiet 21 (.quiet 22 (.quiet 23 .done)))))))))))))))))))))))) (SubL.refl _) ?_)
           | refine AltP.mk ?_ ?_
           | refine kpM ?_
           | refine SeqP.go ?_
           | refine cdM ?_
           | exact IsV.mk
           | apply GuardP.mk
           | ((first | apply callPure' en_awake09 | apply callQuiet' en_awake09); · exact fun w _ => awake09_w w)
           | (refine callX takeM en_gNew (fun w hw => n1 w (hs.later hw)) ?_)
           | ((first | apply callPure' en_right6 | apply callQuiet' en_right6); · exact fun w hw => r6 w (hs.later hw))
           | (refine ptrEqNil rfl Try.underlying80 rfl rfl ?_)
           | refine Or.inl ⟨_, _, hasM, ?_⟩
           | refine Or.inl ⟨_, _, _, holeM, rfl, rfl, ?_⟩
           | refine lA ?_
           | refine lA0 ?_
           | refine lA1 ?_
           | refine lO ?_
           | refine lO0 ?_
           | refine lO1 ?_
           | refine lR ?_
           | refine lG ?_
           | refine lG0 ?_
           | refine tA ?_
           | refine tA0 ?_
           | refine tA1 ?_
           | refine BytW.ofBlk hasM rfl rfl ?_
           | refine AppW.noneB hasM leM rfl rfl rfl leM leM ?_
           | refine AppW.rowB hasM leM rfl rfl holeM leM leM ?_
           | refine AppW.blkB hasM leM rfl rfl holeM rfl rfl leM leM ?_
           | refine AppW.rowS hasM leM rfl rfl holeM (by omega) leM ?_
           | refine AppW.arrS hasM leM rfl rfl rfl holeM (by first | omega | (simp; omega)) leM ?_
           | refine ⟨sideM, ?_⟩
           | fail)
      all_goals (try conv => whnf)
      all_goals first | rfl | (exfalso; omega) | (exfalso; simp at h; done) | skip
      rename_i b0 _ bm bg _
      obtain ⟨b, mp, gA, gc⟩ := bg
      refine .mk L9 (fun ⟨k, g, M, s, LA, Lc⟩ S H => (k ≤ acts.length ∧ Rel9 t n l hello g M s ∧ s.many ≤ k ∧ s.LL.length ≤ 2 * k ∧ IsRow (.slice LA s.LL.length Lc) s.LL.length ∧ (s.LL = [] → LA = none)) ∧ S = [(10, .int .i64 k), (8, .pointer (some ⟨b, 0, none⟩)), (7, .pointer (some ⟨bm, 0, none⟩)), (2, .slice SA acts.length sc)] ∧ H = .blk bm (s.enc t n A l.length c hello LA Lc) 79 :: .arr (.slice LA s.LL.length Lc) 161 2 (heardE s.LL) :: g.res b l M) (fun ⟨k, g, M, s, LA, Lc⟩ => acts.length - k) ⟨0, ⟨t, n, gA, l.length, gc, 3 * hello, 0, mp, 0, 0, 0, 0, 0, 0⟩, [], ⟨0, [], 0, 0, 0⟩, none, 0⟩ _ _ ⟨⟨Nat.zero_le _, rel0 t n l hello gA gc mp, Int.le_refl _, Nat.zero_le _, .inl ⟨rfl, rfl⟩, fun _ => rfl⟩, rfl, rfl⟩ subM ((Ent.take (H' := [.blk bm _ 79, .blk b _ _, .map _ _, .arr _ _ _ _]) takeM).trans (nilArr2 _)) ?_
      rintro ⟨k, g, M, s, LA, Lc⟩ S1 H1 ⟨⟨hk, R, hm1, hm2, hrow, hnil⟩, rfl, rfl⟩
      have hk1 : IntKind.i64.wrap ((k : Int) + 1) = ((k + 1 : Nat) : Int) := by rw [w64 (by omega) (by omega)]; omega
      have hmany : s.many ≤ 1000 := by omega
      have gok := R.ok hl hh hmany
      have hm0 : 0 ≤ s.many := by rcases R.done with q | q <;> omega
      by_cases hk2 : k < acts.length
      · obtain ⟨⟨ask, r, t', now⟩, hx⟩ : ∃ a, acts[k]? = some a := ⟨_, List.getElem?_eq_getElem hk2⟩
        have y1 : (acts.map Act9.enc)[k]? = some (Act9.enc ⟨ask, r, t', now⟩) := by rw [List.getElem?_map, hx]; rfl
        obtain ⟨bb, o, e, _⟩ := hs2.at_ (by rw [List.length_map]; omega)
        subst e
        have ho := hs2.old (X := []) (by rw [List.length_map]; omega) (by simp)
        have Ra := R.at now
        cases ask with
        | false =>
          have hG := fun w hS => gHear_w g b l M r t' now w gok hS
          by_cases hv : vlanB r = true ∧ vlanB t' = true ∧ timeB now = true
          · cases h4 : vHasB t n l r with
            | false =>
              have hN := fun w hs => hear9_no s t n l A l.length c hello LA Lc r t' now w hs rfl hl (.inr h4)
              rw [if_pos hv] at hN
              rw [show hearG g l M r t' now = (5, g, M) by unfold hearG; rw [if_neg (not_not_intro hv), R.t, R.n, h4, if_pos rfl]] at hG
              have q1 := R.heard
              have q2 := R.recv
              have q3 := R.telld
              have q4 := rel_any R
              repeat' first
                | (conv => whnf
                   first
                   | intro _
                   | (first | refine selSplit (fun h => ?_) (fun h => ?_) | refine condSplit (fun h => ?_) (fun h => ?_)) <;> first | exact (clash (by assumption) h).elim | exact (clash h (by assumption)).elim | (simp only [decide_eq_true_eq, decide_eq_false_iff_not, Bool.not_eq_true', Bool.not_eq_false', Bool.not_true, Bool.not_false, Bool.or_eq_true, Bool.and_eq_true, Bool.or_eq_false_iff, Bool.and_eq_false_iff, beq_iff_eq, beq_eq_false_iff_ne, ne_eq] at h; first | (exfalso; omega) | skip) | skip
                   | (first | refine drC (.quiet 0 (.quiet 1 (.quiet 2 (.quiet 3 (.quiet 4 (.quiet 5 (.quiet 6 (.quiet 7 (.quiet 8 (.quiet 9 (.quiet 10 (.quiet 11 (.quiet 12 (.quiet 13 (.quiet 14 (.quiet 15 (.quiet 16 (.quiet 17 (.quiet 18 (.quiet 19 (.quiet 20 (.quiet 21 (.quiet 22 (.quiet 23 .done)))))))))))))))))))))))) (SubL.refl _) ?_)
                   | refine AltP.mk ?_ ?_
                   | refine kpM ?_
                   | refine SeqP.go ?_
                   | refine cdM ?_
                   | exact IsV.mk
                   | apply GuardP.mk
                   | ((first | apply callPure' en_hear9 | apply callQuiet' en_hear9); · exact fun w hw => hN w (hs.later hw))
                   | (refine callX takeM en_gHear (fun w hw => hG w (hw.sub2 takeM)) ?_)
                   | ((first | apply callPure' en_gFirst | apply callQuiet' en_gFirst); · exact fun w hw => gFirst_w g b w (hw.blkRg hasM))
                   | ((first | apply callPure' en_gHeard | apply callQuiet' en_gHeard); · exact fun w hw => gHeard_w g b w (hw.blkRg hasM))
                   | refine Or.inl ⟨_, _, hasM, ?_⟩
                   | refine Or.inl ⟨_, _, _, holeM, rfl, rfl, ?_⟩
                   | refine lA ?_
                   | refine lA0 ?_
                   | refine lA1 ?_
                   | refine lO ?_
                   | refine lO0 ?_
                   | refine lO1 ?_
                   | refine lR ?_
                   | refine lG ?_
                   | refine lG0 ?_
                   | refine tA ?_
                   | refine tA0 ?_
                   | refine tA1 ?_
                   | refine BytW.ofBlk hasM rfl rfl ?_
                   | refine AppW.noneB hasM leM rfl rfl rfl leM leM ?_
                   | refine AppW.rowB hasM leM rfl rfl holeM leM leM ?_
                   | refine AppW.blkB hasM leM rfl rfl holeM rfl rfl leM leM ?_
                   | refine AppW.rowS hasM leM rfl rfl holeM (by omega) leM ?_
                   | refine AppW.arrS hasM leM rfl rfl rfl holeM (by first | omega | (simp; omega)) leM ?_
                   | refine ⟨sideM, ?_⟩
                   | fail)
              all_goals (try conv => whnf)
              all_goals first | (exfalso; simp [q1, q2, q3, q4] at h; done) | skip
              exact .mk ⟨k + 1, g, M, s, LA, Lc⟩ _ _ (show acts.length - (k + 1) < acts.length - k by omega) ⟨⟨hk2, R, (by omega), (by omega), hrow, hnil⟩, rfl, rfl⟩ subM entM
            | true =>
              by_cases h5 : t = true ∧ r = t'
              · obtain ⟨rfl, rfl⟩ := h5
                have hN := fun w hs => hear9_same s n l A l.length c hello LA Lc r now w hs rfl hl hv.1 hv.2.2 h4
                rw [show hearG g l M r r now = (0, g.at now, M) by unfold hearG; rw [if_neg (not_not_intro hv), R.t, R.n, h4, if_neg (by decide), if_pos ⟨rfl, rfl⟩]] at hG
                have eL : (s.at now).LL = s.LL := by unfold S9.at; split <;> rfl
                have eM : (s.at now).many = s.many := by unfold S9.at; split <;> rfl
                have q1 := Ra.heard
                have q2 := Ra.recv
                have q3 := Ra.telld
                have q4 := rel_any Ra
                rw [← eL] at hrow hnil hm2 ⊢
                rw [← eM] at hm1
                repeat' first
                  | (conv => whnf
                     first
                     | intro _
                     | (first | refine selSplit (fun h => ?_) (fun h => ?_) | refine condSplit (fun h => ?_) (fun h => ?_)) <;> first | exact (clash (by assumption) h).elim | exact (clash h (by assumption)).elim | (simp only [decide_eq_true_eq, decide_eq_false_iff_not, Bool.not_eq_true', Bool.not_eq_false', Bool.not_true, Bool.not_false, Bool.or_eq_true, Bool.and_eq_true, Bool.or_eq_false_iff, Bool.and_eq_false_iff, beq_iff_eq, beq_eq_false_iff_ne, ne_eq] at h; first | (exfalso; omega) | skip) | skip
                     | (first | refine drC (.quiet 0 (.quiet 1 (.quiet 2 (.quiet 3 (.quiet 4 (.quiet 5 (.quiet 6 (.quiet 7 (.quiet 8 (.quiet 9 (.quiet 10 (.quiet 11 (.quiet 12 (.quiet 13 (.quiet 14 (.quiet 15 (.quiet 16 (.quiet 17 (.quiet 18 (.quiet 19 (.quiet 20 (.quiet 21 (.quiet 22 (.quiet 23 .done)))))))))))))))))))))))) (SubL.refl _) ?_)
                     | refine AltP.mk ?_ ?_
                     | refine kpM ?_
                     | refine SeqP.go ?_
                     | refine cdM ?_
                     | exact IsV.mk
                     | apply GuardP.mk
                     | ((first | apply callPure' en_hear9 | apply callQuiet' en_hear9); · exact fun w hw => hN w (hs.later hw))
                     | (refine callX takeM en_gHear (fun w hw => hG w (hw.sub2 takeM)) ?_)
                     | ((first | apply callPure' en_gFirst | apply callQuiet' en_gFirst); · exact fun w hw => gFirst_w (g.at now) b w (hw.blkRg hasM))
                     | ((first | apply callPure' en_gHeard | apply callQuiet' en_gHeard); · exact fun w hw => gHeard_w (g.at now) b w (hw.blkRg hasM))
                     | refine Or.inl ⟨_, _, hasM, ?_⟩
                     | refine Or.inl ⟨_, _, _, holeM, rfl, rfl, ?_⟩
                     | refine lA ?_
                     | refine lA0 ?_
                     | refine lA1 ?_
                     | refine lO ?_
                     | refine lO0 ?_
                     | refine lO1 ?_
                     | refine lR ?_
                     | refine lG ?_
                     | refine lG0 ?_
                     | refine tA ?_
                     | refine tA0 ?_
                     | refine tA1 ?_
                     | refine BytW.ofBlk hasM rfl rfl ?_
                     | refine AppW.noneB hasM leM rfl rfl rfl leM leM ?_
                     | refine AppW.rowB hasM leM rfl rfl holeM leM leM ?_
                     | refine AppW.blkB hasM leM rfl rfl holeM rfl rfl leM leM ?_
                     | refine AppW.rowS hasM leM rfl rfl holeM (by omega) leM ?_
                     | refine AppW.arrS hasM leM rfl rfl rfl holeM (by first | omega | (simp; omega)) leM ?_
                     | refine ⟨sideM, ?_⟩
                     | fail)
                all_goals (try conv => whnf)
                all_goals first | (exfalso; simp [q1, q2, q3, q4] at h; done) | skip
                exact .mk ⟨k + 1, g.at now, M, s.at now, LA, Lc⟩ _ _ (show acts.length - (k + 1) < acts.length - k by omega) ⟨⟨hk2, Ra, (by omega), (by omega), hrow, hnil⟩, rfl, rfl⟩ subM entM
              · obtain ⟨g', M', hG', R'⟩ : ∃ g' M', hearG g l M r t' now = (0, g', M') ∧ Rel9 t n l hello g' M' (s.hear t n l hello r t' now) := ⟨_, _, by unfold hearG; rw [if_neg (not_not_intro hv), if_neg (by rw [R.t, R.n, h4]; decide), if_neg (by rw [R.t]; exact h5)], R.put (by omega) h4 hv.1⟩
                rw [hG'] at hG
                have hap : 0 ≤ (s.at now).now ∧ (s.at now).now ≤ 1099511627776 := Ra.pos
                have hN := fun w hs hL => hear9_put s t n l A l.length c hello LA Lc r t' now w hs rfl hl hL hnil (by omega) hv.1 hv.2.1 hv.2.2 h4 h5 ⟨w64 (by omega) (by omega), w64 (by omega) (by omega)⟩ (w64 (by omega) (by omega))
                have eM : (s.hear t n l hello r t' now).many = s.many + 1 := rfl
                have hT : (toldL t n l r t' ((s.at now).now + 3 * hello)).length ≤ 2 := by unfold toldL; split <;> (try split) <;> simp
                have hT0 : 0 < (toldL t n l r t' ((s.at now).now + 3 * hello)).length := by unfold toldL; split <;> simp
                have eL : (s.hear t n l hello r t' now).LL.length = s.LL.length + (toldL t n l r t' ((s.at now).now + 3 * hello)).length := List.length_append
                have hne : (s.hear t n l hello r t' now).LL = [] → False := fun e => by rw [e] at eL; simp at eL; omega
                generalize s.hear t n l hello r t' now = s' at *
                have q1 := R'.heard
                have q2 := R'.recv
                have q3 := R'.telld
                have q4 := rel_any R'
                repeat' first
                  | (conv => whnf
                     first
                     | intro _
                     | (first | refine selSplit (fun h => ?_) (fun h => ?_) | refine condSplit (fun h => ?_) (fun h => ?_)) <;> first | exact (clash (by assumption) h).elim | exact (clash h (by assumption)).elim | (simp only [decide_eq_true_eq, decide_eq_false_iff_not, Bool.not_eq_true', Bool.not_eq_false', Bool.not_true, Bool.not_false, Bool.or_eq_true, Bool.and_eq_true, Bool.or_eq_false_iff, Bool.and_eq_false_iff, beq_iff_eq, beq_eq_false_iff_ne, ne_eq] at h; first | (exfalso; omega) | skip) | skip
                     | (first | refine drC (.quiet 0 (.quiet 1 (.quiet 2 (.quiet 3 (.quiet 4 (.quiet 5 (.quiet 6 (.quiet 7 (.quiet 8 (.quiet 9 (.quiet 10 (.quiet 11 (.quiet 12 (.quiet 13 (.quiet 14 (.quiet 15 (.quiet 16 (.quiet 17 (.quiet 18 (.quiet 19 (.quiet 20 (.quiet 21 (.quiet 22 (.quiet 23 .done)))))))))))))))))))))))) (SubL.refl _) ?_)
                     | refine AltP.mk ?_ ?_
                     | refine kpM ?_
                     | refine SeqP.go ?_
                     | refine cdM ?_
                     | exact IsV.mk
                     | apply GuardP.mk
                     | (refine callX takeM en_hear9 (fun w hw => hN w (hs.later hw) (hw.arrSl hasM)) ?_)
                     | (refine callX takeM en_gHear (fun w hw => hG w (hw.sub2 takeM)) ?_)
                     | ((first | apply callPure' en_gFirst | apply callQuiet' en_gFirst); · exact fun w hw => gFirst_w g' b w (hw.blkRg hasM))
                     | ((first | apply callPure' en_gHeard | apply callQuiet' en_gHeard); · exact fun w hw => gHeard_w g' b w (hw.blkRg hasM))
                     | refine Or.inl ⟨_, _, hasM, ?_⟩
                     | refine Or.inl ⟨_, _, _, holeM, rfl, rfl, ?_⟩
                     | refine lA ?_
                     | refine lA0 ?_
                     | refine lA1 ?_
                     | refine lO ?_
                     | refine lO0 ?_
                     | refine lO1 ?_
                     | refine lR ?_
                     | refine lG ?_
                     | refine lG0 ?_
                     | refine tA ?_
                     | refine tA0 ?_
                     | refine tA1 ?_
                     | refine BytW.ofBlk hasM rfl rfl ?_
                     | refine AppW.noneB hasM leM rfl rfl rfl leM leM ?_
                     | refine AppW.rowB hasM leM rfl rfl holeM leM leM ?_
                     | refine AppW.blkB hasM leM rfl rfl holeM rfl rfl leM leM ?_
                     | refine AppW.rowS hasM leM rfl rfl holeM (by omega) leM ?_
                     | refine AppW.arrS hasM leM rfl rfl rfl holeM (by first | omega | (simp; omega)) leM ?_
                     | refine ⟨sideM, ?_⟩
                     | fail)
                all_goals (try conv => whnf)
                all_goals first | (exfalso; simp [q1, q2, q3, q4] at h; done) | skip
                rename_i q hq _ _ _
                exact .mk ⟨k + 1, g', M', s', q.1, q.2⟩ _ _ (show acts.length - (k + 1) < acts.length - k by omega) ⟨⟨hk2, R', by omega, by omega, hq, fun e => (hne e).elim⟩, rfl, rfl⟩ subM entM
          · have hN := fun w hs => hear9_no s t n l A l.length c hello LA Lc r t' now w hs rfl hl (.inl hv)
            rw [if_neg hv] at hN
            rw [show hearG g l M r t' now = (1, g, M) by unfold hearG; rw [if_pos hv]] at hG
            have q1 := R.heard
            have q2 := R.recv
            have q3 := R.telld
            have q4 := rel_any R
            repeat' first
              | (conv => whnf
                 first
                 | intro _
                 | (first | refine selSplit (fun h => ?_) (fun h => ?_) | refine condSplit (fun h => ?_) (fun h => ?_)) <;> first | exact (clash (by assumption) h).elim | exact (clash h (by assumption)).elim | (simp only [decide_eq_true_eq, decide_eq_false_iff_not, Bool.not_eq_true', Bool.not_eq_false', Bool.not_true, Bool.not_false, Bool.or_eq_true, Bool.and_eq_true, Bool.or_eq_false_iff, Bool.and_eq_false_iff, beq_iff_eq, beq_eq_false_iff_ne, ne_eq] at h; first | (exfalso; omega) | skip) | skip
                 | (first | refine drC (.quiet 0 (.quiet 1 (.quiet 2 (.quiet 3 (.quiet 4 (.quiet 5 (.quiet 6 (.quiet 7 (.quiet 8 (.quiet 9 (.quiet 10 (.quiet 11 (.quiet 12 (.quiet 13 (.quiet 14 (.quiet 15 (.quiet 16 (.quiet 17 (.quiet 18 (.quiet 19 (.quiet 20 (.quiet 21 (.quiet 22 (.quiet 23 .done)))))))))))))))))))))))) (SubL.refl _) ?_)
                 | refine AltP.mk ?_ ?_
                 | refine kpM ?_
                 | refine SeqP.go ?_
                 | refine cdM ?_
                 | exact IsV.mk
                 | apply GuardP.mk
                 | ((first | apply callPure' en_hear9 | apply callQuiet' en_hear9); · exact fun w hw => hN w (hs.later hw))
                 | (refine callX takeM en_gHear (fun w hw => hG w (hw.sub2 takeM)) ?_)
                 | ((first | apply callPure' en_gFirst | apply callQuiet' en_gFirst); · exact fun w hw => gFirst_w g b w (hw.blkRg hasM))
                 | ((first | apply callPure' en_gHeard | apply callQuiet' en_gHeard); · exact fun w hw => gHeard_w g b w (hw.blkRg hasM))
                 | refine Or.inl ⟨_, _, hasM, ?_⟩
                 | refine Or.inl ⟨_, _, _, holeM, rfl, rfl, ?_⟩
                 | refine lA ?_
                 | refine lA0 ?_
                 | refine lA1 ?_
                 | refine lO ?_
                 | refine lO0 ?_
                 | refine lO1 ?_
                 | refine lR ?_
                 | refine lG ?_
                 | refine lG0 ?_
                 | refine tA ?_
                 | refine tA0 ?_
                 | refine tA1 ?_
                 | refine BytW.ofBlk hasM rfl rfl ?_
                 | refine AppW.noneB hasM leM rfl rfl rfl leM leM ?_
                 | refine AppW.rowB hasM leM rfl rfl holeM leM leM ?_
                 | refine AppW.blkB hasM leM rfl rfl holeM rfl rfl leM leM ?_
                 | refine AppW.rowS hasM leM rfl rfl holeM (by omega) leM ?_
                 | refine AppW.arrS hasM leM rfl rfl rfl holeM (by first | omega | (simp; omega)) leM ?_
                 | refine ⟨sideM, ?_⟩
                 | fail)
            all_goals (try conv => whnf)
            all_goals first | (exfalso; simp [q1, q2, q3, q4] at h; done) | skip
            exact .mk ⟨k + 1, g, M, s, LA, Lc⟩ _ _ (show acts.length - (k + 1) < acts.length - k by omega) ⟨⟨hk2, R, (by omega), (by omega), hrow, hnil⟩, rfl, rfl⟩ subM entM
        | true =>
          have eL : (s.at now).LL = s.LL := by unfold S9.at; split <;> rfl
          have eM : (s.at now).many = s.many := by unfold S9.at; split <;> rfl
          have cA := at9_w s t n A l.length c hello LA Lc now
          have cB := fun w hS => ask_blocked R b t' now w hS
          have cC := fun w hL => blocked9_w (s.at now) t n A l.length c hello LA Lc t' w (by rw [eL]; exact hL) (by rw [eL]; omega)
          have cD := fun w hL => list9_w (s.at now) t n A l.length c hello LA Lc w (by rw [eL]; exact hL) (by rw [eL]; omega)
          rw [eL] at cC cD
          have hul := upTo_len (s.at now).now s.LL 4094
          cases hv : timeB now with
          | true =>
            have cL := fun w hS => ask_list R b now w hS hv
            obtain ⟨N, hga⟩ : ∃ N, g.at now = { g with now := N } := ⟨_, by unfold GuardV.at; rw [if_pos hv]⟩
            rw [hga] at cB cL Ra
            rw [hv, Bool.true_and] at cB
            have hv' := hv
            simp only [timeB, Bool.and_eq_true, decide_eq_true_eq] at hv'
            have q1 : g.heard = (s.at now).many := Ra.heard
            have q2 : g.recv = (s.at now).first := Ra.recv
            have q3 : g.telld = (s.at now).told := Ra.telld
            have q4 := rel_any Ra
            generalize s.at now = s' at *
            rw [← eL] at cB cC cD cL hrow hnil hm2 hul ⊢
            generalize upTo s'.now s'.LL 4094 = U at *
            repeat' first
              | (conv => whnf
                 first
                 | intro _
                 | (first | refine selSplit (fun h => ?_) (fun h => ?_) | refine condSplit (fun h => ?_) (fun h => ?_)) <;> first | exact (clash (by assumption) h).elim | exact (clash h (by assumption)).elim | (simp only [decide_eq_true_eq, decide_eq_false_iff_not, Bool.not_eq_true', Bool.not_eq_false', Bool.not_true, Bool.not_false, Bool.or_eq_true, Bool.and_eq_true, Bool.or_eq_false_iff, Bool.and_eq_false_iff, beq_iff_eq, beq_eq_false_iff_ne, ne_eq] at h; first | (exfalso; omega) | skip) | skip
                 | (first | refine drM (.quiet 0 (.quiet 1 (.quiet 2 (.quiet 3 (.quiet 4 (.quiet 5 (.quiet 6 (.quiet 7 (.quiet 8 (.quiet 9 (.quiet 10 (.quiet 11 (.quiet 12 (.quiet 13 (.quiet 14 (.quiet 15 (.quiet 16 (.quiet 17 (.quiet 18 (.quiet 19 (.quiet 20 (.quiet 21 (.quiet 22 (.quiet 23 .done)))))))))))))))))))))))) (SubL.refl _) ?_)
                 | refine AltP.mk ?_ ?_
                 | refine kpM ?_
                 | refine SeqP.go ?_
                 | refine CondR.split ?_
                 | exact IsV.mk
                 | apply GuardP.mk
                 | ((first | apply callPure' en_at9 | apply callQuiet' en_at9); · exact fun w _ => cA w)
                 | (refine callX takeM en_gBlocked (fun w hw => cB w (hw.sub2 takeM)) ?_)
                 | ((first | apply callPure' en_blocked9 | apply callQuiet' en_blocked9); · exact fun w hw => cC w (hw.arrSl hasM))
                 | (refine callX takeM en_gList (fun w hw => cL w (hw.sub2 takeM)) ?_)
                 | (refine callX takeM en_list9 (fun w hw => cD w (hw.arrSl hasM)) ?_)
                 | ((first | apply callPure' en_same9 | apply callQuiet' en_same9); · exact fun w hw => same9_w U U _ _ _ _ w (hw.arrSl hasM) (hw.arrSl hasM) (by omega) (by omega))
                 | ((first | apply callPure' en_gFirst | apply callQuiet' en_gFirst); · exact fun w hw => gFirst_w { g with now := N } b w (hw.blkRg hasM))
                 | ((first | apply callPure' en_gHeard | apply callQuiet' en_gHeard); · exact fun w hw => gHeard_w { g with now := N } b w (hw.blkRg hasM))
                 | refine Or.inl ⟨_, _, hasM, ?_⟩
                 | refine Or.inl ⟨_, _, _, holeM, rfl, rfl, ?_⟩
                 | refine lA ?_
                 | refine lA0 ?_
                 | refine lA1 ?_
                 | refine lO ?_
                 | refine lO0 ?_
                 | refine lO1 ?_
                 | refine lR ?_
                 | refine lG ?_
                 | refine lG0 ?_
                 | refine tA ?_
                 | refine tA0 ?_
                 | refine tA1 ?_
                 | refine BytW.ofBlk hasM rfl rfl ?_
                 | refine AppW.noneB hasM leM rfl rfl rfl leM leM ?_
                 | refine AppW.rowB hasM leM rfl rfl holeM leM leM ?_
                 | refine AppW.blkB hasM leM rfl rfl holeM rfl rfl leM leM ?_
                 | refine AppW.rowS hasM leM rfl rfl holeM (by omega) leM ?_
                 | refine AppW.arrS hasM leM rfl rfl rfl holeM (by first | omega | (simp; omega)) leM ?_
                 | refine ⟨sideM, ?_⟩
                 | fail)
            all_goals (try conv => whnf)
            all_goals first | (exfalso; omega) | (exfalso; simp [q1, q2, q3, q4] at h; done) | skip
            exact .mk ⟨k + 1, { g with now := N }, M, s', LA, Lc⟩ _ _ (show acts.length - (k + 1) < acts.length - k by omega) ⟨⟨hk2, Ra, by omega, by omega, hrow, hnil⟩, rfl, rfl⟩ subM entM
          | false =>
            have e1 : g.at now = g := by unfold GuardV.at; rw [if_neg (by rw [hv]; decide)]
            have e2 : s.at now = s := by unfold S9.at; rw [if_neg (by rw [hv]; simp)]
            have cL := fun w hb => gList_no g b 159 now w hv hb
            rw [hv, Bool.false_and] at cB
            rw [e1] at cB
            rw [e2] at cA
            have hv' := hv
            simp only [timeB, Bool.and_eq_false_iff, decide_eq_false_iff_not] at hv'
            have q1 := R.heard
            have q2 := R.recv
            have q3 := R.telld
            have q4 := rel_any R
            clear cC cD eL eM Ra hul e1 e2
            repeat' first
              | (conv => whnf
                 first
                 | intro _
                 | (first | refine selSplit (fun h => ?_) (fun h => ?_) | refine condSplit (fun h => ?_) (fun h => ?_)) <;> first | exact (clash (by assumption) h).elim | exact (clash h (by assumption)).elim | (simp only [decide_eq_true_eq, decide_eq_false_iff_not, Bool.not_eq_true', Bool.not_eq_false', Bool.not_true, Bool.not_false, Bool.or_eq_true, Bool.and_eq_true, Bool.or_eq_false_iff, Bool.and_eq_false_iff, beq_iff_eq, beq_eq_false_iff_ne, ne_eq] at h; first | (exfalso; omega) | skip) | skip
                 | (first | refine drM (.quiet 0 (.quiet 1 (.quiet 2 (.quiet 3 (.quiet 4 (.quiet 5 (.quiet 6 (.quiet 7 (.quiet 8 (.quiet 9 (.quiet 10 (.quiet 11 (.quiet 12 (.quiet 13 (.quiet 14 (.quiet 15 (.quiet 16 (.quiet 17 (.quiet 18 (.quiet 19 (.quiet 20 (.quiet 21 (.quiet 22 (.quiet 23 .done)))))))))))))))))))))))) (SubL.refl _) ?_)
                 | refine AltP.mk ?_ ?_
                 | refine kpM ?_
                 | refine SeqP.go ?_
                 | refine CondR.split ?_
                 | exact IsV.mk
                 | apply GuardP.mk
                 | ((first | apply callPure' en_at9 | apply callQuiet' en_at9); · exact fun w _ => cA w)
                 | (refine callX takeM en_gBlocked (fun w hw => cB w (hw.sub2 takeM)) ?_)
                 | (refine callOne holeM en_gList (fun w hw => cL w (hw.ok (.blk b _ _) (memHas (by repeat first | exact .here | apply Has.there)))) ?_)
                 | ((first | apply callPure' en_gFirst | apply callQuiet' en_gFirst); · exact fun w hw => gFirst_w g b w (hw.blkRg hasM))
                 | ((first | apply callPure' en_gHeard | apply callQuiet' en_gHeard); · exact fun w hw => gHeard_w g b w (hw.blkRg hasM))
                 | refine Or.inl ⟨_, _, hasM, ?_⟩
                 | refine Or.inl ⟨_, _, _, holeM, rfl, rfl, ?_⟩
                 | refine lA ?_
                 | refine lA0 ?_
                 | refine lA1 ?_
                 | refine lO ?_
                 | refine lO0 ?_
                 | refine lO1 ?_
                 | refine lR ?_
                 | refine lG ?_
                 | refine lG0 ?_
                 | refine tA ?_
                 | refine tA0 ?_
                 | refine tA1 ?_
                 | refine BytW.ofBlk hasM rfl rfl ?_
                 | refine AppW.noneB hasM leM rfl rfl rfl leM leM ?_
                 | refine AppW.rowB hasM leM rfl rfl holeM leM leM ?_
                 | refine AppW.blkB hasM leM rfl rfl holeM rfl rfl leM leM ?_
                 | refine AppW.rowS hasM leM rfl rfl holeM (by omega) leM ?_
                 | refine AppW.arrS hasM leM rfl rfl rfl holeM (by first | omega | (simp; omega)) leM ?_
                 | refine ⟨sideM, ?_⟩
                 | fail)
            all_goals (try conv => whnf)
            all_goals first | (exfalso; omega) | (exfalso; simp [q1, q2, q3, q4] at h; done) | skip
            all_goals exact .mk ⟨k + 1, g, M, s, LA, Lc⟩ _ _ (show acts.length - (k + 1) < acts.length - k by omega) ⟨⟨hk2, R, by omega, by omega, hrow, hnil⟩, rfl, rfl⟩ subM entM
      · skip
        repeat' first
          | (conv => whnf
             first
             | intro _
             | (first | refine selSplit (fun h => ?_) (fun h => ?_) | refine condSplit (fun h => ?_) (fun h => ?_)) <;> first | exact (clash (by assumption) h).elim | exact (clash h (by assumption)).elim | (simp only [decide_eq_true_eq, decide_eq_false_iff_not, Bool.not_eq_true', Bool.not_eq_false', Bool.not_true, Bool.not_false, Bool.or_eq_true, Bool.and_eq_true, Bool.or_eq_false_iff, Bool.and_eq_false_iff, beq_iff_eq, beq_eq_false_iff_ne, ne_eq] at h; first | (exfalso; omega) | skip) | skip
             | (first | refine drC (.quiet 0 (.quiet 1 (.quiet 2 (.quiet 3 (.quiet 4 (.quiet 5 (.quiet 6 (.quiet 7 (.quiet 8 (.quiet 9 (.quiet 10 (.quiet 11 (.quiet 12 (.quiet 13 (.quiet 14 (.quiet 15 (.quiet 16 (.quiet 17 (.quiet 18 (.quiet 19 (.quiet 20 (.quiet 21 (.quiet 22 (.quiet 23 .done)))))))))))))))))))))))) (SubL.refl _) ?_)
             | refine AltP.mk ?_ ?_
             | refine kpM ?_
             | refine SeqP.go ?_
             | refine cdM ?_
             | exact IsV.mk
             | apply GuardP.mk
             | refine Or.inl ⟨_, _, hasM, ?_⟩
             | refine Or.inl ⟨_, _, _, holeM, rfl, rfl, ?_⟩
             | refine lA ?_
             | refine lA0 ?_
             | refine lA1 ?_
             | refine lO ?_
             | refine lO0 ?_
             | refine lO1 ?_
             | refine lR ?_
             | refine lG ?_
             | refine lG0 ?_
             | refine tA ?_
             | refine tA0 ?_
             | refine tA1 ?_
             | refine BytW.ofBlk hasM rfl rfl ?_
             | refine AppW.noneB hasM leM rfl rfl rfl leM leM ?_
             | refine AppW.rowB hasM leM rfl rfl holeM leM leM ?_
             | refine AppW.blkB hasM leM rfl rfl holeM rfl rfl leM leM ?_
             | refine AppW.rowS hasM leM rfl rfl holeM (by omega) leM ?_
             | refine AppW.arrS hasM leM rfl rfl rfl holeM (by first | omega | (simp; omega)) leM ?_
             | refine ⟨sideM, ?_⟩
             | fail)
        all_goals (try conv => whnf)
        all_goals first | rfl | (exfalso; omega)
    · have n1 := fun w hs => gNew_no t n l A c hello w hs hl (.inr hh)
      rw [hr, if_neg (by decide)] at n1
      repeat' first
        | (conv => whnf
           first
           | intro _
           | (first | refine selSplit (fun h => ?_) (fun h => ?_) | refine condSplit (fun h => ?_) (fun h => ?_)) <;> first | exact (clash (by assumption) h).elim | exact (clash h (by assumption)).elim | (simp only [decide_eq_true_eq, decide_eq_false_iff_not, Bool.not_eq_true', Bool.not_eq_false', Bool.not_true, Bool.not_false, Bool.or_eq_true, Bool.and_eq_true, Bool.or_eq_false_iff, Bool.and_eq_false_iff, beq_iff_eq, beq_eq_false_iff_ne, ne_eq] at h; first | (exfalso; omega) | skip) | skip
           | (first | refine drC (.quiet 0 (.quiet 1 (.quiet 2 (.quiet 3 (.quiet 4 (.quiet 5 (.quiet 6 (.quiet 7 (.quiet 8 (.quiet 9 (.quiet 10 (.quiet 11 (.quiet 12 (.quiet 13 (.quiet 14 (.quiet 15 (.quiet 16 (.quiet 17 (.quiet 18 (.quiet 19 (.quiet 20 (.quiet 21 (.quiet 22 (.quiet 23 .done)))))))))))))))))))))))) (SubL.refl _) ?_)
           | refine AltP.mk ?_ ?_
           | refine kpM ?_
           | refine SeqP.go ?_
           | refine cdM ?_
           | exact IsV.mk
           | apply GuardP.mk
           | ((first | apply callPure' en_awake09 | apply callQuiet' en_awake09); · exact fun w _ => awake09_w w)
           | ((first | apply callPure' en_gNew | apply callQuiet' en_gNew); · exact fun w hw => n1 w (hs.later hw))
           | ((first | apply callPure' en_right6 | apply callQuiet' en_right6); · exact fun w hw => r6 w (hs.later hw))
           | (refine ptrEqNil rfl Try.underlying80 rfl rfl ?_)
           | refine Or.inl ⟨_, _, hasM, ?_⟩
           | refine Or.inl ⟨_, _, _, holeM, rfl, rfl, ?_⟩
           | refine lA ?_
           | refine lA0 ?_
           | refine lA1 ?_
           | refine lO ?_
           | refine lO0 ?_
           | refine lO1 ?_
           | refine lR ?_
           | refine lG ?_
           | refine lG0 ?_
           | refine tA ?_
           | refine tA0 ?_
           | refine tA1 ?_
           | refine BytW.ofBlk hasM rfl rfl ?_
           | refine AppW.noneB hasM leM rfl rfl rfl leM leM ?_
           | refine AppW.rowB hasM leM rfl rfl holeM leM leM ?_
           | refine AppW.blkB hasM leM rfl rfl holeM rfl rfl leM leM ?_
           | refine AppW.rowS hasM leM rfl rfl holeM (by omega) leM ?_
           | refine AppW.arrS hasM leM rfl rfl rfl holeM (by first | omega | (simp; omega)) leM ?_
           | refine ⟨sideM, ?_⟩
           | fail)
      all_goals (try conv => whnf)
      all_goals first | rfl | (exfalso; omega) | (exfalso; simp at h; done)
theorem ints_of9 : ∀ (l : List (List Value)), (∀ e ∈ l, ∃ x : Int, e = [.int .i64 x]) → ∃ xs : List Int, l = ints xs
  | [], _ => ⟨[], rfl⟩
  | e :: l, h => by
    obtain ⟨x, hx⟩ := h e List.mem_cons_self
    obtain ⟨xs, hxs⟩ := ints_of9 l fun e he => h e (List.mem_cons_of_mem _ he)
    exact ⟨x :: xs, by rw [hx, hxs]; rfl⟩
theorem MismatchPlays_n (t : Bool) (n : Int) (L : List (List Value)) (hello : Int) (acts : List Act9) (A : Option Addr) (c : Nat) (SA : Option Addr) (m sc : Nat) (w : World) (h : ∀ e ∈ L, e.length = 1 ∧ RInt .i64 w e) (hr : 0 < L.length → ∃ b o, A = some ⟨b, o, none⟩ ∧ ∀ i e, L[i]? = some e → w.rangeAt b (o + i * 1) e) (hn : m = acts.length) (hs2 : SlAt w SA 4 (acts.map Act9.enc)) :
    PuAt Try.prog 8 [.agg ⟨[.bool t, .int .i64 n, .slice A L.length c]⟩, .int .i64 hello, .slice SA m sc] (.bool true) w := by
  obtain ⟨l, rfl⟩ := ints_of9 L fun e he => by obtain ⟨x, hx, _⟩ := (h e he).2; exact ⟨x, hx⟩
  rw [ints_len, hn]
  exact Plays9_w t n l hello acts A c SA sc w (slAt_of (fun e he => (h e he).1) hr) hs2
end Go.Proofs.Ytgjdmlgdgbehoaa.Am
