/- The law RolesTells. -/
import Derived.Test.YtgjdmlgdgbehoaaRolesL2
set_option linter.unusedVariables false
set_option linter.unusedSimpArgs false
set_option maxRecDepth 100000
set_option maxHeartbeats 4000000
namespace Go.Proofs.Ytgjdmlgdgbehoaa.Am
open Go Go.RowKit
theorem ok_RolesTells : (match Try.f3.body with | some c => codeOk Try.f3.ntmps c | none => false) = true := by kernel_rfl
theorem en_RolesTells : ∃ fn, Try.prog.funcs[3]? = some fn ∧ (fn.name == "runtime.NumGoroutine") = false ∧ fn.body.isNone = false := ⟨_, Try.func3, by kernel_rfl, by kernel_rfl⟩
theorem RolesTells_w (bridge : Int) (ps : List InfoV) (A : Option Addr) (c : Nat) (w : World) (hs : SlAt w A 7 (ps.map InfoV.enc)) (hb : u64N bridge) (hok : ∀ p ∈ ps, okI8 p) : PuAt Try.prog 3 [.int .u64 bridge, .slice A ps.length c] (.bool true) w := by
  refine funcR_pure tyOk wide Try.func3 ok_RolesTells (Nat.le_of_ble_eq_true rfl) ?_
  by_cases hno : 40 < ps.length
  · skip
    repeat' first
      | (conv => whnf
         first
         | intro _
         | (first | refine selSplit (fun h => ?_) (fun h => ?_) | refine condSplit (fun h => ?_) (fun h => ?_)) <;> first | exact (clash (by assumption) h).elim | exact (clash h (by assumption)).elim | (simp only [decide_eq_true_eq, decide_eq_false_iff_not, Bool.not_eq_true', Bool.not_eq_false', Bool.not_true, Bool.not_false, Bool.or_eq_true, Bool.and_eq_true, Bool.or_eq_false_iff, Bool.and_eq_false_iff, beq_iff_eq, beq_eq_false_iff_ne, ne_eq] at h; first | (exfalso; omega) | skip) | skip
         | (first | refine drC (.quiet 0 (.quiet 1 (.quiet 2 (.quiet 3 (.quiet 4 (.quiet 5 (.quiet 6 (.quiet 7 (.quiet 8 (.quiet 9 (.quiet 10 (.quiet 11 (.quiet 12 (.quiet 13 (.quiet 14 (.quiet 15 (.quiet 16 (.quiet 17 (.quiet 18 (.quiet 19 (.quiet 20 (.quiet 21 (.quiet 22 (.quiet 23 (.quiet 24 (.quiet 25 (.quiet 26 (.quiet 27 (.quiet 28 .done))))))))))))))))))))))))))))) (SubL.refl _) ?_)
         | refine AltP.mk ?_ ?_
         | refine kpM ?_
         | refine SeqP.go ?_
         | refine cdM ?_
         | exact IsV.mk
         | apply GuardP.mk
         | ((first | apply callPure' en_awake08 | apply callQuiet' en_awake08); · exact fun w _ => awake08_w w)
         | (first | refine eqlW eqS28 rfl rfl rfl fitM fitM ?_ | refine neqW eqS28 rfl rfl rfl fitM fitM ?_)
         | refine Or.inl ⟨_, _, hasM, ?_⟩
         | refine Or.inl ⟨_, _, _, holeM, rfl, rfl, ?_⟩
         | refine lA ?_
         | refine lA0 ?_
         | refine lA1 ?_
         | refine lO ?_
         | refine lO0 ?_
         | refine lO1 ?_
         | refine lR ?_
         | refine lG ?_
         | refine lG0 ?_
         | refine tA ?_
         | refine tA0 ?_
         | refine tA1 ?_
         | refine BytW.ofBlk hasM rfl rfl ?_
         | refine AppW.noneB hasM leM rfl rfl rfl leM leM ?_
         | refine AppW.rowB hasM leM rfl rfl holeM leM leM ?_
         | refine AppW.blkB hasM leM rfl rfl holeM rfl rfl leM leM ?_
         | refine AppW.rowS hasM leM rfl rfl holeM (by omega) leM ?_
         | refine AppW.arrS hasM leM rfl rfl rfl holeM (by first | omega | (simp; omega)) leM ?_
         | refine ⟨sideM, ?_⟩
         | fail)
    all_goals (try conv => whnf)
    all_goals first | rfl | (exfalso; omega)
  · have hl : ps.length ≤ 1000 := by omega
    by_cases hr : rightI ps = true
    · have hR := fun A c w hw => Root8_w bridge ps _ rfl A c w hw hl hb hok
      by_cases hp : 0 < ps.length
      · have hS := fun w hw => Select_n bridge ps _ rfl A c w hw hl hr hp
        skip
        repeat' first
          | (conv => whnf
             first
             | intro _
             | (first | refine selSplit (fun h => ?_) (fun h => ?_) | refine condSplit (fun h => ?_) (fun h => ?_)) <;> first | exact (clash (by assumption) h).elim | exact (clash h (by assumption)).elim | (simp only [decide_eq_true_eq, decide_eq_false_iff_not, Bool.not_eq_true', Bool.not_eq_false', Bool.not_true, Bool.not_false, Bool.or_eq_true, Bool.and_eq_true, Bool.or_eq_false_iff, Bool.and_eq_false_iff, beq_iff_eq, beq_eq_false_iff_ne, ne_eq] at h; first | (exfalso; omega) | skip) | skip
             | (first | refine drC (.quiet 0 (.quiet 1 (.quiet 2 (.quiet 3 (.quiet 4 (.quiet 5 (.quiet 6 (.quiet 7 (.quiet 8 (.quiet 9 (.quiet 10 (.quiet 11 (.quiet 12 (.quiet 13 (.quiet 14 (.quiet 15 (.quiet 16 (.quiet 17 (.quiet 18 (.quiet 19 (.quiet 20 (.quiet 21 (.quiet 22 (.quiet 23 (.quiet 24 (.quiet 25 (.quiet 26 (.quiet 27 (.quiet 28 .done))))))))))))))))))))))))))))) (SubL.refl _) ?_)
             | refine AltP.mk ?_ ?_
             | refine kpM ?_
             | refine SeqP.go ?_
             | refine cdM ?_
             | exact IsV.mk
             | apply GuardP.mk
             | ((first | apply callPure' en_awake08 | apply callQuiet' en_awake08); · exact fun w _ => awake08_w w)
             | (refine callX takeM en_of08 (fun w hw => of08_w ps A c w (hs.later hw) hl) ?_)
             | (refine callX takeM en_Select (fun w hw => hS w (hs.later hw)) ?_)
             | ((first | apply callPure' en_iRight | apply callQuiet' en_iRight); · exact fun w hw => iRight_w ps _ rfl A c w (hs.later hw) hl)
             | ((first | apply callPure' en_Right8 | apply callQuiet' en_Right8); · exact fun w hw => Right8_w ps _ rfl _ _ w (hw.arrSl hasM) hl hok)
             | ((first | apply callPure' en_Root8 | apply callQuiet' en_Root8); · exact fun w hw => hR _ _ w (hw.arrSl hasM))
             | (first | refine eqlW eqS28 rfl rfl rfl fitM fitM ?_ | refine neqW eqS28 rfl rfl rfl fitM fitM ?_)
             | refine Or.inl ⟨_, _, hasM, ?_⟩
             | refine Or.inl ⟨_, _, _, holeM, rfl, rfl, ?_⟩
             | refine lA ?_
             | refine lA0 ?_
             | refine lA1 ?_
             | refine lO ?_
             | refine lO0 ?_
             | refine lO1 ?_
             | refine lR ?_
             | refine lG ?_
             | refine lG0 ?_
             | refine tA ?_
             | refine tA0 ?_
             | refine tA1 ?_
             | refine BytW.ofBlk hasM rfl rfl ?_
             | refine AppW.noneB hasM leM rfl rfl rfl leM leM ?_
             | refine AppW.rowB hasM leM rfl rfl holeM leM leM ?_
             | refine AppW.blkB hasM leM rfl rfl holeM rfl rfl leM leM ?_
             | refine AppW.rowS hasM leM rfl rfl holeM (by omega) leM ?_
             | refine AppW.arrS hasM leM rfl rfl rfl holeM (by first | omega | (simp; omega)) leM ?_
             | refine ⟨sideM, ?_⟩
             | fail)
        all_goals (try conv => whnf)
        · exact absurd trivial h
        · exact absurd (hr.symm.trans h) (by decide)
        · exfalso
          have e : allEq (encV (bestV bridge ps).1) (encV (bestV bridge ps).1) = true := encV_eq.2 rfl
          rcases h with (((h | h) | h) | h) | h <;> first | exact h trivial | exact h rfl | exact absurd (e.symm.trans h) (by decide)
        · rename_i s0 hs0 s1 hs1 b6 hA hB b8
          clear hA hB h
          refine .mk Nat (fun k S H => k ≤ ps.length ∧ S = [(10, .int .i64 k), (8, .pointer (some ⟨b8, 0, none⟩)), (6, .pointer (some ⟨b6, 0, none⟩)), (5, .slice s0.1 ps.length s0.2), (1, .slice A ps.length c), (0, .int .u64 bridge)] ∧ H = [.blk b8 (encV (bestV bridge ps).1) 28, .blk b6 (encV (bestV bridge ps).1 ++ [.int .i64 (bestV bridge ps).2, .slice (some ⟨s1.1.1, 0, none⟩) ps.length s1.1.2, .slice (some ⟨s1.2.1, 0, none⟩) ps.length s1.2.2]) 32, .row (.slice (some ⟨s1.1.1, 0, none⟩) ps.length s1.1.2) 3 1 ps.length ((rolesV bridge ps).map (Value.int .i64)), .arr (.slice (some ⟨s1.2.1, 0, none⟩) ps.length s1.2.2) 28 4 ((offersV bridge ps).map encV), .arr (.slice s0.1 ps.length s0.2) 122 7 (ps.map InfoV.enc)]) (fun k => ps.length - k) 0 _ _ ⟨by omega, rfl, rfl⟩ subM entM ?_
          rintro k S1 H1 ⟨hk, rfl, rfl⟩
          obtain ⟨A2, c2⟩ := s0
          obtain ⟨⟨g1, q1⟩, ⟨g2, q2⟩⟩ := s1
          by_cases hk2 : k < ps.length
          · obtain ⟨b, o, e, _⟩ := hs.at_ (by simp; omega)
            subst e
            have o1 := hs.old (X := []) (by simp; omega) (by simp)
            obtain ⟨x, hx⟩ : ∃ x, ps[k] = x := ⟨_, rfl⟩
            have hxk : ps[k]? = some x := by rw [List.getElem?_eq_getElem hk2, hx]
            have y1 : (ps.map InfoV.enc)[k]? = some x.enc := by rw [List.getElem?_map, hxk]; rfl
            have y2 : ((rolesV bridge ps).map (Value.int .i64))[k]? = some (.int .i64 (roleI bridge (bestV bridge ps) k x)) := by unfold rolesV; rw [List.getElem?_map, List.getElem?_mapIdx, hxk]; rfl
            have y3 : ((offersV bridge ps).map encV)[k]? = some (encV (offV (bestV bridge ps).1 bridge x)) := by unfold offersV; rw [List.getElem?_map, List.getElem?_map, hxk]; rfl
            have hsrc := right_source hr (List.mem_of_getElem? hxk)
            have ea : allEq (encV (offV (bestV bridge ps).1 bridge x)) (encV (offV (bestV bridge ps).1 bridge x)) = true := encV_eq.2 rfl
            repeat' first
              | (conv => whnf
                 first
                 | intro _
                 | (first | refine selSplit (fun h => ?_) (fun h => ?_) | refine condSplit (fun h => ?_) (fun h => ?_)) <;> first | exact (clash (by assumption) h).elim | exact (clash h (by assumption)).elim | (simp only [decide_eq_true_eq, decide_eq_false_iff_not, Bool.not_eq_true', Bool.not_eq_false', Bool.not_true, Bool.not_false, Bool.or_eq_true, Bool.and_eq_true, Bool.or_eq_false_iff, Bool.and_eq_false_iff, beq_iff_eq, beq_eq_false_iff_ne, ne_eq] at h; first | (exfalso; omega) | skip) | skip
                 | (first | refine drC (.quiet 0 (.quiet 1 (.quiet 2 (.quiet 3 (.quiet 4 (.quiet 5 (.quiet 6 (.quiet 7 (.quiet 8 (.quiet 9 (.quiet 10 (.quiet 11 (.quiet 12 (.quiet 13 (.quiet 14 (.quiet 15 (.quiet 16 (.quiet 17 (.quiet 18 (.quiet 19 (.quiet 20 (.quiet 21 (.quiet 22 (.quiet 23 (.quiet 24 (.quiet 25 (.quiet 26 (.quiet 27 (.quiet 28 .done))))))))))))))))))))))))))))) (SubL.refl _) ?_)
                 | refine AltP.mk ?_ ?_
                 | refine kpM ?_
                 | refine SeqP.go ?_
                 | refine cdM ?_
                 | exact IsV.mk
                 | apply GuardP.mk
                 | ((first | apply callPure' en_Role8 | apply callQuiet' en_Role8); · exact fun w hw => Role8_w bridge ps _ rfl A2 c2 k x hxk w (hw.arrSl hasM) hl hb hok hsrc)
                 | (first | refine eqlW eqS28 rfl rfl rfl fitM fitM ?_ | refine neqW eqS28 rfl rfl rfl fitM fitM ?_)
                 | refine Or.inl ⟨_, _, hasM, ?_⟩
                 | refine Or.inl ⟨_, _, _, holeM, rfl, rfl, ?_⟩
                 | refine lA ?_
                 | refine lA0 ?_
                 | refine lA1 ?_
                 | refine lO ?_
                 | refine lO0 ?_
                 | refine lO1 ?_
                 | refine lR ?_
                 | refine lG ?_
                 | refine lG0 ?_
                 | refine tA ?_
                 | refine tA0 ?_
                 | refine tA1 ?_
                 | refine BytW.ofBlk hasM rfl rfl ?_
                 | refine AppW.noneB hasM leM rfl rfl rfl leM leM ?_
                 | refine AppW.rowB hasM leM rfl rfl holeM leM leM ?_
                 | refine AppW.blkB hasM leM rfl rfl holeM rfl rfl leM leM ?_
                 | refine AppW.rowS hasM leM rfl rfl holeM (by omega) leM ?_
                 | refine AppW.arrS hasM leM rfl rfl rfl holeM (by first | omega | (simp; omega)) leM ?_
                 | refine ⟨sideM, ?_⟩
                 | fail)
            all_goals (try conv => whnf)
            all_goals first
              | (exfalso; omega)
              | (exfalso; rcases h with h | h; (· exact h trivial); (· exact absurd (ea.symm.trans h) (by decide)))
              | (exfalso; rcases h with h | h; (· exact h rfl); (· exact absurd (ea.symm.trans h) (by decide)))
              | exact .mk (k + 1) _ _ (by omega) ⟨hk2, rfl, rfl⟩ subM entM
          · skip
            repeat' first
              | (conv => whnf
                 first
                 | intro _
                 | (first | refine selSplit (fun h => ?_) (fun h => ?_) | refine condSplit (fun h => ?_) (fun h => ?_)) <;> first | exact (clash (by assumption) h).elim | exact (clash h (by assumption)).elim | (simp only [decide_eq_true_eq, decide_eq_false_iff_not, Bool.not_eq_true', Bool.not_eq_false', Bool.not_true, Bool.not_false, Bool.or_eq_true, Bool.and_eq_true, Bool.or_eq_false_iff, Bool.and_eq_false_iff, beq_iff_eq, beq_eq_false_iff_ne, ne_eq] at h; first | (exfalso; omega) | skip) | skip
                 | (first | refine drC (.quiet 0 (.quiet 1 (.quiet 2 (.quiet 3 (.quiet 4 (.quiet 5 (.quiet 6 (.quiet 7 (.quiet 8 (.quiet 9 (.quiet 10 (.quiet 11 (.quiet 12 (.quiet 13 (.quiet 14 (.quiet 15 (.quiet 16 (.quiet 17 (.quiet 18 (.quiet 19 (.quiet 20 (.quiet 21 (.quiet 22 (.quiet 23 (.quiet 24 (.quiet 25 (.quiet 26 (.quiet 27 (.quiet 28 .done))))))))))))))))))))))))))))) (SubL.refl _) ?_)
                 | refine AltP.mk ?_ ?_
                 | refine kpM ?_
                 | refine SeqP.go ?_
                 | refine cdM ?_
                 | exact IsV.mk
                 | apply GuardP.mk
                 | (first | refine eqlW eqS28 rfl rfl rfl fitM fitM ?_ | refine neqW eqS28 rfl rfl rfl fitM fitM ?_)
                 | refine Or.inl ⟨_, _, hasM, ?_⟩
                 | refine Or.inl ⟨_, _, _, holeM, rfl, rfl, ?_⟩
                 | refine lA ?_
                 | refine lA0 ?_
                 | refine lA1 ?_
                 | refine lO ?_
                 | refine lO0 ?_
                 | refine lO1 ?_
                 | refine lR ?_
                 | refine lG ?_
                 | refine lG0 ?_
                 | refine tA ?_
                 | refine tA0 ?_
                 | refine tA1 ?_
                 | refine BytW.ofBlk hasM rfl rfl ?_
                 | refine AppW.noneB hasM leM rfl rfl rfl leM leM ?_
                 | refine AppW.rowB hasM leM rfl rfl holeM leM leM ?_
                 | refine AppW.blkB hasM leM rfl rfl holeM rfl rfl leM leM ?_
                 | refine AppW.rowS hasM leM rfl rfl holeM (by omega) leM ?_
                 | refine AppW.arrS hasM leM rfl rfl rfl holeM (by first | omega | (simp; omega)) leM ?_
                 | refine ⟨sideM, ?_⟩
                 | fail)
            all_goals (try conv => whnf)
            all_goals first
              | (exfalso; omega)
              | rfl
      · have hS := fun w hw => Select_w bridge ps _ rfl A c w hw hl hr
        skip
        repeat' first
          | (conv => whnf
             first
             | intro _
             | (first | refine selSplit (fun h => ?_) (fun h => ?_) | refine condSplit (fun h => ?_) (fun h => ?_)) <;> first | exact (clash (by assumption) h).elim | exact (clash h (by assumption)).elim | (simp only [decide_eq_true_eq, decide_eq_false_iff_not, Bool.not_eq_true', Bool.not_eq_false', Bool.not_true, Bool.not_false, Bool.or_eq_true, Bool.and_eq_true, Bool.or_eq_false_iff, Bool.and_eq_false_iff, beq_iff_eq, beq_eq_false_iff_ne, ne_eq] at h; first | (exfalso; omega) | skip) | skip
             | (first | refine drC (.quiet 0 (.quiet 1 (.quiet 2 (.quiet 3 (.quiet 4 (.quiet 5 (.quiet 6 (.quiet 7 (.quiet 8 (.quiet 9 (.quiet 10 (.quiet 11 (.quiet 12 (.quiet 13 (.quiet 14 (.quiet 15 (.quiet 16 (.quiet 17 (.quiet 18 (.quiet 19 (.quiet 20 (.quiet 21 (.quiet 22 (.quiet 23 (.quiet 24 (.quiet 25 (.quiet 26 (.quiet 27 (.quiet 28 .done))))))))))))))))))))))))))))) (SubL.refl _) ?_)
             | refine AltP.mk ?_ ?_
             | refine kpM ?_
             | refine SeqP.go ?_
             | refine cdM ?_
             | exact IsV.mk
             | apply GuardP.mk
             | ((first | apply callPure' en_awake08 | apply callQuiet' en_awake08); · exact fun w _ => awake08_w w)
             | (refine callX takeM en_of08 (fun w hw => of08_w ps A c w (hs.later hw) hl) ?_)
             | (refine callX takeM en_Select (fun w hw => hS w (hs.later hw)) ?_)
             | ((first | apply callPure' en_iRight | apply callQuiet' en_iRight); · exact fun w hw => iRight_w ps _ rfl A c w (hs.later hw) hl)
             | ((first | apply callPure' en_Right8 | apply callQuiet' en_Right8); · exact fun w hw => Right8_w ps _ rfl _ _ w (hw.arrSl hasM) hl hok)
             | ((first | apply callPure' en_Root8 | apply callQuiet' en_Root8); · exact fun w hw => hR _ _ w (hw.arrSl hasM))
             | (first | refine eqlW eqS28 rfl rfl rfl fitM fitM ?_ | refine neqW eqS28 rfl rfl rfl fitM fitM ?_)
             | refine Or.inl ⟨_, _, hasM, ?_⟩
             | refine Or.inl ⟨_, _, _, holeM, rfl, rfl, ?_⟩
             | refine lA ?_
             | refine lA0 ?_
             | refine lA1 ?_
             | refine lO ?_
             | refine lO0 ?_
             | refine lO1 ?_
             | refine lR ?_
             | refine lG ?_
             | refine lG0 ?_
             | refine tA ?_
             | refine tA0 ?_
             | refine tA1 ?_
             | refine BytW.ofBlk hasM rfl rfl ?_
             | refine AppW.noneB hasM leM rfl rfl rfl leM leM ?_
             | refine AppW.rowB hasM leM rfl rfl holeM leM leM ?_
             | refine AppW.blkB hasM leM rfl rfl holeM rfl rfl leM leM ?_
             | refine AppW.rowS hasM leM rfl rfl holeM (by omega) leM ?_
             | refine AppW.arrS hasM leM rfl rfl rfl holeM (by first | omega | (simp; omega)) leM ?_
             | refine ⟨sideM, ?_⟩
             | fail)
        all_goals (try conv => whnf)
        · exact absurd trivial h
        · exact absurd (hr.symm.trans h) (by decide)
        · exfalso
          have e : allEq (encV (bestV bridge ps).1) (encV (bestV bridge ps).1) = true := encV_eq.2 rfl
          rcases h with (((h | h) | h) | h) | h <;> first | exact h trivial | exact h rfl | exact absurd (e.symm.trans h) (by decide)
        · clear h
          refine .mk Unit (fun k S H => S = [(10, .int .i64 0), (1, .slice A ps.length c)] ∧ H = []) (fun _ => 0) () _ _ ⟨rfl, rfl⟩ subM entM ?_
          rintro k S1 H1 ⟨rfl, rfl⟩
          repeat' first
            | (conv => whnf
               first
               | intro _
               | (first | refine selSplit (fun h => ?_) (fun h => ?_) | refine condSplit (fun h => ?_) (fun h => ?_)) <;> first | exact (clash (by assumption) h).elim | exact (clash h (by assumption)).elim | (simp only [decide_eq_true_eq, decide_eq_false_iff_not, Bool.not_eq_true', Bool.not_eq_false', Bool.not_true, Bool.not_false, Bool.or_eq_true, Bool.and_eq_true, Bool.or_eq_false_iff, Bool.and_eq_false_iff, beq_iff_eq, beq_eq_false_iff_ne, ne_eq] at h; first | (exfalso; omega) | skip) | skip
               | (first | refine drC (.quiet 0 (.quiet 1 (.quiet 2 (.quiet 3 (.quiet 4 (.quiet 5 (.quiet 6 (.quiet 7 (.quiet 8 (.quiet 9 (.quiet 10 (.quiet 11 (.quiet 12 (.quiet 13 (.quiet 14 (.quiet 15 (.quiet 16 (.quiet 17 (.quiet 18 (.quiet 19 (.quiet 20 (.quiet 21 (.quiet 22 (.quiet 23 (.quiet 24 (.quiet 25 (.quiet 26 (.quiet 27 (.quiet 28 .done))))))))))))))))))))))))))))) (SubL.refl _) ?_)
               | refine AltP.mk ?_ ?_
               | refine kpM ?_
               | refine SeqP.go ?_
               | refine cdM ?_
               | exact IsV.mk
               | apply GuardP.mk
               | (first | refine eqlW eqS28 rfl rfl rfl fitM fitM ?_ | refine neqW eqS28 rfl rfl rfl fitM fitM ?_)
               | refine Or.inl ⟨_, _, hasM, ?_⟩
               | refine Or.inl ⟨_, _, _, holeM, rfl, rfl, ?_⟩
               | refine lA ?_
               | refine lA0 ?_
               | refine lA1 ?_
               | refine lO ?_
               | refine lO0 ?_
               | refine lO1 ?_
               | refine lR ?_
               | refine lG ?_
               | refine lG0 ?_
               | refine tA ?_
               | refine tA0 ?_
               | refine tA1 ?_
               | refine BytW.ofBlk hasM rfl rfl ?_
               | refine AppW.noneB hasM leM rfl rfl rfl leM leM ?_
               | refine AppW.rowB hasM leM rfl rfl holeM leM leM ?_
               | refine AppW.blkB hasM leM rfl rfl holeM rfl rfl leM leM ?_
               | refine AppW.rowS hasM leM rfl rfl holeM (by omega) leM ?_
               | refine AppW.arrS hasM leM rfl rfl rfl holeM (by first | omega | (simp; omega)) leM ?_
               | refine ⟨sideM, ?_⟩
               | fail)
          all_goals (try conv => whnf)
          all_goals first
            | (exfalso; omega)
            | rfl
    · have hr : rightI ps = false := by simpa using hr
      repeat' first
        | (conv => whnf
           first
           | intro _
           | (first | refine selSplit (fun h => ?_) (fun h => ?_) | refine condSplit (fun h => ?_) (fun h => ?_)) <;> first | exact (clash (by assumption) h).elim | exact (clash h (by assumption)).elim | (simp only [decide_eq_true_eq, decide_eq_false_iff_not, Bool.not_eq_true', Bool.not_eq_false', Bool.not_true, Bool.not_false, Bool.or_eq_true, Bool.and_eq_true, Bool.or_eq_false_iff, Bool.and_eq_false_iff, beq_iff_eq, beq_eq_false_iff_ne, ne_eq] at h; first | (exfalso; omega) | skip) | skip
           | (first | refine drC (.quiet 0 (.quiet 1 (.quiet 2 (.quiet 3 (.quiet 4 (.quiet 5 (.quiet 6 (.quiet 7 (.quiet 8 (.quiet 9 (.quiet 10 (.quiet 11 (.quiet 12 (.quiet 13 (.quiet 14 (.quiet 15 (.quiet 16 (.quiet 17 (.quiet 18 (.quiet 19 (.quiet 20 (.quiet 21 (.quiet 22 (.quiet 23 (.quiet 24 (.quiet 25 (.quiet 26 (.quiet 27 (.quiet 28 .done))))))))))))))))))))))))))))) (SubL.refl _) ?_)
           | refine AltP.mk ?_ ?_
           | refine kpM ?_
           | refine SeqP.go ?_
           | refine cdM ?_
           | exact IsV.mk
           | apply GuardP.mk
           | ((first | apply callPure' en_awake08 | apply callQuiet' en_awake08); · exact fun w _ => awake08_w w)
           | (refine callX takeM en_of08 (fun w hw => of08_w ps A c w (hs.later hw) hl) ?_)
           | ((first | apply callPure' en_Select | apply callQuiet' en_Select); · exact fun w hw => Select_no bridge ps _ rfl A c w (hs.later hw) hl hr)
           | ((first | apply callPure' en_iRight | apply callQuiet' en_iRight); · exact fun w hw => iRight_w ps _ rfl A c w (hs.later hw) hl)
           | ((first | apply callPure' en_Right8 | apply callQuiet' en_Right8); · exact fun w hw => Right8_w ps _ rfl _ _ w (hw.arrSl hasM) hl hok)
           | (first | refine eqlW eqS28 rfl rfl rfl fitM fitM ?_ | refine neqW eqS28 rfl rfl rfl fitM fitM ?_)
           | refine Or.inl ⟨_, _, hasM, ?_⟩
           | refine Or.inl ⟨_, _, _, holeM, rfl, rfl, ?_⟩
           | refine lA ?_
           | refine lA0 ?_
           | refine lA1 ?_
           | refine lO ?_
           | refine lO0 ?_
           | refine lO1 ?_
           | refine lR ?_
           | refine lG ?_
           | refine lG0 ?_
           | refine tA ?_
           | refine tA0 ?_
           | refine tA1 ?_
           | refine BytW.ofBlk hasM rfl rfl ?_
           | refine AppW.noneB hasM leM rfl rfl rfl leM leM ?_
           | refine AppW.rowB hasM leM rfl rfl holeM leM leM ?_
           | refine AppW.blkB hasM leM rfl rfl holeM rfl rfl leM leM ?_
           | refine AppW.rowS hasM leM rfl rfl holeM (by omega) leM ?_
           | refine AppW.arrS hasM leM rfl rfl rfl holeM (by first | omega | (simp; omega)) leM ?_
           | refine ⟨sideM, ?_⟩
           | fail)
      all_goals (try conv => whnf)
      · exact absurd trivial h
      · exact v_bool rfl
      all_goals (exact absurd (hr.symm.trans h) (by decide))
theorem RolesTells_n (bridge : Int) (ps : List InfoV) (A : Option Addr) (n c : Nat) (w : World) (hn : n = ps.length) (hs : SlAt w A 7 (ps.map InfoV.enc)) (hb : u64N bridge) (hok : ∀ p ∈ ps, okI8 p) : PuAt Try.prog 3 [.int .u64 bridge, .slice A n c] (.bool true) w := by
  subst hn; exact RolesTells_w bridge ps A c w hs hb hok
end Go.Proofs.Ytgjdmlgdgbehoaa.Am
