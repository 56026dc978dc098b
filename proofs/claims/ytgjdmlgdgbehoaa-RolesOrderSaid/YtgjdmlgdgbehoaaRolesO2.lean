/- The law RolesOrder. -/
import Derived.Test.YtgjdmlgdgbehoaaRolesO
set_option linter.unusedVariables false
set_option linter.unusedSimpArgs false
set_option maxRecDepth 100000
set_option maxHeartbeats 4000000
namespace Go.Proofs.Ytgjdmlgdgbehoaa.Am
open Go Go.RowKit
theorem ok_RolesOrder : (match Try.f5.body with | some c => codeOk Try.f5.ntmps c | none => false) = true := by kernel_rfl
theorem en_RolesOrder : ∃ fn, Try.prog.funcs[5]? = some fn ∧ (fn.name == "runtime.NumGoroutine") = false ∧ fn.body.isNone = false := ⟨_, Try.func5, by kernel_rfl, by kernel_rfl⟩
theorem take_rev {α : Type} {l : List α} {k : Nat} {x : α} (h : l[l.length - 1 - k]? = some x) (hk : k < l.length) : l.reverse.take (k + 1) = l.reverse.take k ++ [x] := by
  rw [List.take_succ_eq_append_getElem (by rw [List.length_reverse]; exact hk)]
  have h2 : l.reverse[k]? = some x := by rw [List.getElem?_reverse hk]; exact h
  rw [(List.getElem?_eq_some_iff.1 h2).2]
theorem RolesOrder_w (bridge : Int) (ps : List InfoV) (A : Option Addr) (c : Nat) (w : World) (hs : SlAt w A 7 (ps.map InfoV.enc)) (hb : u64N bridge) (hok : ∀ p ∈ ps, okI8 p) : PuAt Try.prog 5 [.int .u64 bridge, .slice A ps.length c] (.bool true) w := by
  refine funcR_pure tyOk wide Try.func5 ok_RolesOrder (Nat.le_of_ble_eq_true rfl) ?_
  by_cases hno : 40 < ps.length
  · skip
    repeat' first
      | (conv => whnf
         first
         | intro _
         | (first | refine selSplit (fun h => ?_) (fun h => ?_) | refine condSplit (fun h => ?_) (fun h => ?_)) <;> first | exact (clash (by assumption) h).elim | exact (clash h (by assumption)).elim | (simp only [decide_eq_true_eq, decide_eq_false_iff_not, Bool.not_eq_true', Bool.not_eq_false', Bool.not_true, Bool.not_false, Bool.or_eq_true, Bool.and_eq_true, Bool.or_eq_false_iff, Bool.and_eq_false_iff, beq_iff_eq, beq_eq_false_iff_ne, ne_eq] at h; first | (exfalso; omega) | skip) | skip
         | (first | refine drM (.quiet 0 (.quiet 1 (.quiet 2 (.quiet 3 (.quiet 4 (.quiet 5 (.quiet 6 (.quiet 7 (.quiet 8 (.quiet 9 (.quiet 10 (.quiet 11 (.quiet 12 (.quiet 13 (.quiet 14 (.quiet 15 (.quiet 16 (.quiet 17 (.quiet 18 (.quiet 19 (.quiet 20 (.quiet 21 (.quiet 22 (.quiet 23 (.quiet 24 (.quiet 25 (.quiet 26 (.quiet 27 (.quiet 28 (.quiet 29 (.quiet 30 (.quiet 31 (.quiet 32 (.quiet 33 (.quiet 34 (.quiet 35 (.quiet 36 (.quiet 37 (.quiet 38 (.quiet 39 (.quiet 40 (.quiet 41 (.quiet 42 (.quiet 43 (.quiet 44 (.quiet 45 (.quiet 46 (.quiet 47 (.quiet 48 (.quiet 49 (.quiet 50 (.quiet 51 (.quiet 52 .done))))))))))))))))))))))))))))))))))))))))))))))))))))) (SubL.refl _) ?_ | refine drM (.quiet 0 (.quiet 1 (.quiet 2 (.quiet 3 (.quiet 4 (.quiet 5 (.quiet 6 (.quiet 7 (.quiet 8 (.quiet 9 (.quiet 10 (.quiet 11 (.quiet 12 (.quiet 13 (.quiet 14 (.quiet 15 (.quiet 16 (.quiet 17 (.quiet 18 (.quiet 19 (.quiet 20 (.quiet 21 (.quiet 22 (.quiet 23 (.quiet 24 (.quiet 25 (.quiet 26 (.quiet 27 (.quiet 28 (.quiet 29 (.quiet 30 (.quiet 31 (.quiet 32 (.quiet 33 (.quiet 34 (.quiet 35 (.quiet 36 (.quiet 37 (.quiet 38 (.quiet 39 (.quiet 40 .done))))))))))))))))))))))))))))))))))))))))) (SubL.refl _) ?_)
         | refine AltP.mk ?_ ?_
         | refine kpM ?_
         | refine SeqP.go ?_
         | refine CondR.split ?_
         | exact IsV.mk
         | apply GuardP.mk
         | ((first | apply callPure' en_awake08 | apply callQuiet' en_awake08); · exact fun w _ => awake08_w w)
         | (first | refine eqlW eqS28 rfl rfl rfl fitM fitM ?_ | refine neqW eqS28 rfl rfl rfl fitM fitM ?_)
         | refine Or.inl ⟨_, _, hasM, ?_⟩
         | refine Or.inl ⟨_, _, _, holeM, rfl, rfl, ?_⟩
         | refine lA ?_
         | refine lA0 ?_
         | refine lA1 ?_
         | refine lO ?_
         | refine lO0 ?_
         | refine lO1 ?_
         | refine lR ?_
         | refine lG ?_
         | refine lG0 ?_
         | refine tA ?_
         | refine tA0 ?_
         | refine tA1 ?_
         | refine BytW.ofBlk hasM rfl rfl ?_
         | refine AppW.noneB hasM leM rfl rfl rfl leM leM ?_
         | refine AppW.rowB hasM leM rfl rfl holeM leM leM ?_
         | refine AppW.blkB hasM leM rfl rfl holeM rfl rfl leM leM ?_
         | refine AppW.rowS hasM leM rfl rfl holeM (by omega) leM ?_
         | refine AppW.arrS hasM leM rfl rfl rfl holeM (by first | omega | (simp; omega)) leM ?_
         | refine ⟨sideM, ?_⟩
         | fail)
    all_goals (try conv => whnf)
    all_goals first | rfl | (exfalso; omega)
  have hl : ps.length ≤ 1000 := by omega
  have hI := fun w hw => iRight_w ps _ rfl A c w hw hl
  cases hr : rightI ps with
  | false =>
    rw [hr] at hI
    repeat' first
      | (conv => whnf
         first
         | intro _
         | (first | refine selSplit (fun h => ?_) (fun h => ?_) | refine condSplit (fun h => ?_) (fun h => ?_)) <;> first | exact (clash (by assumption) h).elim | exact (clash h (by assumption)).elim | (simp only [decide_eq_true_eq, decide_eq_false_iff_not, Bool.not_eq_true', Bool.not_eq_false', Bool.not_true, Bool.not_false, Bool.or_eq_true, Bool.and_eq_true, Bool.or_eq_false_iff, Bool.and_eq_false_iff, beq_iff_eq, beq_eq_false_iff_ne, ne_eq] at h; first | (exfalso; omega) | skip) | skip
         | (first | refine drC (.quiet 0 (.quiet 1 (.quiet 2 (.quiet 3 (.quiet 4 (.quiet 5 (.quiet 6 (.quiet 7 (.quiet 8 (.quiet 9 (.quiet 10 (.quiet 11 (.quiet 12 (.quiet 13 (.quiet 14 (.quiet 15 (.quiet 16 (.quiet 17 (.quiet 18 (.quiet 19 (.quiet 20 (.quiet 21 (.quiet 22 (.quiet 23 (.quiet 24 (.quiet 25 (.quiet 26 (.quiet 27 (.quiet 28 (.quiet 29 (.quiet 30 (.quiet 31 (.quiet 32 (.quiet 33 (.quiet 34 (.quiet 35 (.quiet 36 (.quiet 37 (.quiet 38 (.quiet 39 (.quiet 40 (.quiet 41 (.quiet 42 (.quiet 43 (.quiet 44 (.quiet 45 (.quiet 46 (.quiet 47 (.quiet 48 (.quiet 49 (.quiet 50 (.quiet 51 (.quiet 52 .done))))))))))))))))))))))))))))))))))))))))))))))))))))) (SubL.refl _) ?_ | refine drC (.quiet 0 (.quiet 1 (.quiet 2 (.quiet 3 (.quiet 4 (.quiet 5 (.quiet 6 (.quiet 7 (.quiet 8 (.quiet 9 (.quiet 10 (.quiet 11 (.quiet 12 (.quiet 13 (.quiet 14 (.quiet 15 (.quiet 16 (.quiet 17 (.quiet 18 (.quiet 19 (.quiet 20 (.quiet 21 (.quiet 22 (.quiet 23 (.quiet 24 (.quiet 25 (.quiet 26 (.quiet 27 (.quiet 28 (.quiet 29 (.quiet 30 (.quiet 31 (.quiet 32 (.quiet 33 (.quiet 34 (.quiet 35 (.quiet 36 (.quiet 37 (.quiet 38 (.quiet 39 (.quiet 40 .done))))))))))))))))))))))))))))))))))))))))) (SubL.refl _) ?_)
         | refine AltP.mk ?_ ?_
         | refine kpM ?_
         | refine SeqP.go ?_
         | refine cdM ?_
         | exact IsV.mk
         | apply GuardP.mk
         | ((first | apply callPure' en_awake08 | apply callQuiet' en_awake08); · exact fun w _ => awake08_w w)
         | ((first | apply callPure' en_iRight | apply callQuiet' en_iRight); · exact fun w hw => hI w (hs.later hw))
         | (first | refine eqlW eqS28 rfl rfl rfl fitM fitM ?_ | refine neqW eqS28 rfl rfl rfl fitM fitM ?_)
         | refine Or.inl ⟨_, _, hasM, ?_⟩
         | refine Or.inl ⟨_, _, _, holeM, rfl, rfl, ?_⟩
         | refine lA ?_
         | refine lA0 ?_
         | refine lA1 ?_
         | refine lO ?_
         | refine lO0 ?_
         | refine lO1 ?_
         | refine lR ?_
         | refine lG ?_
         | refine lG0 ?_
         | refine tA ?_
         | refine tA0 ?_
         | refine tA1 ?_
         | refine BytW.ofBlk hasM rfl rfl ?_
         | refine AppW.noneB hasM leM rfl rfl rfl leM leM ?_
         | refine AppW.rowB hasM leM rfl rfl holeM leM leM ?_
         | refine AppW.blkB hasM leM rfl rfl holeM rfl rfl leM leM ?_
         | refine AppW.rowS hasM leM rfl rfl holeM (by omega) leM ?_
         | refine AppW.arrS hasM leM rfl rfl rfl holeM (by first | omega | (simp; omega)) leM ?_
         | refine ⟨sideM, ?_⟩
         | fail)
    all_goals (try conv => whnf)
    all_goals first | rfl | (exfalso; simp at h; done)
  | true =>
    rw [hr] at hI
    have hS := fun w hw => Select_w bridge ps _ rfl A c w hw hl hr
    have lr : ps.reverse.length = ps.length := List.length_reverse
    have ld : (ps.map deafP).reverse.length = ps.length := by rw [List.length_reverse, List.length_map]
    have hS2 := fun A c w hw => Select_w bridge ps.reverse _ lr A c w hw hl (right_rev hr)
    have hS3 := fun A c w hw => Select_w bridge (ps.map deafP).reverse _ ld A c w hw hl (right_rev (right_deaf hr))
    rw [roles_rev hr, best_rev] at hS2
    have hd3 : bestV bridge (ps.map deafP).reverse = (mineV bridge, -1) := best_deaf _ fun p hp => by
      obtain ⟨q, _, rfl⟩ := List.mem_map.1 (List.mem_reverse.1 hp)
      unfold deafP; dsimp only; split <;> omega
    rw [roles_deaf, hd3] at hS3
    have hlen : (rolesV bridge ps).length = ps.length := by unfold rolesV; rw [List.length_mapIdx]
    generalize bestV bridge ps = r at *
    generalize bestV bridge ps.reverse = r2 at *
    repeat' first
      | (conv => whnf
         first
         | intro _
         | (first | refine selSplit (fun h => ?_) (fun h => ?_) | refine condSplit (fun h => ?_) (fun h => ?_)) <;> first | exact (clash (by assumption) h).elim | exact (clash h (by assumption)).elim | (simp only [decide_eq_true_eq, decide_eq_false_iff_not, Bool.not_eq_true', Bool.not_eq_false', Bool.not_true, Bool.not_false, Bool.or_eq_true, Bool.and_eq_true, Bool.or_eq_false_iff, Bool.and_eq_false_iff, beq_iff_eq, beq_eq_false_iff_ne, ne_eq] at h; first | (exfalso; omega) | skip) | skip
         | (first | refine drC (.quiet 0 (.quiet 1 (.quiet 2 (.quiet 3 (.quiet 4 (.quiet 5 (.quiet 6 (.quiet 7 (.quiet 8 (.quiet 9 (.quiet 10 (.quiet 11 (.quiet 12 (.quiet 13 (.quiet 14 (.quiet 15 (.quiet 16 (.quiet 17 (.quiet 18 (.quiet 19 (.quiet 20 (.quiet 21 (.quiet 22 (.quiet 23 (.quiet 24 (.quiet 25 (.quiet 26 (.quiet 27 (.quiet 28 (.quiet 29 (.quiet 30 (.quiet 31 (.quiet 32 (.quiet 33 (.quiet 34 (.quiet 35 (.quiet 36 (.quiet 37 (.quiet 38 (.quiet 39 (.quiet 40 (.quiet 41 (.quiet 42 (.quiet 43 (.quiet 44 (.quiet 45 (.quiet 46 (.quiet 47 (.quiet 48 (.quiet 49 (.quiet 50 (.quiet 51 (.quiet 52 .done))))))))))))))))))))))))))))))))))))))))))))))))))))) (SubL.refl _) ?_ | refine drC (.quiet 0 (.quiet 1 (.quiet 2 (.quiet 3 (.quiet 4 (.quiet 5 (.quiet 6 (.quiet 7 (.quiet 8 (.quiet 9 (.quiet 10 (.quiet 11 (.quiet 12 (.quiet 13 (.quiet 14 (.quiet 15 (.quiet 16 (.quiet 17 (.quiet 18 (.quiet 19 (.quiet 20 (.quiet 21 (.quiet 22 (.quiet 23 (.quiet 24 (.quiet 25 (.quiet 26 (.quiet 27 (.quiet 28 (.quiet 29 (.quiet 30 (.quiet 31 (.quiet 32 (.quiet 33 (.quiet 34 (.quiet 35 (.quiet 36 (.quiet 37 (.quiet 38 (.quiet 39 (.quiet 40 .done))))))))))))))))))))))))))))))))))))))))) (SubL.refl _) ?_)
         | refine AltP.mk ?_ ?_
         | refine kpM ?_
         | refine SeqP.go ?_
         | refine cdM ?_
         | exact IsV.mk
         | apply GuardP.mk
         | ((first | apply callPure' en_awake08 | apply callQuiet' en_awake08); · exact fun w _ => awake08_w w)
         | ((first | apply callPure' en_iRight | apply callQuiet' en_iRight); · exact fun w hw => hI w (hs.later hw))
         | (first | refine eqlW eqS28 rfl rfl rfl fitM fitM ?_ | refine neqW eqS28 rfl rfl rfl fitM fitM ?_)
         | refine Or.inl ⟨_, _, hasM, ?_⟩
         | refine Or.inl ⟨_, _, _, holeM, rfl, rfl, ?_⟩
         | refine lA ?_
         | refine lA0 ?_
         | refine lA1 ?_
         | refine lO ?_
         | refine lO0 ?_
         | refine lO1 ?_
         | refine lR ?_
         | refine lG ?_
         | refine lG0 ?_
         | refine tA ?_
         | refine tA0 ?_
         | refine tA1 ?_
         | refine BytW.ofBlk hasM rfl rfl ?_
         | refine AppW.noneB hasM leM rfl rfl rfl leM leM ?_
         | refine AppW.rowB hasM leM rfl rfl holeM leM leM ?_
         | refine AppW.blkB hasM leM rfl rfl holeM rfl rfl leM leM ?_
         | refine AppW.rowS hasM leM rfl rfl holeM (by omega) leM ?_
         | refine AppW.arrS hasM leM rfl rfl rfl holeM (by first | omega | (simp; omega)) leM ?_
         | refine ⟨sideM, ?_⟩
         | fail)
    all_goals (try conv => whnf)
    · exact v_bool rfl
    refine .mk (Nat × (Option Addr × Nat) × (Option Addr × Nat)) (fun ⟨k, ⟨A1, c1⟩, ⟨A2, c2⟩⟩ S H => (k ≤ ps.length ∧ IsRow (.slice A1 k c1) k ∧ IsRow (.slice A2 k c2) k) ∧ S = [(7, .int .i64 ((ps.length : Int) - 1 - k)), (6, .slice A2 k c2), (5, .slice A1 k c1), (1, .slice A ps.length c), (0, .int .u64 bridge)] ∧ H = [.arr (.slice A1 k c1) 42 7 ((ps.reverse.take k).map InfoV.enc), .arr (.slice A2 k c2) 42 7 (((ps.map deafP).reverse.take k).map InfoV.enc)]) (fun s => ps.length - s.1) (0, (none, 0), (none, 0)) _ _ ⟨⟨by omega, .inl ⟨rfl, rfl⟩, .inl ⟨rfl, rfl⟩⟩, rfl, rfl⟩ ⟨eq_int (by rw [w64 (by omega) (by omega)]; simp), rfl, rfl, rfl, rfl, trivial⟩ ((nilArr (E := 42) (sz := 7)).trans (nilArr (E := 42) (sz := 7))) ?_
    rintro ⟨k, ⟨A1, c1⟩, ⟨A2, c2⟩⟩ S1 H1 ⟨⟨hk, hr1, hr2⟩, rfl, rfl⟩
    by_cases hk2 : k < ps.length
    · obtain ⟨b, o, e, _⟩ := hs.at_ (by simp; omega)
      subst e
      have o1 := hs.old (X := []) (by simp; omega) (by simp)
      obtain ⟨x, hx⟩ : ∃ x, ps[ps.length - 1 - k]? = some x := ⟨ps[ps.length - 1 - k]'(by omega), List.getElem?_eq_getElem (by omega)⟩
      have hq : ((ps.length : Int) - 1 - k).toNat = ps.length - 1 - k := by omega
      have y1 : (ps.map InfoV.enc)[((ps.length : Int) - 1 - k).toNat]? = some x.enc := by rw [hq, List.getElem?_map, hx]; rfl
      have t1 := take_rev hx hk2
      have t2 := take_rev (l := ps.map deafP) (k := k) (x := deafP x) (by rw [List.length_map, List.getElem?_map, hx]; rfl) (by rw [List.length_map]; exact hk2)
      have l1 : ((ps.reverse.take k).map InfoV.enc).length = k := map_take_len (by rw [lr]; omega)
      have l2 : (((ps.map deafP).reverse.take k).map InfoV.enc).length = k := map_take_len (by rw [ld]; omega)
      repeat' first
        | (conv => whnf
           first
           | intro _
           | (first | refine selSplit (fun h => ?_) (fun h => ?_) | refine condSplit (fun h => ?_) (fun h => ?_)) <;> first | exact (clash (by assumption) h).elim | exact (clash h (by assumption)).elim | (simp only [decide_eq_true_eq, decide_eq_false_iff_not, Bool.not_eq_true', Bool.not_eq_false', Bool.not_true, Bool.not_false, Bool.or_eq_true, Bool.and_eq_true, Bool.or_eq_false_iff, Bool.and_eq_false_iff, beq_iff_eq, beq_eq_false_iff_ne, ne_eq] at h; first | (exfalso; omega) | skip) | skip
           | (first | refine drC (.quiet 0 (.quiet 1 (.quiet 2 (.quiet 3 (.quiet 4 (.quiet 5 (.quiet 6 (.quiet 7 (.quiet 8 (.quiet 9 (.quiet 10 (.quiet 11 (.quiet 12 (.quiet 13 (.quiet 14 (.quiet 15 (.quiet 16 (.quiet 17 (.quiet 18 (.quiet 19 (.quiet 20 (.quiet 21 (.quiet 22 (.quiet 23 (.quiet 24 (.quiet 25 (.quiet 26 (.quiet 27 (.quiet 28 (.quiet 29 (.quiet 30 (.quiet 31 (.quiet 32 (.quiet 33 (.quiet 34 (.quiet 35 (.quiet 36 (.quiet 37 (.quiet 38 (.quiet 39 (.quiet 40 (.quiet 41 (.quiet 42 (.quiet 43 (.quiet 44 (.quiet 45 (.quiet 46 (.quiet 47 (.quiet 48 (.quiet 49 (.quiet 50 (.quiet 51 (.quiet 52 .done))))))))))))))))))))))))))))))))))))))))))))))))))))) (SubL.refl _) ?_ | refine drC (.quiet 0 (.quiet 1 (.quiet 2 (.quiet 3 (.quiet 4 (.quiet 5 (.quiet 6 (.quiet 7 (.quiet 8 (.quiet 9 (.quiet 10 (.quiet 11 (.quiet 12 (.quiet 13 (.quiet 14 (.quiet 15 (.quiet 16 (.quiet 17 (.quiet 18 (.quiet 19 (.quiet 20 (.quiet 21 (.quiet 22 (.quiet 23 (.quiet 24 (.quiet 25 (.quiet 26 (.quiet 27 (.quiet 28 (.quiet 29 (.quiet 30 (.quiet 31 (.quiet 32 (.quiet 33 (.quiet 34 (.quiet 35 (.quiet 36 (.quiet 37 (.quiet 38 (.quiet 39 (.quiet 40 .done))))))))))))))))))))))))))))))))))))))))) (SubL.refl _) ?_)
           | refine AltP.mk ?_ ?_
           | refine kpM ?_
           | refine SeqP.go ?_
           | refine cdM ?_
           | exact IsV.mk
           | apply GuardP.mk
           | (refine AppW.arrK hasM (Nat.le_of_ble_eq_true rfl) rfl rfl rfl holeM (by first | exact l1 | exact l2) (by omega) (Nat.le_of_ble_eq_true rfl) ?_)
           | (first | refine eqlW eqS28 rfl rfl rfl fitM fitM ?_ | refine neqW eqS28 rfl rfl rfl fitM fitM ?_)
           | refine Or.inl ⟨_, _, hasM, ?_⟩
           | refine Or.inl ⟨_, _, _, holeM, rfl, rfl, ?_⟩
           | refine lA ?_
           | refine lA0 ?_
           | refine lA1 ?_
           | refine lO ?_
           | refine lO0 ?_
           | refine lO1 ?_
           | refine lR ?_
           | refine lG ?_
           | refine lG0 ?_
           | refine tA ?_
           | refine tA0 ?_
           | refine tA1 ?_
           | refine BytW.ofBlk hasM rfl rfl ?_
           | refine AppW.noneB hasM leM rfl rfl rfl leM leM ?_
           | refine AppW.rowB hasM leM rfl rfl holeM leM leM ?_
           | refine AppW.blkB hasM leM rfl rfl holeM rfl rfl leM leM ?_
           | refine AppW.rowS hasM leM rfl rfl holeM (by omega) leM ?_
           | refine AppW.arrS hasM leM rfl rfl rfl holeM (by first | omega | (simp; omega)) leM ?_
           | refine ⟨sideM, ?_⟩
           | fail)
      all_goals (try conv => whnf)
      rename_i b11 A3 q3 hr3 b12 b13 A4 q4 hr4
      exact .mk (k + 1, (A3, q3), (A4, q4)) _ _ (by show _ - (k + 1) < _ - k; omega) ⟨⟨hk2, hr3, hr4⟩, rfl, rfl⟩ ⟨eq_int (by rw [w64 (by omega) (by omega)]; push_cast; omega), rfl, rfl, rfl, rfl, trivial⟩ (by rw [t1, t2, List.map_append, List.map_append]; exact entM)
    · obtain rfl : k = ps.length := by omega
      rw [List.take_of_length_le (l := ps.reverse) (by rw [lr]; omega), List.take_of_length_le (l := (ps.map deafP).reverse) (by rw [ld]; omega)]
      repeat' first
        | (conv => whnf
           first
           | intro _
           | (first | refine selSplit (fun h => ?_) (fun h => ?_) | refine condSplit (fun h => ?_) (fun h => ?_)) <;> first | exact (clash (by assumption) h).elim | exact (clash h (by assumption)).elim | (simp only [decide_eq_true_eq, decide_eq_false_iff_not, Bool.not_eq_true', Bool.not_eq_false', Bool.not_true, Bool.not_false, Bool.or_eq_true, Bool.and_eq_true, Bool.or_eq_false_iff, Bool.and_eq_false_iff, beq_iff_eq, beq_eq_false_iff_ne, ne_eq] at h; first | (exfalso; omega) | skip) | skip
           | (first | refine drC (.quiet 0 (.quiet 1 (.quiet 2 (.quiet 3 (.quiet 4 (.quiet 5 (.quiet 6 (.quiet 7 (.quiet 8 (.quiet 9 (.quiet 10 (.quiet 11 (.quiet 12 (.quiet 13 (.quiet 14 (.quiet 15 (.quiet 16 (.quiet 17 (.quiet 18 (.quiet 19 (.quiet 20 (.quiet 21 (.quiet 22 (.quiet 23 (.quiet 24 (.quiet 25 (.quiet 26 (.quiet 27 (.quiet 28 (.quiet 29 (.quiet 30 (.quiet 31 (.quiet 32 (.quiet 33 (.quiet 34 (.quiet 35 (.quiet 36 (.quiet 37 (.quiet 38 (.quiet 39 (.quiet 40 (.quiet 41 (.quiet 42 (.quiet 43 (.quiet 44 (.quiet 45 (.quiet 46 (.quiet 47 (.quiet 48 (.quiet 49 (.quiet 50 (.quiet 51 (.quiet 52 .done))))))))))))))))))))))))))))))))))))))))))))))))))))) (SubL.refl _) ?_ | refine drC (.quiet 0 (.quiet 1 (.quiet 2 (.quiet 3 (.quiet 4 (.quiet 5 (.quiet 6 (.quiet 7 (.quiet 8 (.quiet 9 (.quiet 10 (.quiet 11 (.quiet 12 (.quiet 13 (.quiet 14 (.quiet 15 (.quiet 16 (.quiet 17 (.quiet 18 (.quiet 19 (.quiet 20 (.quiet 21 (.quiet 22 (.quiet 23 (.quiet 24 (.quiet 25 (.quiet 26 (.quiet 27 (.quiet 28 (.quiet 29 (.quiet 30 (.quiet 31 (.quiet 32 (.quiet 33 (.quiet 34 (.quiet 35 (.quiet 36 (.quiet 37 (.quiet 38 (.quiet 39 (.quiet 40 .done))))))))))))))))))))))))))))))))))))))))) (SubL.refl _) ?_)
           | refine AltP.mk ?_ ?_
           | refine kpM ?_
           | refine SeqP.go ?_
           | refine cdM ?_
           | exact IsV.mk
           | apply GuardP.mk
           | (refine callX takeM en_Select (fun w hw => hS w (hs.later hw)) ?_)
           | (refine callX takeM en_Select (fun w hw => hS2 A1 c1 w (hw.arrSl hasM)) ?_)
           | (refine callX takeM en_Select (fun w hw => hS3 A2 c2 w (hw.arrSl hasM)) ?_)
           | ((first | apply callPure' en_Mine | apply callQuiet' en_Mine); · exact fun w _ => Mine_w bridge w)
           | (first | refine eqlW eqS28 rfl rfl rfl fitM fitM ?_ | refine neqW eqS28 rfl rfl rfl fitM fitM ?_)
           | refine Or.inl ⟨_, _, hasM, ?_⟩
           | refine Or.inl ⟨_, _, _, holeM, rfl, rfl, ?_⟩
           | refine lA ?_
           | refine lA0 ?_
           | refine lA1 ?_
           | refine lO ?_
           | refine lO0 ?_
           | refine lO1 ?_
           | refine lR ?_
           | refine lG ?_
           | refine lG0 ?_
           | refine tA ?_
           | refine tA0 ?_
           | refine tA1 ?_
           | refine BytW.ofBlk hasM rfl rfl ?_
           | refine AppW.noneB hasM leM rfl rfl rfl leM leM ?_
           | refine AppW.rowB hasM leM rfl rfl holeM leM leM ?_
           | refine AppW.blkB hasM leM rfl rfl holeM rfl rfl leM leM ?_
           | refine AppW.rowS hasM leM rfl rfl holeM (by omega) leM ?_
           | refine AppW.arrS hasM leM rfl rfl rfl holeM (by first | omega | (simp; omega)) leM ?_
           | refine ⟨sideM, ?_⟩
           | fail)
      all_goals (try conv => whnf)
      · exfalso
        have e : ∀ v : V4, allEq (encV v) (encV v) = true := fun v => encV_eq.2 rfl
        rcases h with (((((((h | h) | h) | h) | h) | h) | h) | h) | h <;> first | exact h trivial | exact absurd ((e _).symm.trans h) (by decide)
      · rename_i s0 hs0 b9 s1 hs1 b11 s2 hs2 b13
        clear h hS hS2 hS3 hI
        have hn : IntKind.i64.wrap (IntKind.i64.wrap ((ps.length : Int) - 1)) = (ps.length : Int) - 1 := by rw [w64 (x := (ps.length : Int) - 1) (by omega) (by omega), w64 (by omega) (by omega)]
        refine .mk Nat (fun k S H => k ≤ ps.length ∧ S = [(15, .int .i64 k), (13, .pointer (some ⟨b13, 0, none⟩)), (11, .pointer (some ⟨b11, 0, none⟩)), (9, .pointer (some ⟨b9, 0, none⟩)), (1, .slice A ps.length c), (0, .int .u64 bridge)] ∧ H = [
          .blk b13 (encV (mineV bridge) ++ [.int .i64 (-1), .slice s2.1.1 ps.length s2.1.2, .slice s2.2.1 ps.length s2.2.2]) 32, .row (.slice s2.1.1 ps.length s2.1.2) 3 1 ps.length ((ps.map deafRole).reverse.map (Value.int .i64)),
          .blk b11 (encV r.1 ++ [.int .i64 r2.2, .slice s1.1.1 ps.length s1.1.2, .slice s1.2.1 ps.length s1.2.2]) 32, .row (.slice s1.1.1 ps.length s1.1.2) 3 1 ps.length ((rolesV bridge ps).reverse.map (Value.int .i64)),
          .blk b9 (encV r.1 ++ [.int .i64 r.2, .slice s0.1.1 ps.length s0.1.2, .slice s0.2.1 ps.length s0.2.2]) 32, .row (.slice s0.1.1 ps.length s0.1.2) 3 1 ps.length ((rolesV bridge ps).map (Value.int .i64))]) (fun k => ps.length - k) 0 _ _ ⟨by omega, rfl, rfl⟩ subM entM ?_
        rintro k S1 H1 ⟨hk, rfl, rfl⟩
        obtain ⟨⟨D1, d1⟩, ⟨D2, d2⟩⟩ := s0
        obtain ⟨⟨E1, e1⟩, ⟨E2, e2⟩⟩ := s1
        obtain ⟨⟨F1, f1⟩, ⟨F2, f2⟩⟩ := s2
        by_cases hk2 : k < ps.length
        · obtain ⟨b, o, e, _⟩ := hs.at_ (by simp; omega)
          subst e
          have o1 := hs.old (X := []) (by simp; omega) (by simp)
          obtain ⟨g1, e, q1⟩ := hs0.1.at_ (by omega)
          dsimp only at e
          subst e
          obtain ⟨g2, e, q2⟩ := hs1.1.at_ (by omega)
          dsimp only at e
          subst e
          obtain ⟨g3, e, q3⟩ := hs2.1.at_ (by omega)
          dsimp only at e
          subst e
          have hw : IntKind.i64.wrap (IntKind.i64.wrap ((ps.length : Int) - 1) - k) = ((ps.length - 1 - k : Nat) : Int) := by rw [w64 (x := (ps.length : Int) - 1) (by omega) (by omega), w64 (by omega) (by omega)]; omega
          have hq : (IntKind.i64.wrap (IntKind.i64.wrap ((ps.length : Int) - 1) - k)).toNat = ps.length - 1 - k := by rw [hw, Int.toNat_natCast]
          have hqb : 0 ≤ IntKind.i64.wrap (IntKind.i64.wrap ((ps.length : Int) - 1) - k) ∧ IntKind.i64.wrap (IntKind.i64.wrap ((ps.length : Int) - 1) - k) < (ps.length : Int) := by rw [hw]; omega
          obtain ⟨x, hx⟩ : ∃ x, ps[k] = x := ⟨_, rfl⟩
          have hxk : ps[k]? = some x := by rw [List.getElem?_eq_getElem hk2, hx]
          obtain ⟨ρ, hρ⟩ : ∃ ρ, (rolesV bridge ps)[k]? = some ρ := ⟨(rolesV bridge ps)[k]'(by rw [hlen]; exact hk2), List.getElem?_eq_getElem _⟩
          have y0 : (ps.map InfoV.enc)[k]? = some x.enc := by rw [List.getElem?_map, hxk]; rfl
          have y1 : ((rolesV bridge ps).map (Value.int .i64))[k]? = some (.int .i64 ρ) := by rw [List.getElem?_map, hρ]; rfl
          have y2 : ((rolesV bridge ps).reverse.map (Value.int .i64))[(IntKind.i64.wrap (IntKind.i64.wrap ((ps.length : Int) - 1) - k)).toNat]? = some (.int .i64 ρ) := by
            rw [hq, List.getElem?_map, List.getElem?_reverse (by rw [hlen]; omega), hlen, show ps.length - 1 - (ps.length - 1 - k) = k by omega, hρ]; rfl
          have y3 : ((ps.map deafRole).reverse.map (Value.int .i64))[(IntKind.i64.wrap (IntKind.i64.wrap ((ps.length : Int) - 1) - k)).toNat]? = some (.int .i64 (deafRole x)) := by
            rw [hq, List.getElem?_map, List.getElem?_reverse (by rw [List.length_map]; omega), List.length_map, show ps.length - 1 - (ps.length - 1 - k) = k by omega, List.getElem?_map, hxk]; rfl
          have d2 : decide (deafRole x = 2) = !decide (x.Source = 0) := by unfold deafRole; by_cases g : x.Source = 0 <;> simp [g]
          have d0 : decide (deafRole x = 0) = decide (x.Source = 0) := by unfold deafRole; by_cases g : x.Source = 0 <;> simp [g]
          generalize deafRole x = dr at *
          repeat' first
            | (conv => whnf
               first
               | intro _
               | (first | refine selSplit (fun h => ?_) (fun h => ?_) | refine condSplit (fun h => ?_) (fun h => ?_)) <;> first | exact (clash (by assumption) h).elim | exact (clash h (by assumption)).elim | (simp only [decide_eq_true_eq, decide_eq_false_iff_not, Bool.not_eq_true', Bool.not_eq_false', Bool.not_true, Bool.not_false, Bool.or_eq_true, Bool.and_eq_true, Bool.or_eq_false_iff, Bool.and_eq_false_iff, beq_iff_eq, beq_eq_false_iff_ne, ne_eq] at h; first | (exfalso; omega) | skip) | skip
               | (first | refine drC (.quiet 0 (.quiet 1 (.quiet 2 (.quiet 3 (.quiet 4 (.quiet 5 (.quiet 6 (.quiet 7 (.quiet 8 (.quiet 9 (.quiet 10 (.quiet 11 (.quiet 12 (.quiet 13 (.quiet 14 (.quiet 15 (.quiet 16 (.quiet 17 (.quiet 18 (.quiet 19 (.quiet 20 (.quiet 21 (.quiet 22 (.quiet 23 (.quiet 24 (.quiet 25 (.quiet 26 (.quiet 27 (.quiet 28 (.quiet 29 (.quiet 30 (.quiet 31 (.quiet 32 (.quiet 33 (.quiet 34 (.quiet 35 (.quiet 36 (.quiet 37 (.quiet 38 (.quiet 39 (.quiet 40 (.quiet 41 (.quiet 42 (.quiet 43 (.quiet 44 (.quiet 45 (.quiet 46 (.quiet 47 (.quiet 48 (.quiet 49 (.quiet 50 (.quiet 51 (.quiet 52 .done))))))))))))))))))))))))))))))))))))))))))))))))))))) (SubL.refl _) ?_ | refine drC (.quiet 0 (.quiet 1 (.quiet 2 (.quiet 3 (.quiet 4 (.quiet 5 (.quiet 6 (.quiet 7 (.quiet 8 (.quiet 9 (.quiet 10 (.quiet 11 (.quiet 12 (.quiet 13 (.quiet 14 (.quiet 15 (.quiet 16 (.quiet 17 (.quiet 18 (.quiet 19 (.quiet 20 (.quiet 21 (.quiet 22 (.quiet 23 (.quiet 24 (.quiet 25 (.quiet 26 (.quiet 27 (.quiet 28 (.quiet 29 (.quiet 30 (.quiet 31 (.quiet 32 (.quiet 33 (.quiet 34 (.quiet 35 (.quiet 36 (.quiet 37 (.quiet 38 (.quiet 39 (.quiet 40 .done))))))))))))))))))))))))))))))))))))))))) (SubL.refl _) ?_)
               | refine AltP.mk ?_ ?_
               | refine kpM ?_
               | refine SeqP.go ?_
               | refine cdM ?_
               | exact IsV.mk
               | apply GuardP.mk
               | (refine And.intro hqb ?_)
               | (first | refine eqlW eqS28 rfl rfl rfl fitM fitM ?_ | refine neqW eqS28 rfl rfl rfl fitM fitM ?_)
               | refine Or.inl ⟨_, _, hasM, ?_⟩
               | refine Or.inl ⟨_, _, _, holeM, rfl, rfl, ?_⟩
               | refine lA ?_
               | refine lA0 ?_
               | refine lA1 ?_
               | refine lO ?_
               | refine lO0 ?_
               | refine lO1 ?_
               | refine lR ?_
               | refine lG ?_
               | refine lG0 ?_
               | refine tA ?_
               | refine tA0 ?_
               | refine tA1 ?_
               | refine BytW.ofBlk hasM rfl rfl ?_
               | refine AppW.noneB hasM leM rfl rfl rfl leM leM ?_
               | refine AppW.rowB hasM leM rfl rfl holeM leM leM ?_
               | refine AppW.blkB hasM leM rfl rfl holeM rfl rfl leM leM ?_
               | refine AppW.rowS hasM leM rfl rfl holeM (by omega) leM ?_
               | refine AppW.arrS hasM leM rfl rfl rfl holeM (by first | omega | (simp; omega)) leM ?_
               | refine ⟨sideM, ?_⟩
               | fail)
          all_goals (try conv => whnf)
          · exfalso
            rcases h with (h | h) | h
            · exact h trivial
            · exact h d2
            · exact h d0
          · exact .mk (k + 1) _ _ (by omega) ⟨hk2, rfl, rfl⟩ subM entM
        · skip
          repeat' first
            | (conv => whnf
               first
               | intro _
               | (first | refine selSplit (fun h => ?_) (fun h => ?_) | refine condSplit (fun h => ?_) (fun h => ?_)) <;> first | exact (clash (by assumption) h).elim | exact (clash h (by assumption)).elim | (simp only [decide_eq_true_eq, decide_eq_false_iff_not, Bool.not_eq_true', Bool.not_eq_false', Bool.not_true, Bool.not_false, Bool.or_eq_true, Bool.and_eq_true, Bool.or_eq_false_iff, Bool.and_eq_false_iff, beq_iff_eq, beq_eq_false_iff_ne, ne_eq] at h; first | (exfalso; omega) | skip) | skip
               | (first | refine drC (.quiet 0 (.quiet 1 (.quiet 2 (.quiet 3 (.quiet 4 (.quiet 5 (.quiet 6 (.quiet 7 (.quiet 8 (.quiet 9 (.quiet 10 (.quiet 11 (.quiet 12 (.quiet 13 (.quiet 14 (.quiet 15 (.quiet 16 (.quiet 17 (.quiet 18 (.quiet 19 (.quiet 20 (.quiet 21 (.quiet 22 (.quiet 23 (.quiet 24 (.quiet 25 (.quiet 26 (.quiet 27 (.quiet 28 (.quiet 29 (.quiet 30 (.quiet 31 (.quiet 32 (.quiet 33 (.quiet 34 (.quiet 35 (.quiet 36 (.quiet 37 (.quiet 38 (.quiet 39 (.quiet 40 (.quiet 41 (.quiet 42 (.quiet 43 (.quiet 44 (.quiet 45 (.quiet 46 (.quiet 47 (.quiet 48 (.quiet 49 (.quiet 50 (.quiet 51 (.quiet 52 .done))))))))))))))))))))))))))))))))))))))))))))))))))))) (SubL.refl _) ?_ | refine drC (.quiet 0 (.quiet 1 (.quiet 2 (.quiet 3 (.quiet 4 (.quiet 5 (.quiet 6 (.quiet 7 (.quiet 8 (.quiet 9 (.quiet 10 (.quiet 11 (.quiet 12 (.quiet 13 (.quiet 14 (.quiet 15 (.quiet 16 (.quiet 17 (.quiet 18 (.quiet 19 (.quiet 20 (.quiet 21 (.quiet 22 (.quiet 23 (.quiet 24 (.quiet 25 (.quiet 26 (.quiet 27 (.quiet 28 (.quiet 29 (.quiet 30 (.quiet 31 (.quiet 32 (.quiet 33 (.quiet 34 (.quiet 35 (.quiet 36 (.quiet 37 (.quiet 38 (.quiet 39 (.quiet 40 .done))))))))))))))))))))))))))))))))))))))))) (SubL.refl _) ?_)
               | refine AltP.mk ?_ ?_
               | refine kpM ?_
               | refine SeqP.go ?_
               | refine cdM ?_
               | exact IsV.mk
               | apply GuardP.mk
               | (first | refine eqlW eqS28 rfl rfl rfl fitM fitM ?_ | refine neqW eqS28 rfl rfl rfl fitM fitM ?_)
               | refine Or.inl ⟨_, _, hasM, ?_⟩
               | refine Or.inl ⟨_, _, _, holeM, rfl, rfl, ?_⟩
               | refine lA ?_
               | refine lA0 ?_
               | refine lA1 ?_
               | refine lO ?_
               | refine lO0 ?_
               | refine lO1 ?_
               | refine lR ?_
               | refine lG ?_
               | refine lG0 ?_
               | refine tA ?_
               | refine tA0 ?_
               | refine tA1 ?_
               | refine BytW.ofBlk hasM rfl rfl ?_
               | refine AppW.noneB hasM leM rfl rfl rfl leM leM ?_
               | refine AppW.rowB hasM leM rfl rfl holeM leM leM ?_
               | refine AppW.blkB hasM leM rfl rfl holeM rfl rfl leM leM ?_
               | refine AppW.rowS hasM leM rfl rfl holeM (by omega) leM ?_
               | refine AppW.arrS hasM leM rfl rfl rfl holeM (by first | omega | (simp; omega)) leM ?_
               | refine ⟨sideM, ?_⟩
               | fail)
          all_goals (try conv => whnf)
          all_goals first
            | (exfalso; omega)
            | rfl
theorem RolesOrder_n (bridge : Int) (ps : List InfoV) (A : Option Addr) (n c : Nat) (w : World) (hn : n = ps.length) (hs : SlAt w A 7 (ps.map InfoV.enc)) (hb : u64N bridge) (hok : ∀ p ∈ ps, okI8 p) : PuAt Try.prog 5 [.int .u64 bridge, .slice A n c] (.bool true) w := by
  subst hn; exact RolesOrder_w bridge ps A c w hs hb hok
end Go.Proofs.Ytgjdmlgdgbehoaa.Am
