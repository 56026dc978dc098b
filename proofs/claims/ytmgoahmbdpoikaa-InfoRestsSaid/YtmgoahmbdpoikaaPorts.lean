/- Ports as the document has them; what layer 8 asks of them. -/
import Derived.Test.YtmgoahmbdpoikaaPClone
import Derived.Test.YtmgoahmbdpoikaaInfo
set_option linter.unusedVariables false
set_option linter.unusedSimpArgs false
set_option maxRecDepth 100000
set_option maxHeartbeats 4000000
namespace Go.Proofs.Ytmgoahmbdpoikaa.Am
open Go Go.RowKit
theorem ok_of11 : (match Try.f41.body with | some c => codeOk Try.f41.ntmps c | none => false) = true := by kernel_rfl
theorem en_of11 : ∃ fn, Try.prog.funcs[41]? = some fn ∧ (fn.name == "runtime.NumGoroutine") = false ∧ fn.body.isNone = false := ⟨_, Try.func41, by kernel_rfl, by kernel_rfl⟩
theorem of11_w (ps : List PortV) (A : Option Addr) (c : Nat) (w : World) (hs : SlAt w A 61 (ps.map PortV.enc)) (hlen : ps.length ≤ 1000) :
    FnX Try.prog 41 [.slice A ps.length c] [] (fun s : Option Addr × Nat => IsRow (.slice s.1 ps.length s.2) ps.length) (fun s => .slice s.1 ps.length s.2) (fun s => [.arr (.slice s.1 ps.length s.2) 60 61 (ps.map PortV.enc)]) w := by
  refine funcR_x tyOk wide Try.func41 ok_of11 (Nat.le_of_ble_eq_true rfl) (St.start0 w) ?_
  repeat' first
    | (conv => whnf
       first
       | intro _
       | (first | refine selSplit (fun h => ?_) (fun h => ?_) | refine condSplit (fun h => ?_) (fun h => ?_)) <;> first | exact (clash (by assumption) h).elim | exact (clash h (by assumption)).elim | (simp only [decide_eq_true_eq, decide_eq_false_iff_not, Bool.not_eq_true', Bool.not_eq_false', Bool.not_true, Bool.not_false, Bool.or_eq_true, Bool.and_eq_true, Bool.or_eq_false_iff, Bool.and_eq_false_iff, beq_iff_eq, beq_eq_false_iff_ne, ne_eq] at h; first | (exfalso; omega) | skip) | skip
       | refine SeqP.go ?_
       | refine cdM ?_
       | exact IsV.mk
       | apply GuardP.mk
       | refine Or.inl ⟨_, _, hasM, ?_⟩
       | refine Or.inl ⟨_, _, _, holeM, rfl, rfl, ?_⟩
       | refine lA ?_
       | refine lA0 ?_
       | refine lA1 ?_
       | refine lO ?_
       | refine lO0 ?_
       | refine lO1 ?_
       | refine lR ?_
       | refine lG ?_
       | refine lG0 ?_
       | refine tA ?_
       | refine tA0 ?_
       | refine tA1 ?_
       | refine BytW.ofBlk hasM rfl rfl ?_
       | refine AppW.noneB hasM leM rfl rfl rfl leM leM ?_
       | refine AppW.rowB hasM leM rfl rfl holeM leM leM ?_
       | refine AppW.blkB hasM leM rfl rfl holeM rfl rfl leM leM ?_
       | refine AppW.rowS hasM leM rfl rfl holeM (by omega) leM ?_
       | refine AppW.arrS hasM leM rfl rfl rfl holeM (by first | omega | (simp; omega)) leM ?_
       | refine ⟨sideM, ?_⟩
       | fail)
  all_goals (try conv => whnf)
  refine .mk (Nat × Option Addr × Nat) (fun ⟨k, A1, c1⟩ S H => (k ≤ ps.length ∧ IsRow (.slice A1 k c1) k) ∧ S = [(4, .int .i64 k), (3, .slice A1 k c1), (0, .slice A ps.length c)] ∧ H = [.arr (.slice A1 k c1) 60 61 ((ps.take k).map PortV.enc)]) (fun s => ps.length - s.1) (0, none, 0) _ _ ⟨⟨by omega, .inl ⟨rfl, rfl⟩⟩, rfl, rfl⟩ subM nilArr ?_
  rintro ⟨k, A1, c1⟩ S1 H1 ⟨⟨hk, hr⟩, rfl, rfl⟩
  by_cases hk2 : k < ps.length
  · obtain ⟨b, o, e, _⟩ := hs.at_ (by simp; omega)
    subst e
    have o1 := hs.old (X := []) (by simp; omega) (by simp)
    obtain ⟨x, hx⟩ : ∃ x, ps[k] = x := ⟨_, rfl⟩
    have g1 : (ps.map PortV.enc)[k]? = some x.enc := by rw [← hx]; exact mapGet hk2
    have hlk : ((ps.take k).map PortV.enc).length = k := map_take_len (by omega)
    repeat' first
      | (conv => whnf
         first
         | intro _
         | (first | refine selSplit (fun h => ?_) (fun h => ?_) | refine condSplit (fun h => ?_) (fun h => ?_)) <;> first | exact (clash (by assumption) h).elim | exact (clash h (by assumption)).elim | (simp only [decide_eq_true_eq, decide_eq_false_iff_not, Bool.not_eq_true', Bool.not_eq_false', Bool.not_true, Bool.not_false, Bool.or_eq_true, Bool.and_eq_true, Bool.or_eq_false_iff, Bool.and_eq_false_iff, beq_iff_eq, beq_eq_false_iff_ne, ne_eq] at h; first | (exfalso; omega) | skip) | skip
         | refine SeqP.go ?_
         | refine cdM ?_
         | exact IsV.mk
         | apply GuardP.mk
         | ((first | apply callPure' en_Of | apply callQuiet' en_Of); · exact fun w _ => Of_w x w)
         | (refine AppW.arrK hasM (Nat.le_of_ble_eq_true rfl) rfl rfl rfl holeM hlk (by omega) (Nat.le_of_ble_eq_true rfl) ?_)
         | refine Or.inl ⟨_, _, hasM, ?_⟩
         | refine Or.inl ⟨_, _, _, holeM, rfl, rfl, ?_⟩
         | refine lA ?_
         | refine lA0 ?_
         | refine lA1 ?_
         | refine lO ?_
         | refine lO0 ?_
         | refine lO1 ?_
         | refine lR ?_
         | refine lG ?_
         | refine lG0 ?_
         | refine tA ?_
         | refine tA0 ?_
         | refine tA1 ?_
         | refine BytW.ofBlk hasM rfl rfl ?_
         | refine AppW.noneB hasM leM rfl rfl rfl leM leM ?_
         | refine AppW.rowB hasM leM rfl rfl holeM leM leM ?_
         | refine AppW.blkB hasM leM rfl rfl holeM rfl rfl leM leM ?_
         | refine AppW.rowS hasM leM rfl rfl holeM (by omega) leM ?_
         | refine AppW.arrS hasM leM rfl rfl rfl holeM (by first | omega | (simp; omega)) leM ?_
         | refine ⟨sideM, ?_⟩
         | fail)
    all_goals (try conv => whnf)
    all_goals first
      | (exfalso; omega)
      | exact .mk (k + 1, _, _) _ _ (by show _ - (k + 1) < _ - k; omega) ⟨⟨hk2, by assumption⟩, rfl, rfl⟩ subM (by rw [map_take_succ hk2, hx]; exact entM)
  · obtain rfl : k = ps.length := by omega
    repeat' first
      | (conv => whnf
         first
         | intro _
         | (first | refine selSplit (fun h => ?_) (fun h => ?_) | refine condSplit (fun h => ?_) (fun h => ?_)) <;> first | exact (clash (by assumption) h).elim | exact (clash h (by assumption)).elim | (simp only [decide_eq_true_eq, decide_eq_false_iff_not, Bool.not_eq_true', Bool.not_eq_false', Bool.not_true, Bool.not_false, Bool.or_eq_true, Bool.and_eq_true, Bool.or_eq_false_iff, Bool.and_eq_false_iff, beq_iff_eq, beq_eq_false_iff_ne, ne_eq] at h; first | (exfalso; omega) | skip) | skip
         | refine SeqP.go ?_
         | refine cdM ?_
         | exact IsV.mk
         | apply GuardP.mk
         | refine Or.inl ⟨_, _, hasM, ?_⟩
         | refine Or.inl ⟨_, _, _, holeM, rfl, rfl, ?_⟩
         | refine lA ?_
         | refine lA0 ?_
         | refine lA1 ?_
         | refine lO ?_
         | refine lO0 ?_
         | refine lO1 ?_
         | refine lR ?_
         | refine lG ?_
         | refine lG0 ?_
         | refine tA ?_
         | refine tA0 ?_
         | refine tA1 ?_
         | refine BytW.ofBlk hasM rfl rfl ?_
         | refine AppW.noneB hasM leM rfl rfl rfl leM leM ?_
         | refine AppW.rowB hasM leM rfl rfl holeM leM leM ?_
         | refine AppW.blkB hasM leM rfl rfl holeM rfl rfl leM leM ?_
         | refine AppW.rowS hasM leM rfl rfl holeM (by omega) leM ?_
         | refine AppW.arrS hasM leM rfl rfl rfl holeM (by first | omega | (simp; omega)) leM ?_
         | refine ⟨sideM, ?_⟩
         | fail)
    all_goals (try conv => whnf)
    all_goals first
      | (exfalso; omega)
      | exact EndX.mk (A1, c1) hr rfl (by rw [List.take_length]; exact Ent.refl)
theorem ok_Infos11 : (match Try.f40.body with | some c => codeOk Try.f40.ntmps c | none => false) = true := by kernel_rfl
theorem en_Infos11 : ∃ fn, Try.prog.funcs[40]? = some fn ∧ (fn.name == "runtime.NumGoroutine") = false ∧ fn.body.isNone = false := ⟨_, Try.func40, by kernel_rfl, by kernel_rfl⟩
theorem Infos11_w (ps : List PortV) (n : Nat) (hn : ps.length = n) (A : Option Addr) (c : Nat) (w : World) (hs : SlAt w A 61 (ps.map PortV.enc)) (hlen : n ≤ 1000) :
    FnX Try.prog 40 [.slice A n c] [] (fun s : Option Addr × Nat => IsRow (.slice s.1 n s.2) n) (fun s => .slice s.1 n s.2) (fun s => [.arr (.slice s.1 n s.2) 109 7 ((ps.map knownV).map InfoV.enc)]) w := by
  subst hn
  refine funcR_x tyOk wide Try.func40 ok_Infos11 (Nat.le_of_ble_eq_true rfl) (St.start0 w) ?_
  repeat' first
    | (conv => whnf
       first
       | intro _
       | (first | refine selSplit (fun h => ?_) (fun h => ?_) | refine condSplit (fun h => ?_) (fun h => ?_)) <;> first | exact (clash (by assumption) h).elim | exact (clash h (by assumption)).elim | (simp only [decide_eq_true_eq, decide_eq_false_iff_not, Bool.not_eq_true', Bool.not_eq_false', Bool.not_true, Bool.not_false, Bool.or_eq_true, Bool.and_eq_true, Bool.or_eq_false_iff, Bool.and_eq_false_iff, beq_iff_eq, beq_eq_false_iff_ne, ne_eq] at h; first | (exfalso; omega) | skip) | skip
       | (first | refine drM (.quiet 0 (.quiet 1 (.quiet 2 (.quiet 3 (.quiet 4 (.quiet 5 (.quiet 6 (.quiet 7 (.quiet 8 (.quiet 9 (.quiet 10 (.alloc 11 (.last 12 false .done))))))))))))) (SubL.refl _) ?_)
       | refine AltP.mk ?_ ?_
       | refine kpM ?_
       | refine SeqP.go ?_
       | refine cdM ?_
       | exact IsV.mk
       | apply GuardP.mk
       | refine Or.inl ⟨_, _, hasM, ?_⟩
       | refine Or.inl ⟨_, _, _, holeM, rfl, rfl, ?_⟩
       | refine lA ?_
       | refine lA0 ?_
       | refine lA1 ?_
       | refine lO ?_
       | refine lO0 ?_
       | refine lO1 ?_
       | refine lR ?_
       | refine lG ?_
       | refine lG0 ?_
       | refine tA ?_
       | refine tA0 ?_
       | refine tA1 ?_
       | refine BytW.ofBlk hasM rfl rfl ?_
       | refine AppW.noneB hasM leM rfl rfl rfl leM leM ?_
       | refine AppW.rowB hasM leM rfl rfl holeM leM leM ?_
       | refine AppW.blkB hasM leM rfl rfl holeM rfl rfl leM leM ?_
       | refine AppW.rowS hasM leM rfl rfl holeM (by omega) leM ?_
       | refine AppW.arrS hasM leM rfl rfl rfl holeM (by first | omega | (simp; omega)) leM ?_
       | refine ⟨sideM, ?_⟩
       | fail)
  all_goals (try conv => whnf)
  refine .mk (Nat × Option Addr × Nat) (fun ⟨k, A1, c1⟩ S H => (k ≤ ps.length ∧ IsRow (.slice A1 k c1) k) ∧ S = [(4, .int .i64 k), (3, .slice A1 k c1), (0, .slice A ps.length c)] ∧ H = [.arr (.slice A1 k c1) 109 7 (((ps.take k).map knownV).map InfoV.enc)]) (fun s => ps.length - s.1) (0, none, 0) _ _ ⟨⟨by omega, .inl ⟨rfl, rfl⟩⟩, rfl, rfl⟩ subM nilArr ?_
  rintro ⟨k, A1, c1⟩ S1 H1 ⟨⟨hk, hr⟩, rfl, rfl⟩
  by_cases hk2 : k < ps.length
  · obtain ⟨b, o, e, _⟩ := hs.at_ (by simp; omega)
    subst e
    have o1 := hs.old (X := []) (by simp; omega) (by simp)
    obtain ⟨x, hx⟩ : ∃ x, ps[k] = x := ⟨_, rfl⟩
    have g1 : (ps.map PortV.enc)[k]? = some x.enc := by rw [← hx]; exact mapGet hk2
    have hlk : (((ps.take k).map knownV).map InfoV.enc).length = k := by rw [List.length_map, map_take_len (by omega)]
    have hs1 : ((ps.take (k + 1)).map knownV).map InfoV.enc = ((ps.take k).map knownV).map InfoV.enc ++ [(knownV x).enc] := by rw [map_take_succ hk2, hx, List.map_append]; rfl
    repeat' first
      | (conv => whnf
         first
         | intro _
         | (first | refine selSplit (fun h => ?_) (fun h => ?_) | refine condSplit (fun h => ?_) (fun h => ?_)) <;> first | exact (clash (by assumption) h).elim | exact (clash h (by assumption)).elim | (simp only [decide_eq_true_eq, decide_eq_false_iff_not, Bool.not_eq_true', Bool.not_eq_false', Bool.not_true, Bool.not_false, Bool.or_eq_true, Bool.and_eq_true, Bool.or_eq_false_iff, Bool.and_eq_false_iff, beq_iff_eq, beq_eq_false_iff_ne, ne_eq] at h; first | (exfalso; omega) | skip) | skip
         | (first | refine drM (.quiet 0 (.quiet 1 (.quiet 2 (.quiet 3 (.quiet 4 (.quiet 5 (.quiet 6 (.quiet 7 (.quiet 8 (.quiet 9 (.quiet 10 (.alloc 11 (.last 12 false .done))))))))))))) (SubL.refl _) ?_)
         | refine AltP.mk ?_ ?_
         | refine kpM ?_
         | refine SeqP.go ?_
         | refine cdM ?_
         | exact IsV.mk
         | apply GuardP.mk
         | (refine AppW.arrK hasM (Nat.le_of_ble_eq_true rfl) rfl rfl rfl holeM hlk (by omega) (Nat.le_of_ble_eq_true rfl) ?_)
         | refine Or.inl ⟨_, _, hasM, ?_⟩
         | refine Or.inl ⟨_, _, _, holeM, rfl, rfl, ?_⟩
         | refine lA ?_
         | refine lA0 ?_
         | refine lA1 ?_
         | refine lO ?_
         | refine lO0 ?_
         | refine lO1 ?_
         | refine lR ?_
         | refine lG ?_
         | refine lG0 ?_
         | refine tA ?_
         | refine tA0 ?_
         | refine tA1 ?_
         | refine BytW.ofBlk hasM rfl rfl ?_
         | refine AppW.noneB hasM leM rfl rfl rfl leM leM ?_
         | refine AppW.rowB hasM leM rfl rfl holeM leM leM ?_
         | refine AppW.blkB hasM leM rfl rfl holeM rfl rfl leM leM ?_
         | refine AppW.rowS hasM leM rfl rfl holeM (by omega) leM ?_
         | refine AppW.arrS hasM leM rfl rfl rfl holeM (by first | omega | (simp; omega)) leM ?_
         | refine ⟨sideM, ?_⟩
         | fail)
    all_goals (try conv => whnf)
    · have hkx : (knownV x).enc = _ := congrArg InfoV.enc (show knownV x = _ from by unfold knownV; rw [if_pos (by assumption), if_pos (by assumption)])
      rw [hkx] at hs1
      exact .mk (k + 1, _, _) _ _ (by show _ - (k + 1) < _ - k; omega) ⟨⟨hk2, by assumption⟩, rfl, rfl⟩ subM (by rw [hs1]; exact entM)
    · have hkx : (knownV x).enc = _ := congrArg InfoV.enc (show knownV x = _ from by unfold knownV; rw [if_pos (by assumption), if_neg (by assumption)])
      rw [hkx] at hs1
      exact .mk (k + 1, _, _) _ _ (by show _ - (k + 1) < _ - k; omega) ⟨⟨hk2, by assumption⟩, rfl, rfl⟩ subM (by rw [hs1]; exact entM)
    · have hkx : (knownV x).enc = _ := congrArg InfoV.enc (show knownV x = _ from by unfold knownV; rw [if_neg (by rw [h]; decide)])
      rw [hkx] at hs1
      exact .mk (k + 1, _, _) _ _ (by show _ - (k + 1) < _ - k; omega) ⟨⟨hk2, by assumption⟩, rfl, rfl⟩ subM (by rw [hs1]; exact entM)
  · obtain rfl : k = ps.length := by omega
    repeat' first
      | (conv => whnf
         first
         | intro _
         | (first | refine selSplit (fun h => ?_) (fun h => ?_) | refine condSplit (fun h => ?_) (fun h => ?_)) <;> first | exact (clash (by assumption) h).elim | exact (clash h (by assumption)).elim | (simp only [decide_eq_true_eq, decide_eq_false_iff_not, Bool.not_eq_true', Bool.not_eq_false', Bool.not_true, Bool.not_false, Bool.or_eq_true, Bool.and_eq_true, Bool.or_eq_false_iff, Bool.and_eq_false_iff, beq_iff_eq, beq_eq_false_iff_ne, ne_eq] at h; first | (exfalso; omega) | skip) | skip
         | (first | refine drM (.quiet 0 (.quiet 1 (.quiet 2 (.quiet 3 (.quiet 4 (.quiet 5 (.quiet 6 (.quiet 7 (.quiet 8 (.quiet 9 (.quiet 10 (.alloc 11 (.last 12 false .done))))))))))))) (SubL.refl _) ?_)
         | refine AltP.mk ?_ ?_
         | refine kpM ?_
         | refine SeqP.go ?_
         | refine cdM ?_
         | exact IsV.mk
         | apply GuardP.mk
         | refine Or.inl ⟨_, _, hasM, ?_⟩
         | refine Or.inl ⟨_, _, _, holeM, rfl, rfl, ?_⟩
         | refine lA ?_
         | refine lA0 ?_
         | refine lA1 ?_
         | refine lO ?_
         | refine lO0 ?_
         | refine lO1 ?_
         | refine lR ?_
         | refine lG ?_
         | refine lG0 ?_
         | refine tA ?_
         | refine tA0 ?_
         | refine tA1 ?_
         | refine BytW.ofBlk hasM rfl rfl ?_
         | refine AppW.noneB hasM leM rfl rfl rfl leM leM ?_
         | refine AppW.rowB hasM leM rfl rfl holeM leM leM ?_
         | refine AppW.blkB hasM leM rfl rfl holeM rfl rfl leM leM ?_
         | refine AppW.rowS hasM leM rfl rfl holeM (by omega) leM ?_
         | refine AppW.arrS hasM leM rfl rfl rfl holeM (by first | omega | (simp; omega)) leM ?_
         | refine ⟨sideM, ?_⟩
         | fail)
    all_goals (try conv => whnf)
    all_goals first
      | (exfalso; omega)
      | exact EndX.mk (A1, c1) hr rfl (by rw [List.take_length]; exact Ent.refl)
end Go.Proofs.Ytmgoahmbdpoikaa.Am
