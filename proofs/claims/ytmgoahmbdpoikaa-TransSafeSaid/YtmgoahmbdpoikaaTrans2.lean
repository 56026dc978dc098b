/- Package trans: what its closures ask of all ports, and do to them (this text is printed by gen_trans2.py). -/
import Derived.Test.YtmgoahmbdpoikaaTrans
set_option linter.unusedVariables false
set_option linter.unusedSimpArgs false
set_option maxRecDepth 100000
set_option maxHeartbeats 4000000
namespace Go.Proofs.Ytmgoahmbdpoikaa.Am
open Go Go.RowKit
def othersB (f : PortV → Bool) (at_ : Nat) : List PortV → Nat → Bool
  | [], _ => true
  | q :: r, k => (decide (k = at_) || f q) && othersB f at_ r (k + 1)
theorem othersB_drop {f : PortV → Bool} {at_ : Nat} {ps : List PortV} {k : Nat} {x : PortV} (h : ps[k]? = some x) : othersB f at_ (ps.drop k) k = ((decide (k = at_) || f x) && othersB f at_ (ps.drop (k + 1)) (k + 1)) := by
  obtain ⟨hk, he⟩ := List.getElem?_eq_some_iff.1 h
  rw [List.drop_eq_getElem_cons hk, he]; rfl
def syB (q : PortV) : Bool := q.Ready && decide (q.Role = q.Selected) && (decide (q.Role = 1) || q.Synced)
def reB (q : PortV) : Bool := decide (q.Rr = 0) || decide (q.Role = 1)
theorem ok_tOthers : (match Try.f147.body with | some c => codeOk Try.f147.ntmps c | none => false) = true := by kernel_rfl
theorem en_tOthers : ∃ fn, Try.prog.funcs[147]? = some fn ∧ (fn.name == "runtime.NumGoroutine") = false ∧ fn.body.isNone = false := ⟨_, Try.func147, by kernel_rfl, by kernel_rfl⟩
theorem ok_synced1 : (match Try.f149.body with | some c => codeOk Try.f149.ntmps c | none => false) = true := by kernel_rfl
theorem en_synced1 : ∃ fn, Try.prog.funcs[149]? = some fn ∧ (fn.name == "runtime.NumGoroutine") = false ∧ fn.body.isNone = false := ⟨_, Try.func149, by kernel_rfl, by kernel_rfl⟩
theorem synced1_w (q : PortV) (w : World) : PuAt Try.prog 149 [.agg ⟨q.enc⟩] (.bool (syB q)) w := by
  refine funcR_pure tyOk wide Try.func149 ok_synced1 (Nat.le_of_ble_eq_true rfl) ?_
  repeat' first
    | (conv => whnf
       first
       | intro _
       | (first | refine selSplit (fun h => ?_) (fun h => ?_) | refine condSplit (fun h => ?_) (fun h => ?_)) <;> first | exact (clash (by assumption) h).elim | exact (clash h (by assumption)).elim | (simp only [decide_eq_true_eq, decide_eq_false_iff_not, Bool.not_eq_true', Bool.not_eq_false', Bool.not_true, Bool.not_false, Bool.or_eq_true, Bool.and_eq_true, Bool.or_eq_false_iff, Bool.and_eq_false_iff, beq_iff_eq, beq_eq_false_iff_ne, ne_eq] at h; first | (exfalso; omega) | skip) | skip
       | refine SeqP.go ?_
       | refine cdM ?_
       | exact IsV.mk
       | apply GuardP.mk
       | refine Or.inl ⟨_, _, hasM, ?_⟩
       | refine Or.inl ⟨_, _, _, holeM, rfl, rfl, ?_⟩
       | refine lA ?_
       | refine lA0 ?_
       | refine lA1 ?_
       | refine lO ?_
       | refine lO0 ?_
       | refine lO1 ?_
       | refine lG ?_
       | refine lG0 ?_
       | refine tA ?_
       | refine tA0 ?_
       | refine tA1 ?_
       | refine BytW.ofBlk hasM rfl rfl ?_
       | refine AppW.noneB hasM leM rfl rfl rfl leM leM ?_
       | refine AppW.rowB hasM leM rfl rfl holeM leM leM ?_
       | refine AppW.blkB hasM leM rfl rfl holeM rfl rfl leM leM ?_
       | refine AppW.rowS hasM leM rfl rfl holeM (by omega) leM ?_
       | refine AppW.arrS hasM leM rfl rfl rfl holeM (by first | omega | (simp; omega)) leM ?_
       | refine ⟨sideM, ?_⟩
       | fail)
  all_goals (try conv => whnf)
  all_goals (refine v_bool ?_; unfold syB; first | rfl | grind)
theorem others_synced1 (t : TimesV) (ps : List PortV) (g n c j bv : Nat) (hn : ps.length = n) (w : World) (hl : n ≤ 1000) (hv : w.rangeAt bv 0 (moverE t g n c j)) (hs : SlAt w (some ⟨g, 0, none⟩) 61 (ps.map PortV.enc)) :
    PuAt Try.prog 147 [.pointer (some ⟨bv, 0, none⟩), .func (.func 149) #[] #[]] (.bool (othersB syB j ps 0)) w := by
  subst hn
  refine funcR_pure tyOk wide Try.func147 ok_tOthers (Nat.le_of_ble_eq_true rfl) ?_
  have r4 := rg_old (X := []) hv (by simp)
  repeat' first
    | (conv => whnf
       first
       | intro _
       | (first | refine selSplit (fun h => ?_) (fun h => ?_) | refine condSplit (fun h => ?_) (fun h => ?_)) <;> first | exact (clash (by assumption) h).elim | exact (clash h (by assumption)).elim | (simp only [decide_eq_true_eq, decide_eq_false_iff_not, Bool.not_eq_true', Bool.not_eq_false', Bool.not_true, Bool.not_false, Bool.or_eq_true, Bool.and_eq_true, Bool.or_eq_false_iff, Bool.and_eq_false_iff, beq_iff_eq, beq_eq_false_iff_ne, ne_eq] at h; first | (exfalso; omega) | skip) | skip
       | refine SeqP.go ?_
       | refine cdM ?_
       | exact IsV.mk
       | apply GuardP.mk
       | refine Or.inl ⟨_, _, hasM, ?_⟩
       | refine Or.inl ⟨_, _, _, holeM, rfl, rfl, ?_⟩
       | refine lA ?_
       | refine lA0 ?_
       | refine lA1 ?_
       | refine lO ?_
       | refine lO0 ?_
       | refine lO1 ?_
       | refine lG ?_
       | refine lG0 ?_
       | refine tA ?_
       | refine tA0 ?_
       | refine tA1 ?_
       | refine BytW.ofBlk hasM rfl rfl ?_
       | refine AppW.noneB hasM leM rfl rfl rfl leM leM ?_
       | refine AppW.rowB hasM leM rfl rfl holeM leM leM ?_
       | refine AppW.blkB hasM leM rfl rfl holeM rfl rfl leM leM ?_
       | refine AppW.rowS hasM leM rfl rfl holeM (by omega) leM ?_
       | refine AppW.arrS hasM leM rfl rfl rfl holeM (by first | omega | (simp; omega)) leM ?_
       | refine ⟨sideM, ?_⟩
       | fail)
  all_goals (try conv => whnf)
  refine .mk Nat (fun k S H => (k ≤ ps.length ∧ othersB syB j ps 0 = othersB syB j (ps.drop k) k) ∧ S = [(12, .int .i64 k), (11, .int .i64 ps.length), (10, .slice (some ⟨g, 0, none⟩) ps.length c), (0, .pointer (some ⟨bv, 0, none⟩)), (1, .func (.func 149) #[] #[])] ∧ H = []) (fun k => ps.length - k) 0 _ _ ⟨⟨by omega, rfl⟩, rfl, rfl⟩ subM entM ?_
  rintro k S1 H1 ⟨⟨hk, he⟩, rfl, rfl⟩
  by_cases hk2 : k < ps.length
  · have o1 := hs.old (X := []) (by simp; omega) (by simp)
    obtain ⟨x, hx⟩ : ∃ x, ps[k]? = some x := ⟨ps[k], List.getElem?_eq_getElem hk2⟩
    have y1 : (ps.map PortV.enc)[k]? = some x.enc := by rw [List.getElem?_map, hx]; rfl
    rw [othersB_drop hx] at he
    have e : decide (k = j) = decide ((k : Int) = j) := by rw [decide_eq_decide]; omega
    repeat' first
      | (conv => whnf
         first
         | intro _
         | (first | refine selSplit (fun h => ?_) (fun h => ?_) | refine condSplit (fun h => ?_) (fun h => ?_)) <;> first | exact (clash (by assumption) h).elim | exact (clash h (by assumption)).elim | (simp only [decide_eq_true_eq, decide_eq_false_iff_not, Bool.not_eq_true', Bool.not_eq_false', Bool.not_true, Bool.not_false, Bool.or_eq_true, Bool.and_eq_true, Bool.or_eq_false_iff, Bool.and_eq_false_iff, beq_iff_eq, beq_eq_false_iff_ne, ne_eq] at h; first | (exfalso; omega) | skip) | skip
         | refine SeqP.go ?_
         | refine cdM ?_
         | exact IsV.mk
         | apply GuardP.mk
         | ((first | apply callPure' en_synced1 | apply callQuiet' en_synced1); · exact fun w _ => synced1_w x w)
         | refine Or.inl ⟨_, _, hasM, ?_⟩
         | refine Or.inl ⟨_, _, _, holeM, rfl, rfl, ?_⟩
         | refine lA ?_
         | refine lA0 ?_
         | refine lA1 ?_
         | refine lO ?_
         | refine lO0 ?_
         | refine lO1 ?_
         | refine lG ?_
         | refine lG0 ?_
         | refine tA ?_
         | refine tA0 ?_
         | refine tA1 ?_
         | refine BytW.ofBlk hasM rfl rfl ?_
         | refine AppW.noneB hasM leM rfl rfl rfl leM leM ?_
         | refine AppW.rowB hasM leM rfl rfl holeM leM leM ?_
         | refine AppW.blkB hasM leM rfl rfl holeM rfl rfl leM leM ?_
         | refine AppW.rowS hasM leM rfl rfl holeM (by omega) leM ?_
         | refine AppW.arrS hasM leM rfl rfl rfl holeM (by first | omega | (simp; omega)) leM ?_
         | refine ⟨sideM, ?_⟩
         | fail)
    all_goals (try conv => whnf)
    · refine v_bool ?_; rw [he, e, decide_eq_false h.1, h.2]; rfl
    · refine .mk (k + 1) _ _ (by omega) ⟨⟨hk2, ?_⟩, rfl, rfl⟩ subM entM
      rw [he, e]
      rcases h with h | h
      · rw [decide_eq_true h]; rfl
      · rw [h, Bool.or_true]; rfl
  · rw [List.drop_of_length_le (by omega)] at he
    repeat' first
      | (conv => whnf
         first
         | intro _
         | (first | refine selSplit (fun h => ?_) (fun h => ?_) | refine condSplit (fun h => ?_) (fun h => ?_)) <;> first | exact (clash (by assumption) h).elim | exact (clash h (by assumption)).elim | (simp only [decide_eq_true_eq, decide_eq_false_iff_not, Bool.not_eq_true', Bool.not_eq_false', Bool.not_true, Bool.not_false, Bool.or_eq_true, Bool.and_eq_true, Bool.or_eq_false_iff, Bool.and_eq_false_iff, beq_iff_eq, beq_eq_false_iff_ne, ne_eq] at h; first | (exfalso; omega) | skip) | skip
         | refine SeqP.go ?_
         | refine cdM ?_
         | exact IsV.mk
         | apply GuardP.mk
         | refine Or.inl ⟨_, _, hasM, ?_⟩
         | refine Or.inl ⟨_, _, _, holeM, rfl, rfl, ?_⟩
         | refine lA ?_
         | refine lA0 ?_
         | refine lA1 ?_
         | refine lO ?_
         | refine lO0 ?_
         | refine lO1 ?_
         | refine lG ?_
         | refine lG0 ?_
         | refine tA ?_
         | refine tA0 ?_
         | refine tA1 ?_
         | refine BytW.ofBlk hasM rfl rfl ?_
         | refine AppW.noneB hasM leM rfl rfl rfl leM leM ?_
         | refine AppW.rowB hasM leM rfl rfl holeM leM leM ?_
         | refine AppW.blkB hasM leM rfl rfl holeM rfl rfl leM leM ?_
         | refine AppW.rowS hasM leM rfl rfl holeM (by omega) leM ?_
         | refine AppW.arrS hasM leM rfl rfl rfl holeM (by first | omega | (simp; omega)) leM ?_
         | refine ⟨sideM, ?_⟩
         | fail)
    all_goals (try conv => whnf)
    all_goals first
      | (exfalso; omega)
      | (refine v_bool ?_; rw [he]; rfl)
theorem ok_rerooted1 : (match Try.f148.body with | some c => codeOk Try.f148.ntmps c | none => false) = true := by kernel_rfl
theorem en_rerooted1 : ∃ fn, Try.prog.funcs[148]? = some fn ∧ (fn.name == "runtime.NumGoroutine") = false ∧ fn.body.isNone = false := ⟨_, Try.func148, by kernel_rfl, by kernel_rfl⟩
theorem rerooted1_w (q : PortV) (w : World) : PuAt Try.prog 148 [.agg ⟨q.enc⟩] (.bool (reB q)) w := by
  refine funcR_pure tyOk wide Try.func148 ok_rerooted1 (Nat.le_of_ble_eq_true rfl) ?_
  repeat' first
    | (conv => whnf
       first
       | intro _
       | (first | refine selSplit (fun h => ?_) (fun h => ?_) | refine condSplit (fun h => ?_) (fun h => ?_)) <;> first | exact (clash (by assumption) h).elim | exact (clash h (by assumption)).elim | (simp only [decide_eq_true_eq, decide_eq_false_iff_not, Bool.not_eq_true', Bool.not_eq_false', Bool.not_true, Bool.not_false, Bool.or_eq_true, Bool.and_eq_true, Bool.or_eq_false_iff, Bool.and_eq_false_iff, beq_iff_eq, beq_eq_false_iff_ne, ne_eq] at h; first | (exfalso; omega) | skip) | skip
       | refine SeqP.go ?_
       | refine cdM ?_
       | exact IsV.mk
       | apply GuardP.mk
       | refine Or.inl ⟨_, _, hasM, ?_⟩
       | refine Or.inl ⟨_, _, _, holeM, rfl, rfl, ?_⟩
       | refine lA ?_
       | refine lA0 ?_
       | refine lA1 ?_
       | refine lO ?_
       | refine lO0 ?_
       | refine lO1 ?_
       | refine lG ?_
       | refine lG0 ?_
       | refine tA ?_
       | refine tA0 ?_
       | refine tA1 ?_
       | refine BytW.ofBlk hasM rfl rfl ?_
       | refine AppW.noneB hasM leM rfl rfl rfl leM leM ?_
       | refine AppW.rowB hasM leM rfl rfl holeM leM leM ?_
       | refine AppW.blkB hasM leM rfl rfl holeM rfl rfl leM leM ?_
       | refine AppW.rowS hasM leM rfl rfl holeM (by omega) leM ?_
       | refine AppW.arrS hasM leM rfl rfl rfl holeM (by first | omega | (simp; omega)) leM ?_
       | refine ⟨sideM, ?_⟩
       | fail)
  all_goals (try conv => whnf)
  all_goals (refine v_bool ?_; unfold reB; first | rfl | grind)
theorem others_rerooted1 (t : TimesV) (ps : List PortV) (g n c j bv : Nat) (hn : ps.length = n) (w : World) (hl : n ≤ 1000) (hv : w.rangeAt bv 0 (moverE t g n c j)) (hs : SlAt w (some ⟨g, 0, none⟩) 61 (ps.map PortV.enc)) :
    PuAt Try.prog 147 [.pointer (some ⟨bv, 0, none⟩), .func (.func 148) #[] #[]] (.bool (othersB reB j ps 0)) w := by
  subst hn
  refine funcR_pure tyOk wide Try.func147 ok_tOthers (Nat.le_of_ble_eq_true rfl) ?_
  have r4 := rg_old (X := []) hv (by simp)
  repeat' first
    | (conv => whnf
       first
       | intro _
       | (first | refine selSplit (fun h => ?_) (fun h => ?_) | refine condSplit (fun h => ?_) (fun h => ?_)) <;> first | exact (clash (by assumption) h).elim | exact (clash h (by assumption)).elim | (simp only [decide_eq_true_eq, decide_eq_false_iff_not, Bool.not_eq_true', Bool.not_eq_false', Bool.not_true, Bool.not_false, Bool.or_eq_true, Bool.and_eq_true, Bool.or_eq_false_iff, Bool.and_eq_false_iff, beq_iff_eq, beq_eq_false_iff_ne, ne_eq] at h; first | (exfalso; omega) | skip) | skip
       | refine SeqP.go ?_
       | refine cdM ?_
       | exact IsV.mk
       | apply GuardP.mk
       | refine Or.inl ⟨_, _, hasM, ?_⟩
       | refine Or.inl ⟨_, _, _, holeM, rfl, rfl, ?_⟩
       | refine lA ?_
       | refine lA0 ?_
       | refine lA1 ?_
       | refine lO ?_
       | refine lO0 ?_
       | refine lO1 ?_
       | refine lG ?_
       | refine lG0 ?_
       | refine tA ?_
       | refine tA0 ?_
       | refine tA1 ?_
       | refine BytW.ofBlk hasM rfl rfl ?_
       | refine AppW.noneB hasM leM rfl rfl rfl leM leM ?_
       | refine AppW.rowB hasM leM rfl rfl holeM leM leM ?_
       | refine AppW.blkB hasM leM rfl rfl holeM rfl rfl leM leM ?_
       | refine AppW.rowS hasM leM rfl rfl holeM (by omega) leM ?_
       | refine AppW.arrS hasM leM rfl rfl rfl holeM (by first | omega | (simp; omega)) leM ?_
       | refine ⟨sideM, ?_⟩
       | fail)
  all_goals (try conv => whnf)
  refine .mk Nat (fun k S H => (k ≤ ps.length ∧ othersB reB j ps 0 = othersB reB j (ps.drop k) k) ∧ S = [(12, .int .i64 k), (11, .int .i64 ps.length), (10, .slice (some ⟨g, 0, none⟩) ps.length c), (0, .pointer (some ⟨bv, 0, none⟩)), (1, .func (.func 148) #[] #[])] ∧ H = []) (fun k => ps.length - k) 0 _ _ ⟨⟨by omega, rfl⟩, rfl, rfl⟩ subM entM ?_
  rintro k S1 H1 ⟨⟨hk, he⟩, rfl, rfl⟩
  by_cases hk2 : k < ps.length
  · have o1 := hs.old (X := []) (by simp; omega) (by simp)
    obtain ⟨x, hx⟩ : ∃ x, ps[k]? = some x := ⟨ps[k], List.getElem?_eq_getElem hk2⟩
    have y1 : (ps.map PortV.enc)[k]? = some x.enc := by rw [List.getElem?_map, hx]; rfl
    rw [othersB_drop hx] at he
    have e : decide (k = j) = decide ((k : Int) = j) := by rw [decide_eq_decide]; omega
    repeat' first
      | (conv => whnf
         first
         | intro _
         | (first | refine selSplit (fun h => ?_) (fun h => ?_) | refine condSplit (fun h => ?_) (fun h => ?_)) <;> first | exact (clash (by assumption) h).elim | exact (clash h (by assumption)).elim | (simp only [decide_eq_true_eq, decide_eq_false_iff_not, Bool.not_eq_true', Bool.not_eq_false', Bool.not_true, Bool.not_false, Bool.or_eq_true, Bool.and_eq_true, Bool.or_eq_false_iff, Bool.and_eq_false_iff, beq_iff_eq, beq_eq_false_iff_ne, ne_eq] at h; first | (exfalso; omega) | skip) | skip
         | refine SeqP.go ?_
         | refine cdM ?_
         | exact IsV.mk
         | apply GuardP.mk
         | ((first | apply callPure' en_rerooted1 | apply callQuiet' en_rerooted1); · exact fun w _ => rerooted1_w x w)
         | refine Or.inl ⟨_, _, hasM, ?_⟩
         | refine Or.inl ⟨_, _, _, holeM, rfl, rfl, ?_⟩
         | refine lA ?_
         | refine lA0 ?_
         | refine lA1 ?_
         | refine lO ?_
         | refine lO0 ?_
         | refine lO1 ?_
         | refine lG ?_
         | refine lG0 ?_
         | refine tA ?_
         | refine tA0 ?_
         | refine tA1 ?_
         | refine BytW.ofBlk hasM rfl rfl ?_
         | refine AppW.noneB hasM leM rfl rfl rfl leM leM ?_
         | refine AppW.rowB hasM leM rfl rfl holeM leM leM ?_
         | refine AppW.blkB hasM leM rfl rfl holeM rfl rfl leM leM ?_
         | refine AppW.rowS hasM leM rfl rfl holeM (by omega) leM ?_
         | refine AppW.arrS hasM leM rfl rfl rfl holeM (by first | omega | (simp; omega)) leM ?_
         | refine ⟨sideM, ?_⟩
         | fail)
    all_goals (try conv => whnf)
    · refine v_bool ?_; rw [he, e, decide_eq_false h.1, h.2]; rfl
    · refine .mk (k + 1) _ _ (by omega) ⟨⟨hk2, ?_⟩, rfl, rfl⟩ subM entM
      rw [he, e]
      rcases h with h | h
      · rw [decide_eq_true h]; rfl
      · rw [h, Bool.or_true]; rfl
  · rw [List.drop_of_length_le (by omega)] at he
    repeat' first
      | (conv => whnf
         first
         | intro _
         | (first | refine selSplit (fun h => ?_) (fun h => ?_) | refine condSplit (fun h => ?_) (fun h => ?_)) <;> first | exact (clash (by assumption) h).elim | exact (clash h (by assumption)).elim | (simp only [decide_eq_true_eq, decide_eq_false_iff_not, Bool.not_eq_true', Bool.not_eq_false', Bool.not_true, Bool.not_false, Bool.or_eq_true, Bool.and_eq_true, Bool.or_eq_false_iff, Bool.and_eq_false_iff, beq_iff_eq, beq_eq_false_iff_ne, ne_eq] at h; first | (exfalso; omega) | skip) | skip
         | refine SeqP.go ?_
         | refine cdM ?_
         | exact IsV.mk
         | apply GuardP.mk
         | refine Or.inl ⟨_, _, hasM, ?_⟩
         | refine Or.inl ⟨_, _, _, holeM, rfl, rfl, ?_⟩
         | refine lA ?_
         | refine lA0 ?_
         | refine lA1 ?_
         | refine lO ?_
         | refine lO0 ?_
         | refine lO1 ?_
         | refine lG ?_
         | refine lG0 ?_
         | refine tA ?_
         | refine tA0 ?_
         | refine tA1 ?_
         | refine BytW.ofBlk hasM rfl rfl ?_
         | refine AppW.noneB hasM leM rfl rfl rfl leM leM ?_
         | refine AppW.rowB hasM leM rfl rfl holeM leM leM ?_
         | refine AppW.blkB hasM leM rfl rfl holeM rfl rfl leM leM ?_
         | refine AppW.rowS hasM leM rfl rfl holeM (by omega) leM ?_
         | refine AppW.arrS hasM leM rfl rfl rfl holeM (by first | omega | (simp; omega)) leM ?_
         | refine ⟨sideM, ?_⟩
         | fail)
    all_goals (try conv => whnf)
    all_goals first
      | (exfalso; omega)
      | (refine v_bool ?_; rw [he]; rfl)
def syncedB (ps : List PortV) (j : Nat) : Bool := othersB syB j ps 0
theorem ok_tsynced : (match Try.f140.body with | some c => codeOk Try.f140.ntmps c | none => false) = true := by kernel_rfl
theorem en_tsynced : ∃ fn, Try.prog.funcs[140]? = some fn ∧ (fn.name == "runtime.NumGoroutine") = false ∧ fn.body.isNone = false := ⟨_, Try.func140, by kernel_rfl, by kernel_rfl⟩
theorem tsynced_w (t : TimesV) (ps : List PortV) (g n c j bv : Nat) (hn : ps.length = n) (w : World) (hl : n ≤ 1000) (hv : w.rangeAt bv 0 (moverE t g n c j)) (hs : SlAt w (some ⟨g, 0, none⟩) 61 (ps.map PortV.enc)) :
    PuAt Try.prog 140 [.pointer (some ⟨bv, 0, none⟩)] (.bool (syncedB ps j)) w := by
  refine funcR_pure tyOk wide Try.func140 ok_tsynced (Nat.le_of_ble_eq_true rfl) ?_
  have r4 := rg_old (X := []) hv (by simp)
  repeat' first
    | (conv => whnf
       first
       | intro _
       | (first | refine selSplit (fun h => ?_) (fun h => ?_) | refine condSplit (fun h => ?_) (fun h => ?_)) <;> first | exact (clash (by assumption) h).elim | exact (clash h (by assumption)).elim | (simp only [decide_eq_true_eq, decide_eq_false_iff_not, Bool.not_eq_true', Bool.not_eq_false', Bool.not_true, Bool.not_false, Bool.or_eq_true, Bool.and_eq_true, Bool.or_eq_false_iff, Bool.and_eq_false_iff, beq_iff_eq, beq_eq_false_iff_ne, ne_eq] at h; first | (exfalso; omega) | skip) | skip
       | refine SeqP.go ?_
       | refine cdM ?_
       | exact IsV.mk
       | apply GuardP.mk
       | ((first | apply callPure' en_tOthers | apply callQuiet' en_tOthers); · exact fun w hw => others_synced1 t ps g n c j bv hn w hl (r4 _ w hw) (hs.later hw))
       | refine Or.inl ⟨_, _, hasM, ?_⟩
       | refine Or.inl ⟨_, _, _, holeM, rfl, rfl, ?_⟩
       | refine lA ?_
       | refine lA0 ?_
       | refine lA1 ?_
       | refine lO ?_
       | refine lO0 ?_
       | refine lO1 ?_
       | refine lG ?_
       | refine lG0 ?_
       | refine tA ?_
       | refine tA0 ?_
       | refine tA1 ?_
       | refine BytW.ofBlk hasM rfl rfl ?_
       | refine AppW.noneB hasM leM rfl rfl rfl leM leM ?_
       | refine AppW.rowB hasM leM rfl rfl holeM leM leM ?_
       | refine AppW.blkB hasM leM rfl rfl holeM rfl rfl leM leM ?_
       | refine AppW.rowS hasM leM rfl rfl holeM (by omega) leM ?_
       | refine AppW.arrS hasM leM rfl rfl rfl holeM (by first | omega | (simp; omega)) leM ?_
       | refine ⟨sideM, ?_⟩
       | fail)
  all_goals (try conv => whnf)
  all_goals rfl
def rerootedB (ps : List PortV) (j : Nat) : Bool := othersB reB j ps 0
theorem ok_trerooted : (match Try.f118.body with | some c => codeOk Try.f118.ntmps c | none => false) = true := by kernel_rfl
theorem en_trerooted : ∃ fn, Try.prog.funcs[118]? = some fn ∧ (fn.name == "runtime.NumGoroutine") = false ∧ fn.body.isNone = false := ⟨_, Try.func118, by kernel_rfl, by kernel_rfl⟩
theorem trerooted_w (t : TimesV) (ps : List PortV) (g n c j bv : Nat) (hn : ps.length = n) (w : World) (hl : n ≤ 1000) (hv : w.rangeAt bv 0 (moverE t g n c j)) (hs : SlAt w (some ⟨g, 0, none⟩) 61 (ps.map PortV.enc)) :
    PuAt Try.prog 118 [.pointer (some ⟨bv, 0, none⟩)] (.bool (rerootedB ps j)) w := by
  refine funcR_pure tyOk wide Try.func118 ok_trerooted (Nat.le_of_ble_eq_true rfl) ?_
  have r4 := rg_old (X := []) hv (by simp)
  repeat' first
    | (conv => whnf
       first
       | intro _
       | (first | refine selSplit (fun h => ?_) (fun h => ?_) | refine condSplit (fun h => ?_) (fun h => ?_)) <;> first | exact (clash (by assumption) h).elim | exact (clash h (by assumption)).elim | (simp only [decide_eq_true_eq, decide_eq_false_iff_not, Bool.not_eq_true', Bool.not_eq_false', Bool.not_true, Bool.not_false, Bool.or_eq_true, Bool.and_eq_true, Bool.or_eq_false_iff, Bool.and_eq_false_iff, beq_iff_eq, beq_eq_false_iff_ne, ne_eq] at h; first | (exfalso; omega) | skip) | skip
       | refine SeqP.go ?_
       | refine cdM ?_
       | exact IsV.mk
       | apply GuardP.mk
       | ((first | apply callPure' en_tOthers | apply callQuiet' en_tOthers); · exact fun w hw => others_rerooted1 t ps g n c j bv hn w hl (r4 _ w hw) (hs.later hw))
       | refine Or.inl ⟨_, _, hasM, ?_⟩
       | refine Or.inl ⟨_, _, _, holeM, rfl, rfl, ?_⟩
       | refine lA ?_
       | refine lA0 ?_
       | refine lA1 ?_
       | refine lO ?_
       | refine lO0 ?_
       | refine lO1 ?_
       | refine lG ?_
       | refine lG0 ?_
       | refine tA ?_
       | refine tA0 ?_
       | refine tA1 ?_
       | refine BytW.ofBlk hasM rfl rfl ?_
       | refine AppW.noneB hasM leM rfl rfl rfl leM leM ?_
       | refine AppW.rowB hasM leM rfl rfl holeM leM leM ?_
       | refine AppW.blkB hasM leM rfl rfl holeM rfl rfl leM leM ?_
       | refine AppW.rowS hasM leM rfl rfl holeM (by omega) leM ?_
       | refine AppW.arrS hasM leM rfl rfl rfl holeM (by first | omega | (simp; omega)) leM ?_
       | refine ⟨sideM, ?_⟩
       | fail)
  all_goals (try conv => whnf)
  all_goals rfl
theorem ok_wProp2 : (match Try.f139.body with | some c => codeOk Try.f139.ntmps c | none => false) = true := by kernel_rfl
theorem en_wProp2 : ∃ fn, Try.prog.funcs[139]? = some fn ∧ (fn.name == "runtime.NumGoroutine") = false ∧ fn.body.isNone = false := ⟨_, Try.func139, by kernel_rfl, by kernel_rfl⟩
theorem wProp2_w (p : PortV) (g j bp : Nat) (t : TimesV) (n c bm bv : Nat) (ps : List PortV) (hn : ps.length = n) (hl : n ≤ 1000) (w : World) (hp : w.rangeAt bp 0 [.pointer (some ⟨g, 0 + j * 61, none⟩)]) (hx : w.rangeAt g (0 + j * 61) p.enc) (hm : w.rangeAt bm 0 [.pointer (some ⟨bv, 0, none⟩)]) (hv : w.rangeAt bv 0 (moverE t g n c j)) (hs : SlAt w (some ⟨g, 0, none⟩) 61 (ps.map PortV.enc)) :
    PuAt Try.prog 139 [.pointer (some ⟨bp, 0, none⟩), .pointer (some ⟨bm, 0, none⟩)] (.bool (!p.Agree && syncedB ps j || p.Proposed && p.Agree)) w := by
  refine funcR_pure tyOk wide Try.func139 ok_wProp2 (Nat.le_of_ble_eq_true rfl) ?_
  have r1 := rg_old (X := []) hp (by simp)
  have r2 := rg_old (X := []) hx (by simp)
  have r3 := rg_old (X := []) hm (by simp)
  have r4 := rg_old (X := []) hv (by simp)
  repeat' first
    | (conv => whnf
       first
       | intro _
       | (first | refine selSplit (fun h => ?_) (fun h => ?_) | refine condSplit (fun h => ?_) (fun h => ?_)) <;> first | exact (clash (by assumption) h).elim | exact (clash h (by assumption)).elim | (simp only [decide_eq_true_eq, decide_eq_false_iff_not, Bool.not_eq_true', Bool.not_eq_false', Bool.not_true, Bool.not_false, Bool.or_eq_true, Bool.and_eq_true, Bool.or_eq_false_iff, Bool.and_eq_false_iff, beq_iff_eq, beq_eq_false_iff_ne, ne_eq] at h; first | (exfalso; omega) | skip) | skip
       | refine SeqP.go ?_
       | refine cdM ?_
       | exact IsV.mk
       | apply GuardP.mk
       | ((first | apply callPure' en_tsynced | apply callQuiet' en_tsynced); · exact fun w hw => tsynced_w t ps g n c j bv hn w hl (r4 _ w hw) (hs.later hw))
       | refine Or.inl ⟨_, _, hasM, ?_⟩
       | refine Or.inl ⟨_, _, _, holeM, rfl, rfl, ?_⟩
       | refine lA ?_
       | refine lA0 ?_
       | refine lA1 ?_
       | refine lO ?_
       | refine lO0 ?_
       | refine lO1 ?_
       | refine lG ?_
       | refine lG0 ?_
       | refine tA ?_
       | refine tA0 ?_
       | refine tA1 ?_
       | refine BytW.ofBlk hasM rfl rfl ?_
       | refine AppW.noneB hasM leM rfl rfl rfl leM leM ?_
       | refine AppW.rowB hasM leM rfl rfl holeM leM leM ?_
       | refine AppW.blkB hasM leM rfl rfl holeM rfl rfl leM leM ?_
       | refine AppW.rowS hasM leM rfl rfl holeM (by omega) leM ?_
       | refine AppW.arrS hasM leM rfl rfl rfl holeM (by first | omega | (simp; omega)) leM ?_
       | refine ⟨sideM, ?_⟩
       | fail)
  all_goals (try conv => whnf)
  all_goals rfl
def mayRo (ps : List PortV) (j : Nat) (p : PortV) : Bool := decide (p.Fd = 0) || decide (p.Rb = 0) && p.SendRstp && rerootedB ps j
theorem ok_wRoot9 : (match Try.f117.body with | some c => codeOk Try.f117.ntmps c | none => false) = true := by kernel_rfl
theorem en_wRoot9 : ∃ fn, Try.prog.funcs[117]? = some fn ∧ (fn.name == "runtime.NumGoroutine") = false ∧ fn.body.isNone = false := ⟨_, Try.func117, by kernel_rfl, by kernel_rfl⟩
theorem wRoot9_w (p : PortV) (g j bp : Nat) (t : TimesV) (n c bm bv : Nat) (ps : List PortV) (hn : ps.length = n) (hl : n ≤ 1000) (w : World) (hp : w.rangeAt bp 0 [.pointer (some ⟨g, 0 + j * 61, none⟩)]) (hx : w.rangeAt g (0 + j * 61) p.enc) (hm : w.rangeAt bm 0 [.pointer (some ⟨bv, 0, none⟩)]) (hv : w.rangeAt bv 0 (moverE t g n c j)) (hs : SlAt w (some ⟨g, 0, none⟩) 61 (ps.map PortV.enc)) :
    PuAt Try.prog 117 [.pointer (some ⟨bp, 0, none⟩), .pointer (some ⟨bm, 0, none⟩)] (.bool (mayRo ps j p)) w := by
  refine funcR_pure tyOk wide Try.func117 ok_wRoot9 (Nat.le_of_ble_eq_true rfl) ?_
  have r1 := rg_old (X := []) hp (by simp)
  have r2 := rg_old (X := []) hx (by simp)
  have r3 := rg_old (X := []) hm (by simp)
  have r4 := rg_old (X := []) hv (by simp)
  repeat' first
    | (conv => whnf
       first
       | intro _
       | (first | refine selSplit (fun h => ?_) (fun h => ?_) | refine condSplit (fun h => ?_) (fun h => ?_)) <;> first | exact (clash (by assumption) h).elim | exact (clash h (by assumption)).elim | (simp only [decide_eq_true_eq, decide_eq_false_iff_not, Bool.not_eq_true', Bool.not_eq_false', Bool.not_true, Bool.not_false, Bool.or_eq_true, Bool.and_eq_true, Bool.or_eq_false_iff, Bool.and_eq_false_iff, beq_iff_eq, beq_eq_false_iff_ne, ne_eq] at h; first | (exfalso; omega) | skip) | skip
       | refine SeqP.go ?_
       | refine cdM ?_
       | exact IsV.mk
       | apply GuardP.mk
       | ((first | apply callPure' en_trerooted | apply callQuiet' en_trerooted); · exact fun w hw => trerooted_w t ps g n c j bv hn w hl (r4 _ w hw) (hs.later hw))
       | refine Or.inl ⟨_, _, hasM, ?_⟩
       | refine Or.inl ⟨_, _, _, holeM, rfl, rfl, ?_⟩
       | refine lA ?_
       | refine lA0 ?_
       | refine lA1 ?_
       | refine lO ?_
       | refine lO0 ?_
       | refine lO1 ?_
       | refine lG ?_
       | refine lG0 ?_
       | refine tA ?_
       | refine tA0 ?_
       | refine tA1 ?_
       | refine BytW.ofBlk hasM rfl rfl ?_
       | refine AppW.noneB hasM leM rfl rfl rfl leM leM ?_
       | refine AppW.rowB hasM leM rfl rfl holeM leM leM ?_
       | refine AppW.blkB hasM leM rfl rfl holeM rfl rfl leM leM ?_
       | refine AppW.rowS hasM leM rfl rfl holeM (by omega) leM ?_
       | refine AppW.arrS hasM leM rfl rfl rfl holeM (by first | omega | (simp; omega)) leM ?_
       | refine ⟨sideM, ?_⟩
       | fail)
  all_goals (try conv => whnf)
  all_goals rfl
def askF (j : Nat) (i : Nat) (q : PortV) : PortV := { q with Sync := q.Sync || !decide ((i : Int) = j) }
def askV (ps : List PortV) (j : Nat) (p : PortV) : List PortV := (ps.mapIdx (askF j)).set j { p with Proposed := false }
theorem ok_tAsk : (match Try.f138.body with | some c => codeOk Try.f138.ntmps c | none => false) = true := by kernel_rfl
theorem en_tAsk : ∃ fn, Try.prog.funcs[138]? = some fn ∧ (fn.name == "runtime.NumGoroutine") = false ∧ fn.body.isNone = false := ⟨_, Try.func138, by kernel_rfl, by kernel_rfl⟩
theorem tAsk_w (ps : List PortV) (p : PortV) (g n c j : Nat) (t : TimesV) (bv : Nat) (hn : ps.length = n) (hl : n ≤ 1000) (hp : ps[j]? = some p) (w : World) (hw : St w (feet [.arr (.slice (some ⟨g, 0, none⟩) n c) 28 61 (ps.map PortV.enc), .blk bv (moverE t g n c j) 126]) [.arr (.slice (some ⟨g, 0, none⟩) n c) 28 61 (ps.map PortV.enc), .blk bv (moverE t g n c j) 126] w) :
    FnX Try.prog 138 [.pointer (some ⟨bv, 0, none⟩)] [.arr (.slice (some ⟨g, 0, none⟩) n c) 28 61 (ps.map PortV.enc), .blk bv (moverE t g n c j) 126] (fun _ : Unit => True) (fun _ => .tuple ⟨[]⟩)
      (fun _ => [.arr (.slice (some ⟨g, 0, none⟩) n c) 28 61 ((askV ps j p).map PortV.enc), .blk bv (moverE t g n c j) 126]) w := by
  subst hn
  refine funcR_x tyOk wide Try.func138 ok_tAsk (Nat.le_of_ble_eq_true rfl) hw ?_
  repeat' first
    | (conv => whnf
       first
       | intro _
       | (first | refine selSplit (fun h => ?_) (fun h => ?_) | refine condSplit (fun h => ?_) (fun h => ?_)) <;> first | exact (clash (by assumption) h).elim | exact (clash h (by assumption)).elim | (simp only [decide_eq_true_eq, decide_eq_false_iff_not, Bool.not_eq_true', Bool.not_eq_false', Bool.not_true, Bool.not_false, Bool.or_eq_true, Bool.and_eq_true, Bool.or_eq_false_iff, Bool.and_eq_false_iff, beq_iff_eq, beq_eq_false_iff_ne, ne_eq] at h; first | (exfalso; omega) | skip) | skip
       | (first | refine drC (.quiet 0 (.quiet 1 (.quiet 2 (.quiet 3 (.quiet 4 (.quiet 5 (.quiet 6 (.quiet 7 (.quiet 8 (.quiet 9 (.quiet 10 (.quiet 11 (.quiet 12 (.quiet 13 (.quiet 14 (.quiet 15 (.quiet 16 (.quiet 17 (.quiet 18 (.quiet 19 (.quiet 20 (.quiet 21 (.quiet 22 (.last 23 false .done)))))))))))))))))))))))) (SubL.refl _) ?_)
       | refine AltP.mk ?_ ?_
       | refine kpM ?_
       | refine SeqP.go ?_
       | refine cdM ?_
       | exact IsV.mk
       | apply GuardP.mk
       | refine Or.inl ⟨_, _, hasM, ?_⟩
       | refine Or.inl ⟨_, _, _, holeM, rfl, rfl, ?_⟩
       | refine lA ?_
       | refine lA0 ?_
       | refine lA1 ?_
       | refine lO ?_
       | refine lO0 ?_
       | refine lO1 ?_
       | refine lG ?_
       | refine lG0 ?_
       | refine tA ?_
       | refine tA0 ?_
       | refine tA1 ?_
       | refine BytW.ofBlk hasM rfl rfl ?_
       | refine AppW.noneB hasM leM rfl rfl rfl leM leM ?_
       | refine AppW.rowB hasM leM rfl rfl holeM leM leM ?_
       | refine AppW.blkB hasM leM rfl rfl holeM rfl rfl leM leM ?_
       | refine AppW.rowS hasM leM rfl rfl holeM (by omega) leM ?_
       | refine AppW.arrS hasM leM rfl rfl rfl holeM (by first | omega | (simp; omega)) leM ?_
       | refine ⟨sideM, ?_⟩
       | fail)
  all_goals (try conv => whnf)
  refine .mk Nat (fun k S H => k ≤ ps.length ∧ S = [(8, .int .i64 k), (7, .int .i64 ps.length), (0, .pointer (some ⟨bv, 0, none⟩))] ∧ H = [.arr (.slice (some ⟨g, 0, none⟩) ps.length c) 28 61 ((mapTo (askF j) ps k).map PortV.enc), .blk bv (moverE t g ps.length c j) 126]) (fun k => ps.length - k) 0 _ _ ⟨by omega, rfl, rfl⟩ subM (by rw [mapTo_zero]; exact entM) ?_
  rintro k S1 H1 ⟨hk, rfl, rfl⟩
  by_cases hk2 : k < ps.length
  · have hx : ((mapTo (askF j) ps k).map PortV.enc)[k]? = some (ps[k]).enc := mapTo_enc hk2
    repeat' first
      | (conv => whnf
         first
         | intro _
         | (first | refine selSplit (fun h => ?_) (fun h => ?_) | refine condSplit (fun h => ?_) (fun h => ?_)) <;> first | exact (clash (by assumption) h).elim | exact (clash h (by assumption)).elim | (simp only [decide_eq_true_eq, decide_eq_false_iff_not, Bool.not_eq_true', Bool.not_eq_false', Bool.not_true, Bool.not_false, Bool.or_eq_true, Bool.and_eq_true, Bool.or_eq_false_iff, Bool.and_eq_false_iff, beq_iff_eq, beq_eq_false_iff_ne, ne_eq] at h; first | (exfalso; omega) | skip) | skip
         | (first | refine drC (.quiet 0 (.quiet 1 (.quiet 2 (.quiet 3 (.quiet 4 (.quiet 5 (.quiet 6 (.quiet 7 (.quiet 8 (.quiet 9 (.quiet 10 (.quiet 11 (.quiet 12 (.quiet 13 (.quiet 14 (.quiet 15 (.quiet 16 (.quiet 17 (.quiet 18 (.quiet 19 (.quiet 20 (.quiet 21 (.quiet 22 (.last 23 false .done)))))))))))))))))))))))) (SubL.refl _) ?_)
         | refine AltP.mk ?_ ?_
         | refine kpM ?_
         | refine SeqP.go ?_
         | refine cdM ?_
         | exact IsV.mk
         | apply GuardP.mk
         | refine Or.inl ⟨_, _, hasM, ?_⟩
         | refine Or.inl ⟨_, _, _, holeM, rfl, rfl, ?_⟩
         | refine lA ?_
         | refine lA0 ?_
         | refine lA1 ?_
         | refine lO ?_
         | refine lO0 ?_
         | refine lO1 ?_
         | refine lG ?_
         | refine lG0 ?_
         | refine tA ?_
         | refine tA0 ?_
         | refine tA1 ?_
         | refine BytW.ofBlk hasM rfl rfl ?_
         | refine AppW.noneB hasM leM rfl rfl rfl leM leM ?_
         | refine AppW.rowB hasM leM rfl rfl holeM leM leM ?_
         | refine AppW.blkB hasM leM rfl rfl holeM rfl rfl leM leM ?_
         | refine AppW.rowS hasM leM rfl rfl holeM (by omega) leM ?_
         | refine AppW.arrS hasM leM rfl rfl rfl holeM (by first | omega | (simp; omega)) leM ?_
         | refine ⟨sideM, ?_⟩
         | fail)
    all_goals (try conv => whnf)
    all_goals first
      | (exfalso; omega)
      | exact .mk (k + 1) _ _ (by omega) ⟨by omega, rfl, rfl⟩ subM (by rw [← mapTo_set hk2]; exact Ent.refl)
  · obtain rfl : k = ps.length := by omega
    rw [mapTo_all (Nat.le_refl _)]
    have hx : ((ps.mapIdx (askF j)).map PortV.enc)[j]? = some p.enc := by
      rw [List.getElem?_map, List.getElem?_mapIdx, hp]
      simp [askF]
    repeat' first
      | (conv => whnf
         first
         | intro _
         | (first | refine selSplit (fun h => ?_) (fun h => ?_) | refine condSplit (fun h => ?_) (fun h => ?_)) <;> first | exact (clash (by assumption) h).elim | exact (clash h (by assumption)).elim | (simp only [decide_eq_true_eq, decide_eq_false_iff_not, Bool.not_eq_true', Bool.not_eq_false', Bool.not_true, Bool.not_false, Bool.or_eq_true, Bool.and_eq_true, Bool.or_eq_false_iff, Bool.and_eq_false_iff, beq_iff_eq, beq_eq_false_iff_ne, ne_eq] at h; first | (exfalso; omega) | skip) | skip
         | (first | refine drC (.quiet 0 (.quiet 1 (.quiet 2 (.quiet 3 (.quiet 4 (.quiet 5 (.quiet 6 (.quiet 7 (.quiet 8 (.quiet 9 (.quiet 10 (.quiet 11 (.quiet 12 (.quiet 13 (.quiet 14 (.quiet 15 (.quiet 16 (.quiet 17 (.quiet 18 (.quiet 19 (.quiet 20 (.quiet 21 (.quiet 22 (.last 23 false .done)))))))))))))))))))))))) (SubL.refl _) ?_)
         | refine AltP.mk ?_ ?_
         | refine kpM ?_
         | refine SeqP.go ?_
         | refine cdM ?_
         | exact IsV.mk
         | apply GuardP.mk
         | refine Or.inl ⟨_, _, hasM, ?_⟩
         | refine Or.inl ⟨_, _, _, holeM, rfl, rfl, ?_⟩
         | refine lA ?_
         | refine lA0 ?_
         | refine lA1 ?_
         | refine lO ?_
         | refine lO0 ?_
         | refine lO1 ?_
         | refine lG ?_
         | refine lG0 ?_
         | refine tA ?_
         | refine tA0 ?_
         | refine tA1 ?_
         | refine BytW.ofBlk hasM rfl rfl ?_
         | refine AppW.noneB hasM leM rfl rfl rfl leM leM ?_
         | refine AppW.rowB hasM leM rfl rfl holeM leM leM ?_
         | refine AppW.blkB hasM leM rfl rfl holeM rfl rfl leM leM ?_
         | refine AppW.rowS hasM leM rfl rfl holeM (by omega) leM ?_
         | refine AppW.arrS hasM leM rfl rfl rfl holeM (by first | omega | (simp; omega)) leM ?_
         | refine ⟨sideM, ?_⟩
         | fail)
    all_goals (try conv => whnf)
    all_goals first
      | (exfalso; omega)
      | (refine EndX.mk () trivial rfl ?_; unfold askV; rw [List.map_set]; exact entM)
def rootAll (ps : List PortV) : List PortV := ps.mapIdx fun _ q => { q with Reroot := true }
theorem ok_dRoot4 : (match Try.f111.body with | some c => codeOk Try.f111.ntmps c | none => false) = true := by kernel_rfl
theorem en_dRoot4 : ∃ fn, Try.prog.funcs[111]? = some fn ∧ (fn.name == "runtime.NumGoroutine") = false ∧ fn.body.isNone = false := ⟨_, Try.func111, by kernel_rfl, by kernel_rfl⟩
theorem dRoot4_w (ps : List PortV) (g n c j : Nat) (t : TimesV) (bm bv : Nat) (hn : ps.length = n) (hl : n ≤ 1000) (w : World) (hw : St w (feet [.arr (.slice (some ⟨g, 0, none⟩) n c) 28 61 (ps.map PortV.enc), .blk bm [.pointer (some ⟨bv, 0, none⟩)] 124, .blk bv (moverE t g n c j) 126]) [.arr (.slice (some ⟨g, 0, none⟩) n c) 28 61 (ps.map PortV.enc), .blk bm [.pointer (some ⟨bv, 0, none⟩)] 124, .blk bv (moverE t g n c j) 126] w) :
    FnX Try.prog 111 [.pointer (some ⟨bm, 0, none⟩)] [.arr (.slice (some ⟨g, 0, none⟩) n c) 28 61 (ps.map PortV.enc), .blk bm [.pointer (some ⟨bv, 0, none⟩)] 124, .blk bv (moverE t g n c j) 126] (fun _ : Unit => True) (fun _ => .tuple ⟨[]⟩)
      (fun _ => [.arr (.slice (some ⟨g, 0, none⟩) n c) 28 61 ((rootAll ps).map PortV.enc), .blk bm [.pointer (some ⟨bv, 0, none⟩)] 124, .blk bv (moverE t g n c j) 126]) w := by
  subst hn
  refine funcR_x tyOk wide Try.func111 ok_dRoot4 (Nat.le_of_ble_eq_true rfl) hw ?_
  repeat' first
    | (conv => whnf
       first
       | intro _
       | (first | refine selSplit (fun h => ?_) (fun h => ?_) | refine condSplit (fun h => ?_) (fun h => ?_)) <;> first | exact (clash (by assumption) h).elim | exact (clash h (by assumption)).elim | (simp only [decide_eq_true_eq, decide_eq_false_iff_not, Bool.not_eq_true', Bool.not_eq_false', Bool.not_true, Bool.not_false, Bool.or_eq_true, Bool.and_eq_true, Bool.or_eq_false_iff, Bool.and_eq_false_iff, beq_iff_eq, beq_eq_false_iff_ne, ne_eq] at h; first | (exfalso; omega) | skip) | skip
       | refine SeqP.go ?_
       | refine cdM ?_
       | exact IsV.mk
       | apply GuardP.mk
       | refine Or.inl ⟨_, _, hasM, ?_⟩
       | refine Or.inl ⟨_, _, _, holeM, rfl, rfl, ?_⟩
       | refine lA ?_
       | refine lA0 ?_
       | refine lA1 ?_
       | refine lO ?_
       | refine lO0 ?_
       | refine lO1 ?_
       | refine lG ?_
       | refine lG0 ?_
       | refine tA ?_
       | refine tA0 ?_
       | refine tA1 ?_
       | refine BytW.ofBlk hasM rfl rfl ?_
       | refine AppW.noneB hasM leM rfl rfl rfl leM leM ?_
       | refine AppW.rowB hasM leM rfl rfl holeM leM leM ?_
       | refine AppW.blkB hasM leM rfl rfl holeM rfl rfl leM leM ?_
       | refine AppW.rowS hasM leM rfl rfl holeM (by omega) leM ?_
       | refine AppW.arrS hasM leM rfl rfl rfl holeM (by first | omega | (simp; omega)) leM ?_
       | refine ⟨sideM, ?_⟩
       | fail)
  all_goals (try conv => whnf)
  refine .mk Nat (fun k S H => k ≤ ps.length ∧ S = [(7, .int .i64 k), (6, .int .i64 ps.length), (0, .pointer (some ⟨bm, 0, none⟩))] ∧ H = [.arr (.slice (some ⟨g, 0, none⟩) ps.length c) 28 61 ((mapTo (fun _ q => { q with Reroot := true }) ps k).map PortV.enc), .blk bm [.pointer (some ⟨bv, 0, none⟩)] 124, .blk bv (moverE t g ps.length c j) 126]) (fun k => ps.length - k) 0 _ _ ⟨by omega, rfl, rfl⟩ subM (by rw [mapTo_zero]; exact entM) ?_
  rintro k S1 H1 ⟨hk, rfl, rfl⟩
  by_cases hk2 : k < ps.length
  · have hx : ((mapTo (fun _ q => { q with Reroot := true }) ps k).map PortV.enc)[k]? = some (ps[k]).enc := mapTo_enc hk2
    repeat' first
      | (conv => whnf
         first
         | intro _
         | (first | refine selSplit (fun h => ?_) (fun h => ?_) | refine condSplit (fun h => ?_) (fun h => ?_)) <;> first | exact (clash (by assumption) h).elim | exact (clash h (by assumption)).elim | (simp only [decide_eq_true_eq, decide_eq_false_iff_not, Bool.not_eq_true', Bool.not_eq_false', Bool.not_true, Bool.not_false, Bool.or_eq_true, Bool.and_eq_true, Bool.or_eq_false_iff, Bool.and_eq_false_iff, beq_iff_eq, beq_eq_false_iff_ne, ne_eq] at h; first | (exfalso; omega) | skip) | skip
         | refine SeqP.go ?_
         | refine cdM ?_
         | exact IsV.mk
         | apply GuardP.mk
         | refine Or.inl ⟨_, _, hasM, ?_⟩
         | refine Or.inl ⟨_, _, _, holeM, rfl, rfl, ?_⟩
         | refine lA ?_
         | refine lA0 ?_
         | refine lA1 ?_
         | refine lO ?_
         | refine lO0 ?_
         | refine lO1 ?_
         | refine lG ?_
         | refine lG0 ?_
         | refine tA ?_
         | refine tA0 ?_
         | refine tA1 ?_
         | refine BytW.ofBlk hasM rfl rfl ?_
         | refine AppW.noneB hasM leM rfl rfl rfl leM leM ?_
         | refine AppW.rowB hasM leM rfl rfl holeM leM leM ?_
         | refine AppW.blkB hasM leM rfl rfl holeM rfl rfl leM leM ?_
         | refine AppW.rowS hasM leM rfl rfl holeM (by omega) leM ?_
         | refine AppW.arrS hasM leM rfl rfl rfl holeM (by first | omega | (simp; omega)) leM ?_
         | refine ⟨sideM, ?_⟩
         | fail)
    all_goals (try conv => whnf)
    all_goals first
      | (exfalso; omega)
      | exact .mk (k + 1) _ _ (by omega) ⟨by omega, rfl, rfl⟩ subM (by rw [← mapTo_set hk2]; exact Ent.refl)
  · obtain rfl : k = ps.length := by omega
    rw [mapTo_all (Nat.le_refl _)]
    repeat' first
      | (conv => whnf
         first
         | intro _
         | (first | refine selSplit (fun h => ?_) (fun h => ?_) | refine condSplit (fun h => ?_) (fun h => ?_)) <;> first | exact (clash (by assumption) h).elim | exact (clash h (by assumption)).elim | (simp only [decide_eq_true_eq, decide_eq_false_iff_not, Bool.not_eq_true', Bool.not_eq_false', Bool.not_true, Bool.not_false, Bool.or_eq_true, Bool.and_eq_true, Bool.or_eq_false_iff, Bool.and_eq_false_iff, beq_iff_eq, beq_eq_false_iff_ne, ne_eq] at h; first | (exfalso; omega) | skip) | skip
         | refine SeqP.go ?_
         | refine cdM ?_
         | exact IsV.mk
         | apply GuardP.mk
         | refine Or.inl ⟨_, _, hasM, ?_⟩
         | refine Or.inl ⟨_, _, _, holeM, rfl, rfl, ?_⟩
         | refine lA ?_
         | refine lA0 ?_
         | refine lA1 ?_
         | refine lO ?_
         | refine lO0 ?_
         | refine lO1 ?_
         | refine lG ?_
         | refine lG0 ?_
         | refine tA ?_
         | refine tA0 ?_
         | refine tA1 ?_
         | refine BytW.ofBlk hasM rfl rfl ?_
         | refine AppW.noneB hasM leM rfl rfl rfl leM leM ?_
         | refine AppW.rowB hasM leM rfl rfl holeM leM leM ?_
         | refine AppW.blkB hasM leM rfl rfl holeM rfl rfl leM leM ?_
         | refine AppW.rowS hasM leM rfl rfl holeM (by omega) leM ?_
         | refine AppW.arrS hasM leM rfl rfl rfl holeM (by first | omega | (simp; omega)) leM ?_
         | refine ⟨sideM, ?_⟩
         | fail)
    all_goals (try conv => whnf)
    all_goals first
      | (exfalso; omega)
      | exact EndX.mk () trivial rfl entM
def agreeV (p : PortV) : PortV := { p with Proposed := false, Agree := true, NewInfo := true }
theorem ok_tAgree : (match Try.f142.body with | some c => codeOk Try.f142.ntmps c | none => false) = true := by kernel_rfl
theorem en_tAgree : ∃ fn, Try.prog.funcs[142]? = some fn ∧ (fn.name == "runtime.NumGoroutine") = false ∧ fn.body.isNone = false := ⟨_, Try.func142, by kernel_rfl, by kernel_rfl⟩
theorem tAgree_w (l : List (List Value)) (p : PortV) (g n c j : Nat) (t : TimesV) (bv : Nat) (w : World) (hx : l[j]? = some p.enc) (hw : St w (feet [.arr (.slice (some ⟨g, 0, none⟩) n c) 28 61 l, .blk bv (moverE t g n c j) 126]) [.arr (.slice (some ⟨g, 0, none⟩) n c) 28 61 l, .blk bv (moverE t g n c j) 126] w) :
    FnX Try.prog 142 [.pointer (some ⟨bv, 0, none⟩)] [.arr (.slice (some ⟨g, 0, none⟩) n c) 28 61 l, .blk bv (moverE t g n c j) 126] (fun _ : Unit => True) (fun _ => .tuple ⟨[]⟩)
      (fun _ => [.arr (.slice (some ⟨g, 0, none⟩) n c) 28 61 (l.set j (agreeV p).enc), .blk bv (moverE t g n c j) 126]) w := by
  refine funcR_x tyOk wide Try.func142 ok_tAgree (Nat.le_of_ble_eq_true rfl) hw ?_
  repeat' first
    | (conv => whnf
       first
       | intro _
       | (first | refine selSplit (fun h => ?_) (fun h => ?_) | refine condSplit (fun h => ?_) (fun h => ?_)) <;> first | exact (clash (by assumption) h).elim | exact (clash h (by assumption)).elim | (simp only [decide_eq_true_eq, decide_eq_false_iff_not, Bool.not_eq_true', Bool.not_eq_false', Bool.not_true, Bool.not_false, Bool.or_eq_true, Bool.and_eq_true, Bool.or_eq_false_iff, Bool.and_eq_false_iff, beq_iff_eq, beq_eq_false_iff_ne, ne_eq] at h; first | (exfalso; omega) | skip) | skip
       | (first | refine drM (.quiet 0 (.quiet 1 (.quiet 2 (.quiet 3 (.quiet 4 (.quiet 5 (.quiet 6 (.quiet 7 (.quiet 8 (.quiet 9 (.quiet 10 (.quiet 11 (.quiet 12 (.quiet 13 (.last 14 false (.last 15 false (.last 16 false (.last 17 false (.last 18 false (.last 19 false (.last 20 false .done))))))))))))))))))))) (SubL.refl _) ?_)
       | refine AltP.mk ?_ ?_
       | refine kpM ?_
       | refine SeqP.go ?_
       | refine cdM ?_
       | exact IsV.mk
       | apply GuardP.mk
       | refine Or.inl ⟨_, _, hasM, ?_⟩
       | refine Or.inl ⟨_, _, _, holeM, rfl, rfl, ?_⟩
       | refine lA ?_
       | refine lA0 ?_
       | refine lA1 ?_
       | refine lO ?_
       | refine lO0 ?_
       | refine lO1 ?_
       | refine lG ?_
       | refine lG0 ?_
       | refine tA ?_
       | refine tA0 ?_
       | refine tA1 ?_
       | refine BytW.ofBlk hasM rfl rfl ?_
       | refine AppW.noneB hasM leM rfl rfl rfl leM leM ?_
       | refine AppW.rowB hasM leM rfl rfl holeM leM leM ?_
       | refine AppW.blkB hasM leM rfl rfl holeM rfl rfl leM leM ?_
       | refine AppW.rowS hasM leM rfl rfl holeM (by omega) leM ?_
       | refine AppW.arrS hasM leM rfl rfl rfl holeM (by first | omega | (simp; omega)) leM ?_
       | refine ⟨sideM, ?_⟩
       | fail)
  all_goals (try conv => whnf)
  all_goals (refine EndX.mk () trivial rfl ?_; (try simp only [List.set_set, setSame hx]); exact entM)
theorem ok_dProp3 : (match Try.f141.body with | some c => codeOk Try.f141.ntmps c | none => false) = true := by kernel_rfl
theorem en_dProp3 : ∃ fn, Try.prog.funcs[141]? = some fn ∧ (fn.name == "runtime.NumGoroutine") = false ∧ fn.body.isNone = false := ⟨_, Try.func141, by kernel_rfl, by kernel_rfl⟩
theorem dProp3_w (l : List (List Value)) (p : PortV) (g n c j bp : Nat) (t : TimesV) (bm bv : Nat) (w : World) (hx : l[j]? = some p.enc) (hw : St w (feet [.arr (.slice (some ⟨g, 0, none⟩) n c) 28 61 l, .blk bp [.pointer (some ⟨g, 0 + j * 61, none⟩)] 76, .blk bm [.pointer (some ⟨bv, 0, none⟩)] 124, .blk bv (moverE t g n c j) 126]) [.arr (.slice (some ⟨g, 0, none⟩) n c) 28 61 l, .blk bp [.pointer (some ⟨g, 0 + j * 61, none⟩)] 76, .blk bm [.pointer (some ⟨bv, 0, none⟩)] 124, .blk bv (moverE t g n c j) 126] w) :
    FnX Try.prog 141 [.pointer (some ⟨bm, 0, none⟩), .pointer (some ⟨bp, 0, none⟩)] [.arr (.slice (some ⟨g, 0, none⟩) n c) 28 61 l, .blk bp [.pointer (some ⟨g, 0 + j * 61, none⟩)] 76, .blk bm [.pointer (some ⟨bv, 0, none⟩)] 124, .blk bv (moverE t g n c j) 126] (fun _ : Unit => True) (fun _ => .tuple ⟨[]⟩) (fun _ => [.arr (.slice (some ⟨g, 0, none⟩) n c) 28 61 (l.set j ({ agreeV p with Sync := p.Sync && !decide (p.Role = 1) }).enc), .blk bp [.pointer (some ⟨g, 0 + j * 61, none⟩)] 76, .blk bm [.pointer (some ⟨bv, 0, none⟩)] 124, .blk bv (moverE t g n c j) 126]) w := by
  refine funcR_x tyOk wide Try.func141 ok_dProp3 (Nat.le_of_ble_eq_true rfl) hw ?_
  repeat' first
    | (conv => whnf
       first
       | intro _
       | (first | refine selSplit (fun h => ?_) (fun h => ?_) | refine condSplit (fun h => ?_) (fun h => ?_)) <;> first | exact (clash (by assumption) h).elim | exact (clash h (by assumption)).elim | (simp only [decide_eq_true_eq, decide_eq_false_iff_not, Bool.not_eq_true', Bool.not_eq_false', Bool.not_true, Bool.not_false, Bool.or_eq_true, Bool.and_eq_true, Bool.or_eq_false_iff, Bool.and_eq_false_iff, beq_iff_eq, beq_eq_false_iff_ne, ne_eq] at h; first | (exfalso; omega) | skip) | skip
       | (first | refine drC (.quiet 0 (.quiet 1 (.quiet 2 (.quiet 3 (.quiet 4 (.quiet 5 (.quiet 6 (.quiet 7 (.quiet 8 (.quiet 9 (.quiet 10 (.quiet 11 (.quiet 12 (.quiet 13 (.last 14 false .done))))))))))))))) (SubL.refl _) ?_)
       | refine AltP.mk ?_ ?_
       | refine kpM ?_
       | refine SeqP.go ?_
       | refine cdM ?_
       | exact IsV.mk
       | apply GuardP.mk
       | (refine callX takeM en_tAgree (fun w hw => tAgree_w l p g n c j t bv w hx (hw.sub2 takeM)) ?_)
       | refine Or.inl ⟨_, _, hasM, ?_⟩
       | refine Or.inl ⟨_, _, _, holeM, rfl, rfl, ?_⟩
       | refine lA ?_
       | refine lA0 ?_
       | refine lA1 ?_
       | refine lO ?_
       | refine lO0 ?_
       | refine lO1 ?_
       | refine lG ?_
       | refine lG0 ?_
       | refine tA ?_
       | refine tA0 ?_
       | refine tA1 ?_
       | refine BytW.ofBlk hasM rfl rfl ?_
       | refine AppW.noneB hasM leM rfl rfl rfl leM leM ?_
       | refine AppW.rowB hasM leM rfl rfl holeM leM leM ?_
       | refine AppW.blkB hasM leM rfl rfl holeM rfl rfl leM leM ?_
       | refine AppW.rowS hasM leM rfl rfl holeM (by omega) leM ?_
       | refine AppW.arrS hasM leM rfl rfl rfl holeM (by first | omega | (simp; omega)) leM ?_
       | refine ⟨sideM, ?_⟩
       | fail)
  all_goals (try conv => whnf)
  all_goals (refine EndX.mk () trivial rfl ?_; (repeat (first | rw [if_pos (by first | assumption | grind | decide)] | rw [if_neg (by first | assumption | grind | decide)])); (try simp only [List.set_set, setSame hx]); exact entM)
end Go.Proofs.Ytmgoahmbdpoikaa.Am
