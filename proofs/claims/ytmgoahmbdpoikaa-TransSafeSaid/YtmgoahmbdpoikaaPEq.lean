/- Rows of ports, compared. -/
import Derived.Test.YtmgoahmbdpoikaaPClone
set_option linter.unusedVariables false
set_option linter.unusedSimpArgs false
set_option maxRecDepth 100000
set_option maxHeartbeats 4000000
namespace Go.Proofs.Ytmgoahmbdpoikaa.Am
open Go Go.RowKit
def eqPs : List PortV → List PortV → Bool
  | [], [] => true
  | p :: ps, q :: qs => allEq p.enc q.enc && eqPs ps qs
  | _, _ => false
theorem eqPs_iff : ∀ (ps qs : List PortV), eqPs ps qs = true ↔ ps = qs
  | [], [] => by simp [eqPs]
  | [], _ :: _ => by simp [eqPs]
  | _ :: _, [] => by simp [eqPs]
  | p :: ps, q :: qs => by simp [eqPs, Bool.and_eq_true, PortV.eqEnc, eqPs_iff ps qs]
theorem eqPs_drop (ps qs : List PortV) (k : Nat) (h1 : k < ps.length) (h2 : k < qs.length) : eqPs (ps.drop k) (qs.drop k) = (allEq (ps[k]).enc (qs[k]).enc && eqPs (ps.drop (k + 1)) (qs.drop (k + 1))) := by
  rw [List.drop_eq_getElem_cons h1, List.drop_eq_getElem_cons h2]; rfl
theorem eqPs_len {ps qs : List PortV} (h : ps.length ≠ qs.length) : eqPs ps qs = false := by
  cases e : eqPs ps qs with
  | false => rfl
  | true => exact absurd (congrArg List.length ((eqPs_iff _ _).1 e)) h
theorem ok_PEqual : (match Try.f59.body with | some c => codeOk Try.f59.ntmps c | none => false) = true := by kernel_rfl
theorem en_PEqual : ∃ fn, Try.prog.funcs[59]? = some fn ∧ (fn.name == "runtime.NumGoroutine") = false ∧ fn.body.isNone = false := ⟨_, Try.func59, by kernel_rfl, by kernel_rfl⟩
theorem PEqual_w (ps qs : List PortV) (A A' : Option Addr) (c c' : Nat) (w : World) (hs : SlAt w A 61 (ps.map PortV.enc)) (hs' : SlAt w A' 61 (qs.map PortV.enc)) (hl : ps.length ≤ 1000) (hl' : qs.length ≤ 1000) : PuAt Try.prog 59 [.slice A ps.length c, .slice A' qs.length c'] (.bool (eqPs ps qs)) w := by
  refine funcR_pure tyOk wide Try.func59 ok_PEqual (Nat.le_of_ble_eq_true rfl) ?_
  repeat' first
    | (conv => whnf
       first
       | intro _
       | (first | refine selSplit (fun h => ?_) (fun h => ?_) | refine condSplit (fun h => ?_) (fun h => ?_)) <;> first | exact (clash (by assumption) h).elim | exact (clash h (by assumption)).elim | (simp only [decide_eq_true_eq, decide_eq_false_iff_not, Bool.not_eq_true', Bool.not_eq_false', Bool.not_true, Bool.not_false, Bool.or_eq_true, Bool.and_eq_true, Bool.or_eq_false_iff, Bool.and_eq_false_iff, beq_iff_eq, beq_eq_false_iff_ne, ne_eq] at h; first | (exfalso; omega) | skip) | skip
       | (first | refine drM (.quiet 0 (.quiet 1 (.quiet 2 (.quiet 3 (.quiet 4 (.quiet 5 (.quiet 6 (.quiet 7 (.quiet 8 .done))))))))) (SubL.refl _) ?_)
       | refine AltP.mk ?_ ?_
       | refine kpM ?_
       | refine SeqP.go ?_
       | refine cdM ?_
       | exact IsV.mk
       | apply GuardP.mk
       | (first | refine eqlW eqS28 rfl rfl rfl fitM fitM ?_ | refine neqW eqS28 rfl rfl rfl fitM fitM ?_)
       | refine Or.inl ⟨_, _, hasM, ?_⟩
       | refine Or.inl ⟨_, _, _, holeM, rfl, rfl, ?_⟩
       | refine lA ?_
       | refine lA0 ?_
       | refine lA1 ?_
       | refine lO ?_
       | refine lO0 ?_
       | refine lO1 ?_
       | refine lR ?_
       | refine lG ?_
       | refine lG0 ?_
       | refine tA ?_
       | refine tA0 ?_
       | refine tA1 ?_
       | refine BytW.ofBlk hasM rfl rfl ?_
       | refine AppW.noneB hasM leM rfl rfl rfl leM leM ?_
       | refine AppW.rowB hasM leM rfl rfl holeM leM leM ?_
       | refine AppW.blkB hasM leM rfl rfl holeM rfl rfl leM leM ?_
       | refine AppW.rowS hasM leM rfl rfl holeM (by omega) leM ?_
       | refine AppW.arrS hasM leM rfl rfl rfl holeM (by first | omega | (simp; omega)) leM ?_
       | refine ⟨sideM, ?_⟩
       | fail)
  all_goals (try conv => whnf)
  · refine v_bool ?_
    rw [eqPs_len]; omega
  · refine .mk Nat (fun k S H => (k ≤ ps.length ∧ eqPs ps qs = eqPs (ps.drop k) (qs.drop k)) ∧ S = [(13, .int .i64 k), (12, .int .i64 ps.length), (0, .slice A ps.length c), (1, .slice A' qs.length c')] ∧ H = []) (fun k => ps.length - k) 0 _ _ ⟨⟨by omega, rfl⟩, rfl, rfl⟩ subM (Ent.of keepM) ?_
    rintro k S1 H1 ⟨⟨hk, he⟩, rfl, rfl⟩
    by_cases hk2 : k < ps.length
    · obtain ⟨b, o, e, _⟩ := hs.at_ (by simp; omega)
      obtain ⟨b', o', e', _⟩ := hs'.at_ (by simp; omega)
      subst e e'
      have o1 := hs.old (X := []) (by simp; omega) (by simp)
      have o2 := hs'.old (X := []) (by simp; omega) (by simp)
      have g1 : (ps.map PortV.enc)[k]? = some (ps[k]).enc := mapGet hk2
      have g2 : (qs.map PortV.enc)[k]? = some (qs[k]'(by omega)).enc := mapGet (by omega)
      have hd := eqPs_drop ps qs k hk2 (by omega)
      repeat' first
        | (conv => whnf
           first
           | intro _
           | (first | refine selSplit (fun h => ?_) (fun h => ?_) | refine condSplit (fun h => ?_) (fun h => ?_)) <;> first | exact (clash (by assumption) h).elim | exact (clash h (by assumption)).elim | (simp only [decide_eq_true_eq, decide_eq_false_iff_not, Bool.not_eq_true', Bool.not_eq_false', Bool.not_true, Bool.not_false, Bool.or_eq_true, Bool.and_eq_true, Bool.or_eq_false_iff, Bool.and_eq_false_iff, beq_iff_eq, beq_eq_false_iff_ne, ne_eq] at h; first | (exfalso; omega) | skip) | skip
           | (first | refine drM (.quiet 0 (.quiet 1 (.quiet 2 (.quiet 3 (.quiet 4 (.quiet 5 (.quiet 6 (.quiet 7 (.quiet 8 .done))))))))) (SubL.refl _) ?_)
           | refine AltP.mk ?_ ?_
           | refine kpM ?_
           | refine SeqP.go ?_
           | refine cdM ?_
           | exact IsV.mk
           | apply GuardP.mk
           | (first | refine eqlW eqS28 rfl rfl rfl fitM fitM ?_ | refine neqW eqS28 rfl rfl rfl fitM fitM ?_)
           | refine Or.inl ⟨_, _, hasM, ?_⟩
           | refine Or.inl ⟨_, _, _, holeM, rfl, rfl, ?_⟩
           | refine lA ?_
           | refine lA0 ?_
           | refine lA1 ?_
           | refine lO ?_
           | refine lO0 ?_
           | refine lO1 ?_
           | refine lR ?_
           | refine lG ?_
           | refine lG0 ?_
           | refine tA ?_
           | refine tA0 ?_
           | refine tA1 ?_
           | refine BytW.ofBlk hasM rfl rfl ?_
           | refine AppW.noneB hasM leM rfl rfl rfl leM leM ?_
           | refine AppW.rowB hasM leM rfl rfl holeM leM leM ?_
           | refine AppW.blkB hasM leM rfl rfl holeM rfl rfl leM leM ?_
           | refine AppW.rowS hasM leM rfl rfl holeM (by omega) leM ?_
           | refine AppW.arrS hasM leM rfl rfl rfl holeM (by first | omega | (simp; omega)) leM ?_
           | refine ⟨sideM, ?_⟩
           | fail)
      all_goals (try conv => whnf)
      all_goals first
        | (exfalso; omega)
        | (refine v_bool ?_; rw [he, hd, show allEq (ps[k]).enc (qs[k]'(by omega)).enc = false from h]; rfl)
        | (rw [show allEq (ps[k]).enc (qs[k]'(by omega)).enc = true from h, Bool.true_and] at hd; exact .mk (k + 1) _ _ (by omega) ⟨⟨by omega, by rw [he, hd]⟩, rfl, rfl⟩ subM (Ent.of keepM))
    · skip
      repeat' first
        | (conv => whnf
           first
           | intro _
           | (first | refine selSplit (fun h => ?_) (fun h => ?_) | refine condSplit (fun h => ?_) (fun h => ?_)) <;> first | exact (clash (by assumption) h).elim | exact (clash h (by assumption)).elim | (simp only [decide_eq_true_eq, decide_eq_false_iff_not, Bool.not_eq_true', Bool.not_eq_false', Bool.not_true, Bool.not_false, Bool.or_eq_true, Bool.and_eq_true, Bool.or_eq_false_iff, Bool.and_eq_false_iff, beq_iff_eq, beq_eq_false_iff_ne, ne_eq] at h; first | (exfalso; omega) | skip) | skip
           | (first | refine drM (.quiet 0 (.quiet 1 (.quiet 2 (.quiet 3 (.quiet 4 (.quiet 5 (.quiet 6 (.quiet 7 (.quiet 8 .done))))))))) (SubL.refl _) ?_)
           | refine AltP.mk ?_ ?_
           | refine kpM ?_
           | refine SeqP.go ?_
           | refine cdM ?_
           | exact IsV.mk
           | apply GuardP.mk
           | (first | refine eqlW eqS28 rfl rfl rfl fitM fitM ?_ | refine neqW eqS28 rfl rfl rfl fitM fitM ?_)
           | refine Or.inl ⟨_, _, hasM, ?_⟩
           | refine Or.inl ⟨_, _, _, holeM, rfl, rfl, ?_⟩
           | refine lA ?_
           | refine lA0 ?_
           | refine lA1 ?_
           | refine lO ?_
           | refine lO0 ?_
           | refine lO1 ?_
           | refine lR ?_
           | refine lG ?_
           | refine lG0 ?_
           | refine tA ?_
           | refine tA0 ?_
           | refine tA1 ?_
           | refine BytW.ofBlk hasM rfl rfl ?_
           | refine AppW.noneB hasM leM rfl rfl rfl leM leM ?_
           | refine AppW.rowB hasM leM rfl rfl holeM leM leM ?_
           | refine AppW.blkB hasM leM rfl rfl holeM rfl rfl leM leM ?_
           | refine AppW.rowS hasM leM rfl rfl holeM (by omega) leM ?_
           | refine AppW.arrS hasM leM rfl rfl rfl holeM (by first | omega | (simp; omega)) leM ?_
           | refine ⟨sideM, ?_⟩
           | fail)
      all_goals (try conv => whnf)
      all_goals first
        | (exfalso; omega)
        | (refine v_bool ?_; rw [he, List.drop_of_length_le (by omega), List.drop_of_length_le (by omega)]; rfl)
theorem PEqual_n (ps qs : List PortV) (n n' : Nat) (hn : ps.length = n) (hn' : qs.length = n') (A A' : Option Addr) (c c' : Nat) (w : World) (hs : SlAt w A 61 (ps.map PortV.enc)) (hs' : SlAt w A' 61 (qs.map PortV.enc)) (hl : n ≤ 1000) (hl' : n' ≤ 1000) : PuAt Try.prog 59 [.slice A n c, .slice A' n' c'] (.bool (eqPs ps qs)) w := by
  subst hn hn'; exact PEqual_w ps qs A A' c c' w hs hs' hl hl'
end Go.Proofs.Ytmgoahmbdpoikaa.Am
