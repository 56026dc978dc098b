/- Ports cloned; ports as the document has them. -/
import Derived.Test.YtmgoahmbdpoikaaStr
import Derived.Test.YtmgoahmbdpoikaaAm17
set_option linter.unusedVariables false
set_option linter.unusedSimpArgs false
set_option maxRecDepth 100000
set_option maxHeartbeats 4000000
namespace Go.Proofs.Ytmgoahmbdpoikaa.Am
open Go Go.RowKit
/-- Ports' cells are one cell each. -/
theorem PortV.one (p : PortV) : p.enc.all (·.oneCell') = true := rfl
theorem ports_one (ps : List PortV) : (ps.map PortV.enc).flatten.all (·.oneCell') = true := by
  induction ps with
  | nil => rfl
  | cons p ps ih => rw [List.map_cons, List.flatten_cons, List.all_append, ih, p.one]; rfl
theorem ports_len (ps : List PortV) : ∀ x ∈ ps.map PortV.enc, x.length = 61 := by
  intro x hx
  obtain ⟨p, _, rfl⟩ := List.mem_map.1 hx
  rfl
theorem ok_PClone : (match Try.f47.body with | some c => codeOk Try.f47.ntmps c | none => false) = true := by kernel_rfl
theorem en_PClone : ∃ fn, Try.prog.funcs[47]? = some fn ∧ (fn.name == "runtime.NumGoroutine") = false ∧ fn.body.isNone = false := ⟨_, Try.func47, by kernel_rfl, by kernel_rfl⟩
theorem PClone_w (ps : List PortV) (A : Option Addr) (c : Nat) (w : World) (h : SlAt w A 61 (ps.map PortV.enc)) (hb : ps.length ≤ 1000) : FnX Try.prog 47 [.slice A ps.length c] [] (fun s : Option Addr × Nat => IsRow (.slice s.1 ps.length s.2) ps.length) (fun s => .slice s.1 ps.length s.2) (fun s => [.arr (.slice s.1 ps.length s.2) 28 61 (ps.map PortV.enc)]) w := by
  refine funcR_x tyOk wide Try.func47 ok_PClone (Nat.le_of_ble_eq_true rfl) (St.start0 w) ?_
  cases A with
  | none =>
    obtain rfl : ps = [] := by
      cases ps with
      | nil => rfl
      | cons p ps => obtain ⟨b, o, e, _⟩ := h.at_ (by simp); cases e
    repeat' first
      | (conv => whnf
         first
         | intro _
         | (first | refine selSplit (fun h => ?_) (fun h => ?_) | refine condSplit (fun h => ?_) (fun h => ?_)) <;> first | exact (clash (by assumption) h).elim | exact (clash h (by assumption)).elim | (simp only [decide_eq_true_eq, decide_eq_false_iff_not, Bool.not_eq_true', Bool.not_eq_false', Bool.not_true, Bool.not_false, Bool.or_eq_true, Bool.and_eq_true, Bool.or_eq_false_iff, Bool.and_eq_false_iff, beq_iff_eq, beq_eq_false_iff_ne, ne_eq] at h; first | (exfalso; omega) | skip) | skip
         | refine SeqP.go ?_
         | refine cdM ?_
         | exact IsV.mk
         | apply GuardP.mk
         | refine Or.inl ⟨_, _, hasM, ?_⟩
         | refine Or.inl ⟨_, _, _, holeM, rfl, rfl, ?_⟩
         | refine lA ?_
         | refine lA0 ?_
         | refine lA1 ?_
         | refine lO ?_
         | refine lO0 ?_
         | refine lO1 ?_
         | refine lR ?_
         | refine lG ?_
         | refine lG0 ?_
         | refine tA ?_
         | refine tA0 ?_
         | refine tA1 ?_
         | refine BytW.ofBlk hasM rfl rfl ?_
         | refine AppW.noneB hasM leM rfl rfl rfl leM leM ?_
         | refine AppW.rowB hasM leM rfl rfl holeM leM leM ?_
         | refine AppW.blkB hasM leM rfl rfl holeM rfl rfl leM leM ?_
         | refine AppW.rowS hasM leM rfl rfl holeM (by omega) leM ?_
         | refine AppW.arrS hasM leM rfl rfl rfl holeM (by first | omega | (simp; omega)) leM ?_
         | refine ⟨sideM, ?_⟩
         | fail)
    all_goals (try conv => whnf)
    all_goals exact ⟨(none, 0), .inl ⟨rfl, rfl⟩, rfl, nilArr⟩
  | some a =>
    cases ps with
    | nil =>
      obtain ⟨b, o, _ | sp⟩ := a
      · have ho : Old w [] b o 61 [] := ⟨by simp, fun H w hw j v hv => by simp at hv⟩
        repeat' first
          | (conv => whnf
             first
             | intro _
             | (first | refine selSplit (fun h => ?_) (fun h => ?_) | refine condSplit (fun h => ?_) (fun h => ?_)) <;> first | exact (clash (by assumption) h).elim | exact (clash h (by assumption)).elim | (simp only [decide_eq_true_eq, decide_eq_false_iff_not, Bool.not_eq_true', Bool.not_eq_false', Bool.not_true, Bool.not_false, Bool.or_eq_true, Bool.and_eq_true, Bool.or_eq_false_iff, Bool.and_eq_false_iff, beq_iff_eq, beq_eq_false_iff_ne, ne_eq] at h; first | (exfalso; omega) | skip) | skip
             | refine SeqP.go ?_
             | refine cdM ?_
             | exact IsV.mk
             | apply GuardP.mk
             | (refine AppW.cloneS (l := []) ho (Nat.le_of_ble_eq_true rfl) rfl holeM rfl rfl (Nat.zero_le _) (Nat.le_of_ble_eq_true rfl) ?_)
             | refine Or.inl ⟨_, _, hasM, ?_⟩
             | refine Or.inl ⟨_, _, _, holeM, rfl, rfl, ?_⟩
             | refine lA ?_
             | refine lA0 ?_
             | refine lA1 ?_
             | refine lO ?_
             | refine lO0 ?_
             | refine lO1 ?_
             | refine lR ?_
             | refine lG ?_
             | refine lG0 ?_
             | refine tA ?_
             | refine tA0 ?_
             | refine tA1 ?_
             | refine BytW.ofBlk hasM rfl rfl ?_
             | refine AppW.noneB hasM leM rfl rfl rfl leM leM ?_
             | refine AppW.rowB hasM leM rfl rfl holeM leM leM ?_
             | refine AppW.blkB hasM leM rfl rfl holeM rfl rfl leM leM ?_
             | refine AppW.rowS hasM leM rfl rfl holeM (by omega) leM ?_
             | refine AppW.arrS hasM leM rfl rfl rfl holeM (by first | omega | (simp; omega)) leM ?_
             | refine ⟨sideM, ?_⟩
             | fail)
        all_goals (try conv => whnf)
        all_goals exact ⟨(_, _), by assumption, rfl, Ent.refl⟩
      · skip
        repeat' first
          | (conv => whnf
             first
             | intro _
             | (first | refine selSplit (fun h => ?_) (fun h => ?_) | refine condSplit (fun h => ?_) (fun h => ?_)) <;> first | exact (clash (by assumption) h).elim | exact (clash h (by assumption)).elim | (simp only [decide_eq_true_eq, decide_eq_false_iff_not, Bool.not_eq_true', Bool.not_eq_false', Bool.not_true, Bool.not_false, Bool.or_eq_true, Bool.and_eq_true, Bool.or_eq_false_iff, Bool.and_eq_false_iff, beq_iff_eq, beq_eq_false_iff_ne, ne_eq] at h; first | (exfalso; omega) | skip) | skip
             | refine SeqP.go ?_
             | refine cdM ?_
             | exact IsV.mk
             | apply GuardP.mk
             | (refine appNil rfl rfl rfl rfl Try.underlying34 Try.underlying34 (by kernel_rfl) rfl rfl (Nat.le_refl _) ?_)
             | refine Or.inl ⟨_, _, hasM, ?_⟩
             | refine Or.inl ⟨_, _, _, holeM, rfl, rfl, ?_⟩
             | refine lA ?_
             | refine lA0 ?_
             | refine lA1 ?_
             | refine lO ?_
             | refine lO0 ?_
             | refine lO1 ?_
             | refine lR ?_
             | refine lG ?_
             | refine lG0 ?_
             | refine tA ?_
             | refine tA0 ?_
             | refine tA1 ?_
             | refine BytW.ofBlk hasM rfl rfl ?_
             | refine AppW.noneB hasM leM rfl rfl rfl leM leM ?_
             | refine AppW.rowB hasM leM rfl rfl holeM leM leM ?_
             | refine AppW.blkB hasM leM rfl rfl holeM rfl rfl leM leM ?_
             | refine AppW.rowS hasM leM rfl rfl holeM (by omega) leM ?_
             | refine AppW.arrS hasM leM rfl rfl rfl holeM (by first | omega | (simp; omega)) leM ?_
             | refine ⟨sideM, ?_⟩
             | fail)
        all_goals (try conv => whnf)
        all_goals exact ⟨(_, _), .inr ⟨_, _, rfl, Nat.le_refl _⟩, rfl, blkArr0⟩
    | cons p ps =>
      obtain ⟨b, o, e, hr⟩ := h.at_ (by simp)
      cases e
      have ho := h.old (X := []) (by simp) (by simp)
      have hone := ports_one (p :: ps)
      repeat' first
        | (conv => whnf
           first
           | intro _
           | (first | refine selSplit (fun h => ?_) (fun h => ?_) | refine condSplit (fun h => ?_) (fun h => ?_)) <;> first | exact (clash (by assumption) h).elim | exact (clash h (by assumption)).elim | (simp only [decide_eq_true_eq, decide_eq_false_iff_not, Bool.not_eq_true', Bool.not_eq_false', Bool.not_true, Bool.not_false, Bool.or_eq_true, Bool.and_eq_true, Bool.or_eq_false_iff, Bool.and_eq_false_iff, beq_iff_eq, beq_eq_false_iff_ne, ne_eq] at h; first | (exfalso; omega) | skip) | skip
           | refine SeqP.go ?_
           | refine cdM ?_
           | exact IsV.mk
           | apply GuardP.mk
           | (refine AppW.cloneS (l := (p :: ps).map PortV.enc) ho (Nat.le_of_ble_eq_true rfl) hone holeM rfl (by simp) (by omega) (Nat.le_of_ble_eq_true rfl) ?_)
           | refine Or.inl ⟨_, _, hasM, ?_⟩
           | refine Or.inl ⟨_, _, _, holeM, rfl, rfl, ?_⟩
           | refine lA ?_
           | refine lA0 ?_
           | refine lA1 ?_
           | refine lO ?_
           | refine lO0 ?_
           | refine lO1 ?_
           | refine lR ?_
           | refine lG ?_
           | refine lG0 ?_
           | refine tA ?_
           | refine tA0 ?_
           | refine tA1 ?_
           | refine BytW.ofBlk hasM rfl rfl ?_
           | refine AppW.noneB hasM leM rfl rfl rfl leM leM ?_
           | refine AppW.rowB hasM leM rfl rfl holeM leM leM ?_
           | refine AppW.blkB hasM leM rfl rfl holeM rfl rfl leM leM ?_
           | refine AppW.rowS hasM leM rfl rfl holeM (by omega) leM ?_
           | refine AppW.arrS hasM leM rfl rfl rfl holeM (by first | omega | (simp; omega)) leM ?_
           | refine ⟨sideM, ?_⟩
           | fail)
      all_goals (try conv => whnf)
      all_goals exact ⟨(_, _), by assumption, rfl, Ent.refl⟩
theorem PClone_ne (ps : List PortV) (A : Option Addr) (c : Nat) (w : World) (h : SlAt w A 61 (ps.map PortV.enc)) (hb : ps.length ≤ 1000) (hp : 0 < ps.length) : FnX Try.prog 47 [.slice A ps.length c] [] (fun s : Nat × Nat => ps.length ≤ s.2) (fun s => .slice (some ⟨s.1, 0, none⟩) ps.length s.2) (fun s => [.arr (.slice (some ⟨s.1, 0, none⟩) ps.length s.2) 28 61 (ps.map PortV.enc)]) w :=
  (PClone_w ps A c w h hb).map fun s hs => by
    obtain ⟨A', c'⟩ := s
    rcases hs with ⟨_, h0⟩ | ⟨g, cap, he, hc⟩
    · omega
    · simp only [Value.slice.injEq] at he
      obtain ⟨rfl, _, rfl⟩ := he
      exact ⟨(g, c'), hc, rfl, Ent.refl⟩
theorem ok_Of : (match Try.f29.body with | some c => codeOk Try.f29.ntmps c | none => false) = true := by kernel_rfl
theorem en_Of : ∃ fn, Try.prog.funcs[29]? = some fn ∧ (fn.name == "runtime.NumGoroutine") = false ∧ fn.body.isNone = false := ⟨_, Try.func29, by kernel_rfl, by kernel_rfl⟩
theorem Of_w (p : PortV) (w : World) : PuAt Try.prog 29 [.agg ⟨p.enc⟩] (.agg ⟨p.enc⟩) w := by
  refine funcR_pure tyOk wide Try.func29 ok_Of (Nat.le_of_ble_eq_true rfl) ?_
  repeat' first
    | (conv => whnf
       first
       | intro _
       | (first | refine selSplit (fun h => ?_) (fun h => ?_) | refine condSplit (fun h => ?_) (fun h => ?_)) <;> first | exact (clash (by assumption) h).elim | exact (clash h (by assumption)).elim | (simp only [decide_eq_true_eq, decide_eq_false_iff_not, Bool.not_eq_true', Bool.not_eq_false', Bool.not_true, Bool.not_false, Bool.or_eq_true, Bool.and_eq_true, Bool.or_eq_false_iff, Bool.and_eq_false_iff, beq_iff_eq, beq_eq_false_iff_ne, ne_eq] at h; first | (exfalso; omega) | skip) | skip
       | (first | refine drM (.quiet 0 (.quiet 1 (.quiet 2 (.quiet 3 (.quiet 4 (.quiet 5 (.quiet 6 (.quiet 7 (.quiet 8 (.last 9 true (.last 10 true (.last 11 true (.last 12 true (.last 13 true (.last 14 false (.last 15 false .done)))))))))))))))) (SubL.of (List.Sublist.cons _ (List.Sublist.refl _))) ?_ | refine drM (.quiet 0 (.quiet 1 (.quiet 2 (.quiet 3 (.quiet 4 (.quiet 5 (.quiet 6 (.quiet 7 (.quiet 8 (.quiet 9 (.quiet 10 (.quiet 11 (.quiet 12 (.quiet 13 (.quiet 14 (.quiet 15 (.quiet 16 (.last 17 true (.last 18 true (.last 19 true (.last 20 true (.last 21 true (.last 22 true (.last 23 true (.last 24 true (.last 25 true (.last 26 true (.last 27 true (.last 28 true (.last 29 true (.last 30 false (.last 31 false .done)))))))))))))))))))))))))))))))) (SubL.of (List.Sublist.cons _ (List.Sublist.refl _))) ?_ | refine drM (.quiet 0 (.quiet 1 (.quiet 2 (.quiet 3 (.quiet 4 (.quiet 5 (.quiet 6 (.quiet 7 (.quiet 8 (.quiet 9 (.quiet 10 (.quiet 11 (.quiet 12 (.quiet 13 (.quiet 14 (.last 15 true (.last 16 true (.last 17 true (.last 18 true (.last 19 true (.last 20 true (.last 21 true (.last 22 true (.last 23 true (.last 24 true (.last 25 true (.last 26 false (.last 27 false .done)))))))))))))))))))))))))))) (SubL.of (List.Sublist.cons _ (List.Sublist.refl _))) ?_ | refine drM (.quiet 0 (.quiet 1 (.quiet 2 (.quiet 3 (.quiet 4 (.quiet 5 (.quiet 6 (.last 7 true (.last 8 true (.last 9 true (.last 10 false (.last 11 false .done)))))))))))) (SubL.of (List.Sublist.cons _ (List.Sublist.refl _))) ?_)
       | refine AltP.mk ?_ ?_
       | refine kpM ?_
       | refine SeqP.go ?_
       | refine cdM ?_
       | exact IsV.mk
       | apply GuardP.mk
       | refine Or.inl ⟨_, _, hasM, ?_⟩
       | refine Or.inl ⟨_, _, _, holeM, rfl, rfl, ?_⟩
       | refine lA ?_
       | refine lA0 ?_
       | refine lA1 ?_
       | refine lO ?_
       | refine lO0 ?_
       | refine lO1 ?_
       | refine lR ?_
       | refine lG ?_
       | refine lG0 ?_
       | refine tA ?_
       | refine tA0 ?_
       | refine tA1 ?_
       | refine BytW.ofBlk hasM rfl rfl ?_
       | refine AppW.noneB hasM leM rfl rfl rfl leM leM ?_
       | refine AppW.rowB hasM leM rfl rfl holeM leM leM ?_
       | refine AppW.blkB hasM leM rfl rfl holeM rfl rfl leM leM ?_
       | refine AppW.rowS hasM leM rfl rfl holeM (by omega) leM ?_
       | refine AppW.arrS hasM leM rfl rfl rfl holeM (by first | omega | (simp; omega)) leM ?_
       | refine ⟨sideM, ?_⟩
       | fail)
  all_goals (try conv => whnf)
  all_goals rfl
end Go.Proofs.Ytmgoahmbdpoikaa.Am
