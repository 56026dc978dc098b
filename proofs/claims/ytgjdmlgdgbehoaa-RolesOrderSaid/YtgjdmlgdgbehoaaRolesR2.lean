/- Package treebridgeref08: the root. -/
import Derived.Test.YtgjdmlgdgbehoaaRolesP
set_option linter.unusedVariables false
set_option linter.unusedSimpArgs false
set_option maxRecDepth 100000
set_option maxHeartbeats 4000000
namespace Go.Proofs.Ytgjdmlgdgbehoaa.Am
open Go Go.RowKit
theorem encV_eq {u v : V4} : allEq (encV u) (encV v) = true ↔ u = v := by
  obtain ⟨a, b, c, d⟩ := u
  obtain ⟨a', b', c', d'⟩ := v
  simp [encV, allEq, cellEq]
theorem ok_Root8 : (match Try.f18.body with | some c => codeOk Try.f18.ntmps c | none => false) = true := by kernel_rfl
theorem en_Root8 : ∃ fn, Try.prog.funcs[18]? = some fn ∧ (fn.name == "runtime.NumGoroutine") = false ∧ fn.body.isNone = false := ⟨_, Try.func18, by kernel_rfl, by kernel_rfl⟩
theorem Root8_w (bridge : Int) (ps : List InfoV) (n : Nat) (hn : ps.length = n) (A : Option Addr) (c : Nat) (w : World) (hs : SlAt w A 7 (ps.map InfoV.enc)) (hl : n ≤ 1000) (hb : u64N bridge) (hok : ∀ p ∈ ps, okI8 p) : PuAt Try.prog 18 [.int .u64 bridge, .slice A n c] (.tuple ⟨[.agg ⟨encV (bestV bridge ps).1⟩, .int .i64 (bestV bridge ps).2]⟩) w := by
  subst hn
  refine funcR_pure tyOk wide Try.func18 ok_Root8 (Nat.le_of_ble_eq_true rfl) ?_
  have hbest : bestV bridge ps = pairOf bridge ps (minK bridge ps ps.length) ps.length := bestK_is ps.length
  rw [hbest]
  unfold pairOf
  repeat' first
    | (conv => whnf
       first
       | intro _
       | (first | refine selSplit (fun h => ?_) (fun h => ?_) | refine condSplit (fun h => ?_) (fun h => ?_)) <;> first | exact (clash (by assumption) h).elim | exact (clash h (by assumption)).elim | (simp only [decide_eq_true_eq, decide_eq_false_iff_not, Bool.not_eq_true', Bool.not_eq_false', Bool.not_true, Bool.not_false, Bool.or_eq_true, Bool.and_eq_true, Bool.or_eq_false_iff, Bool.and_eq_false_iff, beq_iff_eq, beq_eq_false_iff_ne, ne_eq] at h; first | (exfalso; omega) | skip) | skip
       | (first | refine drC (.quiet 0 (.quiet 1 (.quiet 2 (.quiet 3 (.quiet 4 (.quiet 5 (.quiet 6 (.quiet 7 (.quiet 8 (.quiet 9 (.quiet 10 (.quiet 11 (.quiet 12 (.quiet 13 (.quiet 14 (.quiet 15 (.quiet 16 (.quiet 17 (.quiet 18 (.quiet 19 (.quiet 20 (.quiet 21 (.quiet 22 .done))))))))))))))))))))))) (SubL.refl _) ?_)
       | refine AltP.mk ?_ ?_
       | refine kpM ?_
       | refine SeqP.go ?_
       | refine cdM ?_
       | exact IsV.mk
       | apply GuardP.mk
       | (first | refine eqlW eqS28 rfl rfl rfl fitM fitM ?_ | refine neqW eqS28 rfl rfl rfl fitM fitM ?_)
       | refine Or.inl ⟨_, _, hasM, ?_⟩
       | refine Or.inl ⟨_, _, _, holeM, rfl, rfl, ?_⟩
       | refine lA ?_
       | refine lA0 ?_
       | refine lA1 ?_
       | refine lO ?_
       | refine lO0 ?_
       | refine lO1 ?_
       | refine lR ?_
       | refine lG ?_
       | refine lG0 ?_
       | refine tA ?_
       | refine tA0 ?_
       | refine tA1 ?_
       | refine BytW.ofBlk hasM rfl rfl ?_
       | refine AppW.noneB hasM leM rfl rfl rfl leM leM ?_
       | refine AppW.rowB hasM leM rfl rfl holeM leM leM ?_
       | refine AppW.blkB hasM leM rfl rfl holeM rfl rfl leM leM ?_
       | refine AppW.rowS hasM leM rfl rfl holeM (by omega) leM ?_
       | refine AppW.arrS hasM leM rfl rfl rfl holeM (by first | omega | (simp; omega)) leM ?_
       | refine ⟨sideM, ?_⟩
       | fail)
  all_goals (try conv => whnf)
  rename_i b4 b6
  refine .mk Nat (fun k S H => k ≤ ps.length ∧ S = [(7, .int .i64 k), (6, .pointer (some ⟨b6, 0, none⟩)), (4, .pointer (some ⟨b4, 0, none⟩)), (1, .slice A ps.length c), (0, .int .u64 bridge)] ∧ H = [.blk b6 (encV (minK bridge ps k)) 28, .blk b4 td28.zero 28]) (fun k => ps.length - k) 0 _ _ ⟨by omega, rfl, rfl⟩ subM entM ?_
  rintro k S1 H1 ⟨hk, rfl, rfl⟩
  by_cases hk2 : k < ps.length
  · obtain ⟨b, o, e, _⟩ := hs.at_ (by simp; omega)
    subst e
    have o1 := hs.old (X := []) (by simp; omega) (by simp)
    obtain ⟨x, hx⟩ : ∃ x, ps[k] = x := ⟨_, rfl⟩
    have g1 : (ps.map InfoV.enc)[k]? = some x.enc := by rw [← hx]; exact mapGet hk2
    have hxo : okI8 x := hok x (by rw [← hx]; exact List.getElem_mem hk2)
    have hm := minK_succ (bridge := bridge) (ps := ps) (k := k) (p := x) (by rw [List.getElem?_eq_getElem hk2, hx])
    have cW := fun w => Way8_w bridge x hb hxo w
    unfold minS at hm
    generalize minK bridge ps k = m at *
    cases hw : wayV bridge x with
    | none =>
      rw [hw] at cW hm
      repeat' first
        | (conv => whnf
           first
           | intro _
           | (first | refine selSplit (fun h => ?_) (fun h => ?_) | refine condSplit (fun h => ?_) (fun h => ?_)) <;> first | exact (clash (by assumption) h).elim | exact (clash h (by assumption)).elim | (simp only [decide_eq_true_eq, decide_eq_false_iff_not, Bool.not_eq_true', Bool.not_eq_false', Bool.not_true, Bool.not_false, Bool.or_eq_true, Bool.and_eq_true, Bool.or_eq_false_iff, Bool.and_eq_false_iff, beq_iff_eq, beq_eq_false_iff_ne, ne_eq] at h; first | (exfalso; omega) | skip) | skip
           | (first | refine drC (.quiet 0 (.quiet 1 (.quiet 2 (.quiet 3 (.quiet 4 (.quiet 5 (.quiet 6 (.quiet 7 (.quiet 8 (.quiet 9 (.quiet 10 (.quiet 11 (.quiet 12 (.quiet 13 (.quiet 14 (.quiet 15 (.quiet 16 (.quiet 17 (.quiet 18 (.quiet 19 (.quiet 20 (.quiet 21 (.quiet 22 .done))))))))))))))))))))))) (SubL.refl _) ?_)
           | refine AltP.mk ?_ ?_
           | refine kpM ?_
           | refine SeqP.go ?_
           | refine cdM ?_
           | exact IsV.mk
           | apply GuardP.mk
           | ((first | apply callPure' en_Way8 | apply callQuiet' en_Way8); · exact fun w _ => cW w)
           | ((first | apply callPure' en_cmp5 | apply callQuiet' en_cmp5); · exact fun w _ => cmp5_w _ m w)
           | (first | refine eqlW eqS28 rfl rfl rfl fitM fitM ?_ | refine neqW eqS28 rfl rfl rfl fitM fitM ?_)
           | refine Or.inl ⟨_, _, hasM, ?_⟩
           | refine Or.inl ⟨_, _, _, holeM, rfl, rfl, ?_⟩
           | refine lA ?_
           | refine lA0 ?_
           | refine lA1 ?_
           | refine lO ?_
           | refine lO0 ?_
           | refine lO1 ?_
           | refine lR ?_
           | refine lG ?_
           | refine lG0 ?_
           | refine tA ?_
           | refine tA0 ?_
           | refine tA1 ?_
           | refine BytW.ofBlk hasM rfl rfl ?_
           | refine AppW.noneB hasM leM rfl rfl rfl leM leM ?_
           | refine AppW.rowB hasM leM rfl rfl holeM leM leM ?_
           | refine AppW.blkB hasM leM rfl rfl holeM rfl rfl leM leM ?_
           | refine AppW.rowS hasM leM rfl rfl holeM (by omega) leM ?_
           | refine AppW.arrS hasM leM rfl rfl rfl holeM (by first | omega | (simp; omega)) leM ?_
           | refine ⟨sideM, ?_⟩
           | fail)
      all_goals (try conv => whnf)
      all_goals first
        | (exfalso; omega)
        | exact .mk (k + 1) _ _ (by omega) ⟨hk2, rfl, rfl⟩ subM (by rw [hm]; exact entM)
    | some u =>
      rw [hw] at cW hm
      dsimp only at hm
      repeat' first
        | (conv => whnf
           first
           | intro _
           | (first | refine selSplit (fun h => ?_) (fun h => ?_) | refine condSplit (fun h => ?_) (fun h => ?_)) <;> first | exact (clash (by assumption) h).elim | exact (clash h (by assumption)).elim | (simp only [decide_eq_true_eq, decide_eq_false_iff_not, Bool.not_eq_true', Bool.not_eq_false', Bool.not_true, Bool.not_false, Bool.or_eq_true, Bool.and_eq_true, Bool.or_eq_false_iff, Bool.and_eq_false_iff, beq_iff_eq, beq_eq_false_iff_ne, ne_eq] at h; first | (exfalso; omega) | skip) | skip
           | (first | refine drC (.quiet 0 (.quiet 1 (.quiet 2 (.quiet 3 (.quiet 4 (.quiet 5 (.quiet 6 (.quiet 7 (.quiet 8 (.quiet 9 (.quiet 10 (.quiet 11 (.quiet 12 (.quiet 13 (.quiet 14 (.quiet 15 (.quiet 16 (.quiet 17 (.quiet 18 (.quiet 19 (.quiet 20 (.quiet 21 (.quiet 22 .done))))))))))))))))))))))) (SubL.refl _) ?_)
           | refine AltP.mk ?_ ?_
           | refine kpM ?_
           | refine SeqP.go ?_
           | refine cdM ?_
           | exact IsV.mk
           | apply GuardP.mk
           | ((first | apply callPure' en_Way8 | apply callQuiet' en_Way8); · exact fun w _ => cW w)
           | ((first | apply callPure' en_cmp5 | apply callQuiet' en_cmp5); · exact fun w _ => cmp5_w u m w)
           | (first | refine eqlW eqS28 rfl rfl rfl fitM fitM ?_ | refine neqW eqS28 rfl rfl rfl fitM fitM ?_)
           | refine Or.inl ⟨_, _, hasM, ?_⟩
           | refine Or.inl ⟨_, _, _, holeM, rfl, rfl, ?_⟩
           | refine lA ?_
           | refine lA0 ?_
           | refine lA1 ?_
           | refine lO ?_
           | refine lO0 ?_
           | refine lO1 ?_
           | refine lR ?_
           | refine lG ?_
           | refine lG0 ?_
           | refine tA ?_
           | refine tA0 ?_
           | refine tA1 ?_
           | refine BytW.ofBlk hasM rfl rfl ?_
           | refine AppW.noneB hasM leM rfl rfl rfl leM leM ?_
           | refine AppW.rowB hasM leM rfl rfl holeM leM leM ?_
           | refine AppW.blkB hasM leM rfl rfl holeM rfl rfl leM leM ?_
           | refine AppW.rowS hasM leM rfl rfl holeM (by omega) leM ?_
           | refine AppW.arrS hasM leM rfl rfl rfl holeM (by first | omega | (simp; omega)) leM ?_
           | refine ⟨sideM, ?_⟩
           | fail)
      all_goals (try conv => whnf)
      all_goals first
        | (exfalso; omega)
        | (rw [if_pos (by grind)] at hm; exact .mk (k + 1) _ _ (by omega) ⟨hk2, rfl, rfl⟩ subM (by rw [hm]; exact entM))
        | (rw [if_neg (by grind)] at hm; exact .mk (k + 1) _ _ (by omega) ⟨hk2, rfl, rfl⟩ subM (by rw [hm]; exact entM))
  · obtain rfl : k = ps.length := by omega
    clear hk
    have hP := fun k => portK_at (bridge := bridge) (ps := ps) (minK bridge ps ps.length) k
    have hS := fun k p h => portK_succ (bridge := bridge) (ps := ps) (k := k) (p := p) (v := minK bridge ps ps.length) h
    generalize minK bridge ps ps.length = m at *
    repeat' first
      | (conv => whnf
         first
         | intro _
         | (first | refine selSplit (fun h => ?_) (fun h => ?_) | refine condSplit (fun h => ?_) (fun h => ?_)) <;> first | exact (clash (by assumption) h).elim | exact (clash h (by assumption)).elim | (simp only [decide_eq_true_eq, decide_eq_false_iff_not, Bool.not_eq_true', Bool.not_eq_false', Bool.not_true, Bool.not_false, Bool.or_eq_true, Bool.and_eq_true, Bool.or_eq_false_iff, Bool.and_eq_false_iff, beq_iff_eq, beq_eq_false_iff_ne, ne_eq] at h; first | (exfalso; omega) | skip) | skip
         | (first | refine drC (.quiet 0 (.quiet 1 (.quiet 2 (.quiet 3 (.quiet 4 (.quiet 5 (.quiet 6 (.quiet 7 (.quiet 8 (.quiet 9 (.quiet 10 (.quiet 11 (.quiet 12 (.quiet 13 (.quiet 14 (.quiet 15 (.quiet 16 (.quiet 17 (.quiet 18 (.quiet 19 (.quiet 20 (.quiet 21 (.quiet 22 .done))))))))))))))))))))))) (SubL.refl _) ?_)
         | refine AltP.mk ?_ ?_
         | refine kpM ?_
         | refine SeqP.go ?_
         | refine cdM ?_
         | exact IsV.mk
         | apply GuardP.mk
         | (first | refine eqlW eqS28 rfl rfl rfl fitM fitM ?_ | refine neqW eqS28 rfl rfl rfl fitM fitM ?_)
         | refine Or.inl ⟨_, _, hasM, ?_⟩
         | refine Or.inl ⟨_, _, _, holeM, rfl, rfl, ?_⟩
         | refine lA ?_
         | refine lA0 ?_
         | refine lA1 ?_
         | refine lO ?_
         | refine lO0 ?_
         | refine lO1 ?_
         | refine lR ?_
         | refine lG ?_
         | refine lG0 ?_
         | refine tA ?_
         | refine tA0 ?_
         | refine tA1 ?_
         | refine BytW.ofBlk hasM rfl rfl ?_
         | refine AppW.noneB hasM leM rfl rfl rfl leM leM ?_
         | refine AppW.rowB hasM leM rfl rfl holeM leM leM ?_
         | refine AppW.blkB hasM leM rfl rfl holeM rfl rfl leM leM ?_
         | refine AppW.rowS hasM leM rfl rfl holeM (by omega) leM ?_
         | refine AppW.arrS hasM leM rfl rfl rfl holeM (by first | omega | (simp; omega)) leM ?_
         | refine ⟨sideM, ?_⟩
         | fail)
    all_goals (try conv => whnf)
    · have e : m = mineV bridge := encV_eq.1 h
      rw [if_pos e]; rfl
    · have hne : ¬ m = mineV bridge := fun q => by
        have := encV_eq.2 q
        exact absurd (this.symm.trans h) (by decide)
      rw [if_neg hne]
      refine .mk Nat (fun k S H => k ≤ ps.length ∧ S = [(11, .int .i64 k), (10, .int .i64 (portK bridge ps m k)), (6, .pointer (some ⟨b6, 0, none⟩)), (4, .pointer (some ⟨b4, 0, none⟩)), (1, .slice A ps.length c), (0, .int .u64 bridge)] ∧ H = [.blk b6 (encV m) 28, .blk b4 td28.zero 28]) (fun k => ps.length - k) 0 _ _ ⟨by omega, rfl, rfl⟩ subM entM ?_
      rintro k S1 H1 ⟨hk, rfl, rfl⟩
      by_cases hk2 : k < ps.length
      · obtain ⟨b, o, e, _⟩ := hs.at_ (by simp; omega)
        subst e
        have o1 := hs.old (X := []) (by simp; omega) (by simp)
        obtain ⟨x, hx⟩ : ∃ x, ps[k] = x := ⟨_, rfl⟩
        have g1 : (ps.map InfoV.enc)[k]? = some x.enc := by rw [← hx]; exact mapGet hk2
        have hxo : okI8 x := hok x (by rw [← hx]; exact List.getElem_mem hk2)
        have cW := fun w => Way8_w bridge x hb hxo w
        have hSk := hS k x (by rw [List.getElem?_eq_getElem hk2, hx])
        have hPk := hP k
        generalize portK bridge ps m k = at_ at *
        have ha : at_.toNat < ps.length := by omega
        obtain ⟨y, hy⟩ : ∃ y, ps[at_.toNat] = y := ⟨_, rfl⟩
        have g2 : (ps.map InfoV.enc)[at_.toNat]? = some y.enc := by rw [← hy]; exact mapGet ha
        have e2 : idAt ps at_ = y.Id := by unfold idAt; rw [List.getElem?_eq_getElem ha, hy]; rfl
        rw [e2] at hSk
        cases hw : wayV bridge x with
        | none =>
          rw [hw] at cW hSk
          have hSk2 : portK bridge ps m (k + 1) = at_ := by rw [hSk, if_neg (fun q => by cases q.1)]
          repeat' first
            | (conv => whnf
               first
               | intro _
               | (first | refine selSplit (fun h => ?_) (fun h => ?_) | refine condSplit (fun h => ?_) (fun h => ?_)) <;> first | exact (clash (by assumption) h).elim | exact (clash h (by assumption)).elim | (simp only [decide_eq_true_eq, decide_eq_false_iff_not, Bool.not_eq_true', Bool.not_eq_false', Bool.not_true, Bool.not_false, Bool.or_eq_true, Bool.and_eq_true, Bool.or_eq_false_iff, Bool.and_eq_false_iff, beq_iff_eq, beq_eq_false_iff_ne, ne_eq] at h; first | (exfalso; omega) | skip) | skip
               | (first | refine drM (.quiet 0 (.quiet 1 (.quiet 2 (.quiet 3 (.quiet 4 (.quiet 5 (.quiet 6 (.quiet 7 (.quiet 8 (.quiet 9 (.quiet 10 (.quiet 11 (.quiet 12 (.quiet 13 (.quiet 14 (.quiet 15 (.quiet 16 (.quiet 17 (.quiet 18 (.quiet 19 (.quiet 20 (.quiet 21 (.quiet 22 .done))))))))))))))))))))))) (SubL.refl _) ?_)
               | refine AltP.mk ?_ ?_
               | refine kpM ?_
               | refine SeqP.go ?_
               | refine CondR.split ?_
               | exact IsV.mk
               | apply GuardP.mk
               | ((first | apply callPure' en_Way8 | apply callQuiet' en_Way8); · exact fun w _ => cW w)
               | (first | refine eqlW eqS28 rfl rfl rfl fitM fitM ?_ | refine neqW eqS28 rfl rfl rfl fitM fitM ?_)
               | refine Or.inl ⟨_, _, hasM, ?_⟩
               | refine Or.inl ⟨_, _, _, holeM, rfl, rfl, ?_⟩
               | refine lA ?_
               | refine lA0 ?_
               | refine lA1 ?_
               | refine lO ?_
               | refine lO0 ?_
               | refine lO1 ?_
               | refine lR ?_
               | refine lG ?_
               | refine lG0 ?_
               | refine tA ?_
               | refine tA0 ?_
               | refine tA1 ?_
               | refine BytW.ofBlk hasM rfl rfl ?_
               | refine AppW.noneB hasM leM rfl rfl rfl leM leM ?_
               | refine AppW.rowB hasM leM rfl rfl holeM leM leM ?_
               | refine AppW.blkB hasM leM rfl rfl holeM rfl rfl leM leM ?_
               | refine AppW.rowS hasM leM rfl rfl holeM (by omega) leM ?_
               | refine AppW.arrS hasM leM rfl rfl rfl holeM (by first | omega | (simp; omega)) leM ?_
               | refine ⟨sideM, ?_⟩
               | fail)
          all_goals (try conv => whnf)
          all_goals first
            | (exfalso; omega)
            | (exfalso; simp at *; done)
            | exact .mk (k + 1) _ _ (by omega) ⟨hk2, rfl, rfl⟩ ⟨eq_int (by rw [w64 (by omega) (by omega)]; push_cast; rfl), eq_int hSk2.symm, rfl, rfl, rfl, rfl, trivial⟩ entM
        | some u =>
          rw [hw] at cW hSk
          have cW : ∀ w, PuAt _ _ _ (.tuple ⟨[.agg ⟨encV u⟩, .bool true]⟩) w := cW
          repeat' first
            | (conv => whnf
               first
               | intro _
               | (first | refine selSplit (fun h => ?_) (fun h => ?_) | refine condSplit (fun h => ?_) (fun h => ?_)) <;> first | exact (clash (by assumption) h).elim | exact (clash h (by assumption)).elim | (simp only [decide_eq_true_eq, decide_eq_false_iff_not, Bool.not_eq_true', Bool.not_eq_false', Bool.not_true, Bool.not_false, Bool.or_eq_true, Bool.and_eq_true, Bool.or_eq_false_iff, Bool.and_eq_false_iff, beq_iff_eq, beq_eq_false_iff_ne, ne_eq] at h; first | (exfalso; omega) | skip) | skip
               | (first | refine drM (.quiet 0 (.quiet 1 (.quiet 2 (.quiet 3 (.quiet 4 (.quiet 5 (.quiet 6 (.quiet 7 (.quiet 8 (.quiet 9 (.quiet 10 (.quiet 11 (.quiet 12 (.quiet 13 (.quiet 14 (.quiet 15 (.quiet 16 (.quiet 17 (.quiet 18 (.quiet 19 (.quiet 20 (.quiet 21 (.quiet 22 .done))))))))))))))))))))))) (SubL.refl _) ?_)
               | refine AltP.mk ?_ ?_
               | refine kpM ?_
               | refine SeqP.go ?_
               | refine CondR.split ?_
               | exact IsV.mk
               | apply GuardP.mk
               | ((first | apply callPure' en_Way8 | apply callQuiet' en_Way8); · exact fun w _ => cW w)
               | (first | refine eqlW eqS28 rfl rfl rfl fitM fitM ?_ | refine neqW eqS28 rfl rfl rfl fitM fitM ?_)
               | refine Or.inl ⟨_, _, hasM, ?_⟩
               | refine Or.inl ⟨_, _, _, holeM, rfl, rfl, ?_⟩
               | refine lA ?_
               | refine lA0 ?_
               | refine lA1 ?_
               | refine lO ?_
               | refine lO0 ?_
               | refine lO1 ?_
               | refine lR ?_
               | refine lG ?_
               | refine lG0 ?_
               | refine tA ?_
               | refine tA0 ?_
               | refine tA1 ?_
               | refine BytW.ofBlk hasM rfl rfl ?_
               | refine AppW.noneB hasM leM rfl rfl rfl leM leM ?_
               | refine AppW.rowB hasM leM rfl rfl holeM leM leM ?_
               | refine AppW.blkB hasM leM rfl rfl holeM rfl rfl leM leM ?_
               | refine AppW.rowS hasM leM rfl rfl holeM (by omega) leM ?_
               | refine AppW.arrS hasM leM rfl rfl rfl holeM (by first | omega | (simp; omega)) leM ?_
               | refine ⟨sideM, ?_⟩
               | fail)
          all_goals (try conv => whnf)
          all_goals first
            | (exfalso; omega)
            | (have eu : u = m := encV_eq.1 (show allEq [Value.int .u64 u.1, .int .u64 u.2.1, .int .u64 u.2.2.1, .int .u64 u.2.2.2] [Value.int .u64 m.1, .int .u64 m.2.1, .int .u64 m.2.2.1, .int .u64 m.2.2.2] = true by assumption)
               have e3 : portK bridge ps m (k + 1) = (k : Int) := by rw [hSk, if_pos ⟨by rw [eu], by first | exact .inl (by assumption) | exact .inr (by assumption)⟩]
               exact .mk (k + 1) _ _ (by omega) ⟨hk2, rfl, rfl⟩ ⟨eq_int (by rw [w64 (by omega) (by omega)]; push_cast; rfl), eq_int e3.symm, rfl, rfl, rfl, rfl, trivial⟩ entM)
            | (have eu : u = m := encV_eq.1 (show allEq [Value.int .u64 u.1, .int .u64 u.2.1, .int .u64 u.2.2.1, .int .u64 u.2.2.2] [Value.int .u64 m.1, .int .u64 m.2.1, .int .u64 m.2.2.1, .int .u64 m.2.2.2] = true by assumption)
               have e3 : portK bridge ps m (k + 1) = at_ := by rw [hSk, if_neg (fun q => q.2.elim (by assumption) (by assumption))]
               exact .mk (k + 1) _ _ (by omega) ⟨hk2, rfl, rfl⟩ ⟨eq_int (by rw [w64 (by omega) (by omega)]; push_cast; rfl), eq_int e3.symm, rfl, rfl, rfl, rfl, trivial⟩ entM)
            | (have hf : allEq [Value.int .u64 u.1, .int .u64 u.2.1, .int .u64 u.2.2.1, .int .u64 u.2.2.2] [Value.int .u64 m.1, .int .u64 m.2.1, .int .u64 m.2.2.1, .int .u64 m.2.2.2] = false := by assumption
               have eu : ¬ u = m := fun q => absurd ((encV_eq.2 q).symm.trans hf) (by decide)
               have e3 : portK bridge ps m (k + 1) = at_ := by rw [hSk, if_neg (fun q => eu (Option.some.inj q.1))]
               exact .mk (k + 1) _ _ (by omega) ⟨hk2, rfl, rfl⟩ ⟨eq_int (by rw [w64 (by omega) (by omega)]; push_cast; rfl), eq_int e3.symm, rfl, rfl, rfl, rfl, trivial⟩ entM)
      · skip
        repeat' first
          | (conv => whnf
             first
             | intro _
             | (first | refine selSplit (fun h => ?_) (fun h => ?_) | refine condSplit (fun h => ?_) (fun h => ?_)) <;> first | exact (clash (by assumption) h).elim | exact (clash h (by assumption)).elim | (simp only [decide_eq_true_eq, decide_eq_false_iff_not, Bool.not_eq_true', Bool.not_eq_false', Bool.not_true, Bool.not_false, Bool.or_eq_true, Bool.and_eq_true, Bool.or_eq_false_iff, Bool.and_eq_false_iff, beq_iff_eq, beq_eq_false_iff_ne, ne_eq] at h; first | (exfalso; omega) | skip) | skip
             | (first | refine drC (.quiet 0 (.quiet 1 (.quiet 2 (.quiet 3 (.quiet 4 (.quiet 5 (.quiet 6 (.quiet 7 (.quiet 8 (.quiet 9 (.quiet 10 (.quiet 11 (.quiet 12 (.quiet 13 (.quiet 14 (.quiet 15 (.quiet 16 (.quiet 17 (.quiet 18 (.quiet 19 (.quiet 20 (.quiet 21 (.quiet 22 .done))))))))))))))))))))))) (SubL.refl _) ?_)
             | refine AltP.mk ?_ ?_
             | refine kpM ?_
             | refine SeqP.go ?_
             | refine cdM ?_
             | exact IsV.mk
             | apply GuardP.mk
             | (first | refine eqlW eqS28 rfl rfl rfl fitM fitM ?_ | refine neqW eqS28 rfl rfl rfl fitM fitM ?_)
             | refine Or.inl ⟨_, _, hasM, ?_⟩
             | refine Or.inl ⟨_, _, _, holeM, rfl, rfl, ?_⟩
             | refine lA ?_
             | refine lA0 ?_
             | refine lA1 ?_
             | refine lO ?_
             | refine lO0 ?_
             | refine lO1 ?_
             | refine lR ?_
             | refine lG ?_
             | refine lG0 ?_
             | refine tA ?_
             | refine tA0 ?_
             | refine tA1 ?_
             | refine BytW.ofBlk hasM rfl rfl ?_
             | refine AppW.noneB hasM leM rfl rfl rfl leM leM ?_
             | refine AppW.rowB hasM leM rfl rfl holeM leM leM ?_
             | refine AppW.blkB hasM leM rfl rfl holeM rfl rfl leM leM ?_
             | refine AppW.rowS hasM leM rfl rfl holeM (by omega) leM ?_
             | refine AppW.arrS hasM leM rfl rfl rfl holeM (by first | omega | (simp; omega)) leM ?_
             | refine ⟨sideM, ?_⟩
             | fail)
        all_goals (try conv => whnf)
        all_goals first
          | (exfalso; omega)
          | (obtain rfl : k = ps.length := by omega
             rfl)
end Go.Proofs.Ytgjdmlgdgbehoaa.Am
