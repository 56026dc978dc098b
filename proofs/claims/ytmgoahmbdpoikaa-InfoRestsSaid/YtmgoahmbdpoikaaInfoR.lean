/- The law InfoRests. -/
import Derived.Test.YtmgoahmbdpoikaaInfoL
import Derived.Test.YtmgoahmbdpoikaaPorts
import Derived.Test.YtmgoahmbdpoikaaRolesR
set_option linter.unusedVariables false
set_option linter.unusedSimpArgs false
set_option maxRecDepth 100000
set_option maxHeartbeats 4000000
namespace Go.Proofs.Ytmgoahmbdpoikaa.Am
open Go Go.RowKit
/-- What is asked of a port's numbers. -/
def okI11 (p : PortV) : Prop := u64N p.Id ∧ u64N p.Cost ∧ u64N p.Vector_Root ∧ u64N p.Vector_Cost ∧ u64N p.Vector_Bridge ∧ u64N p.Vector_Port
theorem known_ok {p : PortV} (h : okI11 p) : okI8 (knownV p) := by
  obtain ⟨h1, h2, h3, h4, h5, h6⟩ := h
  have z : u64N 0 := by unfold u64N; omega
  unfold knownV
  split
  · split
    · exact ⟨h1, h2, h3, h4, h5, h6⟩
    · exact ⟨h1, h2, z, z, z, z⟩
  · exact ⟨h1, h2, z, z, z, z⟩
theorem role_root {bridge : Int} {r : V4 × Int} {i : Nat} {p : InfoV} (h : roleI bridge r i p = 1) : (i : Int) = r.2 := by
  unfold roleI at h
  split at h
  · omega
  · split at h
    · omega
    · split at h
      · assumption
      · split at h
        · omega
        · split at h <;> omega
theorem role_off {bridge : Int} {r : V4 × Int} {i : Nat} {p : PortV} (h : p.On = false) : roleI bridge r i (knownV p) = 0 := by
  have e : (knownV p).Source = 0 := by unfold knownV; rw [if_neg (by rw [h]; decide)]
  unfold roleI
  rw [if_pos e]
theorem idxRe_none : ∀ (ps : List PortV) (k : Nat), (∀ p ∈ ps, p.Reselect = false) → idxRe ps k = -1
  | [], _, _ => rfl
  | p :: r, k, h => by
    unfold idxRe
    rw [if_neg (by rw [h p List.mem_cons_self]; decide)]
    exact idxRe_none r _ fun q hq => h q (List.mem_cons_of_mem _ hq)
theorem choose_no_more (b b' : BridgeV) (ps qs : List PortV) (r : V4 × Int) : chooseOk b' (ps.mapIdx (choseF b qs r)) = false := by
  have e : anyRe (ps.mapIdx (choseF b qs r)) = false := by
    unfold anyRe
    rw [idxRe_none _ _ fun p hp => by
      obtain ⟨i, h, rfl⟩ := List.mem_mapIdx.1 hp
      rfl]
    rfl
  unfold chooseOk
  rw [e, Bool.and_false]
/-- Settled ports. -/
theorem settle_upd (p : PortV) (h : p.Ready = true) : (settleV p).Update = false := by
  unfold settleV
  split
  · rename_i c
    rcases c with c | c
    · rw [h] at c; cases c
    · exact c
  · rfl
theorem settle_id {q : PortV} (h : q.Update = false) : settleV q = q := by unfold settleV; rw [if_pos (.inr h)]
theorem settle_again (p : PortV) (h : p.Ready = true) : settleV (settleV p) = settleV p := settle_id (settle_upd p h)
theorem settle_own {p : PortV} (h : p.Ready = true) (hu : p.Update = true) : (settleV p).v4 = p.o4 ∧ (settleV p).Source = 2 := by
  unfold settleV
  rw [if_neg (fun q => q.elim (fun q => absurd (q.symm.trans h) (by decide)) (fun q => absurd (q.symm.trans hu) (by decide)))]
  exact ⟨rfl, rfl⟩
theorem ok_InfoRests : (match Try.f8.body with | some c => codeOk Try.f8.ntmps c | none => false) = true := by kernel_rfl
theorem en_InfoRests : ∃ fn, Try.prog.funcs[8]? = some fn ∧ (fn.name == "runtime.NumGoroutine") = false ∧ fn.body.isNone = false := ⟨_, Try.func8, by kernel_rfl, by kernel_rfl⟩
theorem InfoRests_w (b : BridgeV) (ps : List PortV) (A : Option Addr) (c : Nat) (w : World) (hs : SlAt w A 61 (ps.map PortV.enc)) (hok : ∀ p ∈ ps, okI11 p) : PuAt Try.prog 8 [.agg ⟨b.enc⟩, .slice A ps.length c] (.bool true) w := by
  refine funcR_pure tyOk wide Try.func8 ok_InfoRests (Nat.le_of_ble_eq_true rfl) ?_
  by_cases hno : 30 < ps.length
  · skip
    repeat' first
      | (conv => whnf
         first
         | intro _
         | (first | refine selSplit (fun h => ?_) (fun h => ?_) | refine condSplit (fun h => ?_) (fun h => ?_)) <;> first | exact (clash (by assumption) h).elim | exact (clash h (by assumption)).elim | (simp only [decide_eq_true_eq, decide_eq_false_iff_not, Bool.not_eq_true', Bool.not_eq_false', Bool.not_true, Bool.not_false, Bool.or_eq_true, Bool.and_eq_true, Bool.or_eq_false_iff, Bool.and_eq_false_iff, beq_iff_eq, beq_eq_false_iff_ne, ne_eq] at h; first | (exfalso; omega) | skip) | skip
         | (first | refine drC (.quiet 0 (.quiet 1 (.quiet 2 (.quiet 3 (.quiet 4 (.quiet 5 (.quiet 6 (.quiet 7 (.quiet 8 (.quiet 9 (.quiet 10 (.quiet 11 (.quiet 12 (.quiet 13 (.quiet 14 (.quiet 15 (.quiet 16 (.quiet 17 (.quiet 18 (.quiet 19 (.quiet 20 (.quiet 21 (.quiet 22 (.quiet 23 (.quiet 24 (.quiet 25 (.quiet 26 (.quiet 27 (.quiet 28 (.quiet 29 (.quiet 30 .done))))))))))))))))))))))))))))))) (SubL.refl _) ?_ | refine drC (.quiet 0 (.quiet 1 (.quiet 2 (.quiet 3 (.quiet 4 (.quiet 5 (.quiet 6 (.quiet 7 (.quiet 8 (.quiet 9 (.quiet 10 (.quiet 11 (.quiet 12 (.quiet 13 (.quiet 14 (.quiet 15 (.quiet 16 (.quiet 17 (.quiet 18 (.quiet 19 (.quiet 20 (.quiet 21 (.quiet 22 (.quiet 23 (.quiet 24 (.quiet 25 (.quiet 26 (.quiet 27 (.quiet 28 (.quiet 29 .done)))))))))))))))))))))))))))))) (SubL.refl _) ?_)
         | refine AltP.mk ?_ ?_
         | refine kpM ?_
         | refine SeqP.go ?_
         | refine cdM ?_
         | exact IsV.mk
         | apply GuardP.mk
         | ((first | apply callPure' en_awake11 | apply callQuiet' en_awake11); · exact fun w _ => awake11_w w)
         | (first | refine eqlW eqS28 rfl rfl rfl fitM fitM ?_ | refine neqW eqS28 rfl rfl rfl fitM fitM ?_ | refine eqlW eqS24 rfl rfl rfl fitM fitM ?_ | refine neqW eqS24 rfl rfl rfl fitM fitM ?_ | refine eqlW eqS26 rfl rfl rfl fitM fitM ?_ | refine neqW eqS26 rfl rfl rfl fitM fitM ?_)
         | refine Or.inl ⟨_, _, hasM, ?_⟩
         | refine Or.inl ⟨_, _, _, holeM, rfl, rfl, ?_⟩
         | refine lA ?_
         | refine lA0 ?_
         | refine lA1 ?_
         | refine lO ?_
         | refine lO0 ?_
         | refine lO1 ?_
         | refine lR ?_
         | refine lG ?_
         | refine lG0 ?_
         | refine tA ?_
         | refine tA0 ?_
         | refine tA1 ?_
         | refine BytW.ofBlk hasM rfl rfl ?_
         | refine AppW.noneB hasM leM rfl rfl rfl leM leM ?_
         | refine AppW.rowB hasM leM rfl rfl holeM leM leM ?_
         | refine AppW.blkB hasM leM rfl rfl holeM rfl rfl leM leM ?_
         | refine AppW.rowS hasM leM rfl rfl holeM (by omega) leM ?_
         | refine AppW.arrS hasM leM rfl rfl rfl holeM (by first | omega | (simp; omega)) leM ?_
         | refine ⟨sideM, ?_⟩
         | fail)
    all_goals (try conv => whnf)
    all_goals first | rfl | (exfalso; omega)
  have hl : ps.length ≤ 1000 := by omega
  have hC := fun w hw => Choose_w b ps _ rfl A c w hw hl
  have hR := fun A c w hw => Right8_w (ps.map knownV) ps.length (List.length_map _) A c w hw hl (fun p hp => by obtain ⟨q, hq, rfl⟩ := List.mem_map.1 hp; exact known_ok (hok q hq))
  by_cases hc : chooseOk b ps = true
  · have hch : chooseV b ps = (ps.mapIdx (choseF b ps (bestV b.Id (infosV ps))), true) := by unfold chooseV; rw [if_pos hc]
    have hch2 : chooseV b (ps.mapIdx (choseF b ps (bestV b.Id (infosV ps)))) = (ps.mapIdx (choseF b ps (bestV b.Id (infosV ps))), false) := by unfold chooseV; rw [if_neg (by rw [choose_no_more]; decide)]
    have hri : rightI (ps.map knownV) = true := by unfold chooseOk at hc; simp only [Bool.and_eq_true] at hc; exact hc.1.1
    have hxl : (ps.mapIdx (choseF b ps (bestV b.Id (infosV ps)))).length = ps.length := List.length_mapIdx
    have hC2 := fun A c w hw => Choose_w b (ps.mapIdx (choseF b ps (bestV b.Id (infosV ps)))) ps.length hxl A c w hw hl
    have hX : ∀ (k : Nat) (x : PortV), (ps.mapIdx (choseF b ps (bestV b.Id (infosV ps))))[k]? = some x → x.Reselect = false ∧ x.Ready = true ∧ (x.On = false → x.Selected = 0) ∧ (x.Selected = 1 → (k : Int) = (bestV b.Id (infosV ps)).2) := by
      intro k x hx
      rw [List.getElem?_mapIdx] at hx
      obtain ⟨p, _, rfl⟩ := Option.map_eq_some_iff.1 hx
      exact ⟨rfl, rfl, fun h => role_off h, fun h => role_root h⟩
    rw [hch] at hC
    rw [hch2] at hC2
    rw [hri] at hR
    generalize ps.mapIdx (choseF b ps (bestV b.Id (infosV ps))) = xs at *
    generalize (bestV b.Id (infosV ps)).2 = at_ at *
    repeat' first
      | (conv => whnf
         first
         | intro _
         | (first | refine selSplit (fun h => ?_) (fun h => ?_) | refine condSplit (fun h => ?_) (fun h => ?_)) <;> first | exact (clash (by assumption) h).elim | exact (clash h (by assumption)).elim | (simp only [decide_eq_true_eq, decide_eq_false_iff_not, Bool.not_eq_true', Bool.not_eq_false', Bool.not_true, Bool.not_false, Bool.or_eq_true, Bool.and_eq_true, Bool.or_eq_false_iff, Bool.and_eq_false_iff, beq_iff_eq, beq_eq_false_iff_ne, ne_eq] at h; first | (exfalso; omega) | skip) | skip
         | (first | refine drC (.quiet 0 (.quiet 1 (.quiet 2 (.quiet 3 (.quiet 4 (.quiet 5 (.quiet 6 (.quiet 7 (.quiet 8 (.quiet 9 (.quiet 10 (.quiet 11 (.quiet 12 (.quiet 13 (.quiet 14 (.quiet 15 (.quiet 16 (.quiet 17 (.quiet 18 (.quiet 19 (.quiet 20 (.quiet 21 (.quiet 22 (.quiet 23 (.quiet 24 (.quiet 25 (.quiet 26 (.quiet 27 (.quiet 28 (.quiet 29 (.quiet 30 .done))))))))))))))))))))))))))))))) (SubL.refl _) ?_ | refine drC (.quiet 0 (.quiet 1 (.quiet 2 (.quiet 3 (.quiet 4 (.quiet 5 (.quiet 6 (.quiet 7 (.quiet 8 (.quiet 9 (.quiet 10 (.quiet 11 (.quiet 12 (.quiet 13 (.quiet 14 (.quiet 15 (.quiet 16 (.quiet 17 (.quiet 18 (.quiet 19 (.quiet 20 (.quiet 21 (.quiet 22 (.quiet 23 (.quiet 24 (.quiet 25 (.quiet 26 (.quiet 27 (.quiet 28 (.quiet 29 .done)))))))))))))))))))))))))))))) (SubL.refl _) ?_)
         | refine AltP.mk ?_ ?_
         | refine kpM ?_
         | refine SeqP.go ?_
         | refine cdM ?_
         | exact IsV.mk
         | apply GuardP.mk
         | ((first | apply callPure' en_awake11 | apply callQuiet' en_awake11); · exact fun w _ => awake11_w w)
         | (refine callX takeM en_Choose (fun w hw => hC w (hs.later hw)) ?_)
         | (refine callX takeM en_Choose (fun w hw => hC2 _ _ w (hw.arrSl hasM)) ?_)
         | (first | refine eqlW eqS28 rfl rfl rfl fitM fitM ?_ | refine neqW eqS28 rfl rfl rfl fitM fitM ?_ | refine eqlW eqS24 rfl rfl rfl fitM fitM ?_ | refine neqW eqS24 rfl rfl rfl fitM fitM ?_ | refine eqlW eqS26 rfl rfl rfl fitM fitM ?_ | refine neqW eqS26 rfl rfl rfl fitM fitM ?_)
         | refine Or.inl ⟨_, _, hasM, ?_⟩
         | refine Or.inl ⟨_, _, _, holeM, rfl, rfl, ?_⟩
         | refine lA ?_
         | refine lA0 ?_
         | refine lA1 ?_
         | refine lO ?_
         | refine lO0 ?_
         | refine lO1 ?_
         | refine lR ?_
         | refine lG ?_
         | refine lG0 ?_
         | refine tA ?_
         | refine tA0 ?_
         | refine tA1 ?_
         | refine BytW.ofBlk hasM rfl rfl ?_
         | refine AppW.noneB hasM leM rfl rfl rfl leM leM ?_
         | refine AppW.rowB hasM leM rfl rfl holeM leM leM ?_
         | refine AppW.blkB hasM leM rfl rfl holeM rfl rfl leM leM ?_
         | refine AppW.rowS hasM leM rfl rfl holeM (by omega) leM ?_
         | refine AppW.arrS hasM leM rfl rfl rfl holeM (by first | omega | (simp; omega)) leM ?_
         | refine ⟨sideM, ?_⟩
         | fail)
    all_goals (try conv => whnf)
    · exact absurd trivial h
    · rcases h with h | h
      · exact absurd h.2 (by decide)
      · exact absurd trivial h
    · rename_i b2 _ s1 hs1 _ s2 hs2
      clear h
      refine .mk (Nat × Int) (fun ⟨k, roots⟩ S H => (k ≤ ps.length ∧ 0 ≤ roots ∧ roots ≤ 1 ∧ (roots = 1 → at_ < k)) ∧ S = [(10, .int .i64 k), (9, .int .i64 roots), (8, .bool false), (7, .slice s2.1 ps.length s2.2), (6, .bool true), (5, .slice s1.1 ps.length s1.2), (1, .slice A ps.length c), (2, .pointer (some ⟨b2, 0, none⟩))] ∧ H = [.arr (.slice s2.1 ps.length s2.2) 28 61 (xs.map PortV.enc), .arr (.slice s1.1 ps.length s1.2) 28 61 (xs.map PortV.enc), .blk b2 b.enc 33]) (fun s => ps.length - s.1) (0, 0) _ _ ⟨⟨by omega, by omega, by omega, fun q => by omega⟩, rfl, rfl⟩ subM entM ?_
      rintro ⟨k, roots⟩ S1 H1 ⟨⟨hk, hr0, hr1, hr2⟩, rfl, rfl⟩
      obtain ⟨A1, c1⟩ := s1
      obtain ⟨A2, c2⟩ := s2
      by_cases hk2 : k < ps.length
      · obtain ⟨g1, e, q1⟩ := hs1.at_ (by omega)
        dsimp only at e
        subst e
        obtain ⟨g2, e, q2⟩ := hs2.at_ (by omega)
        dsimp only at e
        subst e
        obtain ⟨b, o, e, _⟩ := hs.at_ (by simp; omega)
        subst e
        have o1 := hs.old (X := []) (by simp; omega) (by simp)
        obtain ⟨x0, hx0⟩ : ∃ x, ps[k]? = some x := ⟨ps[k]'(by omega), List.getElem?_eq_getElem (by omega)⟩
        have y0 : (ps.map PortV.enc)[k]? = some x0.enc := by rw [List.getElem?_map, hx0]; rfl
        obtain ⟨x, hx⟩ : ∃ x, xs[k]? = some x := ⟨xs[k]'(by omega), List.getElem?_eq_getElem (by omega)⟩
        have y1 : (xs.map PortV.enc)[k]? = some x.enc := by rw [List.getElem?_map, hx]; rfl
        obtain ⟨x1, x2, x3, x4⟩ := hX k x hx
        have es := eqSelf x
        have u1 := settle_upd x x2
        have u2 := settle_again x x2
        have u3 := settle_own (p := x) x2
        have cS := fun w => Settle_w x w
        have cS2 := fun w => Settle_w (settleV x) w
        rw [u2] at cS2
        generalize settleV x = s at *
        have et := eqSelf s
        repeat' first
          | (conv => whnf
             first
             | intro _
             | (first | refine selSplit (fun h => ?_) (fun h => ?_) | refine condSplit (fun h => ?_) (fun h => ?_)) <;> first | exact (clash (by assumption) h).elim | exact (clash h (by assumption)).elim | (simp only [decide_eq_true_eq, decide_eq_false_iff_not, Bool.not_eq_true', Bool.not_eq_false', Bool.not_true, Bool.not_false, Bool.or_eq_true, Bool.and_eq_true, Bool.or_eq_false_iff, Bool.and_eq_false_iff, beq_iff_eq, beq_eq_false_iff_ne, ne_eq] at h; first | (exfalso; omega) | skip) | skip
             | (first | refine drC (.quiet 0 (.quiet 1 (.quiet 2 (.quiet 3 (.quiet 4 (.quiet 5 (.quiet 6 (.quiet 7 (.quiet 8 (.quiet 9 (.quiet 10 (.quiet 11 (.quiet 12 (.quiet 13 (.quiet 14 (.quiet 15 (.quiet 16 (.quiet 17 (.quiet 18 (.quiet 19 (.quiet 20 (.quiet 21 (.quiet 22 (.quiet 23 (.quiet 24 (.quiet 25 (.quiet 26 (.quiet 27 (.quiet 28 (.quiet 29 (.quiet 30 .done))))))))))))))))))))))))))))))) (SubL.refl _) ?_ | refine drC (.quiet 0 (.quiet 1 (.quiet 2 (.quiet 3 (.quiet 4 (.quiet 5 (.quiet 6 (.quiet 7 (.quiet 8 (.quiet 9 (.quiet 10 (.quiet 11 (.quiet 12 (.quiet 13 (.quiet 14 (.quiet 15 (.quiet 16 (.quiet 17 (.quiet 18 (.quiet 19 (.quiet 20 (.quiet 21 (.quiet 22 (.quiet 23 (.quiet 24 (.quiet 25 (.quiet 26 (.quiet 27 (.quiet 28 (.quiet 29 .done)))))))))))))))))))))))))))))) (SubL.refl _) ?_)
             | refine AltP.mk ?_ ?_
             | refine kpM ?_
             | refine SeqP.go ?_
             | refine cdM ?_
             | exact IsV.mk
             | apply GuardP.mk
             | ((first | apply callPure' en_Settle | apply callQuiet' en_Settle); · exact fun w _ => cS w)
             | ((first | apply callPure' en_Settle | apply callQuiet' en_Settle); · exact fun w _ => cS2 w)
             | (first | refine eqlW eqS28 rfl rfl rfl fitM fitM ?_ | refine neqW eqS28 rfl rfl rfl fitM fitM ?_ | refine eqlW eqS24 rfl rfl rfl fitM fitM ?_ | refine neqW eqS24 rfl rfl rfl fitM fitM ?_ | refine eqlW eqS26 rfl rfl rfl fitM fitM ?_ | refine neqW eqS26 rfl rfl rfl fitM fitM ?_)
             | refine Or.inl ⟨_, _, hasM, ?_⟩
             | refine Or.inl ⟨_, _, _, holeM, rfl, rfl, ?_⟩
             | refine lA ?_
             | refine lA0 ?_
             | refine lA1 ?_
             | refine lO ?_
             | refine lO0 ?_
             | refine lO1 ?_
             | refine lR ?_
             | refine lG ?_
             | refine lG0 ?_
             | refine tA ?_
             | refine tA0 ?_
             | refine tA1 ?_
             | refine BytW.ofBlk hasM rfl rfl ?_
             | refine AppW.noneB hasM leM rfl rfl rfl leM leM ?_
             | refine AppW.rowB hasM leM rfl rfl holeM leM leM ?_
             | refine AppW.blkB hasM leM rfl rfl holeM rfl rfl leM leM ?_
             | refine AppW.rowS hasM leM rfl rfl holeM (by omega) leM ?_
             | refine AppW.arrS hasM leM rfl rfl rfl holeM (by first | omega | (simp; omega)) leM ?_
             | refine ⟨sideM, ?_⟩
             | fail)
        all_goals (try conv => whnf)
        · exfalso
          rcases h with ⟨h, _⟩ | ⟨h, _⟩
          · exact absurd h (by decide)
          · exact absurd (es.symm.trans h) (by decide)
        · exfalso
          rcases h with (h | h) | ⟨h1, h2⟩
          · rw [x1] at h; cases h
          · rw [x2] at h; cases h
          · exact h2 (x3 h1)
        · exfalso
          rcases h with (h | h) | ⟨h1, h⟩
          · rw [u1] at h; cases h
          · exact absurd (et.symm.trans h) (by decide)
          · have g : allEq (encV s.v4) (encV x.o4) = true := by rw [(u3 h1).1]; simp [encV, allEq, cellEq]
            rcases h with h | h
            · exact absurd (g.symm.trans h) (by decide)
            · exact h (u3 h1).2
        · have h1 := x4 (by assumption)
          have h0 : roots = 0 := by
            by_cases g : roots = 1
            · have := hr2 g; omega
            · omega
          exact .mk (k + 1, roots + 1) _ _ (by show _ - (k + 1) < _ - k; omega) ⟨⟨hk2, by omega, by omega, fun _ => by omega⟩, rfl, rfl⟩ ⟨eq_int (by rw [w64 (by omega) (by omega)]; push_cast; rfl), eq_int (by rw [w64 (by omega) (by omega)]), rfl, rfl, rfl, rfl, rfl, rfl, trivial⟩ entM
        · exfalso
          rcases h with (h | h) | ⟨h1, h⟩
          · rw [u1] at h; cases h
          · exact absurd (et.symm.trans h) (by decide)
          · have g : allEq (encV s.v4) (encV x.o4) = true := by rw [(u3 h1).1]; simp [encV, allEq, cellEq]
            rcases h with h | h
            · exact absurd (g.symm.trans h) (by decide)
            · exact h (u3 h1).2
        · exact .mk (k + 1, roots) _ _ (by show _ - (k + 1) < _ - k; omega) ⟨⟨hk2, hr0, hr1, fun q => by have := hr2 q; omega⟩, rfl, rfl⟩ subM entM
      · obtain rfl : k = ps.length := by omega
        repeat' first
          | (conv => whnf
             first
             | intro _
             | (first | refine selSplit (fun h => ?_) (fun h => ?_) | refine condSplit (fun h => ?_) (fun h => ?_)) <;> first | exact (clash (by assumption) h).elim | exact (clash h (by assumption)).elim | (simp only [decide_eq_true_eq, decide_eq_false_iff_not, Bool.not_eq_true', Bool.not_eq_false', Bool.not_true, Bool.not_false, Bool.or_eq_true, Bool.and_eq_true, Bool.or_eq_false_iff, Bool.and_eq_false_iff, beq_iff_eq, beq_eq_false_iff_ne, ne_eq] at h; first | (exfalso; omega) | skip) | skip
             | (first | refine drM (.quiet 0 (.quiet 1 (.quiet 2 (.quiet 3 (.quiet 4 (.quiet 5 (.quiet 6 (.quiet 7 (.quiet 8 (.quiet 9 (.quiet 10 (.quiet 11 (.quiet 12 (.quiet 13 (.quiet 14 (.quiet 15 (.quiet 16 (.quiet 17 (.quiet 18 (.quiet 19 (.quiet 20 (.quiet 21 (.quiet 22 (.quiet 23 (.quiet 24 (.quiet 25 (.quiet 26 (.quiet 27 (.quiet 28 (.quiet 29 (.quiet 30 .done))))))))))))))))))))))))))))))) (SubL.refl _) ?_ | refine drM (.quiet 0 (.quiet 1 (.quiet 2 (.quiet 3 (.quiet 4 (.quiet 5 (.quiet 6 (.quiet 7 (.quiet 8 (.quiet 9 (.quiet 10 (.quiet 11 (.quiet 12 (.quiet 13 (.quiet 14 (.quiet 15 (.quiet 16 (.quiet 17 (.quiet 18 (.quiet 19 (.quiet 20 (.quiet 21 (.quiet 22 (.quiet 23 (.quiet 24 (.quiet 25 (.quiet 26 (.quiet 27 (.quiet 28 (.quiet 29 .done)))))))))))))))))))))))))))))) (SubL.refl _) ?_)
             | refine AltP.mk ?_ ?_
             | refine kpM ?_
             | refine SeqP.go ?_
             | refine CondR.split ?_
             | exact IsV.mk
             | apply GuardP.mk
             | (refine callX takeM en_of11 (fun w hw => of11_w ps A c w (hs.later hw) hl) ?_)
             | (refine callX takeM en_Infos11 (fun w hw => Infos11_w ps _ rfl _ _ w (hw.arrSl hasM) hl) ?_)
             | ((first | apply callPure' en_Right8 | apply callQuiet' en_Right8); · exact fun w hw => hR _ _ w (hw.arrSl hasM))
             | (first | refine eqlW eqS28 rfl rfl rfl fitM fitM ?_ | refine neqW eqS28 rfl rfl rfl fitM fitM ?_ | refine eqlW eqS24 rfl rfl rfl fitM fitM ?_ | refine neqW eqS24 rfl rfl rfl fitM fitM ?_ | refine eqlW eqS26 rfl rfl rfl fitM fitM ?_ | refine neqW eqS26 rfl rfl rfl fitM fitM ?_)
             | refine Or.inl ⟨_, _, hasM, ?_⟩
             | refine Or.inl ⟨_, _, _, holeM, rfl, rfl, ?_⟩
             | refine lA ?_
             | refine lA0 ?_
             | refine lA1 ?_
             | refine lO ?_
             | refine lO0 ?_
             | refine lO1 ?_
             | refine lR ?_
             | refine lG ?_
             | refine lG0 ?_
             | refine tA ?_
             | refine tA0 ?_
             | refine tA1 ?_
             | refine BytW.ofBlk hasM rfl rfl ?_
             | refine AppW.noneB hasM leM rfl rfl rfl leM leM ?_
             | refine AppW.rowB hasM leM rfl rfl holeM leM leM ?_
             | refine AppW.blkB hasM leM rfl rfl holeM rfl rfl leM leM ?_
             | refine AppW.rowS hasM leM rfl rfl holeM (by omega) leM ?_
             | refine AppW.arrS hasM leM rfl rfl rfl holeM (by first | omega | (simp; omega)) leM ?_
             | refine ⟨sideM, ?_⟩
             | fail)
        all_goals (try conv => whnf)
        all_goals first
          | (exfalso; omega)
          | rfl
  · have hch : chooseV b ps = (ps, false) := by unfold chooseV; rw [if_neg hc]
    rw [hch] at hC
    have hC2 := fun A c w hw => Choose_w b ps _ rfl A c w hw hl
    rw [hch] at hC2
    repeat' first
      | (conv => whnf
         first
         | intro _
         | (first | refine selSplit (fun h => ?_) (fun h => ?_) | refine condSplit (fun h => ?_) (fun h => ?_)) <;> first | exact (clash (by assumption) h).elim | exact (clash h (by assumption)).elim | (simp only [decide_eq_true_eq, decide_eq_false_iff_not, Bool.not_eq_true', Bool.not_eq_false', Bool.not_true, Bool.not_false, Bool.or_eq_true, Bool.and_eq_true, Bool.or_eq_false_iff, Bool.and_eq_false_iff, beq_iff_eq, beq_eq_false_iff_ne, ne_eq] at h; first | (exfalso; omega) | skip) | skip
         | (first | refine drC (.quiet 0 (.quiet 1 (.quiet 2 (.quiet 3 (.quiet 4 (.quiet 5 (.quiet 6 (.quiet 7 (.quiet 8 (.quiet 9 (.quiet 10 (.quiet 11 (.quiet 12 (.quiet 13 (.quiet 14 (.quiet 15 (.quiet 16 (.quiet 17 (.quiet 18 (.quiet 19 (.quiet 20 (.quiet 21 (.quiet 22 (.quiet 23 (.quiet 24 (.quiet 25 (.quiet 26 (.quiet 27 (.quiet 28 (.quiet 29 (.quiet 30 .done))))))))))))))))))))))))))))))) (SubL.refl _) ?_ | refine drC (.quiet 0 (.quiet 1 (.quiet 2 (.quiet 3 (.quiet 4 (.quiet 5 (.quiet 6 (.quiet 7 (.quiet 8 (.quiet 9 (.quiet 10 (.quiet 11 (.quiet 12 (.quiet 13 (.quiet 14 (.quiet 15 (.quiet 16 (.quiet 17 (.quiet 18 (.quiet 19 (.quiet 20 (.quiet 21 (.quiet 22 (.quiet 23 (.quiet 24 (.quiet 25 (.quiet 26 (.quiet 27 (.quiet 28 (.quiet 29 .done)))))))))))))))))))))))))))))) (SubL.refl _) ?_)
         | refine AltP.mk ?_ ?_
         | refine kpM ?_
         | refine SeqP.go ?_
         | refine cdM ?_
         | exact IsV.mk
         | apply GuardP.mk
         | ((first | apply callPure' en_awake11 | apply callQuiet' en_awake11); · exact fun w _ => awake11_w w)
         | (refine callX takeM en_Choose (fun w hw => hC w (hs.later hw)) ?_)
         | (refine callX takeM en_Choose (fun w hw => hC2 _ _ w (hw.arrSl hasM)) ?_)
         | (first | refine eqlW eqS28 rfl rfl rfl fitM fitM ?_ | refine neqW eqS28 rfl rfl rfl fitM fitM ?_ | refine eqlW eqS24 rfl rfl rfl fitM fitM ?_ | refine neqW eqS24 rfl rfl rfl fitM fitM ?_ | refine eqlW eqS26 rfl rfl rfl fitM fitM ?_ | refine neqW eqS26 rfl rfl rfl fitM fitM ?_)
         | refine Or.inl ⟨_, _, hasM, ?_⟩
         | refine Or.inl ⟨_, _, _, holeM, rfl, rfl, ?_⟩
         | refine lA ?_
         | refine lA0 ?_
         | refine lA1 ?_
         | refine lO ?_
         | refine lO0 ?_
         | refine lO1 ?_
         | refine lR ?_
         | refine lG ?_
         | refine lG0 ?_
         | refine tA ?_
         | refine tA0 ?_
         | refine tA1 ?_
         | refine BytW.ofBlk hasM rfl rfl ?_
         | refine AppW.noneB hasM leM rfl rfl rfl leM leM ?_
         | refine AppW.rowB hasM leM rfl rfl holeM leM leM ?_
         | refine AppW.blkB hasM leM rfl rfl holeM rfl rfl leM leM ?_
         | refine AppW.rowS hasM leM rfl rfl holeM (by omega) leM ?_
         | refine AppW.arrS hasM leM rfl rfl rfl holeM (by first | omega | (simp; omega)) leM ?_
         | refine ⟨sideM, ?_⟩
         | fail)
    all_goals (try conv => whnf)
    · exact absurd trivial h
    · rcases h with h | h
      · exact absurd h.2 (by decide)
      · exact absurd trivial h
    · rename_i b2 _ s1 hs1 _ s2 hs2
      clear h
      refine .mk Nat (fun k S H => k ≤ ps.length ∧ S = [(10, .int .i64 k), (9, .int .i64 0), (8, .bool false), (7, .slice s2.1 ps.length s2.2), (6, .bool false), (5, .slice s1.1 ps.length s1.2), (1, .slice A ps.length c), (2, .pointer (some ⟨b2, 0, none⟩))] ∧ H = [.arr (.slice s2.1 ps.length s2.2) 28 61 (ps.map PortV.enc), .arr (.slice s1.1 ps.length s1.2) 28 61 (ps.map PortV.enc), .blk b2 b.enc 33]) (fun k => ps.length - k) 0 _ _ ⟨by omega, rfl, rfl⟩ subM entM ?_
      rintro k S1 H1 ⟨hk, rfl, rfl⟩
      obtain ⟨A1, c1⟩ := s1
      obtain ⟨A2, c2⟩ := s2
      by_cases hk2 : k < ps.length
      · obtain ⟨g1, e, q1⟩ := hs1.at_ (by omega)
        dsimp only at e
        subst e
        obtain ⟨g2, e, q2⟩ := hs2.at_ (by omega)
        dsimp only at e
        subst e
        obtain ⟨b, o, e, _⟩ := hs.at_ (by simp; omega)
        subst e
        have o1 := hs.old (X := []) (by simp; omega) (by simp)
        obtain ⟨x, hx⟩ : ∃ x, ps[k]? = some x := ⟨ps[k]'(by omega), List.getElem?_eq_getElem (by omega)⟩
        have y1 : (ps.map PortV.enc)[k]? = some x.enc := by rw [List.getElem?_map, hx]; rfl
        have es := eqSelf x
        repeat' first
          | (conv => whnf
             first
             | intro _
             | (first | refine selSplit (fun h => ?_) (fun h => ?_) | refine condSplit (fun h => ?_) (fun h => ?_)) <;> first | exact (clash (by assumption) h).elim | exact (clash h (by assumption)).elim | (simp only [decide_eq_true_eq, decide_eq_false_iff_not, Bool.not_eq_true', Bool.not_eq_false', Bool.not_true, Bool.not_false, Bool.or_eq_true, Bool.and_eq_true, Bool.or_eq_false_iff, Bool.and_eq_false_iff, beq_iff_eq, beq_eq_false_iff_ne, ne_eq] at h; first | (exfalso; omega) | skip) | skip
             | (first | refine drC (.quiet 0 (.quiet 1 (.quiet 2 (.quiet 3 (.quiet 4 (.quiet 5 (.quiet 6 (.quiet 7 (.quiet 8 (.quiet 9 (.quiet 10 (.quiet 11 (.quiet 12 (.quiet 13 (.quiet 14 (.quiet 15 (.quiet 16 (.quiet 17 (.quiet 18 (.quiet 19 (.quiet 20 (.quiet 21 (.quiet 22 (.quiet 23 (.quiet 24 (.quiet 25 (.quiet 26 (.quiet 27 (.quiet 28 (.quiet 29 (.quiet 30 .done))))))))))))))))))))))))))))))) (SubL.refl _) ?_ | refine drC (.quiet 0 (.quiet 1 (.quiet 2 (.quiet 3 (.quiet 4 (.quiet 5 (.quiet 6 (.quiet 7 (.quiet 8 (.quiet 9 (.quiet 10 (.quiet 11 (.quiet 12 (.quiet 13 (.quiet 14 (.quiet 15 (.quiet 16 (.quiet 17 (.quiet 18 (.quiet 19 (.quiet 20 (.quiet 21 (.quiet 22 (.quiet 23 (.quiet 24 (.quiet 25 (.quiet 26 (.quiet 27 (.quiet 28 (.quiet 29 .done)))))))))))))))))))))))))))))) (SubL.refl _) ?_)
             | refine AltP.mk ?_ ?_
             | refine kpM ?_
             | refine SeqP.go ?_
             | refine cdM ?_
             | exact IsV.mk
             | apply GuardP.mk
             | (first | refine eqlW eqS28 rfl rfl rfl fitM fitM ?_ | refine neqW eqS28 rfl rfl rfl fitM fitM ?_ | refine eqlW eqS24 rfl rfl rfl fitM fitM ?_ | refine neqW eqS24 rfl rfl rfl fitM fitM ?_ | refine eqlW eqS26 rfl rfl rfl fitM fitM ?_ | refine neqW eqS26 rfl rfl rfl fitM fitM ?_)
             | refine Or.inl ⟨_, _, hasM, ?_⟩
             | refine Or.inl ⟨_, _, _, holeM, rfl, rfl, ?_⟩
             | refine lA ?_
             | refine lA0 ?_
             | refine lA1 ?_
             | refine lO ?_
             | refine lO0 ?_
             | refine lO1 ?_
             | refine lR ?_
             | refine lG ?_
             | refine lG0 ?_
             | refine tA ?_
             | refine tA0 ?_
             | refine tA1 ?_
             | refine BytW.ofBlk hasM rfl rfl ?_
             | refine AppW.noneB hasM leM rfl rfl rfl leM leM ?_
             | refine AppW.rowB hasM leM rfl rfl holeM leM leM ?_
             | refine AppW.blkB hasM leM rfl rfl holeM rfl rfl leM leM ?_
             | refine AppW.rowS hasM leM rfl rfl holeM (by omega) leM ?_
             | refine AppW.arrS hasM leM rfl rfl rfl holeM (by first | omega | (simp; omega)) leM ?_
             | refine ⟨sideM, ?_⟩
             | fail)
        all_goals (try conv => whnf)
        · exfalso
          rcases h with ⟨_, h⟩ | ⟨h, _⟩
          · exact absurd (es.symm.trans h) (by decide)
          · exact absurd (es.symm.trans h) (by decide)
        · exact .mk (k + 1) _ _ (by omega) ⟨hk2, rfl, rfl⟩ subM entM
      · obtain rfl : k = ps.length := by omega
        repeat' first
          | (conv => whnf
             first
             | intro _
             | (first | refine selSplit (fun h => ?_) (fun h => ?_) | refine condSplit (fun h => ?_) (fun h => ?_)) <;> first | exact (clash (by assumption) h).elim | exact (clash h (by assumption)).elim | (simp only [decide_eq_true_eq, decide_eq_false_iff_not, Bool.not_eq_true', Bool.not_eq_false', Bool.not_true, Bool.not_false, Bool.or_eq_true, Bool.and_eq_true, Bool.or_eq_false_iff, Bool.and_eq_false_iff, beq_iff_eq, beq_eq_false_iff_ne, ne_eq] at h; first | (exfalso; omega) | skip) | skip
             | (first | refine drM (.quiet 0 (.quiet 1 (.quiet 2 (.quiet 3 (.quiet 4 (.quiet 5 (.quiet 6 (.quiet 7 (.quiet 8 (.quiet 9 (.quiet 10 (.quiet 11 (.quiet 12 (.quiet 13 (.quiet 14 (.quiet 15 (.quiet 16 (.quiet 17 (.quiet 18 (.quiet 19 (.quiet 20 (.quiet 21 (.quiet 22 (.quiet 23 (.quiet 24 (.quiet 25 (.quiet 26 (.quiet 27 (.quiet 28 (.quiet 29 (.quiet 30 .done))))))))))))))))))))))))))))))) (SubL.refl _) ?_ | refine drM (.quiet 0 (.quiet 1 (.quiet 2 (.quiet 3 (.quiet 4 (.quiet 5 (.quiet 6 (.quiet 7 (.quiet 8 (.quiet 9 (.quiet 10 (.quiet 11 (.quiet 12 (.quiet 13 (.quiet 14 (.quiet 15 (.quiet 16 (.quiet 17 (.quiet 18 (.quiet 19 (.quiet 20 (.quiet 21 (.quiet 22 (.quiet 23 (.quiet 24 (.quiet 25 (.quiet 26 (.quiet 27 (.quiet 28 (.quiet 29 .done)))))))))))))))))))))))))))))) (SubL.refl _) ?_)
             | refine AltP.mk ?_ ?_
             | refine kpM ?_
             | refine SeqP.go ?_
             | refine CondR.split ?_
             | exact IsV.mk
             | apply GuardP.mk
             | (first | refine eqlW eqS28 rfl rfl rfl fitM fitM ?_ | refine neqW eqS28 rfl rfl rfl fitM fitM ?_ | refine eqlW eqS24 rfl rfl rfl fitM fitM ?_ | refine neqW eqS24 rfl rfl rfl fitM fitM ?_ | refine eqlW eqS26 rfl rfl rfl fitM fitM ?_ | refine neqW eqS26 rfl rfl rfl fitM fitM ?_)
             | refine Or.inl ⟨_, _, hasM, ?_⟩
             | refine Or.inl ⟨_, _, _, holeM, rfl, rfl, ?_⟩
             | refine lA ?_
             | refine lA0 ?_
             | refine lA1 ?_
             | refine lO ?_
             | refine lO0 ?_
             | refine lO1 ?_
             | refine lR ?_
             | refine lG ?_
             | refine lG0 ?_
             | refine tA ?_
             | refine tA0 ?_
             | refine tA1 ?_
             | refine BytW.ofBlk hasM rfl rfl ?_
             | refine AppW.noneB hasM leM rfl rfl rfl leM leM ?_
             | refine AppW.rowB hasM leM rfl rfl holeM leM leM ?_
             | refine AppW.blkB hasM leM rfl rfl holeM rfl rfl leM leM ?_
             | refine AppW.rowS hasM leM rfl rfl holeM (by omega) leM ?_
             | refine AppW.arrS hasM leM rfl rfl rfl holeM (by first | omega | (simp; omega)) leM ?_
             | refine ⟨sideM, ?_⟩
             | fail)
        all_goals (try conv => whnf)
        all_goals first
          | (exfalso; omega)
          | rfl
theorem InfoRests_n (b : BridgeV) (ps : List PortV) (A : Option Addr) (n c : Nat) (w : World) (hn : n = ps.length) (hs : SlAt w A 61 (ps.map PortV.enc)) (hok : ∀ p ∈ ps, okI11 p) : PuAt Try.prog 8 [.agg ⟨b.enc⟩, .slice A n c] (.bool true) w := by
  subst hn; exact InfoRests_w b ps A c w hs hok
end Go.Proofs.Ytmgoahmbdpoikaa.Am
