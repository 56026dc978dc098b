/- The law RolesBest. -/
import Derived.Test.YtgjdmlgdgbehoaaRolesL2
set_option linter.unusedVariables false
set_option linter.unusedSimpArgs false
set_option maxRecDepth 100000
set_option maxHeartbeats 4000000
namespace Go.Proofs.Ytgjdmlgdgbehoaa.Am
open Go Go.RowKit
section
variable {bridge : Int} {ps : List InfoV}
theorem portK_way (v : V4) : ∀ k, 0 ≤ portK bridge ps v k → ∃ p, ps[(portK bridge ps v k).toNat]? = some p ∧ wayV bridge p = some v
  | 0, h => by simp [portK] at h
  | k + 1, h => by
    cases hp : ps[k]? with
    | none =>
      have e : portK bridge ps v (k + 1) = portK bridge ps v k := by conv => lhs; unfold portK; rw [hp]
      rw [e] at h ⊢
      exact portK_way v k h
    | some p =>
      rw [portK_succ hp] at h ⊢
      split at h
      · rename_i c
        rw [if_pos c, Int.toNat_natCast]
        exact ⟨p, hp, c.1⟩
      · rename_i c
        rw [if_neg c]
        exact portK_way v k h
theorem best_mine : (bestV bridge ps).1 = mineV bridge ∧ (bestV bridge ps).2 = -1 ∨ lt4 (bestV bridge ps).1 (mineV bridge) ∧ 0 ≤ (bestV bridge ps).2 := by
  have h : bestV bridge ps = pairOf bridge ps (minK bridge ps ps.length) ps.length := bestK_is ps.length
  rw [h]
  unfold pairOf
  rcases (minK_spec (bridge := bridge) (ps := ps) ps.length).1 with h1 | ⟨h1, h2⟩
  · rw [if_pos h1]; exact .inl ⟨h1, rfl⟩
  · rw [if_neg (fun q => lt4_irr _ (by rw [q] at h1; exact h1))]
    exact .inr ⟨h1, portK_some _ _ h2⟩
theorem best_least {k : Nat} {x : InfoV} (hx : ps[k]? = some x) (h3 : x.Source = 3) (ho : ownV x.v4 bridge = false) : ¬ lt4 (raiseV x.v4 x.Cost) (bestV bridge ps).1 := by
  have h : bestV bridge ps = pairOf bridge ps (minK bridge ps ps.length) ps.length := bestK_is ps.length
  rw [h]
  exact (minK_spec (bridge := bridge) (ps := ps) ps.length).2 k x _ (List.getElem?_eq_some_iff.1 hx).1 hx (by unfold wayV; rw [if_pos ⟨h3, ho⟩])
theorem best_port {k : Nat} {x : InfoV} (hx : ps[k]? = some x) (h : (k : Int) = (bestV bridge ps).2) : x.Source = 3 ∧ ownV x.v4 bridge = false ∧ raiseV x.v4 x.Cost = (bestV bridge ps).1 := by
  have hb : bestV bridge ps = pairOf bridge ps (minK bridge ps ps.length) ps.length := bestK_is ps.length
  rw [hb] at h ⊢
  unfold pairOf at h ⊢
  dsimp only at h ⊢
  split at h
  · omega
  · obtain ⟨p, hp, hw⟩ := portK_way (bridge := bridge) (ps := ps) (minK bridge ps ps.length) ps.length (by omega)
    rw [← h, Int.toNat_natCast, hx] at hp
    cases hp
    unfold wayV at hw
    split at hw
    · rename_i c
      exact ⟨c.1, c.2, Option.some.inj hw⟩
    · cases hw
end
/-- What a port's role tells. -/
inductive RoleCase (bridge : Int) (r : V4 × Int) (k : Nat) (x : InfoV) : Prop
  | off (hr : roleI bridge r k x = 0) (hk : ¬ (k : Int) = r.2) (hs : x.Source = 0)
  | root (hr : roleI bridge r k x = 1) (hk : (k : Int) = r.2) (hs : x.Source = 3) (ho : ownV x.v4 bridge = false) (hv : raiseV x.v4 x.Cost = r.1)
  | des (hr : roleI bridge r k x = 2) (hk : ¬ (k : Int) = r.2) (hs : ¬ x.Source = 0) (hv : x.Source = 3 → cmp4 (offV r.1 bridge x) x.v4 < 0)
  | bak (hr : roleI bridge r k x = 4) (hk : ¬ (k : Int) = r.2) (hs : x.Source = 3) (ho : ownV x.v4 bridge = true) (hv : ¬ 0 < cmp4 x.v4 (offV r.1 bridge x))
  | alt (hr : roleI bridge r k x = 3) (hk : ¬ (k : Int) = r.2) (hs : x.Source = 3) (ho : ownV x.v4 bridge = false) (hv : ¬ 0 < cmp4 x.v4 (offV r.1 bridge x))
theorem roleCase {bridge : Int} {r : V4 × Int} {k : Nat} {x : InfoV} (hp : (k : Int) = r.2 → x.Source = 3 ∧ ownV x.v4 bridge = false ∧ raiseV x.v4 x.Cost = r.1) : RoleCase bridge r k x := by
  by_cases h0 : x.Source = 0
  · exact .off (by unfold roleI; rw [if_pos h0]) (fun q => by have := (hp q).1; omega) h0
  by_cases h3 : x.Source = 3
  · by_cases hk : (k : Int) = r.2
    · exact .root (by unfold roleI; rw [if_neg h0, if_neg (fun q => q h3), if_pos hk]) hk h3 (hp hk).2.1 (hp hk).2.2
    · by_cases hc : cmp4 (offV r.1 bridge x) x.v4 < 0
      · exact .des (by unfold roleI; rw [if_neg h0, if_neg (fun q => q h3), if_neg hk, if_pos hc]) hk h0 (fun _ => hc)
      · have hv : ¬ 0 < cmp4 x.v4 (offV r.1 bridge x) := fun q => hc (cmp4_neg.2 (cmp4_pos.1 q))
        cases ho : ownV x.v4 bridge with
        | true => exact .bak (by unfold roleI; rw [if_neg h0, if_neg (fun q => q h3), if_neg hk, if_neg hc, if_pos ho]) hk h3 ho hv
        | false => exact .alt (by unfold roleI; rw [if_neg h0, if_neg (fun q => q h3), if_neg hk, if_neg hc, if_neg (by rw [ho]; decide)]) hk h3 ho hv
  · exact .des (by unfold roleI; rw [if_neg h0, if_pos h3]) (fun q => h3 (hp q).1) h0 (fun q => absurd q h3)
def rootN (r : V4 × Int) (k : Nat) : Int := if 0 ≤ r.2 ∧ r.2 < k then 1 else 0
theorem ok_RolesBest : (match Try.f4.body with | some c => codeOk Try.f4.ntmps c | none => false) = true := by kernel_rfl
theorem en_RolesBest : ∃ fn, Try.prog.funcs[4]? = some fn ∧ (fn.name == "runtime.NumGoroutine") = false ∧ fn.body.isNone = false := ⟨_, Try.func4, by kernel_rfl, by kernel_rfl⟩
theorem RolesBest_w (bridge : Int) (ps : List InfoV) (A : Option Addr) (c : Nat) (w : World) (hs : SlAt w A 7 (ps.map InfoV.enc)) (hb : u64N bridge) (hok : ∀ p ∈ ps, okI8 p) : PuAt Try.prog 4 [.int .u64 bridge, .slice A ps.length c] (.bool true) w := by
  refine funcR_pure tyOk wide Try.func4 ok_RolesBest (Nat.le_of_ble_eq_true rfl) ?_
  by_cases hno : 40 < ps.length
  · skip
    repeat' first
      | (conv => whnf
         first
         | intro _
         | (first | refine selSplit (fun h => ?_) (fun h => ?_) | refine condSplit (fun h => ?_) (fun h => ?_)) <;> first | exact (clash (by assumption) h).elim | exact (clash h (by assumption)).elim | (simp only [decide_eq_true_eq, decide_eq_false_iff_not, Bool.not_eq_true', Bool.not_eq_false', Bool.not_true, Bool.not_false, Bool.or_eq_true, Bool.and_eq_true, Bool.or_eq_false_iff, Bool.and_eq_false_iff, beq_iff_eq, beq_eq_false_iff_ne, ne_eq] at h; first | (exfalso; omega) | skip) | skip
         | (first | refine drM (.quiet 0 (.quiet 1 (.quiet 2 (.quiet 3 (.quiet 4 (.quiet 5 (.quiet 6 (.quiet 7 (.quiet 8 (.quiet 9 (.quiet 10 (.quiet 11 (.quiet 12 (.quiet 13 (.quiet 14 (.quiet 15 (.quiet 16 (.quiet 17 (.quiet 18 (.quiet 19 (.quiet 20 (.quiet 21 (.quiet 22 (.quiet 23 (.quiet 24 (.quiet 25 (.quiet 26 (.quiet 27 (.quiet 28 (.quiet 29 (.quiet 30 (.quiet 31 (.quiet 32 (.quiet 33 (.quiet 34 (.quiet 35 (.quiet 36 .done))))))))))))))))))))))))))))))))))))) (SubL.refl _) ?_ | refine drM (.quiet 0 (.quiet 1 (.quiet 2 (.quiet 3 (.quiet 4 (.quiet 5 (.quiet 6 (.quiet 7 (.quiet 8 (.quiet 9 (.quiet 10 (.quiet 11 (.quiet 12 (.quiet 13 (.quiet 14 (.quiet 15 (.quiet 16 (.quiet 17 .done)))))))))))))))))) (SubL.refl _) ?_ | refine drM (.quiet 0 (.quiet 1 (.quiet 2 (.quiet 3 (.quiet 4 (.quiet 5 (.quiet 6 (.quiet 7 (.quiet 8 (.quiet 9 (.quiet 10 (.quiet 11 (.quiet 12 (.quiet 13 (.quiet 14 (.quiet 15 (.quiet 16 (.quiet 17 (.quiet 18 (.quiet 19 (.quiet 20 (.quiet 21 .done)))))))))))))))))))))) (SubL.refl _) ?_ | refine drM (.quiet 0 (.quiet 1 (.quiet 2 (.quiet 3 (.quiet 4 (.quiet 5 (.quiet 6 (.quiet 7 (.quiet 8 (.quiet 9 (.quiet 10 (.quiet 11 (.quiet 12 (.quiet 13 (.quiet 14 (.quiet 15 (.quiet 16 (.quiet 17 (.quiet 18 .done))))))))))))))))))) (SubL.refl _) ?_ | refine drM (.quiet 0 (.quiet 1 (.quiet 2 (.quiet 3 (.quiet 4 (.quiet 5 (.quiet 6 (.quiet 7 (.quiet 8 (.quiet 9 (.quiet 10 (.quiet 11 (.quiet 12 (.quiet 13 (.quiet 14 (.quiet 15 (.quiet 16 (.quiet 17 (.quiet 18 (.quiet 19 (.quiet 20 (.quiet 21 (.quiet 22 (.quiet 23 .done)))))))))))))))))))))))) (SubL.refl _) ?_)
         | refine AltP.mk ?_ ?_
         | refine kpM ?_
         | refine SeqP.go ?_
         | refine CondR.split ?_
         | exact IsV.mk
         | apply GuardP.mk
         | ((first | apply callPure' en_awake08 | apply callQuiet' en_awake08); · exact fun w _ => awake08_w w)
         | (first | refine eqlW eqS28 rfl rfl rfl fitM fitM ?_ | refine neqW eqS28 rfl rfl rfl fitM fitM ?_)
         | refine Or.inl ⟨_, _, hasM, ?_⟩
         | refine Or.inl ⟨_, _, _, holeM, rfl, rfl, ?_⟩
         | refine lA ?_
         | refine lA0 ?_
         | refine lA1 ?_
         | refine lO ?_
         | refine lO0 ?_
         | refine lO1 ?_
         | refine lR ?_
         | refine lG ?_
         | refine lG0 ?_
         | refine tA ?_
         | refine tA0 ?_
         | refine tA1 ?_
         | refine BytW.ofBlk hasM rfl rfl ?_
         | refine AppW.noneB hasM leM rfl rfl rfl leM leM ?_
         | refine AppW.rowB hasM leM rfl rfl holeM leM leM ?_
         | refine AppW.blkB hasM leM rfl rfl holeM rfl rfl leM leM ?_
         | refine AppW.rowS hasM leM rfl rfl holeM (by omega) leM ?_
         | refine AppW.arrS hasM leM rfl rfl rfl holeM (by first | omega | (simp; omega)) leM ?_
         | refine ⟨sideM, ?_⟩
         | fail)
    all_goals (try conv => whnf)
    all_goals first | rfl | (exfalso; omega)
  have hl : ps.length ≤ 1000 := by omega
  have hI := fun w hw => iRight_w ps _ rfl A c w hw hl
  cases hr : rightI ps with
  | false =>
    rw [hr] at hI
    repeat' first
      | (conv => whnf
         first
         | intro _
         | (first | refine selSplit (fun h => ?_) (fun h => ?_) | refine condSplit (fun h => ?_) (fun h => ?_)) <;> first | exact (clash (by assumption) h).elim | exact (clash h (by assumption)).elim | (simp only [decide_eq_true_eq, decide_eq_false_iff_not, Bool.not_eq_true', Bool.not_eq_false', Bool.not_true, Bool.not_false, Bool.or_eq_true, Bool.and_eq_true, Bool.or_eq_false_iff, Bool.and_eq_false_iff, beq_iff_eq, beq_eq_false_iff_ne, ne_eq] at h; first | (exfalso; omega) | skip) | skip
         | (first | refine drC (.quiet 0 (.quiet 1 (.quiet 2 (.quiet 3 (.quiet 4 (.quiet 5 (.quiet 6 (.quiet 7 (.quiet 8 (.quiet 9 (.quiet 10 (.quiet 11 (.quiet 12 (.quiet 13 (.quiet 14 (.quiet 15 (.quiet 16 (.quiet 17 (.quiet 18 (.quiet 19 (.quiet 20 (.quiet 21 (.quiet 22 (.quiet 23 (.quiet 24 (.quiet 25 (.quiet 26 (.quiet 27 (.quiet 28 (.quiet 29 (.quiet 30 (.quiet 31 (.quiet 32 (.quiet 33 (.quiet 34 (.quiet 35 (.quiet 36 .done))))))))))))))))))))))))))))))))))))) (SubL.refl _) ?_ | refine drC (.quiet 0 (.quiet 1 (.quiet 2 (.quiet 3 (.quiet 4 (.quiet 5 (.quiet 6 (.quiet 7 (.quiet 8 (.quiet 9 (.quiet 10 (.quiet 11 (.quiet 12 (.quiet 13 (.quiet 14 (.quiet 15 (.quiet 16 (.quiet 17 .done)))))))))))))))))) (SubL.refl _) ?_ | refine drC (.quiet 0 (.quiet 1 (.quiet 2 (.quiet 3 (.quiet 4 (.quiet 5 (.quiet 6 (.quiet 7 (.quiet 8 (.quiet 9 (.quiet 10 (.quiet 11 (.quiet 12 (.quiet 13 (.quiet 14 (.quiet 15 (.quiet 16 (.quiet 17 (.quiet 18 (.quiet 19 (.quiet 20 (.quiet 21 .done)))))))))))))))))))))) (SubL.refl _) ?_ | refine drC (.quiet 0 (.quiet 1 (.quiet 2 (.quiet 3 (.quiet 4 (.quiet 5 (.quiet 6 (.quiet 7 (.quiet 8 (.quiet 9 (.quiet 10 (.quiet 11 (.quiet 12 (.quiet 13 (.quiet 14 (.quiet 15 (.quiet 16 (.quiet 17 (.quiet 18 .done))))))))))))))))))) (SubL.refl _) ?_ | refine drC (.quiet 0 (.quiet 1 (.quiet 2 (.quiet 3 (.quiet 4 (.quiet 5 (.quiet 6 (.quiet 7 (.quiet 8 (.quiet 9 (.quiet 10 (.quiet 11 (.quiet 12 (.quiet 13 (.quiet 14 (.quiet 15 (.quiet 16 (.quiet 17 (.quiet 18 (.quiet 19 (.quiet 20 (.quiet 21 (.quiet 22 (.quiet 23 .done)))))))))))))))))))))))) (SubL.refl _) ?_)
         | refine AltP.mk ?_ ?_
         | refine kpM ?_
         | refine SeqP.go ?_
         | refine cdM ?_
         | exact IsV.mk
         | apply GuardP.mk
         | ((first | apply callPure' en_awake08 | apply callQuiet' en_awake08); · exact fun w _ => awake08_w w)
         | ((first | apply callPure' en_iRight | apply callQuiet' en_iRight); · exact fun w hw => hI w (hs.later hw))
         | (first | refine eqlW eqS28 rfl rfl rfl fitM fitM ?_ | refine neqW eqS28 rfl rfl rfl fitM fitM ?_)
         | refine Or.inl ⟨_, _, hasM, ?_⟩
         | refine Or.inl ⟨_, _, _, holeM, rfl, rfl, ?_⟩
         | refine lA ?_
         | refine lA0 ?_
         | refine lA1 ?_
         | refine lO ?_
         | refine lO0 ?_
         | refine lO1 ?_
         | refine lR ?_
         | refine lG ?_
         | refine lG0 ?_
         | refine tA ?_
         | refine tA0 ?_
         | refine tA1 ?_
         | refine BytW.ofBlk hasM rfl rfl ?_
         | refine AppW.noneB hasM leM rfl rfl rfl leM leM ?_
         | refine AppW.rowB hasM leM rfl rfl holeM leM leM ?_
         | refine AppW.blkB hasM leM rfl rfl holeM rfl rfl leM leM ?_
         | refine AppW.rowS hasM leM rfl rfl holeM (by omega) leM ?_
         | refine AppW.arrS hasM leM rfl rfl rfl holeM (by first | omega | (simp; omega)) leM ?_
         | refine ⟨sideM, ?_⟩
         | fail)
    all_goals (try conv => whnf)
    all_goals first | rfl | (exfalso; simp at h; done)
  | true =>
    rw [hr] at hI
    have hS := fun w hw => Select_w bridge ps _ rfl A c w hw hl hr
    have hat : (bestV bridge ps).2 < ps.length := (bestK_at bridge ps ps.length).2
    have hm := best_mine (bridge := bridge) (ps := ps)
    have hle := fun k x => best_least (bridge := bridge) (ps := ps) (k := k) (x := x)
    have hpo := fun k x => best_port (bridge := bridge) (ps := ps) (k := k) (x := x)
    unfold rolesV offersV at hS
    generalize bestV bridge ps = r at *
    repeat' first
      | (conv => whnf
         first
         | intro _
         | (first | refine selSplit (fun h => ?_) (fun h => ?_) | refine condSplit (fun h => ?_) (fun h => ?_)) <;> first | exact (clash (by assumption) h).elim | exact (clash h (by assumption)).elim | (simp only [decide_eq_true_eq, decide_eq_false_iff_not, Bool.not_eq_true', Bool.not_eq_false', Bool.not_true, Bool.not_false, Bool.or_eq_true, Bool.and_eq_true, Bool.or_eq_false_iff, Bool.and_eq_false_iff, beq_iff_eq, beq_eq_false_iff_ne, ne_eq] at h; first | (exfalso; omega) | skip) | skip
         | (first | refine drC (.quiet 0 (.quiet 1 (.quiet 2 (.quiet 3 (.quiet 4 (.quiet 5 (.quiet 6 (.quiet 7 (.quiet 8 (.quiet 9 (.quiet 10 (.quiet 11 (.quiet 12 (.quiet 13 (.quiet 14 (.quiet 15 (.quiet 16 (.quiet 17 (.quiet 18 (.quiet 19 (.quiet 20 (.quiet 21 (.quiet 22 (.quiet 23 (.quiet 24 (.quiet 25 (.quiet 26 (.quiet 27 (.quiet 28 (.quiet 29 (.quiet 30 (.quiet 31 (.quiet 32 (.quiet 33 (.quiet 34 (.quiet 35 (.quiet 36 .done))))))))))))))))))))))))))))))))))))) (SubL.refl _) ?_ | refine drC (.quiet 0 (.quiet 1 (.quiet 2 (.quiet 3 (.quiet 4 (.quiet 5 (.quiet 6 (.quiet 7 (.quiet 8 (.quiet 9 (.quiet 10 (.quiet 11 (.quiet 12 (.quiet 13 (.quiet 14 (.quiet 15 (.quiet 16 (.quiet 17 .done)))))))))))))))))) (SubL.refl _) ?_ | refine drC (.quiet 0 (.quiet 1 (.quiet 2 (.quiet 3 (.quiet 4 (.quiet 5 (.quiet 6 (.quiet 7 (.quiet 8 (.quiet 9 (.quiet 10 (.quiet 11 (.quiet 12 (.quiet 13 (.quiet 14 (.quiet 15 (.quiet 16 (.quiet 17 (.quiet 18 (.quiet 19 (.quiet 20 (.quiet 21 .done)))))))))))))))))))))) (SubL.refl _) ?_ | refine drC (.quiet 0 (.quiet 1 (.quiet 2 (.quiet 3 (.quiet 4 (.quiet 5 (.quiet 6 (.quiet 7 (.quiet 8 (.quiet 9 (.quiet 10 (.quiet 11 (.quiet 12 (.quiet 13 (.quiet 14 (.quiet 15 (.quiet 16 (.quiet 17 (.quiet 18 .done))))))))))))))))))) (SubL.refl _) ?_ | refine drC (.quiet 0 (.quiet 1 (.quiet 2 (.quiet 3 (.quiet 4 (.quiet 5 (.quiet 6 (.quiet 7 (.quiet 8 (.quiet 9 (.quiet 10 (.quiet 11 (.quiet 12 (.quiet 13 (.quiet 14 (.quiet 15 (.quiet 16 (.quiet 17 (.quiet 18 (.quiet 19 (.quiet 20 (.quiet 21 (.quiet 22 (.quiet 23 .done)))))))))))))))))))))))) (SubL.refl _) ?_)
         | refine AltP.mk ?_ ?_
         | refine kpM ?_
         | refine SeqP.go ?_
         | refine cdM ?_
         | exact IsV.mk
         | apply GuardP.mk
         | ((first | apply callPure' en_awake08 | apply callQuiet' en_awake08); · exact fun w _ => awake08_w w)
         | ((first | apply callPure' en_iRight | apply callQuiet' en_iRight); · exact fun w hw => hI w (hs.later hw))
         | (refine callX takeM en_Select (fun w hw => hS w (hs.later hw)) ?_)
         | ((first | apply callPure' en_Mine | apply callQuiet' en_Mine); · exact fun w _ => Mine_w bridge w)
         | ((first | apply callPure' en_vCompare | apply callQuiet' en_vCompare); · exact fun w _ => vCompare4 (mineV bridge) r.1 w)
         | (first | refine eqlW eqS28 rfl rfl rfl fitM fitM ?_ | refine neqW eqS28 rfl rfl rfl fitM fitM ?_)
         | refine Or.inl ⟨_, _, hasM, ?_⟩
         | refine Or.inl ⟨_, _, _, holeM, rfl, rfl, ?_⟩
         | refine lA ?_
         | refine lA0 ?_
         | refine lA1 ?_
         | refine lO ?_
         | refine lO0 ?_
         | refine lO1 ?_
         | refine lR ?_
         | refine lG ?_
         | refine lG0 ?_
         | refine tA ?_
         | refine tA0 ?_
         | refine tA1 ?_
         | refine BytW.ofBlk hasM rfl rfl ?_
         | refine AppW.noneB hasM leM rfl rfl rfl leM leM ?_
         | refine AppW.rowB hasM leM rfl rfl holeM leM leM ?_
         | refine AppW.blkB hasM leM rfl rfl holeM rfl rfl leM leM ?_
         | refine AppW.rowS hasM leM rfl rfl holeM (by omega) leM ?_
         | refine AppW.arrS hasM leM rfl rfl rfl holeM (by first | omega | (simp; omega)) leM ?_
         | refine ⟨sideM, ?_⟩
         | fail)
    all_goals (try conv => whnf)
    · exact v_bool rfl
    · exfalso
      have e : allEq (encV r.1) (encV (mineV bridge)) = decide (r.2 < 0) := by
        rcases hm with ⟨h1, h2⟩ | ⟨h1, h2⟩
        · rw [encV_eq.2 h1, h2]; rfl
        · have g : ¬ allEq (encV r.1) (encV (mineV bridge)) = true := fun q => lt4_irr _ (by rw [encV_eq.1 q] at h1; exact h1)
          rw [decide_eq_false (by omega)]
          simpa using g
      rcases h with (((h | h) | h) | h) | h
      · exact h trivial
      · have := cmp4_neg.1 h
        rcases hm with ⟨h1, h2⟩ | ⟨h1, h2⟩
        · rw [h1] at this; exact lt4_irr _ this
        · exact lt4_asymm h1 this
      · exact h e.symm
      · exact h trivial
      · exact h trivial
    · rename_i s0 hs0 b5
      clear h
      refine .mk Nat (fun k S H => k ≤ ps.length ∧ S = [(8, .int .i64 k), (7, .int .i64 (rootN r k)), (5, .pointer (some ⟨b5, 0, none⟩)), (1, .slice A ps.length c), (0, .int .u64 bridge)] ∧ H = [.blk b5 (encV r.1 ++ [.int .i64 r.2, .slice s0.1.1 ps.length s0.1.2, .slice s0.2.1 ps.length s0.2.2]) 32, .row (.slice s0.1.1 ps.length s0.1.2) 3 1 ps.length ((ps.mapIdx (roleI bridge r)).map (Value.int .i64)), .arr (.slice s0.2.1 ps.length s0.2.2) 28 4 ((ps.map (offV r.1 bridge)).map encV)]) (fun k => ps.length - k) 0 _ _ ⟨by omega, rfl, rfl⟩ ⟨rfl, eq_int (by unfold rootN; rw [if_neg (by omega)]), rfl, rfl, rfl, trivial⟩ entM ?_
      rintro k S1 H1 ⟨hk, rfl, rfl⟩
      obtain ⟨⟨A1, c1⟩, ⟨A2, c2⟩⟩ := s0
      by_cases hk2 : k < ps.length
      · obtain ⟨b, o, e, _⟩ := hs.at_ (by simp; omega)
        subst e
        have o1 := hs.old (X := []) (by simp; omega) (by simp)
        obtain ⟨g1, e, q1⟩ := hs0.1.at_ (by omega)
        dsimp only at e
        subst e
        obtain ⟨g2, e, q2⟩ := hs0.2.at_ (by omega)
        dsimp only at e
        subst e
        obtain ⟨x, hx⟩ : ∃ x, ps[k] = x := ⟨_, rfl⟩
        have hxk : ps[k]? = some x := by rw [List.getElem?_eq_getElem hk2, hx]
        have y1 : (ps.map InfoV.enc)[k]? = some x.enc := by rw [List.getElem?_map, hxk]; rfl
        have y2 : ((ps.mapIdx (roleI bridge r)).map (Value.int .i64))[k]? = some (.int .i64 (roleI bridge r k x)) := by rw [List.getElem?_map, List.getElem?_mapIdx, hxk]; rfl
        have y3 : ((ps.map (offV r.1 bridge)).map encV)[k]? = some (encV (offV r.1 bridge x)) := by rw [List.getElem?_map, List.getElem?_map, hxk]; rfl
        have hxo := hok x (List.mem_of_getElem? hxk)
        have hmod := ownV_mod (v := x.v4) hxo.2.2.2.2.1 hb
        have hl1 := hle k x hxk
        have hc := roleCase (bridge := bridge) (r := r) (k := k) (x := x) (hpo k x hxk)
        have hown : (x.Vector_Bridge.tmod 281474976710656 = bridge.tmod 281474976710656) ↔ ownV x.v4 bridge = true := by
          rw [hmod, Int.tmod_eq_emod_of_nonneg hxo.2.2.2.2.1.1, Int.tmod_eq_emod_of_nonneg hb.1, decide_eq_true_iff]
          exact Iff.rfl
        have hl2 : x.Source = 3 → ownV x.v4 bridge = false → ¬ cmp4 (raiseV x.v4 x.Cost) r.1 < 0 := fun a b q => hl1 a b (cmp4_neg.1 q)
        have hk1 : some (Value.int .i64 ((k : Int) + 1)) = some (.int .i64 ((k + 1 : Nat) : Int)) := eq_int (by push_cast; rfl)
        have hkw : IntKind.i64.wrap ((k : Int) + 1) = ((k + 1 : Nat) : Int) := by rw [w64 (by omega) (by omega)]; push_cast; rfl
        have hn1 : ¬ (k : Int) = r.2 → rootN r k = rootN r (k + 1) := fun q => by
          unfold rootN
          by_cases g : 0 ≤ r.2 ∧ r.2 < (k : Int)
          · rw [if_pos g, if_pos (by push_cast; omega)]
          · rw [if_neg g, if_neg (by push_cast; omega)]
        have hn2 : (k : Int) = r.2 → IntKind.i64.wrap (rootN r k + 1) = rootN r (k + 1) := fun q => by
          unfold rootN
          rw [if_neg (by omega), if_pos (by push_cast; omega)]; decide
        clear hmod hl1 hle hpo hI hS
        cases hc with
        | off hr1 hk3 hs3 =>
          rw [hr1] at y2
          repeat' first
            | (conv => whnf
               first
               | intro _
               | (first | refine selSplit (fun h => ?_) (fun h => ?_) | refine condSplit (fun h => ?_) (fun h => ?_)) <;> first | exact (clash (by assumption) h).elim | exact (clash h (by assumption)).elim | (simp only [decide_eq_true_eq, decide_eq_false_iff_not, Bool.not_eq_true', Bool.not_eq_false', Bool.not_true, Bool.not_false, Bool.or_eq_true, Bool.and_eq_true, Bool.or_eq_false_iff, Bool.and_eq_false_iff, beq_iff_eq, beq_eq_false_iff_ne, ne_eq] at h; first | (exfalso; omega) | skip) | skip
               | (first | refine drC (.quiet 0 (.quiet 1 (.quiet 2 (.quiet 3 (.quiet 4 (.quiet 5 (.quiet 6 (.quiet 7 (.quiet 8 (.quiet 9 (.quiet 10 (.quiet 11 (.quiet 12 (.quiet 13 (.quiet 14 (.quiet 15 (.quiet 16 (.quiet 17 (.quiet 18 (.quiet 19 (.quiet 20 (.quiet 21 (.quiet 22 (.quiet 23 (.quiet 24 (.quiet 25 (.quiet 26 (.quiet 27 (.quiet 28 (.quiet 29 (.quiet 30 (.quiet 31 (.quiet 32 (.quiet 33 (.quiet 34 (.quiet 35 (.quiet 36 .done))))))))))))))))))))))))))))))))))))) (SubL.refl _) ?_ | refine drC (.quiet 0 (.quiet 1 (.quiet 2 (.quiet 3 (.quiet 4 (.quiet 5 (.quiet 6 (.quiet 7 (.quiet 8 (.quiet 9 (.quiet 10 (.quiet 11 (.quiet 12 (.quiet 13 (.quiet 14 (.quiet 15 (.quiet 16 (.quiet 17 .done)))))))))))))))))) (SubL.refl _) ?_ | refine drC (.quiet 0 (.quiet 1 (.quiet 2 (.quiet 3 (.quiet 4 (.quiet 5 (.quiet 6 (.quiet 7 (.quiet 8 (.quiet 9 (.quiet 10 (.quiet 11 (.quiet 12 (.quiet 13 (.quiet 14 (.quiet 15 (.quiet 16 (.quiet 17 (.quiet 18 (.quiet 19 (.quiet 20 (.quiet 21 .done)))))))))))))))))))))) (SubL.refl _) ?_ | refine drC (.quiet 0 (.quiet 1 (.quiet 2 (.quiet 3 (.quiet 4 (.quiet 5 (.quiet 6 (.quiet 7 (.quiet 8 (.quiet 9 (.quiet 10 (.quiet 11 (.quiet 12 (.quiet 13 (.quiet 14 (.quiet 15 (.quiet 16 (.quiet 17 (.quiet 18 .done))))))))))))))))))) (SubL.refl _) ?_ | refine drC (.quiet 0 (.quiet 1 (.quiet 2 (.quiet 3 (.quiet 4 (.quiet 5 (.quiet 6 (.quiet 7 (.quiet 8 (.quiet 9 (.quiet 10 (.quiet 11 (.quiet 12 (.quiet 13 (.quiet 14 (.quiet 15 (.quiet 16 (.quiet 17 (.quiet 18 (.quiet 19 (.quiet 20 (.quiet 21 (.quiet 22 (.quiet 23 .done)))))))))))))))))))))))) (SubL.refl _) ?_)
               | refine AltP.mk ?_ ?_
               | refine kpM ?_
               | refine SeqP.go ?_
               | refine cdM ?_
               | exact IsV.mk
               | apply GuardP.mk
               | ((first | apply callPure' en_Raise | apply callQuiet' en_Raise); · exact fun w _ => Raise4 x.v4 x.Cost w)
               | ((first | apply callPure' en_vCompare | apply callQuiet' en_vCompare); · exact fun w _ => vCompare4 (raiseV x.v4 x.Cost) r.1 w)
               | (first | refine eqlW eqS28 rfl rfl rfl fitM fitM ?_ | refine neqW eqS28 rfl rfl rfl fitM fitM ?_)
               | refine Or.inl ⟨_, _, hasM, ?_⟩
               | refine Or.inl ⟨_, _, _, holeM, rfl, rfl, ?_⟩
               | refine lA ?_
               | refine lA0 ?_
               | refine lA1 ?_
               | refine lO ?_
               | refine lO0 ?_
               | refine lO1 ?_
               | refine lR ?_
               | refine lG ?_
               | refine lG0 ?_
               | refine tA ?_
               | refine tA0 ?_
               | refine tA1 ?_
               | refine BytW.ofBlk hasM rfl rfl ?_
               | refine AppW.noneB hasM leM rfl rfl rfl leM leM ?_
               | refine AppW.rowB hasM leM rfl rfl holeM leM leM ?_
               | refine AppW.blkB hasM leM rfl rfl holeM rfl rfl leM leM ?_
               | refine AppW.rowS hasM leM rfl rfl holeM (by omega) leM ?_
               | refine AppW.arrS hasM leM rfl rfl rfl holeM (by first | omega | (simp; omega)) leM ?_
               | refine ⟨sideM, ?_⟩
               | fail)
          all_goals (try conv => whnf)
          all_goals first
            | (exfalso; omega)
            | exact .mk (k + 1) _ _ (by omega) ⟨hk2, rfl, rfl⟩ ⟨eq_int hkw, eq_int (hn1 hk3), rfl, rfl, rfl, trivial⟩ entM
        | root hr1 hk3 hs3 ho hv =>
          rw [hr1] at y2
          repeat' first
            | (conv => whnf
               first
               | intro _
               | (first | refine selSplit (fun h => ?_) (fun h => ?_) | refine condSplit (fun h => ?_) (fun h => ?_)) <;> first | exact (clash (by assumption) h).elim | exact (clash h (by assumption)).elim | (simp only [decide_eq_true_eq, decide_eq_false_iff_not, Bool.not_eq_true', Bool.not_eq_false', Bool.not_true, Bool.not_false, Bool.or_eq_true, Bool.and_eq_true, Bool.or_eq_false_iff, Bool.and_eq_false_iff, beq_iff_eq, beq_eq_false_iff_ne, ne_eq] at h; first | (exfalso; omega) | skip) | skip
               | (first | refine drC (.quiet 0 (.quiet 1 (.quiet 2 (.quiet 3 (.quiet 4 (.quiet 5 (.quiet 6 (.quiet 7 (.quiet 8 (.quiet 9 (.quiet 10 (.quiet 11 (.quiet 12 (.quiet 13 (.quiet 14 (.quiet 15 (.quiet 16 (.quiet 17 (.quiet 18 (.quiet 19 (.quiet 20 (.quiet 21 (.quiet 22 (.quiet 23 (.quiet 24 (.quiet 25 (.quiet 26 (.quiet 27 (.quiet 28 (.quiet 29 (.quiet 30 (.quiet 31 (.quiet 32 (.quiet 33 (.quiet 34 (.quiet 35 (.quiet 36 .done))))))))))))))))))))))))))))))))))))) (SubL.refl _) ?_ | refine drC (.quiet 0 (.quiet 1 (.quiet 2 (.quiet 3 (.quiet 4 (.quiet 5 (.quiet 6 (.quiet 7 (.quiet 8 (.quiet 9 (.quiet 10 (.quiet 11 (.quiet 12 (.quiet 13 (.quiet 14 (.quiet 15 (.quiet 16 (.quiet 17 .done)))))))))))))))))) (SubL.refl _) ?_ | refine drC (.quiet 0 (.quiet 1 (.quiet 2 (.quiet 3 (.quiet 4 (.quiet 5 (.quiet 6 (.quiet 7 (.quiet 8 (.quiet 9 (.quiet 10 (.quiet 11 (.quiet 12 (.quiet 13 (.quiet 14 (.quiet 15 (.quiet 16 (.quiet 17 (.quiet 18 (.quiet 19 (.quiet 20 (.quiet 21 .done)))))))))))))))))))))) (SubL.refl _) ?_ | refine drC (.quiet 0 (.quiet 1 (.quiet 2 (.quiet 3 (.quiet 4 (.quiet 5 (.quiet 6 (.quiet 7 (.quiet 8 (.quiet 9 (.quiet 10 (.quiet 11 (.quiet 12 (.quiet 13 (.quiet 14 (.quiet 15 (.quiet 16 (.quiet 17 (.quiet 18 .done))))))))))))))))))) (SubL.refl _) ?_ | refine drC (.quiet 0 (.quiet 1 (.quiet 2 (.quiet 3 (.quiet 4 (.quiet 5 (.quiet 6 (.quiet 7 (.quiet 8 (.quiet 9 (.quiet 10 (.quiet 11 (.quiet 12 (.quiet 13 (.quiet 14 (.quiet 15 (.quiet 16 (.quiet 17 (.quiet 18 (.quiet 19 (.quiet 20 (.quiet 21 (.quiet 22 (.quiet 23 .done)))))))))))))))))))))))) (SubL.refl _) ?_)
               | refine AltP.mk ?_ ?_
               | refine kpM ?_
               | refine SeqP.go ?_
               | refine cdM ?_
               | exact IsV.mk
               | apply GuardP.mk
               | ((first | apply callPure' en_Raise | apply callQuiet' en_Raise); · exact fun w _ => Raise4 x.v4 x.Cost w)
               | ((first | apply callPure' en_vCompare | apply callQuiet' en_vCompare); · exact fun w _ => vCompare4 (raiseV x.v4 x.Cost) r.1 w)
               | (first | refine eqlW eqS28 rfl rfl rfl fitM fitM ?_ | refine neqW eqS28 rfl rfl rfl fitM fitM ?_)
               | refine Or.inl ⟨_, _, hasM, ?_⟩
               | refine Or.inl ⟨_, _, _, holeM, rfl, rfl, ?_⟩
               | refine lA ?_
               | refine lA0 ?_
               | refine lA1 ?_
               | refine lO ?_
               | refine lO0 ?_
               | refine lO1 ?_
               | refine lR ?_
               | refine lG ?_
               | refine lG0 ?_
               | refine tA ?_
               | refine tA0 ?_
               | refine tA1 ?_
               | refine BytW.ofBlk hasM rfl rfl ?_
               | refine AppW.noneB hasM leM rfl rfl rfl leM leM ?_
               | refine AppW.rowB hasM leM rfl rfl holeM leM leM ?_
               | refine AppW.blkB hasM leM rfl rfl holeM rfl rfl leM leM ?_
               | refine AppW.rowS hasM leM rfl rfl holeM (by omega) leM ?_
               | refine AppW.arrS hasM leM rfl rfl rfl holeM (by first | omega | (simp; omega)) leM ?_
               | refine ⟨sideM, ?_⟩
               | fail)
          all_goals (try conv => whnf)
          all_goals first
            | (exfalso; omega)
            | exact .mk (k + 1) _ _ (by omega) ⟨hk2, rfl, rfl⟩ ⟨eq_int hkw, eq_int (hn2 hk3), rfl, rfl, rfl, trivial⟩ entM
            | (exfalso; exact hl2 h.1.1 (by simpa using fun q => h.1.2 (hown.2 q)) h.2)
            | (exfalso
               have e : allEq (encV (raiseV x.v4 x.Cost)) (encV r.1) = true := encV_eq.2 hv
               rcases h with ((h | h) | h) | h
               · exact h hk3
               · exact h hs3
               · exact absurd (hown.1 h) (by rw [ho]; decide)
               · exact absurd (e.symm.trans h) (by decide))
        | des hr1 hk3 hs3 hv =>
          rw [hr1] at y2
          repeat' first
            | (conv => whnf
               first
               | intro _
               | (first | refine selSplit (fun h => ?_) (fun h => ?_) | refine condSplit (fun h => ?_) (fun h => ?_)) <;> first | exact (clash (by assumption) h).elim | exact (clash h (by assumption)).elim | (simp only [decide_eq_true_eq, decide_eq_false_iff_not, Bool.not_eq_true', Bool.not_eq_false', Bool.not_true, Bool.not_false, Bool.or_eq_true, Bool.and_eq_true, Bool.or_eq_false_iff, Bool.and_eq_false_iff, beq_iff_eq, beq_eq_false_iff_ne, ne_eq] at h; first | (exfalso; omega) | skip) | skip
               | (first | refine drC (.quiet 0 (.quiet 1 (.quiet 2 (.quiet 3 (.quiet 4 (.quiet 5 (.quiet 6 (.quiet 7 (.quiet 8 (.quiet 9 (.quiet 10 (.quiet 11 (.quiet 12 (.quiet 13 (.quiet 14 (.quiet 15 (.quiet 16 (.quiet 17 (.quiet 18 (.quiet 19 (.quiet 20 (.quiet 21 (.quiet 22 (.quiet 23 (.quiet 24 (.quiet 25 (.quiet 26 (.quiet 27 (.quiet 28 (.quiet 29 (.quiet 30 (.quiet 31 (.quiet 32 (.quiet 33 (.quiet 34 (.quiet 35 (.quiet 36 .done))))))))))))))))))))))))))))))))))))) (SubL.refl _) ?_ | refine drC (.quiet 0 (.quiet 1 (.quiet 2 (.quiet 3 (.quiet 4 (.quiet 5 (.quiet 6 (.quiet 7 (.quiet 8 (.quiet 9 (.quiet 10 (.quiet 11 (.quiet 12 (.quiet 13 (.quiet 14 (.quiet 15 (.quiet 16 (.quiet 17 .done)))))))))))))))))) (SubL.refl _) ?_ | refine drC (.quiet 0 (.quiet 1 (.quiet 2 (.quiet 3 (.quiet 4 (.quiet 5 (.quiet 6 (.quiet 7 (.quiet 8 (.quiet 9 (.quiet 10 (.quiet 11 (.quiet 12 (.quiet 13 (.quiet 14 (.quiet 15 (.quiet 16 (.quiet 17 (.quiet 18 (.quiet 19 (.quiet 20 (.quiet 21 .done)))))))))))))))))))))) (SubL.refl _) ?_ | refine drC (.quiet 0 (.quiet 1 (.quiet 2 (.quiet 3 (.quiet 4 (.quiet 5 (.quiet 6 (.quiet 7 (.quiet 8 (.quiet 9 (.quiet 10 (.quiet 11 (.quiet 12 (.quiet 13 (.quiet 14 (.quiet 15 (.quiet 16 (.quiet 17 (.quiet 18 .done))))))))))))))))))) (SubL.refl _) ?_ | refine drC (.quiet 0 (.quiet 1 (.quiet 2 (.quiet 3 (.quiet 4 (.quiet 5 (.quiet 6 (.quiet 7 (.quiet 8 (.quiet 9 (.quiet 10 (.quiet 11 (.quiet 12 (.quiet 13 (.quiet 14 (.quiet 15 (.quiet 16 (.quiet 17 (.quiet 18 (.quiet 19 (.quiet 20 (.quiet 21 (.quiet 22 (.quiet 23 .done)))))))))))))))))))))))) (SubL.refl _) ?_)
               | refine AltP.mk ?_ ?_
               | refine kpM ?_
               | refine SeqP.go ?_
               | refine cdM ?_
               | exact IsV.mk
               | apply GuardP.mk
               | ((first | apply callPure' en_Raise | apply callQuiet' en_Raise); · exact fun w _ => Raise4 x.v4 x.Cost w)
               | ((first | apply callPure' en_vCompare | apply callQuiet' en_vCompare); · exact fun w _ => vCompare4 (raiseV x.v4 x.Cost) r.1 w)
               | ((first | apply callPure' en_vCompare | apply callQuiet' en_vCompare); · exact fun w _ => vCompare4 (offV r.1 bridge x) x.v4 w)
               | (first | refine eqlW eqS28 rfl rfl rfl fitM fitM ?_ | refine neqW eqS28 rfl rfl rfl fitM fitM ?_)
               | refine Or.inl ⟨_, _, hasM, ?_⟩
               | refine Or.inl ⟨_, _, _, holeM, rfl, rfl, ?_⟩
               | refine lA ?_
               | refine lA0 ?_
               | refine lA1 ?_
               | refine lO ?_
               | refine lO0 ?_
               | refine lO1 ?_
               | refine lR ?_
               | refine lG ?_
               | refine lG0 ?_
               | refine tA ?_
               | refine tA0 ?_
               | refine tA1 ?_
               | refine BytW.ofBlk hasM rfl rfl ?_
               | refine AppW.noneB hasM leM rfl rfl rfl leM leM ?_
               | refine AppW.rowB hasM leM rfl rfl holeM leM leM ?_
               | refine AppW.blkB hasM leM rfl rfl holeM rfl rfl leM leM ?_
               | refine AppW.rowS hasM leM rfl rfl holeM (by omega) leM ?_
               | refine AppW.arrS hasM leM rfl rfl rfl holeM (by first | omega | (simp; omega)) leM ?_
               | refine ⟨sideM, ?_⟩
               | fail)
          all_goals (try conv => whnf)
          all_goals first
            | (exfalso; omega)
            | exact .mk (k + 1) _ _ (by omega) ⟨hk2, rfl, rfl⟩ ⟨eq_int hkw, eq_int (hn1 hk3), rfl, rfl, rfl, trivial⟩ entM
            | (exfalso; exact hl2 h.1.1 (by simpa using fun q => h.1.2 (hown.2 q)) h.2)
        | bak hr1 hk3 hs3 ho hv =>
          rw [hr1] at y2
          repeat' first
            | (conv => whnf
               first
               | intro _
               | (first | refine selSplit (fun h => ?_) (fun h => ?_) | refine condSplit (fun h => ?_) (fun h => ?_)) <;> first | exact (clash (by assumption) h).elim | exact (clash h (by assumption)).elim | (simp only [decide_eq_true_eq, decide_eq_false_iff_not, Bool.not_eq_true', Bool.not_eq_false', Bool.not_true, Bool.not_false, Bool.or_eq_true, Bool.and_eq_true, Bool.or_eq_false_iff, Bool.and_eq_false_iff, beq_iff_eq, beq_eq_false_iff_ne, ne_eq] at h; first | (exfalso; omega) | skip) | skip
               | (first | refine drC (.quiet 0 (.quiet 1 (.quiet 2 (.quiet 3 (.quiet 4 (.quiet 5 (.quiet 6 (.quiet 7 (.quiet 8 (.quiet 9 (.quiet 10 (.quiet 11 (.quiet 12 (.quiet 13 (.quiet 14 (.quiet 15 (.quiet 16 (.quiet 17 (.quiet 18 (.quiet 19 (.quiet 20 (.quiet 21 (.quiet 22 (.quiet 23 (.quiet 24 (.quiet 25 (.quiet 26 (.quiet 27 (.quiet 28 (.quiet 29 (.quiet 30 (.quiet 31 (.quiet 32 (.quiet 33 (.quiet 34 (.quiet 35 (.quiet 36 .done))))))))))))))))))))))))))))))))))))) (SubL.refl _) ?_ | refine drC (.quiet 0 (.quiet 1 (.quiet 2 (.quiet 3 (.quiet 4 (.quiet 5 (.quiet 6 (.quiet 7 (.quiet 8 (.quiet 9 (.quiet 10 (.quiet 11 (.quiet 12 (.quiet 13 (.quiet 14 (.quiet 15 (.quiet 16 (.quiet 17 .done)))))))))))))))))) (SubL.refl _) ?_ | refine drC (.quiet 0 (.quiet 1 (.quiet 2 (.quiet 3 (.quiet 4 (.quiet 5 (.quiet 6 (.quiet 7 (.quiet 8 (.quiet 9 (.quiet 10 (.quiet 11 (.quiet 12 (.quiet 13 (.quiet 14 (.quiet 15 (.quiet 16 (.quiet 17 (.quiet 18 (.quiet 19 (.quiet 20 (.quiet 21 .done)))))))))))))))))))))) (SubL.refl _) ?_ | refine drC (.quiet 0 (.quiet 1 (.quiet 2 (.quiet 3 (.quiet 4 (.quiet 5 (.quiet 6 (.quiet 7 (.quiet 8 (.quiet 9 (.quiet 10 (.quiet 11 (.quiet 12 (.quiet 13 (.quiet 14 (.quiet 15 (.quiet 16 (.quiet 17 (.quiet 18 .done))))))))))))))))))) (SubL.refl _) ?_ | refine drC (.quiet 0 (.quiet 1 (.quiet 2 (.quiet 3 (.quiet 4 (.quiet 5 (.quiet 6 (.quiet 7 (.quiet 8 (.quiet 9 (.quiet 10 (.quiet 11 (.quiet 12 (.quiet 13 (.quiet 14 (.quiet 15 (.quiet 16 (.quiet 17 (.quiet 18 (.quiet 19 (.quiet 20 (.quiet 21 (.quiet 22 (.quiet 23 .done)))))))))))))))))))))))) (SubL.refl _) ?_)
               | refine AltP.mk ?_ ?_
               | refine kpM ?_
               | refine SeqP.go ?_
               | refine cdM ?_
               | exact IsV.mk
               | apply GuardP.mk
               | ((first | apply callPure' en_Raise | apply callQuiet' en_Raise); · exact fun w _ => Raise4 x.v4 x.Cost w)
               | ((first | apply callPure' en_vCompare | apply callQuiet' en_vCompare); · exact fun w _ => vCompare4 (raiseV x.v4 x.Cost) r.1 w)
               | ((first | apply callPure' en_vCompare | apply callQuiet' en_vCompare); · exact fun w _ => vCompare4 x.v4 (offV r.1 bridge x) w)
               | (first | refine eqlW eqS28 rfl rfl rfl fitM fitM ?_ | refine neqW eqS28 rfl rfl rfl fitM fitM ?_)
               | refine Or.inl ⟨_, _, hasM, ?_⟩
               | refine Or.inl ⟨_, _, _, holeM, rfl, rfl, ?_⟩
               | refine lA ?_
               | refine lA0 ?_
               | refine lA1 ?_
               | refine lO ?_
               | refine lO0 ?_
               | refine lO1 ?_
               | refine lR ?_
               | refine lG ?_
               | refine lG0 ?_
               | refine tA ?_
               | refine tA0 ?_
               | refine tA1 ?_
               | refine BytW.ofBlk hasM rfl rfl ?_
               | refine AppW.noneB hasM leM rfl rfl rfl leM leM ?_
               | refine AppW.rowB hasM leM rfl rfl holeM leM leM ?_
               | refine AppW.blkB hasM leM rfl rfl holeM rfl rfl leM leM ?_
               | refine AppW.rowS hasM leM rfl rfl holeM (by omega) leM ?_
               | refine AppW.arrS hasM leM rfl rfl rfl holeM (by first | omega | (simp; omega)) leM ?_
               | refine ⟨sideM, ?_⟩
               | fail)
          all_goals (try conv => whnf)
          all_goals first
            | (exfalso; omega)
            | exact .mk (k + 1) _ _ (by omega) ⟨hk2, rfl, rfl⟩ ⟨eq_int hkw, eq_int (hn1 hk3), rfl, rfl, rfl, trivial⟩ entM
            | (exfalso; exact hl2 h.1.1 (by simpa using fun q => h.1.2 (hown.2 q)) h.2)
            | (exfalso
               rcases h with (h | h) | h
               · exact h hs3
               · exact hv h
               · exact h (by rw [decide_eq_true (hown.2 ho)]; rfl))
        | alt hr1 hk3 hs3 ho hv =>
          rw [hr1] at y2
          repeat' first
            | (conv => whnf
               first
               | intro _
               | (first | refine selSplit (fun h => ?_) (fun h => ?_) | refine condSplit (fun h => ?_) (fun h => ?_)) <;> first | exact (clash (by assumption) h).elim | exact (clash h (by assumption)).elim | (simp only [decide_eq_true_eq, decide_eq_false_iff_not, Bool.not_eq_true', Bool.not_eq_false', Bool.not_true, Bool.not_false, Bool.or_eq_true, Bool.and_eq_true, Bool.or_eq_false_iff, Bool.and_eq_false_iff, beq_iff_eq, beq_eq_false_iff_ne, ne_eq] at h; first | (exfalso; omega) | skip) | skip
               | (first | refine drC (.quiet 0 (.quiet 1 (.quiet 2 (.quiet 3 (.quiet 4 (.quiet 5 (.quiet 6 (.quiet 7 (.quiet 8 (.quiet 9 (.quiet 10 (.quiet 11 (.quiet 12 (.quiet 13 (.quiet 14 (.quiet 15 (.quiet 16 (.quiet 17 (.quiet 18 (.quiet 19 (.quiet 20 (.quiet 21 (.quiet 22 (.quiet 23 (.quiet 24 (.quiet 25 (.quiet 26 (.quiet 27 (.quiet 28 (.quiet 29 (.quiet 30 (.quiet 31 (.quiet 32 (.quiet 33 (.quiet 34 (.quiet 35 (.quiet 36 .done))))))))))))))))))))))))))))))))))))) (SubL.refl _) ?_ | refine drC (.quiet 0 (.quiet 1 (.quiet 2 (.quiet 3 (.quiet 4 (.quiet 5 (.quiet 6 (.quiet 7 (.quiet 8 (.quiet 9 (.quiet 10 (.quiet 11 (.quiet 12 (.quiet 13 (.quiet 14 (.quiet 15 (.quiet 16 (.quiet 17 .done)))))))))))))))))) (SubL.refl _) ?_ | refine drC (.quiet 0 (.quiet 1 (.quiet 2 (.quiet 3 (.quiet 4 (.quiet 5 (.quiet 6 (.quiet 7 (.quiet 8 (.quiet 9 (.quiet 10 (.quiet 11 (.quiet 12 (.quiet 13 (.quiet 14 (.quiet 15 (.quiet 16 (.quiet 17 (.quiet 18 (.quiet 19 (.quiet 20 (.quiet 21 .done)))))))))))))))))))))) (SubL.refl _) ?_ | refine drC (.quiet 0 (.quiet 1 (.quiet 2 (.quiet 3 (.quiet 4 (.quiet 5 (.quiet 6 (.quiet 7 (.quiet 8 (.quiet 9 (.quiet 10 (.quiet 11 (.quiet 12 (.quiet 13 (.quiet 14 (.quiet 15 (.quiet 16 (.quiet 17 (.quiet 18 .done))))))))))))))))))) (SubL.refl _) ?_ | refine drC (.quiet 0 (.quiet 1 (.quiet 2 (.quiet 3 (.quiet 4 (.quiet 5 (.quiet 6 (.quiet 7 (.quiet 8 (.quiet 9 (.quiet 10 (.quiet 11 (.quiet 12 (.quiet 13 (.quiet 14 (.quiet 15 (.quiet 16 (.quiet 17 (.quiet 18 (.quiet 19 (.quiet 20 (.quiet 21 (.quiet 22 (.quiet 23 .done)))))))))))))))))))))))) (SubL.refl _) ?_)
               | refine AltP.mk ?_ ?_
               | refine kpM ?_
               | refine SeqP.go ?_
               | refine cdM ?_
               | exact IsV.mk
               | apply GuardP.mk
               | ((first | apply callPure' en_Raise | apply callQuiet' en_Raise); · exact fun w _ => Raise4 x.v4 x.Cost w)
               | ((first | apply callPure' en_vCompare | apply callQuiet' en_vCompare); · exact fun w _ => vCompare4 (raiseV x.v4 x.Cost) r.1 w)
               | ((first | apply callPure' en_vCompare | apply callQuiet' en_vCompare); · exact fun w _ => vCompare4 x.v4 (offV r.1 bridge x) w)
               | (first | refine eqlW eqS28 rfl rfl rfl fitM fitM ?_ | refine neqW eqS28 rfl rfl rfl fitM fitM ?_)
               | refine Or.inl ⟨_, _, hasM, ?_⟩
               | refine Or.inl ⟨_, _, _, holeM, rfl, rfl, ?_⟩
               | refine lA ?_
               | refine lA0 ?_
               | refine lA1 ?_
               | refine lO ?_
               | refine lO0 ?_
               | refine lO1 ?_
               | refine lR ?_
               | refine lG ?_
               | refine lG0 ?_
               | refine tA ?_
               | refine tA0 ?_
               | refine tA1 ?_
               | refine BytW.ofBlk hasM rfl rfl ?_
               | refine AppW.noneB hasM leM rfl rfl rfl leM leM ?_
               | refine AppW.rowB hasM leM rfl rfl holeM leM leM ?_
               | refine AppW.blkB hasM leM rfl rfl holeM rfl rfl leM leM ?_
               | refine AppW.rowS hasM leM rfl rfl holeM (by omega) leM ?_
               | refine AppW.arrS hasM leM rfl rfl rfl holeM (by first | omega | (simp; omega)) leM ?_
               | refine ⟨sideM, ?_⟩
               | fail)
          all_goals (try conv => whnf)
          all_goals first
            | (exfalso; omega)
            | exact .mk (k + 1) _ _ (by omega) ⟨hk2, rfl, rfl⟩ ⟨eq_int hkw, eq_int (hn1 hk3), rfl, rfl, rfl, trivial⟩ entM
            | (exfalso; exact hl2 h.1.1 (by simpa using fun q => h.1.2 (hown.2 q)) h.2)
            | (exfalso
               rcases h with (h | h) | h
               · exact h hs3
               · exact hv h
               · exact h (by rw [decide_eq_false (fun q => absurd (hown.1 q) (by rw [ho]; decide))]; rfl))
      · skip
        repeat' first
          | (conv => whnf
             first
             | intro _
             | (first | refine selSplit (fun h => ?_) (fun h => ?_) | refine condSplit (fun h => ?_) (fun h => ?_)) <;> first | exact (clash (by assumption) h).elim | exact (clash h (by assumption)).elim | (simp only [decide_eq_true_eq, decide_eq_false_iff_not, Bool.not_eq_true', Bool.not_eq_false', Bool.not_true, Bool.not_false, Bool.or_eq_true, Bool.and_eq_true, Bool.or_eq_false_iff, Bool.and_eq_false_iff, beq_iff_eq, beq_eq_false_iff_ne, ne_eq] at h; first | (exfalso; omega) | skip) | skip
             | (first | refine drC (.quiet 0 (.quiet 1 (.quiet 2 (.quiet 3 (.quiet 4 (.quiet 5 (.quiet 6 (.quiet 7 (.quiet 8 (.quiet 9 (.quiet 10 (.quiet 11 (.quiet 12 (.quiet 13 (.quiet 14 (.quiet 15 (.quiet 16 (.quiet 17 (.quiet 18 (.quiet 19 (.quiet 20 (.quiet 21 (.quiet 22 (.quiet 23 (.quiet 24 (.quiet 25 (.quiet 26 (.quiet 27 (.quiet 28 (.quiet 29 (.quiet 30 (.quiet 31 (.quiet 32 (.quiet 33 (.quiet 34 (.quiet 35 (.quiet 36 .done))))))))))))))))))))))))))))))))))))) (SubL.refl _) ?_ | refine drC (.quiet 0 (.quiet 1 (.quiet 2 (.quiet 3 (.quiet 4 (.quiet 5 (.quiet 6 (.quiet 7 (.quiet 8 (.quiet 9 (.quiet 10 (.quiet 11 (.quiet 12 (.quiet 13 (.quiet 14 (.quiet 15 (.quiet 16 (.quiet 17 .done)))))))))))))))))) (SubL.refl _) ?_ | refine drC (.quiet 0 (.quiet 1 (.quiet 2 (.quiet 3 (.quiet 4 (.quiet 5 (.quiet 6 (.quiet 7 (.quiet 8 (.quiet 9 (.quiet 10 (.quiet 11 (.quiet 12 (.quiet 13 (.quiet 14 (.quiet 15 (.quiet 16 (.quiet 17 (.quiet 18 (.quiet 19 (.quiet 20 (.quiet 21 .done)))))))))))))))))))))) (SubL.refl _) ?_ | refine drC (.quiet 0 (.quiet 1 (.quiet 2 (.quiet 3 (.quiet 4 (.quiet 5 (.quiet 6 (.quiet 7 (.quiet 8 (.quiet 9 (.quiet 10 (.quiet 11 (.quiet 12 (.quiet 13 (.quiet 14 (.quiet 15 (.quiet 16 (.quiet 17 (.quiet 18 .done))))))))))))))))))) (SubL.refl _) ?_ | refine drC (.quiet 0 (.quiet 1 (.quiet 2 (.quiet 3 (.quiet 4 (.quiet 5 (.quiet 6 (.quiet 7 (.quiet 8 (.quiet 9 (.quiet 10 (.quiet 11 (.quiet 12 (.quiet 13 (.quiet 14 (.quiet 15 (.quiet 16 (.quiet 17 (.quiet 18 (.quiet 19 (.quiet 20 (.quiet 21 (.quiet 22 (.quiet 23 .done)))))))))))))))))))))))) (SubL.refl _) ?_)
             | refine AltP.mk ?_ ?_
             | refine kpM ?_
             | refine SeqP.go ?_
             | refine cdM ?_
             | exact IsV.mk
             | apply GuardP.mk
             | (first | refine eqlW eqS28 rfl rfl rfl fitM fitM ?_ | refine neqW eqS28 rfl rfl rfl fitM fitM ?_)
             | refine Or.inl ⟨_, _, hasM, ?_⟩
             | refine Or.inl ⟨_, _, _, holeM, rfl, rfl, ?_⟩
             | refine lA ?_
             | refine lA0 ?_
             | refine lA1 ?_
             | refine lO ?_
             | refine lO0 ?_
             | refine lO1 ?_
             | refine lR ?_
             | refine lG ?_
             | refine lG0 ?_
             | refine tA ?_
             | refine tA0 ?_
             | refine tA1 ?_
             | refine BytW.ofBlk hasM rfl rfl ?_
             | refine AppW.noneB hasM leM rfl rfl rfl leM leM ?_
             | refine AppW.rowB hasM leM rfl rfl holeM leM leM ?_
             | refine AppW.blkB hasM leM rfl rfl holeM rfl rfl leM leM ?_
             | refine AppW.rowS hasM leM rfl rfl holeM (by omega) leM ?_
             | refine AppW.arrS hasM leM rfl rfl rfl holeM (by first | omega | (simp; omega)) leM ?_
             | refine ⟨sideM, ?_⟩
             | fail)
        all_goals (try conv => whnf)
        all_goals first
          | (exfalso; omega)
          | (refine v_bool ?_
             obtain rfl : k = ps.length := by omega
             unfold rootN
             by_cases g : 0 ≤ r.2
             · rw [if_pos ⟨g, hat⟩, decide_eq_true g]; rfl
             · rw [if_neg (fun q => g q.1), decide_eq_false g]; rfl)
theorem RolesBest_n (bridge : Int) (ps : List InfoV) (A : Option Addr) (n c : Nat) (w : World) (hn : n = ps.length) (hs : SlAt w A 7 (ps.map InfoV.enc)) (hb : u64N bridge) (hok : ∀ p ∈ ps, okI8 p) : PuAt Try.prog 4 [.int .u64 bridge, .slice A n c] (.bool true) w := by
  subst hn; exact RolesBest_w bridge ps A c w hs hb hok
end Go.Proofs.Ytgjdmlgdgbehoaa.Am
