/- Package roles: the roles. -/
import Derived.Test.YtmgoahmbdpoikaaRoles
import Derived.Test.YtmgoahmbdpoikaaAm17
set_option linter.unusedVariables false
set_option linter.unusedSimpArgs false
set_option maxRecDepth 100000
set_option maxHeartbeats 4000000
namespace Go.Proofs.Ytmgoahmbdpoikaa.Am
open Go Go.RowKit
def offV (r : V4) (bridge : Int) (p : InfoV) : V4 := (r.1, r.2.1, bridge, p.Id)
def roleI (bridge : Int) (r : V4 × Int) (i : Nat) (p : InfoV) : Int :=
  if p.Source = 0 then 0 else if ¬ p.Source = 3 then 2 else if (i : Int) = r.2 then 1
  else if cmp4 (offV r.1 bridge p) p.v4 < 0 then 2 else if ownV p.v4 bridge = true then 4 else 3
def rolesV (bridge : Int) (ps : List InfoV) : List Int := ps.mapIdx (roleI bridge (bestV bridge ps))
def offersV (bridge : Int) (ps : List InfoV) : List V4 := ps.map (offV (bestV bridge ps).1 bridge)
theorem ok_Select : (match Try.f71.body with | some c => codeOk Try.f71.ntmps c | none => false) = true := by kernel_rfl
theorem en_Select : ∃ fn, Try.prog.funcs[71]? = some fn ∧ (fn.name == "runtime.NumGoroutine") = false ∧ fn.body.isNone = false := ⟨_, Try.func71, by kernel_rfl, by kernel_rfl⟩
theorem Select_no (bridge : Int) (ps : List InfoV) (n : Nat) (hn : ps.length = n) (A : Option Addr) (c : Nat) (w : World) (hs : SlAt w A 7 (ps.map InfoV.enc)) (hl : n ≤ 1000) (hno : rightI ps = false) : PuAt Try.prog 71 [.int .u64 bridge, .slice A n c] (.tuple ⟨[.agg ⟨encV (0, 0, 0, 0) ++ [.int .i64 0, .slice none 0 0, .slice none 0 0]⟩, .int .i64 2]⟩) w := by
  subst hn
  refine funcR_pure tyOk wide Try.func71 ok_Select (Nat.le_of_ble_eq_true rfl) ?_
  repeat' first
    | (conv => whnf
       first
       | intro _
       | (first | refine selSplit (fun h => ?_) (fun h => ?_) | refine condSplit (fun h => ?_) (fun h => ?_)) <;> first | exact (clash (by assumption) h).elim | exact (clash h (by assumption)).elim | (simp only [decide_eq_true_eq, decide_eq_false_iff_not, Bool.not_eq_true', Bool.not_eq_false', Bool.not_true, Bool.not_false, Bool.or_eq_true, Bool.and_eq_true, Bool.or_eq_false_iff, Bool.and_eq_false_iff, beq_iff_eq, beq_eq_false_iff_ne, ne_eq] at h; first | (exfalso; omega) | skip) | skip
       | refine SeqP.go ?_
       | refine cdM ?_
       | exact IsV.mk
       | apply GuardP.mk
       | ((first | apply callPure' en_iRight | apply callQuiet' en_iRight); · exact fun w hw => iRight_w ps _ rfl A c w (hs.later hw) hl)
       | (first | refine eqlW eqS24 rfl rfl rfl fitM fitM ?_ | refine neqW eqS24 rfl rfl rfl fitM fitM ?_)
       | refine Or.inl ⟨_, _, hasM, ?_⟩
       | refine Or.inl ⟨_, _, _, holeM, rfl, rfl, ?_⟩
       | refine lA ?_
       | refine lA0 ?_
       | refine lA1 ?_
       | refine lO ?_
       | refine lO0 ?_
       | refine lO1 ?_
       | refine lR ?_
       | refine lG ?_
       | refine lG0 ?_
       | refine tA ?_
       | refine tA0 ?_
       | refine tA1 ?_
       | refine BytW.ofBlk hasM rfl rfl ?_
       | refine AppW.noneB hasM leM rfl rfl rfl leM leM ?_
       | refine AppW.rowB hasM leM rfl rfl holeM leM leM ?_
       | refine AppW.blkB hasM leM rfl rfl holeM rfl rfl leM leM ?_
       | refine AppW.rowS hasM leM rfl rfl holeM (by omega) leM ?_
       | refine AppW.arrS hasM leM rfl rfl rfl holeM (by first | omega | (simp; omega)) leM ?_
       | refine ⟨sideM, ?_⟩
       | fail)
  all_goals (try conv => whnf)
  all_goals first
    | rfl
    | exact absurd (hno.symm.trans h) (by decide)
theorem Select_w (bridge : Int) (ps : List InfoV) (n : Nat) (hn : ps.length = n) (A : Option Addr) (c : Nat) (w : World) (hs : SlAt w A 7 (ps.map InfoV.enc)) (hl : n ≤ 1000) (hyes : rightI ps = true) :
    FnX Try.prog 71 [.int .u64 bridge, .slice A n c] [] (fun s : (Option Addr × Nat) × (Option Addr × Nat) => IsRow (.slice s.1.1 n s.1.2) n ∧ IsRow (.slice s.2.1 n s.2.2) n) (fun s => .tuple ⟨[.agg ⟨encV (bestV bridge ps).1 ++ [.int .i64 (bestV bridge ps).2, .slice s.1.1 n s.1.2, .slice s.2.1 n s.2.2]⟩, .int .i64 0]⟩)
      (fun s => [.row (.slice s.1.1 n s.1.2) 3 1 n ((rolesV bridge ps).map (Value.int .i64)), .arr (.slice s.2.1 n s.2.2) 24 4 ((offersV bridge ps).map encV)]) w := by
  subst hn
  refine funcR_x tyOk wide Try.func71 ok_Select (Nat.le_of_ble_eq_true rfl) (St.start0 w) ?_
  unfold rolesV offersV
  have hB := fun w hw => best_w bridge ps _ rfl A c w hw hl
  generalize bestV bridge ps = r at *
  repeat' first
    | (conv => whnf
       first
       | intro _
       | (first | refine selSplit (fun h => ?_) (fun h => ?_) | refine condSplit (fun h => ?_) (fun h => ?_)) <;> first | exact (clash (by assumption) h).elim | exact (clash h (by assumption)).elim | (simp only [decide_eq_true_eq, decide_eq_false_iff_not, Bool.not_eq_true', Bool.not_eq_false', Bool.not_true, Bool.not_false, Bool.or_eq_true, Bool.and_eq_true, Bool.or_eq_false_iff, Bool.and_eq_false_iff, beq_iff_eq, beq_eq_false_iff_ne, ne_eq] at h; first | (exfalso; omega) | skip) | skip
       | refine SeqP.go ?_
       | refine cdM ?_
       | exact IsV.mk
       | apply GuardP.mk
       | ((first | apply callPure' en_iRight | apply callQuiet' en_iRight); · exact fun w hw => iRight_w ps _ rfl A c w (hs.later hw) hl)
       | ((first | apply callPure' en_best | apply callQuiet' en_best); · exact fun w hw => hB w (hs.later hw))
       | (first | refine eqlW eqS24 rfl rfl rfl fitM fitM ?_ | refine neqW eqS24 rfl rfl rfl fitM fitM ?_)
       | refine Or.inl ⟨_, _, hasM, ?_⟩
       | refine Or.inl ⟨_, _, _, holeM, rfl, rfl, ?_⟩
       | refine lA ?_
       | refine lA0 ?_
       | refine lA1 ?_
       | refine lO ?_
       | refine lO0 ?_
       | refine lO1 ?_
       | refine lR ?_
       | refine lG ?_
       | refine lG0 ?_
       | refine tA ?_
       | refine tA0 ?_
       | refine tA1 ?_
       | refine BytW.ofBlk hasM rfl rfl ?_
       | refine AppW.noneB hasM leM rfl rfl rfl leM leM ?_
       | refine AppW.rowB hasM leM rfl rfl holeM leM leM ?_
       | refine AppW.blkB hasM leM rfl rfl holeM rfl rfl leM leM ?_
       | refine AppW.rowS hasM leM rfl rfl holeM (by omega) leM ?_
       | refine AppW.arrS hasM leM rfl rfl rfl holeM (by first | omega | (simp; omega)) leM ?_
       | refine ⟨sideM, ?_⟩
       | fail)
  all_goals (try conv => whnf)
  · exact absurd (hyes.symm.trans h) (by decide)
  · rename_i b4 b6
    refine .mk (Nat × (Option Addr × Nat) × (Option Addr × Nat)) (fun ⟨k, ⟨A1, c1⟩, ⟨A2, c2⟩⟩ S H => (k ≤ ps.length ∧ IsRow (.slice A1 k c1) k ∧ IsRow (.slice A2 k c2) k) ∧ S = [(25, .int .i64 k), (24, .int .i64 ps.length), (23, .slice A ps.length c), (6, .pointer (some ⟨b6, 0, none⟩)), (4, .pointer (some ⟨b4, 0, none⟩)), (0, .int .u64 bridge)] ∧ H = [.blk b6 (encV r.1 ++ [.int .i64 r.2, .slice A1 k c1, .slice A2 k c2]) 104, .row (.slice A1 k c1) 3 1 k (((ps.take k).mapIdx (roleI bridge r)).map (Value.int .i64)), .arr (.slice A2 k c2) 24 4 (((ps.take k).map (offV r.1 bridge)).map encV), .blk b4 td104.zero 104]) (fun s => ps.length - s.1) (0, (none, 0), (none, 0)) _ _ ⟨⟨by omega, .inl ⟨rfl, rfl⟩, .inl ⟨rfl, rfl⟩⟩, rfl, rfl⟩ subM ((nilRow0 (E := 3) (sz := 1)).trans ((nilArr (E := 24) (sz := 4)).trans entM)) ?_
    rintro ⟨k, ⟨A1, c1⟩, ⟨A2, c2⟩⟩ S1 H1 ⟨⟨hk, hr1, hr2⟩, rfl, rfl⟩
    by_cases hk2 : k < ps.length
    · obtain ⟨b, o, e, _⟩ := hs.at_ (by simp; omega)
      subst e
      have hp : 0 < (ps.map InfoV.enc).length := by simp; omega
      have o1 := hs.old (X := []) hp (by simp)
      obtain ⟨x, hx⟩ : ∃ x, ps[k] = x := ⟨_, rfl⟩
      have g1 : (ps.map InfoV.enc)[k]? = some x.enc := by rw [← hx]; exact mapGet hk2
      have hlk : (((ps.take k).map (offV r.1 bridge)).map encV).length = k := by rw [List.length_map, map_take_len (by omega)]
      have hs1 := idx_take_succ (f := roleI bridge r) hk2
      have hs2 := map_take_succ (f := offV r.1 bridge) hk2
      rw [hx] at hs1 hs2
      repeat' first
        | (conv => whnf
           first
           | intro _
           | (first | refine selSplit (fun h => ?_) (fun h => ?_) | refine condSplit (fun h => ?_) (fun h => ?_)) <;> first | exact (clash (by assumption) h).elim | exact (clash h (by assumption)).elim | (simp only [decide_eq_true_eq, decide_eq_false_iff_not, Bool.not_eq_true', Bool.not_eq_false', Bool.not_true, Bool.not_false, Bool.or_eq_true, Bool.and_eq_true, Bool.or_eq_false_iff, Bool.and_eq_false_iff, beq_iff_eq, beq_eq_false_iff_ne, ne_eq] at h; first | (exfalso; omega) | skip) | skip
           | (refine SeqP.cut (k := 19) (Nat × Nat) (fun s S H => S = [(10, .int .i64 (roleI bridge r k x)), (9, .pointer (some ⟨s.1, 0, none⟩)), (25, .int .i64 k), (24, .int .i64 ps.length), (23, .slice (some ⟨b, o, none⟩) ps.length c), (6, .pointer (some ⟨b6, 0, none⟩)), (4, .pointer (some ⟨b4, 0, none⟩)), (0, .int .u64 bridge)] ∧ H = [.blk s.1 (encV (offV r.1 bridge x)) 24, .blk b6 (encV r.1 ++ [.int .i64 r.2, .slice A1 k c1, .slice A2 k c2]) 104, .row (.slice A1 k c1) 3 1 k (((ps.take k).mapIdx (roleI bridge r)).map (Value.int .i64)), .arr (.slice A2 k c2) 24 4 (((ps.take k).map (offV r.1 bridge)).map encV), .blk b4 td104.zero 104]) ?_ ?_)
           | refine SeqP.go ?_
           | refine cdM ?_
           | exact IsV.mk
           | apply GuardP.mk
           | ((first | apply callPure' en_own | apply callQuiet' en_own); · exact fun w _ => own_w x.v4 bridge w)
           | ((first | apply callPure' en_vCompare | apply callQuiet' en_vCompare); · exact fun w _ => vCompare4 (offV r.1 bridge x) x.v4 w)
           | (refine AppW.arrK (e := 24) hasM (Nat.le_of_ble_eq_true rfl) rfl rfl rfl holeM hlk (by omega) (Nat.le_of_ble_eq_true rfl) ?_)
           | (first | refine eqlW eqS24 rfl rfl rfl fitM fitM ?_ | refine neqW eqS24 rfl rfl rfl fitM fitM ?_)
           | refine Or.inl ⟨_, _, hasM, ?_⟩
           | refine Or.inl ⟨_, _, _, holeM, rfl, rfl, ?_⟩
           | refine lA ?_
           | refine lA0 ?_
           | refine lA1 ?_
           | refine lO ?_
           | refine lO0 ?_
           | refine lO1 ?_
           | refine lR ?_
           | refine lG ?_
           | refine lG0 ?_
           | refine tA ?_
           | refine tA0 ?_
           | refine tA1 ?_
           | refine BytW.ofBlk hasM rfl rfl ?_
           | refine AppW.noneB hasM leM rfl rfl rfl leM leM ?_
           | refine AppW.rowB hasM leM rfl rfl holeM leM leM ?_
           | refine AppW.blkB hasM leM rfl rfl holeM rfl rfl leM leM ?_
           | refine AppW.rowS hasM leM rfl rfl holeM (by omega) leM ?_
           | refine AppW.arrS hasM leM rfl rfl rfl holeM (by first | omega | (simp; omega)) leM ?_
           | refine ⟨sideM, ?_⟩
           | fail)
      all_goals (try conv => whnf)
      all_goals first
        | (exfalso; omega)
        | (refine .mk (_, 0) _ _ ⟨rfl, rfl⟩ (And.intro (eq_int ?_) ?_) entM
           · unfold roleI; (repeat (first | rw [if_pos (by first | assumption | grind | decide)] | rw [if_neg (by first | assumption | grind | decide)]))
           · exact ⟨rfl, rfl, rfl, rfl, rfl, rfl, rfl, trivial⟩)
        | skip
      rename_i s S1 H1 hI
      obtain ⟨b9, _⟩ := s
      obtain ⟨rfl, rfl⟩ := hI
      repeat' first
        | (conv => whnf
           first
           | intro _
           | (first | refine selSplit (fun h => ?_) (fun h => ?_) | refine condSplit (fun h => ?_) (fun h => ?_)) <;> first | exact (clash (by assumption) h).elim | exact (clash h (by assumption)).elim | (simp only [decide_eq_true_eq, decide_eq_false_iff_not, Bool.not_eq_true', Bool.not_eq_false', Bool.not_true, Bool.not_false, Bool.or_eq_true, Bool.and_eq_true, Bool.or_eq_false_iff, Bool.and_eq_false_iff, beq_iff_eq, beq_eq_false_iff_ne, ne_eq] at h; first | (exfalso; omega) | skip) | skip
           | refine SeqP.go ?_
           | refine cdM ?_
           | exact IsV.mk
           | apply GuardP.mk
           | (refine AppW.arrK (e := 24) hasM (Nat.le_of_ble_eq_true rfl) rfl rfl rfl holeM hlk (by omega) (Nat.le_of_ble_eq_true rfl) ?_)
           | (first | refine eqlW eqS24 rfl rfl rfl fitM fitM ?_ | refine neqW eqS24 rfl rfl rfl fitM fitM ?_)
           | refine Or.inl ⟨_, _, hasM, ?_⟩
           | refine Or.inl ⟨_, _, _, holeM, rfl, rfl, ?_⟩
           | refine lA ?_
           | refine lA0 ?_
           | refine lA1 ?_
           | refine lO ?_
           | refine lO0 ?_
           | refine lO1 ?_
           | refine lR ?_
           | refine lG ?_
           | refine lG0 ?_
           | refine tA ?_
           | refine tA0 ?_
           | refine tA1 ?_
           | refine BytW.ofBlk hasM rfl rfl ?_
           | refine AppW.noneB hasM leM rfl rfl rfl leM leM ?_
           | refine AppW.rowB hasM leM rfl rfl holeM leM leM ?_
           | refine AppW.blkB hasM leM rfl rfl holeM rfl rfl leM leM ?_
           | refine AppW.rowS hasM leM rfl rfl holeM (by omega) leM ?_
           | refine AppW.arrS hasM leM rfl rfl rfl holeM (by first | omega | (simp; omega)) leM ?_
           | refine ⟨sideM, ?_⟩
           | fail)
      all_goals (try conv => whnf)
      rename_i b10 A3 q3 hr3 b11 A4 q4 hr4
      exact .mk (k + 1, (A3, q3), (A4, q4)) _ _ (by show _ - (k + 1) < _ - k; omega) ⟨⟨hk2, hr3, hr4⟩, rfl, rfl⟩ subM (by rw [hs1, hs2, List.map_append, List.map_append]; exact entM)
    · obtain rfl : k = ps.length := by omega
      repeat' first
        | (conv => whnf
           first
           | intro _
           | (first | refine selSplit (fun h => ?_) (fun h => ?_) | refine condSplit (fun h => ?_) (fun h => ?_)) <;> first | exact (clash (by assumption) h).elim | exact (clash h (by assumption)).elim | (simp only [decide_eq_true_eq, decide_eq_false_iff_not, Bool.not_eq_true', Bool.not_eq_false', Bool.not_true, Bool.not_false, Bool.or_eq_true, Bool.and_eq_true, Bool.or_eq_false_iff, Bool.and_eq_false_iff, beq_iff_eq, beq_eq_false_iff_ne, ne_eq] at h; first | (exfalso; omega) | skip) | skip
           | refine SeqP.go ?_
           | refine cdM ?_
           | exact IsV.mk
           | apply GuardP.mk
           | (first | refine eqlW eqS24 rfl rfl rfl fitM fitM ?_ | refine neqW eqS24 rfl rfl rfl fitM fitM ?_)
           | refine Or.inl ⟨_, _, hasM, ?_⟩
           | refine Or.inl ⟨_, _, _, holeM, rfl, rfl, ?_⟩
           | refine lA ?_
           | refine lA0 ?_
           | refine lA1 ?_
           | refine lO ?_
           | refine lO0 ?_
           | refine lO1 ?_
           | refine lR ?_
           | refine lG ?_
           | refine lG0 ?_
           | refine tA ?_
           | refine tA0 ?_
           | refine tA1 ?_
           | refine BytW.ofBlk hasM rfl rfl ?_
           | refine AppW.noneB hasM leM rfl rfl rfl leM leM ?_
           | refine AppW.rowB hasM leM rfl rfl holeM leM leM ?_
           | refine AppW.blkB hasM leM rfl rfl holeM rfl rfl leM leM ?_
           | refine AppW.rowS hasM leM rfl rfl holeM (by omega) leM ?_
           | refine AppW.arrS hasM leM rfl rfl rfl holeM (by first | omega | (simp; omega)) leM ?_
           | refine ⟨sideM, ?_⟩
           | fail)
      all_goals (try conv => whnf)
      all_goals first
        | (exfalso; omega)
        | (rw [List.take_length] at *
           exact EndX.mk ((A1, c1), (A2, c2)) ⟨hr1, hr2⟩ rfl entM)
end Go.Proofs.Ytmgoahmbdpoikaa.Am
