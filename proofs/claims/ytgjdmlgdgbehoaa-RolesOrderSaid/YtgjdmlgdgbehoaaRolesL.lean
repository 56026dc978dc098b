/- The law RolesTells. -/
import Derived.Test.YtgjdmlgdgbehoaaRolesR2
set_option linter.unusedVariables false
set_option linter.unusedSimpArgs false
set_option maxRecDepth 100000
set_option maxHeartbeats 4000000
namespace Go.Proofs.Ytgjdmlgdgbehoaa.Am
open Go Go.RowKit
theorem rightAll_mem {p : InfoV} : ∀ {l : List InfoV} {seen : List Int}, rightAll seen l = true → p ∈ l → ∃ s, okI s p = true
  | q :: r, seen, h, hp => by
    simp only [rightAll, Bool.and_eq_true] at h
    rcases List.mem_cons.1 hp with rfl | hp
    · exact ⟨seen, h.1⟩
    · exact rightAll_mem h.2 hp
theorem right_source {ps : List InfoV} (h : rightI ps = true) {p : InfoV} (hp : p ∈ ps) : 0 ≤ p.Source ∧ p.Source ≤ 3 := by
  unfold rightI at h
  simp only [Bool.and_eq_true] at h
  obtain ⟨s, hs⟩ := rightAll_mem h.1 hp
  unfold okI at hs
  grind
theorem ok_Role8 : (match Try.f19.body with | some c => codeOk Try.f19.ntmps c | none => false) = true := by kernel_rfl
theorem en_Role8 : ∃ fn, Try.prog.funcs[19]? = some fn ∧ (fn.name == "runtime.NumGoroutine") = false ∧ fn.body.isNone = false := ⟨_, Try.func19, by kernel_rfl, by kernel_rfl⟩
theorem Role8_w (bridge : Int) (ps : List InfoV) (n : Nat) (hn : ps.length = n) (A : Option Addr) (c : Nat) (i : Nat) (x : InfoV) (hx : ps[i]? = some x) (w : World) (hs : SlAt w A 7 (ps.map InfoV.enc)) (hl : n ≤ 1000) (hb : u64N bridge) (hok : ∀ p ∈ ps, okI8 p) (hsrc : 0 ≤ x.Source ∧ x.Source ≤ 3) : PuAt Try.prog 19 [.int .u64 bridge, .slice A n c, .int .i64 i] (.int .i64 (roleI bridge (bestV bridge ps) i x)) w := by
  subst hn
  refine funcR_pure tyOk wide Try.func19 ok_Role8 (Nat.le_of_ble_eq_true rfl) ?_
  have hi : i < ps.length := (List.getElem?_eq_some_iff.1 hx).1
  obtain ⟨b, o, e, _⟩ := hs.at_ (by simp; omega)
  subst e
  have o1 := hs.old (X := []) (by simp; omega) (by simp)
  have g1 : (ps.map InfoV.enc)[i]? = some x.enc := by rw [List.getElem?_map, hx]; rfl
  have hxo := hok x (List.mem_of_getElem? hx)
  have hR := fun w hw => Root8_w bridge ps _ rfl (some ⟨b, o, none⟩) c w hw hl hb hok
  generalize bestV bridge ps = r at *
  repeat' first
    | (conv => whnf
       first
       | intro _
       | (first | refine selSplit (fun h => ?_) (fun h => ?_) | refine condSplit (fun h => ?_) (fun h => ?_)) <;> first | exact (clash (by assumption) h).elim | exact (clash h (by assumption)).elim | (simp only [decide_eq_true_eq, decide_eq_false_iff_not, Bool.not_eq_true', Bool.not_eq_false', Bool.not_true, Bool.not_false, Bool.or_eq_true, Bool.and_eq_true, Bool.or_eq_false_iff, Bool.and_eq_false_iff, beq_iff_eq, beq_eq_false_iff_ne, ne_eq] at h; first | (exfalso; omega) | skip) | skip
       | refine SeqP.go ?_
       | refine cdM ?_
       | exact IsV.mk
       | apply GuardP.mk
       | ((first | apply callPure' en_Root8 | apply callQuiet' en_Root8); · exact fun w hw => hR w (hs.later hw))
       | ((first | apply callPure' en_cmp5 | apply callQuiet' en_cmp5); · exact fun w _ => cmp5_w (offV r.1 bridge x) x.v4 w)
       | ((first | apply callPure' en_own8 | apply callQuiet' en_own8); · exact fun w _ => own8_w x.v4 bridge hxo.2.2.2.2.1 hb w)
       | (first | refine eqlW eqS28 rfl rfl rfl fitM fitM ?_ | refine neqW eqS28 rfl rfl rfl fitM fitM ?_)
       | refine Or.inl ⟨_, _, hasM, ?_⟩
       | refine Or.inl ⟨_, _, _, holeM, rfl, rfl, ?_⟩
       | refine lA ?_
       | refine lA0 ?_
       | refine lA1 ?_
       | refine lO ?_
       | refine lO0 ?_
       | refine lO1 ?_
       | refine lR ?_
       | refine lG ?_
       | refine lG0 ?_
       | refine tA ?_
       | refine tA0 ?_
       | refine tA1 ?_
       | refine BytW.ofBlk hasM rfl rfl ?_
       | refine AppW.noneB hasM leM rfl rfl rfl leM leM ?_
       | refine AppW.rowB hasM leM rfl rfl holeM leM leM ?_
       | refine AppW.blkB hasM leM rfl rfl holeM rfl rfl leM leM ?_
       | refine AppW.rowS hasM leM rfl rfl holeM (by omega) leM ?_
       | refine AppW.arrS hasM leM rfl rfl rfl holeM (by first | omega | (simp; omega)) leM ?_
       | refine ⟨sideM, ?_⟩
       | fail)
  all_goals (try conv => whnf)
  all_goals (refine v_int ?_; unfold roleI; (repeat (first | rw [if_pos (by first | assumption | grind | decide)] | rw [if_neg (by first | assumption | grind | decide)])))
theorem ok_of08 : (match Try.f14.body with | some c => codeOk Try.f14.ntmps c | none => false) = true := by kernel_rfl
theorem en_of08 : ∃ fn, Try.prog.funcs[14]? = some fn ∧ (fn.name == "runtime.NumGoroutine") = false ∧ fn.body.isNone = false := ⟨_, Try.func14, by kernel_rfl, by kernel_rfl⟩
theorem of08_w (ps : List InfoV) (A : Option Addr) (c : Nat) (w : World) (hs : SlAt w A 7 (ps.map InfoV.enc)) (hlen : ps.length ≤ 1000) :
    FnX Try.prog 14 [.slice A ps.length c] [] (fun s : Option Addr × Nat => IsRow (.slice s.1 ps.length s.2) ps.length) (fun s => .slice s.1 ps.length s.2) (fun s => [.arr (.slice s.1 ps.length s.2) 122 7 (ps.map InfoV.enc)]) w := by
  refine funcR_x tyOk wide Try.func14 ok_of08 (Nat.le_of_ble_eq_true rfl) (St.start0 w) ?_
  repeat' first
    | (conv => whnf
       first
       | intro _
       | (first | refine selSplit (fun h => ?_) (fun h => ?_) | refine condSplit (fun h => ?_) (fun h => ?_)) <;> first | exact (clash (by assumption) h).elim | exact (clash h (by assumption)).elim | (simp only [decide_eq_true_eq, decide_eq_false_iff_not, Bool.not_eq_true', Bool.not_eq_false', Bool.not_true, Bool.not_false, Bool.or_eq_true, Bool.and_eq_true, Bool.or_eq_false_iff, Bool.and_eq_false_iff, beq_iff_eq, beq_eq_false_iff_ne, ne_eq] at h; first | (exfalso; omega) | skip) | skip
       | refine SeqP.go ?_
       | refine cdM ?_
       | exact IsV.mk
       | apply GuardP.mk
       | (first | refine eqlW eqS28 rfl rfl rfl fitM fitM ?_ | refine neqW eqS28 rfl rfl rfl fitM fitM ?_)
       | refine Or.inl ⟨_, _, hasM, ?_⟩
       | refine Or.inl ⟨_, _, _, holeM, rfl, rfl, ?_⟩
       | refine lA ?_
       | refine lA0 ?_
       | refine lA1 ?_
       | refine lO ?_
       | refine lO0 ?_
       | refine lO1 ?_
       | refine lR ?_
       | refine lG ?_
       | refine lG0 ?_
       | refine tA ?_
       | refine tA0 ?_
       | refine tA1 ?_
       | refine BytW.ofBlk hasM rfl rfl ?_
       | refine AppW.noneB hasM leM rfl rfl rfl leM leM ?_
       | refine AppW.rowB hasM leM rfl rfl holeM leM leM ?_
       | refine AppW.blkB hasM leM rfl rfl holeM rfl rfl leM leM ?_
       | refine AppW.rowS hasM leM rfl rfl holeM (by omega) leM ?_
       | refine AppW.arrS hasM leM rfl rfl rfl holeM (by first | omega | (simp; omega)) leM ?_
       | refine ⟨sideM, ?_⟩
       | fail)
  all_goals (try conv => whnf)
  refine .mk (Nat × Option Addr × Nat) (fun ⟨k, A1, c1⟩ S H => (k ≤ ps.length ∧ IsRow (.slice A1 k c1) k) ∧ S = [(4, .int .i64 k), (3, .slice A1 k c1), (0, .slice A ps.length c)] ∧ H = [.arr (.slice A1 k c1) 122 7 ((ps.take k).map InfoV.enc)]) (fun s => ps.length - s.1) (0, none, 0) _ _ ⟨⟨by omega, .inl ⟨rfl, rfl⟩⟩, rfl, rfl⟩ subM nilArr ?_
  rintro ⟨k, A1, c1⟩ S1 H1 ⟨⟨hk, hr⟩, rfl, rfl⟩
  by_cases hk2 : k < ps.length
  · obtain ⟨b, o, e, _⟩ := hs.at_ (by simp; omega)
    subst e
    have o1 := hs.old (X := []) (by simp; omega) (by simp)
    obtain ⟨x, hx⟩ : ∃ x, ps[k] = x := ⟨_, rfl⟩
    have g1 : (ps.map InfoV.enc)[k]? = some x.enc := by rw [← hx]; exact mapGet hk2
    have hlk : ((ps.take k).map InfoV.enc).length = k := map_take_len (by omega)
    repeat' first
      | (conv => whnf
         first
         | intro _
         | (first | refine selSplit (fun h => ?_) (fun h => ?_) | refine condSplit (fun h => ?_) (fun h => ?_)) <;> first | exact (clash (by assumption) h).elim | exact (clash h (by assumption)).elim | (simp only [decide_eq_true_eq, decide_eq_false_iff_not, Bool.not_eq_true', Bool.not_eq_false', Bool.not_true, Bool.not_false, Bool.or_eq_true, Bool.and_eq_true, Bool.or_eq_false_iff, Bool.and_eq_false_iff, beq_iff_eq, beq_eq_false_iff_ne, ne_eq] at h; first | (exfalso; omega) | skip) | skip
         | refine SeqP.go ?_
         | refine cdM ?_
         | exact IsV.mk
         | apply GuardP.mk
         | (refine AppW.arrK hasM (Nat.le_of_ble_eq_true rfl) rfl rfl rfl holeM hlk (by omega) (Nat.le_of_ble_eq_true rfl) ?_)
         | (first | refine eqlW eqS28 rfl rfl rfl fitM fitM ?_ | refine neqW eqS28 rfl rfl rfl fitM fitM ?_)
         | refine Or.inl ⟨_, _, hasM, ?_⟩
         | refine Or.inl ⟨_, _, _, holeM, rfl, rfl, ?_⟩
         | refine lA ?_
         | refine lA0 ?_
         | refine lA1 ?_
         | refine lO ?_
         | refine lO0 ?_
         | refine lO1 ?_
         | refine lR ?_
         | refine lG ?_
         | refine lG0 ?_
         | refine tA ?_
         | refine tA0 ?_
         | refine tA1 ?_
         | refine BytW.ofBlk hasM rfl rfl ?_
         | refine AppW.noneB hasM leM rfl rfl rfl leM leM ?_
         | refine AppW.rowB hasM leM rfl rfl holeM leM leM ?_
         | refine AppW.blkB hasM leM rfl rfl holeM rfl rfl leM leM ?_
         | refine AppW.rowS hasM leM rfl rfl holeM (by omega) leM ?_
         | refine AppW.arrS hasM leM rfl rfl rfl holeM (by first | omega | (simp; omega)) leM ?_
         | refine ⟨sideM, ?_⟩
         | fail)
    all_goals (try conv => whnf)
    all_goals first
      | (exfalso; omega)
      | exact .mk (k + 1, _, _) _ _ (by show _ - (k + 1) < _ - k; omega) ⟨⟨hk2, by assumption⟩, rfl, rfl⟩ subM (by rw [map_take_succ hk2, hx]; exact entM)
  · obtain rfl : k = ps.length := by omega
    repeat' first
      | (conv => whnf
         first
         | intro _
         | (first | refine selSplit (fun h => ?_) (fun h => ?_) | refine condSplit (fun h => ?_) (fun h => ?_)) <;> first | exact (clash (by assumption) h).elim | exact (clash h (by assumption)).elim | (simp only [decide_eq_true_eq, decide_eq_false_iff_not, Bool.not_eq_true', Bool.not_eq_false', Bool.not_true, Bool.not_false, Bool.or_eq_true, Bool.and_eq_true, Bool.or_eq_false_iff, Bool.and_eq_false_iff, beq_iff_eq, beq_eq_false_iff_ne, ne_eq] at h; first | (exfalso; omega) | skip) | skip
         | refine SeqP.go ?_
         | refine cdM ?_
         | exact IsV.mk
         | apply GuardP.mk
         | (first | refine eqlW eqS28 rfl rfl rfl fitM fitM ?_ | refine neqW eqS28 rfl rfl rfl fitM fitM ?_)
         | refine Or.inl ⟨_, _, hasM, ?_⟩
         | refine Or.inl ⟨_, _, _, holeM, rfl, rfl, ?_⟩
         | refine lA ?_
         | refine lA0 ?_
         | refine lA1 ?_
         | refine lO ?_
         | refine lO0 ?_
         | refine lO1 ?_
         | refine lR ?_
         | refine lG ?_
         | refine lG0 ?_
         | refine tA ?_
         | refine tA0 ?_
         | refine tA1 ?_
         | refine BytW.ofBlk hasM rfl rfl ?_
         | refine AppW.noneB hasM leM rfl rfl rfl leM leM ?_
         | refine AppW.rowB hasM leM rfl rfl holeM leM leM ?_
         | refine AppW.blkB hasM leM rfl rfl holeM rfl rfl leM leM ?_
         | refine AppW.rowS hasM leM rfl rfl holeM (by omega) leM ?_
         | refine AppW.arrS hasM leM rfl rfl rfl holeM (by first | omega | (simp; omega)) leM ?_
         | refine ⟨sideM, ?_⟩
         | fail)
    all_goals (try conv => whnf)
    all_goals first
      | (exfalso; omega)
      | exact EndX.mk (A1, c1) hr rfl (by rw [List.take_length]; exact Ent.refl)
end Go.Proofs.Ytgjdmlgdgbehoaa.Am
