/- Package vector. -/
import Derived.Test.YtmgoahmbdpoikaaTy
import Derived.Test.YtmgoahmbdpoikaaAm18
set_option linter.unusedVariables false
set_option linter.unusedSimpArgs false
set_option maxRecDepth 100000
namespace Go.Proofs.Ytmgoahmbdpoikaa.Am
open Go Go.RowKit
theorem ok_parts : (match Try.f94.body with | some c => codeOk Try.f94.ntmps c | none => false) = true := by kernel_rfl
theorem en_parts : ∃ fn, Try.prog.funcs[94]? = some fn ∧ (fn.name == "runtime.NumGoroutine") = false ∧ fn.body.isNone = false := ⟨_, Try.func94, by kernel_rfl, by kernel_rfl⟩
theorem parts_w (a b c d : Int) (w : World) : PuAt Try.prog 94 [.agg ⟨[.int .u64 a, .int .u64 b, .int .u64 c, .int .u64 d]⟩] (.agg ⟨[.int .u64 a, .int .u64 b, .int .u64 c, .int .u64 d]⟩) w := by
  refine funcR_pure tyOk wide Try.func94 ok_parts (Nat.le_of_ble_eq_true rfl) ?_
  repeat' first
    | (conv => whnf
       first
       | intro _
       | (first | refine selSplit (fun h => ?_) (fun h => ?_) | refine condSplit (fun h => ?_) (fun h => ?_)) <;> first | exact (clash (by assumption) h).elim | exact (clash h (by assumption)).elim | (simp only [decide_eq_true_eq, decide_eq_false_iff_not, Bool.not_eq_true', Bool.not_eq_false', Bool.not_true, Bool.not_false, Bool.or_eq_true, Bool.and_eq_true, Bool.or_eq_false_iff, Bool.and_eq_false_iff, beq_iff_eq, beq_eq_false_iff_ne, ne_eq] at h; first | (exfalso; omega) | skip) | skip
       | refine SeqP.go ?_
       | refine cdM ?_
       | exact IsV.mk
       | apply GuardP.mk
       | (first | refine eqlW eqS135 rfl rfl rfl fitM fitM ?_ | refine neqW eqS135 rfl rfl rfl fitM fitM ?_)
       | refine Or.inl ⟨_, _, hasM, ?_⟩
       | refine Or.inl ⟨_, _, _, holeM, rfl, rfl, ?_⟩
       | refine lA ?_
       | refine lA0 ?_
       | refine lA1 ?_
       | refine lO ?_
       | refine lO0 ?_
       | refine lO1 ?_
       | refine lG ?_
       | refine lG0 ?_
       | refine tA ?_
       | refine tA0 ?_
       | refine tA1 ?_
       | refine BytW.ofBlk hasM rfl rfl ?_
       | refine AppW.noneB hasM leM rfl rfl rfl leM leM ?_
       | refine AppW.rowB hasM leM rfl rfl holeM leM leM ?_
       | refine AppW.blkB hasM leM rfl rfl holeM rfl rfl leM leM ?_
       | refine AppW.rowS hasM leM rfl rfl holeM (by omega) leM ?_
       | refine AppW.arrS hasM leM rfl rfl rfl holeM (by first | omega | (simp; omega)) leM ?_
       | refine ⟨sideM, ?_⟩
       | fail)
  all_goals (try conv => whnf)
  all_goals rfl
theorem ok_isNaNu : (match Try.f136.body with | some c => codeOk Try.f136.ntmps c | none => false) = true := by kernel_rfl
theorem en_isNaNu : ∃ fn, Try.prog.funcs[136]? = some fn ∧ (fn.name == "runtime.NumGoroutine") = false ∧ fn.body.isNone = false := ⟨_, Try.func136, by kernel_rfl, by kernel_rfl⟩
theorem isNaNu_w (a : Int) (w : World) : PuAt Try.prog 136 [.int .u64 a] (.bool false) w := by
  refine funcR_pure tyOk wide Try.func136 ok_isNaNu (Nat.le_of_ble_eq_true rfl) ?_
  repeat' first
    | (conv => whnf
       first
       | intro _
       | (first | refine selSplit (fun h => ?_) (fun h => ?_) | refine condSplit (fun h => ?_) (fun h => ?_)) <;> first | exact (clash (by assumption) h).elim | exact (clash h (by assumption)).elim | (simp only [decide_eq_true_eq, decide_eq_false_iff_not, Bool.not_eq_true', Bool.not_eq_false', Bool.not_true, Bool.not_false, Bool.or_eq_true, Bool.and_eq_true, Bool.or_eq_false_iff, Bool.and_eq_false_iff, beq_iff_eq, beq_eq_false_iff_ne, ne_eq] at h; first | (exfalso; omega) | skip) | skip
       | refine SeqP.go ?_
       | refine cdM ?_
       | exact IsV.mk
       | apply GuardP.mk
       | (first | refine eqlW eqS135 rfl rfl rfl fitM fitM ?_ | refine neqW eqS135 rfl rfl rfl fitM fitM ?_)
       | refine Or.inl ⟨_, _, hasM, ?_⟩
       | refine Or.inl ⟨_, _, _, holeM, rfl, rfl, ?_⟩
       | refine lA ?_
       | refine lA0 ?_
       | refine lA1 ?_
       | refine lO ?_
       | refine lO0 ?_
       | refine lO1 ?_
       | refine lG ?_
       | refine lG0 ?_
       | refine tA ?_
       | refine tA0 ?_
       | refine tA1 ?_
       | refine BytW.ofBlk hasM rfl rfl ?_
       | refine AppW.noneB hasM leM rfl rfl rfl leM leM ?_
       | refine AppW.rowB hasM leM rfl rfl holeM leM leM ?_
       | refine AppW.blkB hasM leM rfl rfl holeM rfl rfl leM leM ?_
       | refine AppW.rowS hasM leM rfl rfl holeM (by omega) leM ?_
       | refine AppW.arrS hasM leM rfl rfl rfl holeM (by first | omega | (simp; omega)) leM ?_
       | refine ⟨sideM, ?_⟩
       | fail)
  all_goals (try conv => whnf)
  all_goals exact v_bool (by simp)
def cmpI (a b : Int) : Int := if a < b then -1 else if b < a then 1 else 0
theorem ok_cmpu : (match Try.f106.body with | some c => codeOk Try.f106.ntmps c | none => false) = true := by kernel_rfl
theorem en_cmpu : ∃ fn, Try.prog.funcs[106]? = some fn ∧ (fn.name == "runtime.NumGoroutine") = false ∧ fn.body.isNone = false := ⟨_, Try.func106, by kernel_rfl, by kernel_rfl⟩
theorem cmpu_w (a b : Int) (w : World) : PuAt Try.prog 106 [.int .u64 a, .int .u64 b] (.int .i64 (cmpI a b)) w := by
  refine funcR_pure tyOk wide Try.func106 ok_cmpu (Nat.le_of_ble_eq_true rfl) ?_
  repeat' first
    | (conv => whnf
       first
       | intro _
       | (first | refine selSplit (fun h => ?_) (fun h => ?_) | refine condSplit (fun h => ?_) (fun h => ?_)) <;> first | exact (clash (by assumption) h).elim | exact (clash h (by assumption)).elim | (simp only [decide_eq_true_eq, decide_eq_false_iff_not, Bool.not_eq_true', Bool.not_eq_false', Bool.not_true, Bool.not_false, Bool.or_eq_true, Bool.and_eq_true, Bool.or_eq_false_iff, Bool.and_eq_false_iff, beq_iff_eq, beq_eq_false_iff_ne, ne_eq] at h; first | (exfalso; omega) | skip) | skip
       | refine SeqP.go ?_
       | refine cdM ?_
       | exact IsV.mk
       | apply GuardP.mk
       | ((first | apply callPure' en_isNaNu | apply callQuiet' en_isNaNu); · exact fun w _ => isNaNu_w _ w)
       | (first | refine eqlW eqS135 rfl rfl rfl fitM fitM ?_ | refine neqW eqS135 rfl rfl rfl fitM fitM ?_)
       | refine Or.inl ⟨_, _, hasM, ?_⟩
       | refine Or.inl ⟨_, _, _, holeM, rfl, rfl, ?_⟩
       | refine lA ?_
       | refine lA0 ?_
       | refine lA1 ?_
       | refine lO ?_
       | refine lO0 ?_
       | refine lO1 ?_
       | refine lG ?_
       | refine lG0 ?_
       | refine tA ?_
       | refine tA0 ?_
       | refine tA1 ?_
       | refine BytW.ofBlk hasM rfl rfl ?_
       | refine AppW.noneB hasM leM rfl rfl rfl leM leM ?_
       | refine AppW.rowB hasM leM rfl rfl holeM leM leM ?_
       | refine AppW.blkB hasM leM rfl rfl holeM rfl rfl leM leM ?_
       | refine AppW.rowS hasM leM rfl rfl holeM (by omega) leM ?_
       | refine AppW.arrS hasM leM rfl rfl rfl holeM (by first | omega | (simp; omega)) leM ?_
       | refine ⟨sideM, ?_⟩
       | fail)
  all_goals (try conv => whnf)
  all_goals (refine v_int ?_; unfold cmpI; first | rw [if_pos (by assumption)] | rw [if_neg (by assumption), if_pos (by assumption)] | rw [if_neg (by assumption), if_neg (by assumption)])
/-- Lists, number by number. -/
def cmpL : List Int → List Int → Int
  | [], [] => 0
  | [], _ :: _ => -1
  | _ :: _, [] => 1
  | a :: l, b :: m => if a < b then -1 else if b < a then 1 else cmpL l m
theorem cmpL_drop (l m : List Int) (k : Nat) (h1 : k < l.length) (h2 : k < m.length) : cmpL (l.drop k) (m.drop k) = if l[k] < m[k] then -1 else if m[k] < l[k] then 1 else cmpL (l.drop (k + 1)) (m.drop (k + 1)) := by
  rw [List.drop_eq_getElem_cons h1, List.drop_eq_getElem_cons h2]; rfl
theorem ok_slicesCompare : (match Try.f95.body with | some c => codeOk Try.f95.ntmps c | none => false) = true := by kernel_rfl
theorem en_slicesCompare : ∃ fn, Try.prog.funcs[95]? = some fn ∧ (fn.name == "runtime.NumGoroutine") = false ∧ fn.body.isNone = false := ⟨_, Try.func95, by kernel_rfl, by kernel_rfl⟩
theorem slicesCompare_w (b1 o1 c1 b2 o2 c2 : Nat) (l m : List Int) (w : World) (h1 : w.rangeAt b1 o1 (l.map (Value.int .u64))) (h2 : w.rangeAt b2 o2 (m.map (Value.int .u64))) (hl : l.length < 4611686018427387904) (hm : m.length < 4611686018427387904) :
    PuAt Try.prog 95 [.slice (some ⟨b1, o1, none⟩) l.length c1, .slice (some ⟨b2, o2, none⟩) m.length c2] (.int .i64 (cmpL l m)) w := by
  refine funcR_pure tyOk wide Try.func95 ok_slicesCompare (Nat.le_of_ble_eq_true rfl) ?_
  have r1 : Rd w [] [] b1 o1 (l.map (Value.int .u64)) := Rd.old h1 (by simp)
  have r2 : Rd w [] [] b2 o2 (m.map (Value.int .u64)) := Rd.old h2 (by simp)
  repeat' first
    | (conv => whnf
       first
       | intro _
       | (first | refine selSplit (fun h => ?_) (fun h => ?_) | refine condSplit (fun h => ?_) (fun h => ?_)) <;> first | exact (clash (by assumption) h).elim | exact (clash h (by assumption)).elim | (simp only [decide_eq_true_eq, decide_eq_false_iff_not, Bool.not_eq_true', Bool.not_eq_false', Bool.not_true, Bool.not_false, Bool.or_eq_true, Bool.and_eq_true, Bool.or_eq_false_iff, Bool.and_eq_false_iff, beq_iff_eq, beq_eq_false_iff_ne, ne_eq] at h; first | (exfalso; omega) | skip) | skip
       | refine SeqP.go ?_
       | refine cdM ?_
       | exact IsV.mk
       | apply GuardP.mk
       | (first | refine eqlW eqS135 rfl rfl rfl fitM fitM ?_ | refine neqW eqS135 rfl rfl rfl fitM fitM ?_)
       | refine Or.inl ⟨_, _, hasM, ?_⟩
       | refine Or.inl ⟨_, _, _, holeM, rfl, rfl, ?_⟩
       | refine lA ?_
       | refine lA0 ?_
       | refine lA1 ?_
       | refine lO ?_
       | refine lO0 ?_
       | refine lO1 ?_
       | refine lG ?_
       | refine lG0 ?_
       | refine tA ?_
       | refine tA0 ?_
       | refine tA1 ?_
       | refine BytW.ofBlk hasM rfl rfl ?_
       | refine AppW.noneB hasM leM rfl rfl rfl leM leM ?_
       | refine AppW.rowB hasM leM rfl rfl holeM leM leM ?_
       | refine AppW.blkB hasM leM rfl rfl holeM rfl rfl leM leM ?_
       | refine AppW.rowS hasM leM rfl rfl holeM (by omega) leM ?_
       | refine AppW.arrS hasM leM rfl rfl rfl holeM (by first | omega | (simp; omega)) leM ?_
       | refine ⟨sideM, ?_⟩
       | fail)
  all_goals (try conv => whnf)
  refine .mk Nat (fun k S H => (k ≤ l.length ∧ k ≤ m.length ∧ cmpL l m = cmpL (l.drop k) (m.drop k)) ∧ S = [(11, .int .i64 k), (10, .int .i64 l.length), (9, .slice (some ⟨b1, o1, none⟩) l.length c1), (0, .slice (some ⟨b1, o1, none⟩) l.length c1), (1, .slice (some ⟨b2, o2, none⟩) m.length c2)] ∧ H = []) (fun k => l.length - k) 0 _ _ ⟨⟨by omega, by omega, rfl⟩, rfl, rfl⟩ subM (Ent.of keepM) ?_
  rintro k S1 H1 ⟨⟨hk1, hk2, he⟩, rfl, rfl⟩
  repeat' first
    | (conv => whnf
       first
       | intro _
       | (first | refine selSplit (fun h => ?_) (fun h => ?_) | refine condSplit (fun h => ?_) (fun h => ?_)) <;> first | exact (clash (by assumption) h).elim | exact (clash h (by assumption)).elim | (simp only [decide_eq_true_eq, decide_eq_false_iff_not, Bool.not_eq_true', Bool.not_eq_false', Bool.not_true, Bool.not_false, Bool.or_eq_true, Bool.and_eq_true, Bool.or_eq_false_iff, Bool.and_eq_false_iff, beq_iff_eq, beq_eq_false_iff_ne, ne_eq] at h; first | (exfalso; omega) | skip) | skip
       | refine SeqP.go ?_
       | refine cdM ?_
       | exact IsV.mk
       | apply GuardP.mk
       | ((first | apply callPure' en_cmpu | apply callQuiet' en_cmpu); · exact fun w _ => cmpu_w _ _ w)
       | (refine Or.inr ⟨[_], Rd.int r1 (i := k) (by omega), rfl, ?_⟩)
       | (refine Or.inr ⟨[_], Rd.int r2 (i := k) (by omega), rfl, ?_⟩)
       | (first | refine eqlW eqS135 rfl rfl rfl fitM fitM ?_ | refine neqW eqS135 rfl rfl rfl fitM fitM ?_)
       | refine Or.inl ⟨_, _, hasM, ?_⟩
       | refine Or.inl ⟨_, _, _, holeM, rfl, rfl, ?_⟩
       | refine lA ?_
       | refine lA0 ?_
       | refine lA1 ?_
       | refine lO ?_
       | refine lO0 ?_
       | refine lO1 ?_
       | refine lG ?_
       | refine lG0 ?_
       | refine tA ?_
       | refine tA0 ?_
       | refine tA1 ?_
       | refine BytW.ofBlk hasM rfl rfl ?_
       | refine AppW.noneB hasM leM rfl rfl rfl leM leM ?_
       | refine AppW.rowB hasM leM rfl rfl holeM leM leM ?_
       | refine AppW.blkB hasM leM rfl rfl holeM rfl rfl leM leM ?_
       | refine AppW.rowS hasM leM rfl rfl holeM (by omega) leM ?_
       | refine AppW.arrS hasM leM rfl rfl rfl holeM (by first | omega | (simp; omega)) leM ?_
       | refine ⟨sideM, ?_⟩
       | fail)
  all_goals (try conv => whnf)
  all_goals (try conv => whnf)
  · refine v_int ?_
    rw [he, List.drop_of_length_le (l := m) (by omega), List.drop_eq_getElem_cons (l := l) (by omega)]
    rfl
  · refine v_int ?_
    rw [he, cmpL_drop l m k (by omega) (by omega)]
    rename_i h
    unfold cmpI at h ⊢
    split
    · rfl
    · split
      · rfl
      · rename_i h1 h2; rw [if_neg h1, if_neg h2] at h; exact absurd rfl h
  · rename_i h
    refine .mk (k + 1) _ _ (by omega) ⟨⟨by omega, by omega, ?_⟩, rfl, rfl⟩ subM (Ent.of keepM)
    rw [he, cmpL_drop l m k (by omega) (by omega)]
    unfold cmpI at h
    split
    · rename_i h1; rw [if_pos h1] at h; exact absurd h (by decide)
    · rename_i h1
      split
      · rename_i h2; rw [if_neg h1, if_pos h2] at h; exact absurd h (by decide)
      · rfl
  · refine v_int ?_
    rw [he, List.drop_of_length_le (l := l) (by omega), List.drop_eq_getElem_cons (l := m) (by omega)]
    rfl
  · refine v_int ?_
    rw [he, List.drop_of_length_le (l := l) (by omega), List.drop_of_length_le (l := m) (by omega)]
    rfl
/-- Vectors, part by part. -/
def cmpV (a b c d a' b' c' d' : Int) : Int := cmpL [a, b, c, d] [a', b', c', d']
theorem ok_vCompare : (match Try.f82.body with | some c => codeOk Try.f82.ntmps c | none => false) = true := by kernel_rfl
theorem en_vCompare : ∃ fn, Try.prog.funcs[82]? = some fn ∧ (fn.name == "runtime.NumGoroutine") = false ∧ fn.body.isNone = false := ⟨_, Try.func82, by kernel_rfl, by kernel_rfl⟩
theorem vCompare_w (a b c d a' b' c' d' : Int) (w : World) : PuAt Try.prog 82 [.agg ⟨[.int .u64 a, .int .u64 b, .int .u64 c, .int .u64 d]⟩, .agg ⟨[.int .u64 a', .int .u64 b', .int .u64 c', .int .u64 d']⟩] (.int .i64 (cmpV a b c d a' b' c' d')) w := by
  refine funcR_pure tyOk wide Try.func82 ok_vCompare (Nat.le_of_ble_eq_true rfl) ?_
  repeat' first
    | (conv => whnf
       first
       | intro _
       | (first | refine selSplit (fun h => ?_) (fun h => ?_) | refine condSplit (fun h => ?_) (fun h => ?_)) <;> first | exact (clash (by assumption) h).elim | exact (clash h (by assumption)).elim | (simp only [decide_eq_true_eq, decide_eq_false_iff_not, Bool.not_eq_true', Bool.not_eq_false', Bool.not_true, Bool.not_false, Bool.or_eq_true, Bool.and_eq_true, Bool.or_eq_false_iff, Bool.and_eq_false_iff, beq_iff_eq, beq_eq_false_iff_ne, ne_eq] at h; first | (exfalso; omega) | skip) | skip
       | (first | refine drM (.quiet 0 (.quiet 1 (.quiet 2 (.quiet 3 (.alloc 4 (.alloc 5 (.last 6 false (.last 7 false .done)))))))) (SubL.refl _) ?_ | refine drM (.quiet 0 (.quiet 1 (.quiet 2 (.quiet 3 .done)))) (SubL.refl _) ?_)
       | refine AltP.mk ?_ ?_
       | refine kpM ?_
       | refine SeqP.go ?_
       | refine cdM ?_
       | exact IsV.mk
       | apply GuardP.mk
       | ((first | apply callPure' en_parts | apply callQuiet' en_parts); · exact fun w _ => parts_w _ _ _ _ w)
       | ((first | apply callPure' en_slicesCompare | apply callQuiet' en_slicesCompare); · exact fun w hw => slicesCompare_w _ 0 4 _ 0 4 [a, b, c, d] [a', b', c', d'] w (hw.range hasM) (hw.range hasM) (by simp) (by simp))
       | (first | refine eqlW eqS135 rfl rfl rfl fitM fitM ?_ | refine neqW eqS135 rfl rfl rfl fitM fitM ?_)
       | refine Or.inl ⟨_, _, hasM, ?_⟩
       | refine Or.inl ⟨_, _, _, holeM, rfl, rfl, ?_⟩
       | refine lA ?_
       | refine lA0 ?_
       | refine lA1 ?_
       | refine lO ?_
       | refine lO0 ?_
       | refine lO1 ?_
       | refine lG ?_
       | refine lG0 ?_
       | refine tA ?_
       | refine tA0 ?_
       | refine tA1 ?_
       | refine BytW.ofBlk hasM rfl rfl ?_
       | refine AppW.noneB hasM leM rfl rfl rfl leM leM ?_
       | refine AppW.rowB hasM leM rfl rfl holeM leM leM ?_
       | refine AppW.blkB hasM leM rfl rfl holeM rfl rfl leM leM ?_
       | refine AppW.rowS hasM leM rfl rfl holeM (by omega) leM ?_
       | refine AppW.arrS hasM leM rfl rfl rfl holeM (by first | omega | (simp; omega)) leM ?_
       | refine ⟨sideM, ?_⟩
       | fail)
  all_goals (try conv => whnf)
  all_goals rfl
theorem ok_who : (match Try.f93.body with | some c => codeOk Try.f93.ntmps c | none => false) = true := by kernel_rfl
theorem en_who : ∃ fn, Try.prog.funcs[93]? = some fn ∧ (fn.name == "runtime.NumGoroutine") = false ∧ fn.body.isNone = false := ⟨_, Try.func93, by kernel_rfl, by kernel_rfl⟩
theorem who_w (a b c d : Int) (w : World) : PuAt Try.prog 93 [.agg ⟨[.int .u64 a, .int .u64 b, .int .u64 c, .int .u64 d]⟩] (.agg ⟨[.int .u64 (bits .and .u64 c 281474976710655), .int .u64 (bits .and .u64 d 4095)]⟩) w := by
  refine funcR_pure tyOk wide Try.func93 ok_who (Nat.le_of_ble_eq_true rfl) ?_
  repeat' first
    | (conv => whnf
       first
       | intro _
       | (first | refine selSplit (fun h => ?_) (fun h => ?_) | refine condSplit (fun h => ?_) (fun h => ?_)) <;> first | exact (clash (by assumption) h).elim | exact (clash h (by assumption)).elim | (simp only [decide_eq_true_eq, decide_eq_false_iff_not, Bool.not_eq_true', Bool.not_eq_false', Bool.not_true, Bool.not_false, Bool.or_eq_true, Bool.and_eq_true, Bool.or_eq_false_iff, Bool.and_eq_false_iff, beq_iff_eq, beq_eq_false_iff_ne, ne_eq] at h; first | (exfalso; omega) | skip) | skip
       | refine SeqP.go ?_
       | refine cdM ?_
       | exact IsV.mk
       | apply GuardP.mk
       | (first | refine eqlW eqS135 rfl rfl rfl fitM fitM ?_ | refine neqW eqS135 rfl rfl rfl fitM fitM ?_)
       | refine Or.inl ⟨_, _, hasM, ?_⟩
       | refine Or.inl ⟨_, _, _, holeM, rfl, rfl, ?_⟩
       | refine lA ?_
       | refine lA0 ?_
       | refine lA1 ?_
       | refine lO ?_
       | refine lO0 ?_
       | refine lO1 ?_
       | refine lG ?_
       | refine lG0 ?_
       | refine tA ?_
       | refine tA0 ?_
       | refine tA1 ?_
       | refine BytW.ofBlk hasM rfl rfl ?_
       | refine AppW.noneB hasM leM rfl rfl rfl leM leM ?_
       | refine AppW.rowB hasM leM rfl rfl holeM leM leM ?_
       | refine AppW.blkB hasM leM rfl rfl holeM rfl rfl leM leM ?_
       | refine AppW.rowS hasM leM rfl rfl holeM (by omega) leM ?_
       | refine AppW.arrS hasM leM rfl rfl rfl holeM (by first | omega | (simp; omega)) leM ?_
       | refine ⟨sideM, ?_⟩
       | fail)
  all_goals (try conv => whnf)
  all_goals rfl
theorem ok_vSupersedes : (match Try.f81.body with | some c => codeOk Try.f81.ntmps c | none => false) = true := by kernel_rfl
theorem en_vSupersedes : ∃ fn, Try.prog.funcs[81]? = some fn ∧ (fn.name == "runtime.NumGoroutine") = false ∧ fn.body.isNone = false := ⟨_, Try.func81, by kernel_rfl, by kernel_rfl⟩
def supB (a b c d a' b' c' d' : Int) : Bool := decide (cmpV a b c d a' b' c' d' < 0) || (decide (bits .and .u64 c 281474976710655 = bits .and .u64 c' 281474976710655) && decide (bits .and .u64 d 4095 = bits .and .u64 d' 4095))
theorem vSupersedes_w (a b c d a' b' c' d' : Int) (w : World) : PuAt Try.prog 81 [.agg ⟨[.int .u64 a, .int .u64 b, .int .u64 c, .int .u64 d]⟩, .agg ⟨[.int .u64 a', .int .u64 b', .int .u64 c', .int .u64 d']⟩] (.bool (supB a b c d a' b' c' d')) w := by
  refine funcR_pure tyOk wide Try.func81 ok_vSupersedes (Nat.le_of_ble_eq_true rfl) ?_
  repeat' first
    | (conv => whnf
       first
       | intro _
       | (first | refine selSplit (fun h => ?_) (fun h => ?_) | refine condSplit (fun h => ?_) (fun h => ?_)) <;> first | exact (clash (by assumption) h).elim | exact (clash h (by assumption)).elim | (simp only [decide_eq_true_eq, decide_eq_false_iff_not, Bool.not_eq_true', Bool.not_eq_false', Bool.not_true, Bool.not_false, Bool.or_eq_true, Bool.and_eq_true, Bool.or_eq_false_iff, Bool.and_eq_false_iff, beq_iff_eq, beq_eq_false_iff_ne, ne_eq] at h; first | (exfalso; omega) | skip) | skip
       | (first | refine drC (.quiet 0 (.quiet 1 (.quiet 2 (.quiet 3 (.quiet 4 (.quiet 5 (.quiet 6 (.quiet 7 (.quiet 8 (.quiet 9 (.quiet 10 (.quiet 11 (.quiet 12 (.quiet 13 .done)))))))))))))) (SubL.refl _) ?_)
       | refine AltP.mk ?_ ?_
       | refine kpM ?_
       | refine SeqP.go ?_
       | refine cdM ?_
       | exact IsV.mk
       | apply GuardP.mk
       | ((first | apply callPure' en_vCompare | apply callQuiet' en_vCompare); · exact fun w _ => vCompare_w _ _ _ _ _ _ _ _ w)
       | ((first | apply callPure' en_who | apply callQuiet' en_who); · exact fun w _ => who_w _ _ _ _ w)
       | (first | refine eqlW eqS135 rfl rfl rfl fitM fitM ?_ | refine neqW eqS135 rfl rfl rfl fitM fitM ?_)
       | refine Or.inl ⟨_, _, hasM, ?_⟩
       | refine Or.inl ⟨_, _, _, holeM, rfl, rfl, ?_⟩
       | refine lA ?_
       | refine lA0 ?_
       | refine lA1 ?_
       | refine lO ?_
       | refine lO0 ?_
       | refine lO1 ?_
       | refine lG ?_
       | refine lG0 ?_
       | refine tA ?_
       | refine tA0 ?_
       | refine tA1 ?_
       | refine BytW.ofBlk hasM rfl rfl ?_
       | refine AppW.noneB hasM leM rfl rfl rfl leM leM ?_
       | refine AppW.rowB hasM leM rfl rfl holeM leM leM ?_
       | refine AppW.blkB hasM leM rfl rfl holeM rfl rfl leM leM ?_
       | refine AppW.rowS hasM leM rfl rfl holeM (by omega) leM ?_
       | refine AppW.arrS hasM leM rfl rfl rfl holeM (by first | omega | (simp; omega)) leM ?_
       | refine ⟨sideM, ?_⟩
       | fail)
  all_goals (try conv => whnf)
  all_goals (try conv => whnf)
  all_goals (refine v_bool ?_; simp [supB, allEq, cellEq, *])
def sp (a : Int) (i : Nat) : Int := IntKind.u8.wrap (a.fdiv (2 ^ (40 - 8 * i)))
end Go.Proofs.Ytmgoahmbdpoikaa.Am
