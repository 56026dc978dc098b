/- Package vlanport, and the document's: what is a set-up, what it has, how frames come in and go out. -/
import Derived.Test.YtgjdmlgdgbehoaaFrame
set_option linter.unusedVariables false
set_option linter.unusedSimpArgs false
set_option maxRecDepth 100000
set_option maxHeartbeats 4000000
namespace Go.Proofs.Ytgjdmlgdgbehoaa.Am
open Go Go.RowKit
def ints (l : List Int) : List (List Value) := l.map fun x => [.int .i64 x]
theorem ints_at {l : List Int} {k : Nat} {x : Int} (h : l[k]? = some x) : (ints l)[k]? = some [.int .i64 x] := by unfold ints; rw [List.getElem?_map, h]; rfl
theorem ints_len (l : List Int) : (ints l).length = l.length := by unfold ints; rw [List.length_map]
def incr : Int → List Int → Bool
  | _, [] => true
  | q, x :: r => vlanB x && decide (q < x) && incr x r
def lastV (l : List Int) (k : Nat) : Int := if k = 0 then 0 else (l[k - 1]?).getD 0
theorem lastV_succ {l : List Int} {k : Nat} {x : Int} (h : l[k]? = some x) : lastV l (k + 1) = x := by unfold lastV; rw [if_neg (by omega), Nat.add_sub_cancel, h]; rfl
theorem incr_drop {l : List Int} {k : Nat} {x : Int} (h : l[k]? = some x) : incr (lastV l k) (l.drop k) = (vlanB x && decide (lastV l k < x) && incr x (l.drop (k + 1))) := by
  obtain ⟨hk, he⟩ := List.getElem?_eq_some_iff.1 h
  rw [List.drop_eq_getElem_cons hk, he]; rfl
theorem incr_pair : ∀ {q : Int} {l : List Int}, incr q l = true → (q :: l).Pairwise (· < ·) ∧ ∀ x ∈ l, vlanB x = true
  | q, [], _ => ⟨by simp, by simp⟩
  | q, x :: r, h => by
    simp only [incr, Bool.and_eq_true, decide_eq_true_eq] at h
    obtain ⟨h1, h2⟩ := incr_pair h.2
    refine ⟨List.pairwise_cons.2 ⟨fun y hy => ?_, h1⟩, fun y hy => ?_⟩
    · rcases List.mem_cons.1 hy with rfl | hy
      · exact h.1.2
      · exact Int.lt_trans h.1.2 ((List.pairwise_cons.1 h1).1 y hy)
    · rcases List.mem_cons.1 hy with rfl | hy
      · exact h.1.1
      · exact h2 y hy
theorem incr_lt {l : List Int} (h : incr 0 l = true) {i j : Nat} {x y : Int} (hi : l[i]? = some x) (hj : l[j]? = some y) (hij : i < j) : x < y := by
  obtain ⟨h1, h2⟩ := List.getElem?_eq_some_iff.1 hi
  obtain ⟨h3, h4⟩ := List.getElem?_eq_some_iff.1 hj
  have := List.pairwise_iff_getElem.1 (List.pairwise_cons.1 (incr_pair h).1).2 i j h1 h3 hij
  omega
def vRightB (t : Bool) (n : Int) (l : List Int) : Bool := vlanB n && decide (l.length ≤ 16) && (t || decide (l.length = 0)) && incr 0 l
theorem ok_vlan : (match Try.f71.body with | some c => codeOk Try.f71.ntmps c | none => false) = true := by kernel_rfl
theorem en_vlan : ∃ fn, Try.prog.funcs[71]? = some fn ∧ (fn.name == "runtime.NumGoroutine") = false ∧ fn.body.isNone = false := ⟨_, Try.func71, by kernel_rfl, by kernel_rfl⟩
theorem vlan_w (v : Int) (w : World) : PuAt Try.prog 71 [.int .i64 v] (.bool (vlanB v)) w := by
  refine funcR_pure tyOk wide Try.func71 ok_vlan (Nat.le_of_ble_eq_true rfl) ?_
  repeat' first
    | (conv => whnf
       first
       | intro _
       | (first | refine selSplit (fun h => ?_) (fun h => ?_) | refine condSplit (fun h => ?_) (fun h => ?_)) <;> first | exact (clash (by assumption) h).elim | exact (clash h (by assumption)).elim | (simp only [decide_eq_true_eq, decide_eq_false_iff_not, Bool.not_eq_true', Bool.not_eq_false', Bool.not_true, Bool.not_false, Bool.or_eq_true, Bool.and_eq_true, Bool.or_eq_false_iff, Bool.and_eq_false_iff, beq_iff_eq, beq_eq_false_iff_ne, ne_eq] at h; first | (exfalso; omega) | skip) | skip
       | refine SeqP.go ?_
       | refine cdM ?_
       | exact IsV.mk
       | apply GuardP.mk
       | (first | refine eqlW eqS50 rfl rfl rfl fitM fitM ?_ | refine neqW eqS50 rfl rfl rfl fitM fitM ?_)
       | refine Or.inl ⟨_, _, hasM, ?_⟩
       | refine Or.inl ⟨_, _, _, holeM, rfl, rfl, ?_⟩
       | refine lA ?_
       | refine lA0 ?_
       | refine lA1 ?_
       | refine lO ?_
       | refine lO0 ?_
       | refine lO1 ?_
       | refine lR ?_
       | refine lG ?_
       | refine lG0 ?_
       | refine tA ?_
       | refine tA0 ?_
       | refine tA1 ?_
       | refine BytW.ofBlk hasM rfl rfl ?_
       | refine AppW.noneB hasM leM rfl rfl rfl leM leM ?_
       | refine AppW.rowB hasM leM rfl rfl holeM leM leM ?_
       | refine AppW.blkB hasM leM rfl rfl holeM rfl rfl leM leM ?_
       | refine AppW.rowS hasM leM rfl rfl holeM (by omega) leM ?_
       | refine AppW.arrS hasM leM rfl rfl rfl holeM (by first | omega | (simp; omega)) leM ?_
       | refine ⟨sideM, ?_⟩
       | fail)
  all_goals (try conv => whnf)
  all_goals (refine v_bool ?_; unfold vlanB; first | rfl | grind)
theorem ok_in6 : (match Try.f72.body with | some c => codeOk Try.f72.ntmps c | none => false) = true := by kernel_rfl
theorem en_in6 : ∃ fn, Try.prog.funcs[72]? = some fn ∧ (fn.name == "runtime.NumGoroutine") = false ∧ fn.body.isNone = false := ⟨_, Try.func72, by kernel_rfl, by kernel_rfl⟩
theorem in6_w (v : Int) (w : World) : PuAt Try.prog 72 [.int .i64 v] (.bool (vlanB v)) w := by
  refine funcR_pure tyOk wide Try.func72 ok_in6 (Nat.le_of_ble_eq_true rfl) ?_
  repeat' first
    | (conv => whnf
       first
       | intro _
       | (first | refine selSplit (fun h => ?_) (fun h => ?_) | refine condSplit (fun h => ?_) (fun h => ?_)) <;> first | exact (clash (by assumption) h).elim | exact (clash h (by assumption)).elim | (simp only [decide_eq_true_eq, decide_eq_false_iff_not, Bool.not_eq_true', Bool.not_eq_false', Bool.not_true, Bool.not_false, Bool.or_eq_true, Bool.and_eq_true, Bool.or_eq_false_iff, Bool.and_eq_false_iff, beq_iff_eq, beq_eq_false_iff_ne, ne_eq] at h; first | (exfalso; omega) | skip) | skip
       | refine SeqP.go ?_
       | refine cdM ?_
       | exact IsV.mk
       | apply GuardP.mk
       | (first | refine eqlW eqS50 rfl rfl rfl fitM fitM ?_ | refine neqW eqS50 rfl rfl rfl fitM fitM ?_)
       | refine Or.inl ⟨_, _, hasM, ?_⟩
       | refine Or.inl ⟨_, _, _, holeM, rfl, rfl, ?_⟩
       | refine lA ?_
       | refine lA0 ?_
       | refine lA1 ?_
       | refine lO ?_
       | refine lO0 ?_
       | refine lO1 ?_
       | refine lR ?_
       | refine lG ?_
       | refine lG0 ?_
       | refine tA ?_
       | refine tA0 ?_
       | refine tA1 ?_
       | refine BytW.ofBlk hasM rfl rfl ?_
       | refine AppW.noneB hasM leM rfl rfl rfl leM leM ?_
       | refine AppW.rowB hasM leM rfl rfl holeM leM leM ?_
       | refine AppW.blkB hasM leM rfl rfl holeM rfl rfl leM leM ?_
       | refine AppW.rowS hasM leM rfl rfl holeM (by omega) leM ?_
       | refine AppW.arrS hasM leM rfl rfl rfl holeM (by first | omega | (simp; omega)) leM ?_
       | refine ⟨sideM, ?_⟩
       | fail)
  all_goals (try conv => whnf)
  all_goals (refine v_bool ?_; unfold vlanB; first | rfl | grind)
theorem ok_vRight : (match Try.f33.body with | some c => codeOk Try.f33.ntmps c | none => false) = true := by kernel_rfl
theorem en_vRight : ∃ fn, Try.prog.funcs[33]? = some fn ∧ (fn.name == "runtime.NumGoroutine") = false ∧ fn.body.isNone = false := ⟨_, Try.func33, by kernel_rfl, by kernel_rfl⟩
theorem vRight_w (t : Bool) (n : Int) (l : List Int) (A : Option Addr) (c : Nat) (w : World) (hs : SlAt w A 1 (ints l)) (hl : l.length ≤ 1000) : PuAt Try.prog 33 [.agg ⟨[.bool t, .int .i64 n, .slice A l.length c]⟩] (.bool (vRightB t n l)) w := by
  refine funcR_pure tyOk wide Try.func33 ok_vRight (Nat.le_of_ble_eq_true rfl) ?_
  repeat' first
    | (conv => whnf
       first
       | intro _
       | (first | refine selSplit (fun h => ?_) (fun h => ?_) | refine condSplit (fun h => ?_) (fun h => ?_)) <;> first | exact (clash (by assumption) h).elim | exact (clash h (by assumption)).elim | (simp only [decide_eq_true_eq, decide_eq_false_iff_not, Bool.not_eq_true', Bool.not_eq_false', Bool.not_true, Bool.not_false, Bool.or_eq_true, Bool.and_eq_true, Bool.or_eq_false_iff, Bool.and_eq_false_iff, beq_iff_eq, beq_eq_false_iff_ne, ne_eq] at h; first | (exfalso; omega) | skip) | skip
       | refine SeqP.go ?_
       | refine cdM ?_
       | exact IsV.mk
       | apply GuardP.mk
       | ((first | apply callPure' en_vlan | apply callQuiet' en_vlan); · exact fun w _ => vlan_w n w)
       | (first | refine eqlW eqS50 rfl rfl rfl fitM fitM ?_ | refine neqW eqS50 rfl rfl rfl fitM fitM ?_)
       | refine Or.inl ⟨_, _, hasM, ?_⟩
       | refine Or.inl ⟨_, _, _, holeM, rfl, rfl, ?_⟩
       | refine lA ?_
       | refine lA0 ?_
       | refine lA1 ?_
       | refine lO ?_
       | refine lO0 ?_
       | refine lO1 ?_
       | refine lR ?_
       | refine lG ?_
       | refine lG0 ?_
       | refine tA ?_
       | refine tA0 ?_
       | refine tA1 ?_
       | refine BytW.ofBlk hasM rfl rfl ?_
       | refine AppW.noneB hasM leM rfl rfl rfl leM leM ?_
       | refine AppW.rowB hasM leM rfl rfl holeM leM leM ?_
       | refine AppW.blkB hasM leM rfl rfl holeM rfl rfl leM leM ?_
       | refine AppW.rowS hasM leM rfl rfl holeM (by omega) leM ?_
       | refine AppW.arrS hasM leM rfl rfl rfl holeM (by first | omega | (simp; omega)) leM ?_
       | refine ⟨sideM, ?_⟩
       | fail)
  all_goals (try conv => whnf)
  · refine v_bool ?_; unfold vRightB; grind
  · rename_i b1
    have hh : vRightB t n l = incr 0 l := by unfold vRightB; grind
    clear h
    refine .mk Nat (fun k S H => (k ≤ l.length ∧ incr 0 l = incr (lastV l k) (l.drop k)) ∧ S = [(29, .int .i64 k), (28, .int .i64 l.length), (27, .slice A l.length c), (1, .pointer (some ⟨b1, 0, none⟩))] ∧ H = [.blk b1 [.bool t, .int .i64 n, .slice A l.length c] 48]) (fun k => l.length - k) 0 _ _ ⟨⟨by omega, rfl⟩, rfl, rfl⟩ subM entM ?_
    rintro k S1 H1 ⟨⟨hk, he⟩, rfl, rfl⟩
    by_cases hk2 : k < l.length
    · obtain ⟨b, o, e, _⟩ := hs.at_ (by rw [ints_len]; omega)
      subst e
      have o1 := hs.old (X := []) (by rw [ints_len]; omega) (by simp)
      obtain ⟨x, hx⟩ : ∃ x, l[k]? = some x := ⟨l[k], List.getElem?_eq_getElem hk2⟩
      have y1 := ints_at hx
      rw [incr_drop hx] at he
      have hls := lastV_succ hx
      cases k with
      | zero =>
        have hv : lastV l 0 = 0 := rfl
        rw [hv] at he
        repeat' first
          | (conv => whnf
             first
             | intro _
             | (first | refine selSplit (fun h => ?_) (fun h => ?_) | refine condSplit (fun h => ?_) (fun h => ?_)) <;> first | exact (clash (by assumption) h).elim | exact (clash h (by assumption)).elim | (simp only [decide_eq_true_eq, decide_eq_false_iff_not, Bool.not_eq_true', Bool.not_eq_false', Bool.not_true, Bool.not_false, Bool.or_eq_true, Bool.and_eq_true, Bool.or_eq_false_iff, Bool.and_eq_false_iff, beq_iff_eq, beq_eq_false_iff_ne, ne_eq] at h; first | (exfalso; omega) | skip) | skip
             | refine SeqP.go ?_
             | refine CondR.split ?_
             | exact IsV.mk
             | apply GuardP.mk
             | ((first | apply callPure' en_vlan | apply callQuiet' en_vlan); · exact fun w _ => vlan_w x w)
             | (first | refine eqlW eqS50 rfl rfl rfl fitM fitM ?_ | refine neqW eqS50 rfl rfl rfl fitM fitM ?_)
             | refine Or.inl ⟨_, _, hasM, ?_⟩
             | refine Or.inl ⟨_, _, _, holeM, rfl, rfl, ?_⟩
             | refine lA ?_
             | refine lA0 ?_
             | refine lA1 ?_
             | refine lO ?_
             | refine lO0 ?_
             | refine lO1 ?_
             | refine lR ?_
             | refine lG ?_
             | refine lG0 ?_
             | refine tA ?_
             | refine tA0 ?_
             | refine tA1 ?_
             | refine BytW.ofBlk hasM rfl rfl ?_
             | refine AppW.noneB hasM leM rfl rfl rfl leM leM ?_
             | refine AppW.rowB hasM leM rfl rfl holeM leM leM ?_
             | refine AppW.blkB hasM leM rfl rfl holeM rfl rfl leM leM ?_
             | refine AppW.rowS hasM leM rfl rfl holeM (by omega) leM ?_
             | refine AppW.arrS hasM leM rfl rfl rfl holeM (by first | omega | (simp; omega)) leM ?_
             | refine ⟨sideM, ?_⟩
             | fail)
        all_goals (try conv => whnf)
        · refine v_bool ?_; rw [hh, he, h]; rfl
        · have hp : (0 : Int) < x := by unfold vlanB at h; simp only [Bool.and_eq_true, decide_eq_true_eq] at h; omega
          exact .mk (0 + 1) _ _ (by omega) ⟨⟨hk2, by rw [he, hls, h, decide_eq_true hp]; rfl⟩, rfl, rfl⟩ subM entM
      | succ j =>
        obtain ⟨y, hy⟩ : ∃ y, l[j]? = some y := ⟨l[j], List.getElem?_eq_getElem (by omega)⟩
        have hw : IntKind.i64.wrap (((j + 1 : Nat) : Int) - 1) = (j : Int) := by rw [w64 (by omega) (by omega)]; omega
        have hwb : 0 ≤ IntKind.i64.wrap (((j + 1 : Nat) : Int) - 1) ∧ IntKind.i64.wrap (((j + 1 : Nat) : Int) - 1) < (l.length : Int) := by rw [hw]; omega
        have y2 : (ints l)[(IntKind.i64.wrap (((j + 1 : Nat) : Int) - 1)).toNat]? = some [.int .i64 y] := by rw [hw, Int.toNat_natCast]; exact ints_at hy
        rw [lastV_succ hy] at he
        repeat' first
          | (conv => whnf
             first
             | intro _
             | (first | refine selSplit (fun h => ?_) (fun h => ?_) | refine condSplit (fun h => ?_) (fun h => ?_)) <;> first | exact (clash (by assumption) h).elim | exact (clash h (by assumption)).elim | (simp only [decide_eq_true_eq, decide_eq_false_iff_not, Bool.not_eq_true', Bool.not_eq_false', Bool.not_true, Bool.not_false, Bool.or_eq_true, Bool.and_eq_true, Bool.or_eq_false_iff, Bool.and_eq_false_iff, beq_iff_eq, beq_eq_false_iff_ne, ne_eq] at h; first | (exfalso; omega) | skip) | skip
             | refine SeqP.go ?_
             | refine CondR.split ?_
             | exact IsV.mk
             | apply GuardP.mk
             | ((first | apply callPure' en_vlan | apply callQuiet' en_vlan); · exact fun w _ => vlan_w x w)
             | (refine And.intro hwb ?_)
             | (first | refine eqlW eqS50 rfl rfl rfl fitM fitM ?_ | refine neqW eqS50 rfl rfl rfl fitM fitM ?_)
             | refine Or.inl ⟨_, _, hasM, ?_⟩
             | refine Or.inl ⟨_, _, _, holeM, rfl, rfl, ?_⟩
             | refine lA ?_
             | refine lA0 ?_
             | refine lA1 ?_
             | refine lO ?_
             | refine lO0 ?_
             | refine lO1 ?_
             | refine lR ?_
             | refine lG ?_
             | refine lG0 ?_
             | refine tA ?_
             | refine tA0 ?_
             | refine tA1 ?_
             | refine BytW.ofBlk hasM rfl rfl ?_
             | refine AppW.noneB hasM leM rfl rfl rfl leM leM ?_
             | refine AppW.rowB hasM leM rfl rfl holeM leM leM ?_
             | refine AppW.blkB hasM leM rfl rfl holeM rfl rfl leM leM ?_
             | refine AppW.rowS hasM leM rfl rfl holeM (by omega) leM ?_
             | refine AppW.arrS hasM leM rfl rfl rfl holeM (by first | omega | (simp; omega)) leM ?_
             | refine ⟨sideM, ?_⟩
             | fail)
        all_goals (try conv => whnf)
        · refine v_bool ?_; rw [hh, he, h]; rfl
        · refine v_bool ?_; rw [hh, he, decide_eq_false (by omega), Bool.and_false]; rfl
        · rename_i hv _
          exact .mk (j + 1 + 1) _ _ (by omega) ⟨⟨hk2, by rw [he, hls, hv, decide_eq_true (by omega)]; rfl⟩, rfl, rfl⟩ subM entM
    · skip
      repeat' first
        | (conv => whnf
           first
           | intro _
           | (first | refine selSplit (fun h => ?_) (fun h => ?_) | refine condSplit (fun h => ?_) (fun h => ?_)) <;> first | exact (clash (by assumption) h).elim | exact (clash h (by assumption)).elim | (simp only [decide_eq_true_eq, decide_eq_false_iff_not, Bool.not_eq_true', Bool.not_eq_false', Bool.not_true, Bool.not_false, Bool.or_eq_true, Bool.and_eq_true, Bool.or_eq_false_iff, Bool.and_eq_false_iff, beq_iff_eq, beq_eq_false_iff_ne, ne_eq] at h; first | (exfalso; omega) | skip) | skip
           | refine SeqP.go ?_
           | refine cdM ?_
           | exact IsV.mk
           | apply GuardP.mk
           | (first | refine eqlW eqS50 rfl rfl rfl fitM fitM ?_ | refine neqW eqS50 rfl rfl rfl fitM fitM ?_)
           | refine Or.inl ⟨_, _, hasM, ?_⟩
           | refine Or.inl ⟨_, _, _, holeM, rfl, rfl, ?_⟩
           | refine lA ?_
           | refine lA0 ?_
           | refine lA1 ?_
           | refine lO ?_
           | refine lO0 ?_
           | refine lO1 ?_
           | refine lR ?_
           | refine lG ?_
           | refine lG0 ?_
           | refine tA ?_
           | refine tA0 ?_
           | refine tA1 ?_
           | refine BytW.ofBlk hasM rfl rfl ?_
           | refine AppW.noneB hasM leM rfl rfl rfl leM leM ?_
           | refine AppW.rowB hasM leM rfl rfl holeM leM leM ?_
           | refine AppW.blkB hasM leM rfl rfl holeM rfl rfl leM leM ?_
           | refine AppW.rowS hasM leM rfl rfl holeM (by omega) leM ?_
           | refine AppW.arrS hasM leM rfl rfl rfl holeM (by first | omega | (simp; omega)) leM ?_
           | refine ⟨sideM, ?_⟩
           | fail)
      all_goals (try conv => whnf)
      all_goals first
        | (exfalso; omega)
        | (refine v_bool ?_; rw [hh, he, List.drop_of_length_le (by omega)]; rfl)
theorem ok_right6 : (match Try.f34.body with | some c => codeOk Try.f34.ntmps c | none => false) = true := by kernel_rfl
theorem en_right6 : ∃ fn, Try.prog.funcs[34]? = some fn ∧ (fn.name == "runtime.NumGoroutine") = false ∧ fn.body.isNone = false := ⟨_, Try.func34, by kernel_rfl, by kernel_rfl⟩
theorem right6_w (t : Bool) (n : Int) (l : List Int) (A : Option Addr) (c : Nat) (w : World) (hs : SlAt w A 1 (ints l)) (hl : l.length ≤ 1000) : PuAt Try.prog 34 [.agg ⟨[.bool t, .int .i64 n, .slice A l.length c]⟩] (.bool (vRightB t n l)) w := by
  refine funcR_pure tyOk wide Try.func34 ok_right6 (Nat.le_of_ble_eq_true rfl) ?_
  repeat' first
    | (conv => whnf
       first
       | intro _
       | (first | refine selSplit (fun h => ?_) (fun h => ?_) | refine condSplit (fun h => ?_) (fun h => ?_)) <;> first | exact (clash (by assumption) h).elim | exact (clash h (by assumption)).elim | (simp only [decide_eq_true_eq, decide_eq_false_iff_not, Bool.not_eq_true', Bool.not_eq_false', Bool.not_true, Bool.not_false, Bool.or_eq_true, Bool.and_eq_true, Bool.or_eq_false_iff, Bool.and_eq_false_iff, beq_iff_eq, beq_eq_false_iff_ne, ne_eq] at h; first | (exfalso; omega) | skip) | skip
       | (first | refine drM (.quiet 0 (.quiet 1 (.quiet 2 (.quiet 3 (.quiet 4 (.quiet 5 (.quiet 6 (.quiet 7 (.quiet 8 (.quiet 9 (.quiet 10 .done))))))))))) (SubL.refl _) ?_)
       | refine AltP.mk ?_ ?_
       | refine kpM ?_
       | refine SeqP.go ?_
       | refine cdM ?_
       | exact IsV.mk
       | apply GuardP.mk
       | ((first | apply callPure' en_in6 | apply callQuiet' en_in6); · exact fun w _ => in6_w n w)
       | (first | refine eqlW eqS50 rfl rfl rfl fitM fitM ?_ | refine neqW eqS50 rfl rfl rfl fitM fitM ?_)
       | refine Or.inl ⟨_, _, hasM, ?_⟩
       | refine Or.inl ⟨_, _, _, holeM, rfl, rfl, ?_⟩
       | refine lA ?_
       | refine lA0 ?_
       | refine lA1 ?_
       | refine lO ?_
       | refine lO0 ?_
       | refine lO1 ?_
       | refine lR ?_
       | refine lG ?_
       | refine lG0 ?_
       | refine tA ?_
       | refine tA0 ?_
       | refine tA1 ?_
       | refine BytW.ofBlk hasM rfl rfl ?_
       | refine AppW.noneB hasM leM rfl rfl rfl leM leM ?_
       | refine AppW.rowB hasM leM rfl rfl holeM leM leM ?_
       | refine AppW.blkB hasM leM rfl rfl holeM rfl rfl leM leM ?_
       | refine AppW.rowS hasM leM rfl rfl holeM (by omega) leM ?_
       | refine AppW.arrS hasM leM rfl rfl rfl holeM (by first | omega | (simp; omega)) leM ?_
       | refine ⟨sideM, ?_⟩
       | fail)
  all_goals (try conv => whnf)
  · refine v_bool ?_; unfold vRightB; grind
  · rename_i b1
    have hh : vRightB t n l = incr 0 l := by unfold vRightB; grind
    clear h
    refine .mk Nat (fun k S H => (k ≤ l.length ∧ incr 0 l = incr (lastV l k) (l.drop k)) ∧ S = [(3, .int .i64 k), (1, .pointer (some ⟨b1, 0, none⟩))] ∧ H = [.blk b1 [.bool t, .int .i64 n, .slice A l.length c] 52]) (fun k => l.length - k) 0 _ _ ⟨⟨by omega, rfl⟩, rfl, rfl⟩ subM entM ?_
    rintro k S1 H1 ⟨⟨hk, he⟩, rfl, rfl⟩
    by_cases hk2 : k < l.length
    · obtain ⟨b, o, e, _⟩ := hs.at_ (by rw [ints_len]; omega)
      subst e
      have o1 := hs.old (X := []) (by rw [ints_len]; omega) (by simp)
      obtain ⟨x, hx⟩ : ∃ x, l[k]? = some x := ⟨l[k], List.getElem?_eq_getElem hk2⟩
      have y1 := ints_at hx
      rw [incr_drop hx] at he
      have hls := lastV_succ hx
      repeat' first
        | (conv => whnf
           first
           | intro _
           | (first | refine selSplit (fun h => ?_) (fun h => ?_) | refine condSplit (fun h => ?_) (fun h => ?_)) <;> first | exact (clash (by assumption) h).elim | exact (clash h (by assumption)).elim | (simp only [decide_eq_true_eq, decide_eq_false_iff_not, Bool.not_eq_true', Bool.not_eq_false', Bool.not_true, Bool.not_false, Bool.or_eq_true, Bool.and_eq_true, Bool.or_eq_false_iff, Bool.and_eq_false_iff, beq_iff_eq, beq_eq_false_iff_ne, ne_eq] at h; first | (exfalso; omega) | skip) | skip
           | (first | refine drM (.quiet 0 (.quiet 1 (.quiet 2 (.quiet 3 (.quiet 4 (.quiet 5 (.quiet 6 (.quiet 7 (.quiet 8 (.quiet 9 (.quiet 10 .done))))))))))) (SubL.refl _) ?_)
           | refine AltP.mk ?_ ?_
           | refine kpM ?_
           | refine SeqP.go ?_
           | refine cdM ?_
           | exact IsV.mk
           | apply GuardP.mk
           | ((first | apply callPure' en_in6 | apply callQuiet' en_in6); · exact fun w _ => in6_w x w)
           | (first | refine eqlW eqS50 rfl rfl rfl fitM fitM ?_ | refine neqW eqS50 rfl rfl rfl fitM fitM ?_)
           | refine Or.inl ⟨_, _, hasM, ?_⟩
           | refine Or.inl ⟨_, _, _, holeM, rfl, rfl, ?_⟩
           | refine lA ?_
           | refine lA0 ?_
           | refine lA1 ?_
           | refine lO ?_
           | refine lO0 ?_
           | refine lO1 ?_
           | refine lR ?_
           | refine lG ?_
           | refine lG0 ?_
           | refine tA ?_
           | refine tA0 ?_
           | refine tA1 ?_
           | refine BytW.ofBlk hasM rfl rfl ?_
           | refine AppW.noneB hasM leM rfl rfl rfl leM leM ?_
           | refine AppW.rowB hasM leM rfl rfl holeM leM leM ?_
           | refine AppW.blkB hasM leM rfl rfl holeM rfl rfl leM leM ?_
           | refine AppW.rowS hasM leM rfl rfl holeM (by omega) leM ?_
           | refine AppW.arrS hasM leM rfl rfl rfl holeM (by first | omega | (simp; omega)) leM ?_
           | refine ⟨sideM, ?_⟩
           | fail)
      all_goals (try conv => whnf)
      · refine v_bool ?_; rw [hh, he, h]; rfl
      · have hv : vlanB x = true := h
        clear h
        refine .mk Nat (fun i S H => (i ≤ k ∧ ∀ (a : Nat) (z : Int), a < i → l[a]? = some z → z < x) ∧ S = [(4, .int .i64 i), (3, .int .i64 k), (1, .pointer (some ⟨b1, 0, none⟩))] ∧ H = [.blk b1 [.bool t, .int .i64 n, .slice (some ⟨b, o, none⟩) l.length c] 52]) (fun i => k - i) 0 _ _ ⟨⟨by omega, fun a z ha => absurd ha (by omega)⟩, rfl, rfl⟩ subM entM ?_
        rintro i S1 H1 ⟨⟨hi, hb⟩, rfl, rfl⟩
        by_cases hi2 : i < k
        · obtain ⟨z, hz⟩ : ∃ z, l[i]? = some z := ⟨l[i], List.getElem?_eq_getElem (by omega)⟩
          have y2 := ints_at hz
          repeat' first
            | (conv => whnf
               first
               | intro _
               | (first | refine selSplit (fun h => ?_) (fun h => ?_) | refine condSplit (fun h => ?_) (fun h => ?_)) <;> first | exact (clash (by assumption) h).elim | exact (clash h (by assumption)).elim | (simp only [decide_eq_true_eq, decide_eq_false_iff_not, Bool.not_eq_true', Bool.not_eq_false', Bool.not_true, Bool.not_false, Bool.or_eq_true, Bool.and_eq_true, Bool.or_eq_false_iff, Bool.and_eq_false_iff, beq_iff_eq, beq_eq_false_iff_ne, ne_eq] at h; first | (exfalso; omega) | skip) | skip
               | (first | refine drM (.quiet 0 (.quiet 1 (.quiet 2 (.quiet 3 (.quiet 4 (.quiet 5 (.quiet 6 (.quiet 7 (.quiet 8 (.quiet 9 (.quiet 10 .done))))))))))) (SubL.refl _) ?_)
               | refine AltP.mk ?_ ?_
               | refine kpM ?_
               | refine SeqP.go ?_
               | refine cdM ?_
               | exact IsV.mk
               | apply GuardP.mk
               | (first | refine eqlW eqS50 rfl rfl rfl fitM fitM ?_ | refine neqW eqS50 rfl rfl rfl fitM fitM ?_)
               | refine Or.inl ⟨_, _, hasM, ?_⟩
               | refine Or.inl ⟨_, _, _, holeM, rfl, rfl, ?_⟩
               | refine lA ?_
               | refine lA0 ?_
               | refine lA1 ?_
               | refine lO ?_
               | refine lO0 ?_
               | refine lO1 ?_
               | refine lR ?_
               | refine lG ?_
               | refine lG0 ?_
               | refine tA ?_
               | refine tA0 ?_
               | refine tA1 ?_
               | refine BytW.ofBlk hasM rfl rfl ?_
               | refine AppW.noneB hasM leM rfl rfl rfl leM leM ?_
               | refine AppW.rowB hasM leM rfl rfl holeM leM leM ?_
               | refine AppW.blkB hasM leM rfl rfl holeM rfl rfl leM leM ?_
               | refine AppW.rowS hasM leM rfl rfl holeM (by omega) leM ?_
               | refine AppW.arrS hasM leM rfl rfl rfl holeM (by first | omega | (simp; omega)) leM ?_
               | refine ⟨sideM, ?_⟩
               | fail)
          all_goals (try conv => whnf)
          all_goals first
            | (exfalso; omega)
            | (refine v_bool ?_
               rw [hh]
               cases hf : incr 0 l with
               | false => rfl
               | true => exact absurd (incr_lt hf hz hx hi2) (by omega))
            | exact .mk (i + 1) _ _ (by omega) ⟨⟨hi2, fun a z' ha hz' => by
                by_cases g : a = i
                · subst g; rw [hz] at hz'; cases hz'; omega
                · exact hb a z' (by omega) hz'⟩, rfl, rfl⟩ subM entM
        · have hlast : lastV l k < x := by
            unfold lastV
            split
            · unfold vlanB at hv; simp only [Bool.and_eq_true, decide_eq_true_eq] at hv; omega
            · obtain ⟨z, hz⟩ : ∃ z, l[k - 1]? = some z := ⟨l[k - 1], List.getElem?_eq_getElem (by omega)⟩
              rw [hz]
              exact hb (k - 1) z (by omega) hz
          repeat' first
            | (conv => whnf
               first
               | intro _
               | (first | refine selSplit (fun h => ?_) (fun h => ?_) | refine condSplit (fun h => ?_) (fun h => ?_)) <;> first | exact (clash (by assumption) h).elim | exact (clash h (by assumption)).elim | (simp only [decide_eq_true_eq, decide_eq_false_iff_not, Bool.not_eq_true', Bool.not_eq_false', Bool.not_true, Bool.not_false, Bool.or_eq_true, Bool.and_eq_true, Bool.or_eq_false_iff, Bool.and_eq_false_iff, beq_iff_eq, beq_eq_false_iff_ne, ne_eq] at h; first | (exfalso; omega) | skip) | skip
               | (first | refine drM (.quiet 0 (.quiet 1 (.quiet 2 (.quiet 3 (.quiet 4 (.quiet 5 (.quiet 6 (.quiet 7 (.quiet 8 (.quiet 9 (.quiet 10 .done))))))))))) (SubL.refl _) ?_)
               | refine AltP.mk ?_ ?_
               | refine kpM ?_
               | refine SeqP.go ?_
               | refine cdM ?_
               | exact IsV.mk
               | apply GuardP.mk
               | (first | refine eqlW eqS50 rfl rfl rfl fitM fitM ?_ | refine neqW eqS50 rfl rfl rfl fitM fitM ?_)
               | refine Or.inl ⟨_, _, hasM, ?_⟩
               | refine Or.inl ⟨_, _, _, holeM, rfl, rfl, ?_⟩
               | refine lA ?_
               | refine lA0 ?_
               | refine lA1 ?_
               | refine lO ?_
               | refine lO0 ?_
               | refine lO1 ?_
               | refine lR ?_
               | refine lG ?_
               | refine lG0 ?_
               | refine tA ?_
               | refine tA0 ?_
               | refine tA1 ?_
               | refine BytW.ofBlk hasM rfl rfl ?_
               | refine AppW.noneB hasM leM rfl rfl rfl leM leM ?_
               | refine AppW.rowB hasM leM rfl rfl holeM leM leM ?_
               | refine AppW.blkB hasM leM rfl rfl holeM rfl rfl leM leM ?_
               | refine AppW.rowS hasM leM rfl rfl holeM (by omega) leM ?_
               | refine AppW.arrS hasM leM rfl rfl rfl holeM (by first | omega | (simp; omega)) leM ?_
               | refine ⟨sideM, ?_⟩
               | fail)
          all_goals (try conv => whnf)
          all_goals first
            | (exfalso; omega)
            | exact .mk (k + 1) _ _ (by omega) ⟨⟨hk2, by rw [he, hls, hv, decide_eq_true hlast]; rfl⟩, rfl, rfl⟩ subM entM
    · skip
      repeat' first
        | (conv => whnf
           first
           | intro _
           | (first | refine selSplit (fun h => ?_) (fun h => ?_) | refine condSplit (fun h => ?_) (fun h => ?_)) <;> first | exact (clash (by assumption) h).elim | exact (clash h (by assumption)).elim | (simp only [decide_eq_true_eq, decide_eq_false_iff_not, Bool.not_eq_true', Bool.not_eq_false', Bool.not_true, Bool.not_false, Bool.or_eq_true, Bool.and_eq_true, Bool.or_eq_false_iff, Bool.and_eq_false_iff, beq_iff_eq, beq_eq_false_iff_ne, ne_eq] at h; first | (exfalso; omega) | skip) | skip
           | (first | refine drM (.quiet 0 (.quiet 1 (.quiet 2 (.quiet 3 (.quiet 4 (.quiet 5 (.quiet 6 (.quiet 7 (.quiet 8 (.quiet 9 (.quiet 10 .done))))))))))) (SubL.refl _) ?_)
           | refine AltP.mk ?_ ?_
           | refine kpM ?_
           | refine SeqP.go ?_
           | refine cdM ?_
           | exact IsV.mk
           | apply GuardP.mk
           | (first | refine eqlW eqS50 rfl rfl rfl fitM fitM ?_ | refine neqW eqS50 rfl rfl rfl fitM fitM ?_)
           | refine Or.inl ⟨_, _, hasM, ?_⟩
           | refine Or.inl ⟨_, _, _, holeM, rfl, rfl, ?_⟩
           | refine lA ?_
           | refine lA0 ?_
           | refine lA1 ?_
           | refine lO ?_
           | refine lO0 ?_
           | refine lO1 ?_
           | refine lR ?_
           | refine lG ?_
           | refine lG0 ?_
           | refine tA ?_
           | refine tA0 ?_
           | refine tA1 ?_
           | refine BytW.ofBlk hasM rfl rfl ?_
           | refine AppW.noneB hasM leM rfl rfl rfl leM leM ?_
           | refine AppW.rowB hasM leM rfl rfl holeM leM leM ?_
           | refine AppW.blkB hasM leM rfl rfl holeM rfl rfl leM leM ?_
           | refine AppW.rowS hasM leM rfl rfl holeM (by omega) leM ?_
           | refine AppW.arrS hasM leM rfl rfl rfl holeM (by first | omega | (simp; omega)) leM ?_
           | refine ⟨sideM, ?_⟩
           | fail)
      all_goals (try conv => whnf)
      all_goals first
        | (exfalso; omega)
        | (refine v_bool ?_; rw [hh, he, List.drop_of_length_le (by omega)]; rfl)
/-! Is a number in a row? -/
def idxL : List Int → Int → Int → Int
  | [], _, _ => -1
  | x :: r, v, k => if v = x then k else idxL r v (k + 1)
theorem idxL_pos : ∀ (l : List Int) (v k : Int), 0 ≤ k → (0 ≤ idxL l v k ↔ v ∈ l)
  | [], v, k, _ => by simp [idxL]
  | x :: r, v, k, hk => by
    unfold idxL
    split
    · rename_i e; simp [e, hk]
    · rename_i e; rw [idxL_pos r v (k + 1) (by omega)]; simp [e]
theorem ok_sIndex : (match Try.f102.body with | some c => codeOk Try.f102.ntmps c | none => false) = true := by kernel_rfl
theorem en_sIndex : ∃ fn, Try.prog.funcs[102]? = some fn ∧ (fn.name == "runtime.NumGoroutine") = false ∧ fn.body.isNone = false := ⟨_, Try.func102, by kernel_rfl, by kernel_rfl⟩
theorem sIndex_w (l : List Int) (v : Int) (A : Option Addr) (n c : Nat) (hn : l.length = n) (w : World) (hs : SlAt w A 1 (ints l)) (hl : n ≤ 100000) : PuAt Try.prog 102 [.slice A n c, .int .i64 v] (.int .i64 (idxL l v 0)) w := by
  subst hn
  refine funcR_pure tyOk wide Try.func102 ok_sIndex (Nat.le_of_ble_eq_true rfl) ?_
  repeat' first
    | (conv => whnf
       first
       | intro _
       | (first | refine selSplit (fun h => ?_) (fun h => ?_) | refine condSplit (fun h => ?_) (fun h => ?_)) <;> first | exact (clash (by assumption) h).elim | exact (clash h (by assumption)).elim | (simp only [decide_eq_true_eq, decide_eq_false_iff_not, Bool.not_eq_true', Bool.not_eq_false', Bool.not_true, Bool.not_false, Bool.or_eq_true, Bool.and_eq_true, Bool.or_eq_false_iff, Bool.and_eq_false_iff, beq_iff_eq, beq_eq_false_iff_ne, ne_eq] at h; first | (exfalso; omega) | skip) | skip
       | refine SeqP.go ?_
       | refine cdM ?_
       | exact IsV.mk
       | apply GuardP.mk
       | (first | refine eqlW eqS50 rfl rfl rfl fitM fitM ?_ | refine neqW eqS50 rfl rfl rfl fitM fitM ?_)
       | refine Or.inl ⟨_, _, hasM, ?_⟩
       | refine Or.inl ⟨_, _, _, holeM, rfl, rfl, ?_⟩
       | refine lA ?_
       | refine lA0 ?_
       | refine lA1 ?_
       | refine lO ?_
       | refine lO0 ?_
       | refine lO1 ?_
       | refine lR ?_
       | refine lG ?_
       | refine lG0 ?_
       | refine tA ?_
       | refine tA0 ?_
       | refine tA1 ?_
       | refine BytW.ofBlk hasM rfl rfl ?_
       | refine AppW.noneB hasM leM rfl rfl rfl leM leM ?_
       | refine AppW.rowB hasM leM rfl rfl holeM leM leM ?_
       | refine AppW.blkB hasM leM rfl rfl holeM rfl rfl leM leM ?_
       | refine AppW.rowS hasM leM rfl rfl holeM (by omega) leM ?_
       | refine AppW.arrS hasM leM rfl rfl rfl holeM (by first | omega | (simp; omega)) leM ?_
       | refine ⟨sideM, ?_⟩
       | fail)
  all_goals (try conv => whnf)
  refine .mk Nat (fun k S H => (k ≤ l.length ∧ idxL l v 0 = idxL (l.drop k) v k) ∧ S = [(8, .int .i64 k), (7, .int .i64 l.length), (1, .int .i64 v), (0, .slice A l.length c)] ∧ H = []) (fun k => l.length - k) 0 _ _ ⟨⟨by omega, rfl⟩, rfl, rfl⟩ subM entM ?_
  rintro k S1 H1 ⟨⟨hk, he⟩, rfl, rfl⟩
  by_cases hk2 : k < l.length
  · obtain ⟨b, o, e, _⟩ := hs.at_ (by rw [ints_len]; omega)
    subst e
    have o1 := hs.old (X := []) (by rw [ints_len]; omega) (by simp)
    obtain ⟨x, hx⟩ : ∃ x, l[k]? = some x := ⟨l[k], List.getElem?_eq_getElem hk2⟩
    have y1 := ints_at hx
    rw [List.drop_eq_getElem_cons hk2, (List.getElem?_eq_some_iff.1 hx).2, idxL] at he
    repeat' first
      | (conv => whnf
         first
         | intro _
         | (first | refine selSplit (fun h => ?_) (fun h => ?_) | refine condSplit (fun h => ?_) (fun h => ?_)) <;> first | exact (clash (by assumption) h).elim | exact (clash h (by assumption)).elim | (simp only [decide_eq_true_eq, decide_eq_false_iff_not, Bool.not_eq_true', Bool.not_eq_false', Bool.not_true, Bool.not_false, Bool.or_eq_true, Bool.and_eq_true, Bool.or_eq_false_iff, Bool.and_eq_false_iff, beq_iff_eq, beq_eq_false_iff_ne, ne_eq] at h; first | (exfalso; omega) | skip) | skip
         | refine SeqP.go ?_
         | refine cdM ?_
         | exact IsV.mk
         | apply GuardP.mk
         | (first | refine eqlW eqS50 rfl rfl rfl fitM fitM ?_ | refine neqW eqS50 rfl rfl rfl fitM fitM ?_)
         | refine Or.inl ⟨_, _, hasM, ?_⟩
         | refine Or.inl ⟨_, _, _, holeM, rfl, rfl, ?_⟩
         | refine lA ?_
         | refine lA0 ?_
         | refine lA1 ?_
         | refine lO ?_
         | refine lO0 ?_
         | refine lO1 ?_
         | refine lR ?_
         | refine lG ?_
         | refine lG0 ?_
         | refine tA ?_
         | refine tA0 ?_
         | refine tA1 ?_
         | refine BytW.ofBlk hasM rfl rfl ?_
         | refine AppW.noneB hasM leM rfl rfl rfl leM leM ?_
         | refine AppW.rowB hasM leM rfl rfl holeM leM leM ?_
         | refine AppW.blkB hasM leM rfl rfl holeM rfl rfl leM leM ?_
         | refine AppW.rowS hasM leM rfl rfl holeM (by omega) leM ?_
         | refine AppW.arrS hasM leM rfl rfl rfl holeM (by first | omega | (simp; omega)) leM ?_
         | refine ⟨sideM, ?_⟩
         | fail)
    all_goals (try conv => whnf)
    · refine v_int ?_; rw [he, if_pos h]
    · rw [if_neg h] at he
      exact .mk (k + 1) _ _ (by omega) ⟨⟨hk2, he⟩, rfl, rfl⟩ subM entM
  · rw [List.drop_of_length_le (by omega)] at he
    repeat' first
      | (conv => whnf
         first
         | intro _
         | (first | refine selSplit (fun h => ?_) (fun h => ?_) | refine condSplit (fun h => ?_) (fun h => ?_)) <;> first | exact (clash (by assumption) h).elim | exact (clash h (by assumption)).elim | (simp only [decide_eq_true_eq, decide_eq_false_iff_not, Bool.not_eq_true', Bool.not_eq_false', Bool.not_true, Bool.not_false, Bool.or_eq_true, Bool.and_eq_true, Bool.or_eq_false_iff, Bool.and_eq_false_iff, beq_iff_eq, beq_eq_false_iff_ne, ne_eq] at h; first | (exfalso; omega) | skip) | skip
         | refine SeqP.go ?_
         | refine cdM ?_
         | exact IsV.mk
         | apply GuardP.mk
         | (first | refine eqlW eqS50 rfl rfl rfl fitM fitM ?_ | refine neqW eqS50 rfl rfl rfl fitM fitM ?_)
         | refine Or.inl ⟨_, _, hasM, ?_⟩
         | refine Or.inl ⟨_, _, _, holeM, rfl, rfl, ?_⟩
         | refine lA ?_
         | refine lA0 ?_
         | refine lA1 ?_
         | refine lO ?_
         | refine lO0 ?_
         | refine lO1 ?_
         | refine lR ?_
         | refine lG ?_
         | refine lG0 ?_
         | refine tA ?_
         | refine tA0 ?_
         | refine tA1 ?_
         | refine BytW.ofBlk hasM rfl rfl ?_
         | refine AppW.noneB hasM leM rfl rfl rfl leM leM ?_
         | refine AppW.rowB hasM leM rfl rfl holeM leM leM ?_
         | refine AppW.blkB hasM leM rfl rfl holeM rfl rfl leM leM ?_
         | refine AppW.rowS hasM leM rfl rfl holeM (by omega) leM ?_
         | refine AppW.arrS hasM leM rfl rfl rfl holeM (by first | omega | (simp; omega)) leM ?_
         | refine ⟨sideM, ?_⟩
         | fail)
    all_goals (try conv => whnf)
    all_goals first
      | (exfalso; omega)
      | (refine v_int ?_; rw [he]; rfl)
theorem ok_sContains : (match Try.f73.body with | some c => codeOk Try.f73.ntmps c | none => false) = true := by kernel_rfl
theorem en_sContains : ∃ fn, Try.prog.funcs[73]? = some fn ∧ (fn.name == "runtime.NumGoroutine") = false ∧ fn.body.isNone = false := ⟨_, Try.func73, by kernel_rfl, by kernel_rfl⟩
theorem sContains_w (l : List Int) (v : Int) (A : Option Addr) (n c : Nat) (hn : l.length = n) (w : World) (hs : SlAt w A 1 (ints l)) (hl : n ≤ 100000) : PuAt Try.prog 73 [.slice A n c, .int .i64 v] (.bool (decide (v ∈ l))) w := by
  refine funcR_pure tyOk wide Try.func73 ok_sContains (Nat.le_of_ble_eq_true rfl) ?_
  repeat' first
    | (conv => whnf
       first
       | intro _
       | (first | refine selSplit (fun h => ?_) (fun h => ?_) | refine condSplit (fun h => ?_) (fun h => ?_)) <;> first | exact (clash (by assumption) h).elim | exact (clash h (by assumption)).elim | (simp only [decide_eq_true_eq, decide_eq_false_iff_not, Bool.not_eq_true', Bool.not_eq_false', Bool.not_true, Bool.not_false, Bool.or_eq_true, Bool.and_eq_true, Bool.or_eq_false_iff, Bool.and_eq_false_iff, beq_iff_eq, beq_eq_false_iff_ne, ne_eq] at h; first | (exfalso; omega) | skip) | skip
       | refine SeqP.go ?_
       | refine cdM ?_
       | exact IsV.mk
       | apply GuardP.mk
       | ((first | apply callPure' en_sIndex | apply callQuiet' en_sIndex); · exact fun w hw => sIndex_w l v A n c hn w (hs.later hw) hl)
       | (first | refine eqlW eqS50 rfl rfl rfl fitM fitM ?_ | refine neqW eqS50 rfl rfl rfl fitM fitM ?_)
       | refine Or.inl ⟨_, _, hasM, ?_⟩
       | refine Or.inl ⟨_, _, _, holeM, rfl, rfl, ?_⟩
       | refine lA ?_
       | refine lA0 ?_
       | refine lA1 ?_
       | refine lO ?_
       | refine lO0 ?_
       | refine lO1 ?_
       | refine lR ?_
       | refine lG ?_
       | refine lG0 ?_
       | refine tA ?_
       | refine tA0 ?_
       | refine tA1 ?_
       | refine BytW.ofBlk hasM rfl rfl ?_
       | refine AppW.noneB hasM leM rfl rfl rfl leM leM ?_
       | refine AppW.rowB hasM leM rfl rfl holeM leM leM ?_
       | refine AppW.blkB hasM leM rfl rfl holeM rfl rfl leM leM ?_
       | refine AppW.rowS hasM leM rfl rfl holeM (by omega) leM ?_
       | refine AppW.arrS hasM leM rfl rfl rfl holeM (by first | omega | (simp; omega)) leM ?_
       | refine ⟨sideM, ?_⟩
       | fail)
  all_goals (try conv => whnf)
  all_goals exact v_bool (decide_eq_decide.2 (idxL_pos l v 0 (by decide)))
end Go.Proofs.Ytgjdmlgdgbehoaa.Am
