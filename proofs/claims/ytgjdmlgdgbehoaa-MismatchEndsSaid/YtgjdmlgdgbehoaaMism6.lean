/- Package treebridgeref09: what was heard. -/
import Derived.Test.YtgjdmlgdgbehoaaMism5
import Derived.Test.YtgjdmlgdgbehoaaVlan4
set_option linter.unusedVariables false
set_option linter.unusedSimpArgs false
set_option maxRecDepth 100000
set_option maxHeartbeats 4000000
namespace Go.Proofs.Ytgjdmlgdgbehoaa.Am
open Go Go.RowKit
structure S9 where
  now : Int
  LL : List (Int × Int)
  many : Int
  first : Int
  told : Int
def S9.enc (s : S9) (t : Bool) (n : Int) (A : Option Addr) (m c : Nat) (hello : Int) (LA : Option Addr) (Lc : Nat) : List Value := [.bool t, .int .i64 n, .slice A m c, .int .i64 hello, .int .i64 s.now, .slice LA s.LL.length Lc, .int .i64 s.many, .int .i64 s.first, .int .i64 s.told]
def heardE (l : List (Int × Int)) : List (List Value) := l.map fun p => [.int .i64 p.1, .int .i64 p.2]
theorem heardE_len (l : List (Int × Int)) : (heardE l).length = l.length := by unfold heardE; rw [List.length_map]
theorem heardE_at {l : List (Int × Int)} {k : Nat} {p : Int × Int} (h : l[k]? = some p) : (heardE l)[k]? = some [.int .i64 p.1, .int .i64 p.2] := by unfold heardE; rw [List.getElem?_map, h]; rfl
theorem heardE_one (l : List (Int × Int)) : (heardE l).flatten.all (·.oneCell') = true := by
  induction l with
  | nil => rfl
  | cons x l ih => unfold heardE at ih ⊢; rw [List.map_cons, List.flatten_cons, List.all_append, ih]; rfl
theorem heardE_app (a b : List (Int × Int)) : heardE (a ++ b) = heardE a ++ heardE b := by unfold heardE; rw [List.map_append]
theorem heardE_cons (p : Int × Int) (l : List (Int × Int)) : heardE (p :: l) = [.int .i64 p.1, .int .i64 p.2] :: heardE l := rfl
theorem heardE_nil : heardE [] = [] := rfl
def S9.at (s : S9) (now : Int) : S9 := if timeB now = true ∧ now > s.now then { s with now := now } else s
theorem ok_vlan9 : (match Try.f76.body with | some c => codeOk Try.f76.ntmps c | none => false) = true := by kernel_rfl
theorem en_vlan9 : ∃ fn, Try.prog.funcs[76]? = some fn ∧ (fn.name == "runtime.NumGoroutine") = false ∧ fn.body.isNone = false := ⟨_, Try.func76, by kernel_rfl, by kernel_rfl⟩
theorem vlan9_w (v : Int) (w : World) : PuAt Try.prog 76 [.int .i64 v] (.bool (vlanB v)) w := by
  refine funcR_pure tyOk wide Try.func76 ok_vlan9 (Nat.le_of_ble_eq_true rfl) ?_
  repeat' first
    | (conv => whnf
       first
       | intro _
       | (first | refine selSplit (fun h => ?_) (fun h => ?_) | refine condSplit (fun h => ?_) (fun h => ?_)) <;> first | exact (clash (by assumption) h).elim | exact (clash h (by assumption)).elim | (simp only [decide_eq_true_eq, decide_eq_false_iff_not, Bool.not_eq_true', Bool.not_eq_false', Bool.not_true, Bool.not_false, Bool.or_eq_true, Bool.and_eq_true, Bool.or_eq_false_iff, Bool.and_eq_false_iff, beq_iff_eq, beq_eq_false_iff_ne, ne_eq] at h; first | (exfalso; omega) | skip) | skip
       | refine SeqP.go ?_
       | refine cdM ?_
       | exact IsV.mk
       | apply GuardP.mk
       | refine Or.inl ⟨_, _, hasM, ?_⟩
       | refine Or.inl ⟨_, _, _, holeM, rfl, rfl, ?_⟩
       | refine lA ?_
       | refine lA0 ?_
       | refine lA1 ?_
       | refine lO ?_
       | refine lO0 ?_
       | refine lO1 ?_
       | refine lR ?_
       | refine lG ?_
       | refine lG0 ?_
       | refine tA ?_
       | refine tA0 ?_
       | refine tA1 ?_
       | refine BytW.ofBlk hasM rfl rfl ?_
       | refine AppW.noneB hasM leM rfl rfl rfl leM leM ?_
       | refine AppW.rowB hasM leM rfl rfl holeM leM leM ?_
       | refine AppW.blkB hasM leM rfl rfl holeM rfl rfl leM leM ?_
       | refine AppW.rowS hasM leM rfl rfl holeM (by omega) leM ?_
       | refine AppW.arrS hasM leM rfl rfl rfl holeM (by first | omega | (simp; omega)) leM ?_
       | refine ⟨sideM, ?_⟩
       | fail)
  all_goals (try conv => whnf)
  all_goals rfl
theorem ok_time9 : (match Try.f77.body with | some c => codeOk Try.f77.ntmps c | none => false) = true := by kernel_rfl
theorem en_time9 : ∃ fn, Try.prog.funcs[77]? = some fn ∧ (fn.name == "runtime.NumGoroutine") = false ∧ fn.body.isNone = false := ⟨_, Try.func77, by kernel_rfl, by kernel_rfl⟩
theorem time9_w (v : Int) (w : World) : PuAt Try.prog 77 [.int .i64 v] (.bool (timeB v)) w := by
  refine funcR_pure tyOk wide Try.func77 ok_time9 (Nat.le_of_ble_eq_true rfl) ?_
  repeat' first
    | (conv => whnf
       first
       | intro _
       | (first | refine selSplit (fun h => ?_) (fun h => ?_) | refine condSplit (fun h => ?_) (fun h => ?_)) <;> first | exact (clash (by assumption) h).elim | exact (clash h (by assumption)).elim | (simp only [decide_eq_true_eq, decide_eq_false_iff_not, Bool.not_eq_true', Bool.not_eq_false', Bool.not_true, Bool.not_false, Bool.or_eq_true, Bool.and_eq_true, Bool.or_eq_false_iff, Bool.and_eq_false_iff, beq_iff_eq, beq_eq_false_iff_ne, ne_eq] at h; first | (exfalso; omega) | skip) | skip
       | refine SeqP.go ?_
       | refine cdM ?_
       | exact IsV.mk
       | apply GuardP.mk
       | refine Or.inl ⟨_, _, hasM, ?_⟩
       | refine Or.inl ⟨_, _, _, holeM, rfl, rfl, ?_⟩
       | refine lA ?_
       | refine lA0 ?_
       | refine lA1 ?_
       | refine lO ?_
       | refine lO0 ?_
       | refine lO1 ?_
       | refine lR ?_
       | refine lG ?_
       | refine lG0 ?_
       | refine tA ?_
       | refine tA0 ?_
       | refine tA1 ?_
       | refine BytW.ofBlk hasM rfl rfl ?_
       | refine AppW.noneB hasM leM rfl rfl rfl leM leM ?_
       | refine AppW.rowB hasM leM rfl rfl holeM leM leM ?_
       | refine AppW.blkB hasM leM rfl rfl holeM rfl rfl leM leM ?_
       | refine AppW.rowS hasM leM rfl rfl holeM (by omega) leM ?_
       | refine AppW.arrS hasM leM rfl rfl rfl holeM (by first | omega | (simp; omega)) leM ?_
       | refine ⟨sideM, ?_⟩
       | fail)
  all_goals (try conv => whnf)
  all_goals rfl
theorem ok_at9 : (match Try.f43.body with | some c => codeOk Try.f43.ntmps c | none => false) = true := by kernel_rfl
theorem en_at9 : ∃ fn, Try.prog.funcs[43]? = some fn ∧ (fn.name == "runtime.NumGoroutine") = false ∧ fn.body.isNone = false := ⟨_, Try.func43, by kernel_rfl, by kernel_rfl⟩
theorem at9_w (s : S9) (t : Bool) (n : Int) (A : Option Addr) (m c : Nat) (hello : Int) (LA : Option Addr) (Lc : Nat) (now : Int) (w : World) : PuAt Try.prog 43 [.agg ⟨s.enc t n A m c hello LA Lc⟩, .int .i64 now] (.agg ⟨(s.at now).enc t n A m c hello LA Lc⟩) w := by
  refine funcR_pure tyOk wide Try.func43 ok_at9 (Nat.le_of_ble_eq_true rfl) ?_
  unfold S9.at
  cases h : timeB now with
  | false =>
    have c1 := time9_w now
    rw [h] at c1
    repeat' first
      | (conv => whnf
         first
         | intro _
         | (first | refine selSplit (fun h => ?_) (fun h => ?_) | refine condSplit (fun h => ?_) (fun h => ?_)) <;> first | exact (clash (by assumption) h).elim | exact (clash h (by assumption)).elim | (simp only [decide_eq_true_eq, decide_eq_false_iff_not, Bool.not_eq_true', Bool.not_eq_false', Bool.not_true, Bool.not_false, Bool.or_eq_true, Bool.and_eq_true, Bool.or_eq_false_iff, Bool.and_eq_false_iff, beq_iff_eq, beq_eq_false_iff_ne, ne_eq] at h; first | (exfalso; omega) | skip) | skip
         | refine SeqP.go ?_
         | refine cdM ?_
         | exact IsV.mk
         | apply GuardP.mk
         | ((first | apply callPure' en_time9 | apply callQuiet' en_time9); · exact fun w _ => c1 w)
         | refine Or.inl ⟨_, _, hasM, ?_⟩
         | refine Or.inl ⟨_, _, _, holeM, rfl, rfl, ?_⟩
         | refine lA ?_
         | refine lA0 ?_
         | refine lA1 ?_
         | refine lO ?_
         | refine lO0 ?_
         | refine lO1 ?_
         | refine lR ?_
         | refine lG ?_
         | refine lG0 ?_
         | refine tA ?_
         | refine tA0 ?_
         | refine tA1 ?_
         | refine BytW.ofBlk hasM rfl rfl ?_
         | refine AppW.noneB hasM leM rfl rfl rfl leM leM ?_
         | refine AppW.rowB hasM leM rfl rfl holeM leM leM ?_
         | refine AppW.blkB hasM leM rfl rfl holeM rfl rfl leM leM ?_
         | refine AppW.rowS hasM leM rfl rfl holeM (by omega) leM ?_
         | refine AppW.arrS hasM leM rfl rfl rfl holeM (by first | omega | (simp; omega)) leM ?_
         | refine ⟨sideM, ?_⟩
         | fail)
    all_goals (try conv => whnf)
    all_goals first | rfl | (exfalso; simp at h; done) | skip
  | true =>
    have c1 := time9_w now
    rw [h] at c1
    by_cases h2 : now > s.now
    · rw [if_pos ⟨rfl, h2⟩]
      repeat' first
        | (conv => whnf
           first
           | intro _
           | (first | refine selSplit (fun h => ?_) (fun h => ?_) | refine condSplit (fun h => ?_) (fun h => ?_)) <;> first | exact (clash (by assumption) h).elim | exact (clash h (by assumption)).elim | (simp only [decide_eq_true_eq, decide_eq_false_iff_not, Bool.not_eq_true', Bool.not_eq_false', Bool.not_true, Bool.not_false, Bool.or_eq_true, Bool.and_eq_true, Bool.or_eq_false_iff, Bool.and_eq_false_iff, beq_iff_eq, beq_eq_false_iff_ne, ne_eq] at h; first | (exfalso; omega) | skip) | skip
           | refine SeqP.go ?_
           | refine cdM ?_
           | exact IsV.mk
           | apply GuardP.mk
           | ((first | apply callPure' en_time9 | apply callQuiet' en_time9); · exact fun w _ => c1 w)
           | refine Or.inl ⟨_, _, hasM, ?_⟩
           | refine Or.inl ⟨_, _, _, holeM, rfl, rfl, ?_⟩
           | refine lA ?_
           | refine lA0 ?_
           | refine lA1 ?_
           | refine lO ?_
           | refine lO0 ?_
           | refine lO1 ?_
           | refine lR ?_
           | refine lG ?_
           | refine lG0 ?_
           | refine tA ?_
           | refine tA0 ?_
           | refine tA1 ?_
           | refine BytW.ofBlk hasM rfl rfl ?_
           | refine AppW.noneB hasM leM rfl rfl rfl leM leM ?_
           | refine AppW.rowB hasM leM rfl rfl holeM leM leM ?_
           | refine AppW.blkB hasM leM rfl rfl holeM rfl rfl leM leM ?_
           | refine AppW.rowS hasM leM rfl rfl holeM (by omega) leM ?_
           | refine AppW.arrS hasM leM rfl rfl rfl holeM (by first | omega | (simp; omega)) leM ?_
           | refine ⟨sideM, ?_⟩
           | fail)
      all_goals (try conv => whnf)
      all_goals first | rfl | (exfalso; grind)
    · rw [if_neg (fun h => h2 h.2)]
      repeat' first
        | (conv => whnf
           first
           | intro _
           | (first | refine selSplit (fun h => ?_) (fun h => ?_) | refine condSplit (fun h => ?_) (fun h => ?_)) <;> first | exact (clash (by assumption) h).elim | exact (clash h (by assumption)).elim | (simp only [decide_eq_true_eq, decide_eq_false_iff_not, Bool.not_eq_true', Bool.not_eq_false', Bool.not_true, Bool.not_false, Bool.or_eq_true, Bool.and_eq_true, Bool.or_eq_false_iff, Bool.and_eq_false_iff, beq_iff_eq, beq_eq_false_iff_ne, ne_eq] at h; first | (exfalso; omega) | skip) | skip
           | refine SeqP.go ?_
           | refine cdM ?_
           | exact IsV.mk
           | apply GuardP.mk
           | ((first | apply callPure' en_time9 | apply callQuiet' en_time9); · exact fun w _ => c1 w)
           | refine Or.inl ⟨_, _, hasM, ?_⟩
           | refine Or.inl ⟨_, _, _, holeM, rfl, rfl, ?_⟩
           | refine lA ?_
           | refine lA0 ?_
           | refine lA1 ?_
           | refine lO ?_
           | refine lO0 ?_
           | refine lO1 ?_
           | refine lR ?_
           | refine lG ?_
           | refine lG0 ?_
           | refine tA ?_
           | refine tA0 ?_
           | refine tA1 ?_
           | refine BytW.ofBlk hasM rfl rfl ?_
           | refine AppW.noneB hasM leM rfl rfl rfl leM leM ?_
           | refine AppW.rowB hasM leM rfl rfl holeM leM leM ?_
           | refine AppW.blkB hasM leM rfl rfl holeM rfl rfl leM leM ?_
           | refine AppW.rowS hasM leM rfl rfl holeM (by omega) leM ?_
           | refine AppW.arrS hasM leM rfl rfl rfl holeM (by first | omega | (simp; omega)) leM ?_
           | refine ⟨sideM, ?_⟩
           | fail)
      all_goals (try conv => whnf)
      all_goals first | rfl | (exfalso; grind)
/-- What is told by a hearing. -/
def toldL (t : Bool) (n : Int) (l : List Int) (r t' u : Int) : List (Int × Int) := if t = true then (r, u) :: (if vHasB t n l t' = true then [(t', u)] else []) else [(n, u)]
def S9.hear (s : S9) (t : Bool) (n : Int) (l : List Int) (hello r t' now : Int) : S9 :=
  { now := (s.at now).now, LL := s.LL ++ toldL t n l r t' ((s.at now).now + 3 * hello), many := s.many + 1, first := if s.first = 0 then r else s.first, told := if s.first = 0 then t' else s.told }
theorem ok_hear9 : (match Try.f41.body with | some c => codeOk Try.f41.ntmps c | none => false) = true := by kernel_rfl
theorem en_hear9 : ∃ fn, Try.prog.funcs[41]? = some fn ∧ (fn.name == "runtime.NumGoroutine") = false ∧ fn.body.isNone = false := ⟨_, Try.func41, by kernel_rfl, by kernel_rfl⟩
theorem hear9_no (s : S9) (t : Bool) (n : Int) (l : List Int) (A : Option Addr) (m c : Nat) (hello : Int) (LA : Option Addr) (Lc : Nat) (r t' now : Int) (w : World) (hs : SlAt w A 1 (ints l)) (hm : l.length = m) (hl : m ≤ 1000)
    (hn : ¬ (vlanB r = true ∧ vlanB t' = true ∧ timeB now = true) ∨ vHasB t n l r = false) :
    PuAt Try.prog 41 [.agg ⟨s.enc t n A m c hello LA Lc⟩, .int .i64 r, .int .i64 t', .int .i64 now] (.tuple ⟨[.agg ⟨s.enc t n A m c hello LA Lc⟩, .int .i64 (if vlanB r = true ∧ vlanB t' = true ∧ timeB now = true then 5 else 1)]⟩) w := by
  refine funcR_pure tyOk wide Try.func41 ok_hear9 (Nat.le_of_ble_eq_true rfl) ?_
  have c1 := vlan9_w r
  have c2 := vlan9_w t'
  have c3 := time9_w now
  have c4 := fun w hs => has6_w t n l r A c w hs (by omega)
  rw [hm] at c4
  subst hm
  cases h1 : vlanB r <;> cases h2 : vlanB t' <;> cases h3 : timeB now <;> rw [h1] at c1 <;> rw [h2] at c2 <;> rw [h3] at c3
  case true.true.true =>
    have h4 : vHasB t n l r = false := hn.resolve_left (fun h => h ⟨h1, h2, h3⟩)
    rw [h4] at c4
    repeat' first
      | (conv => whnf
         first
         | intro _
         | (first | refine selSplit (fun h => ?_) (fun h => ?_) | refine condSplit (fun h => ?_) (fun h => ?_)) <;> first | exact (clash (by assumption) h).elim | exact (clash h (by assumption)).elim | (simp only [decide_eq_true_eq, decide_eq_false_iff_not, Bool.not_eq_true', Bool.not_eq_false', Bool.not_true, Bool.not_false, Bool.or_eq_true, Bool.and_eq_true, Bool.or_eq_false_iff, Bool.and_eq_false_iff, beq_iff_eq, beq_eq_false_iff_ne, ne_eq] at h; first | (exfalso; omega) | skip) | skip
         | refine SeqP.go ?_
         | refine cdM ?_
         | exact IsV.mk
         | apply GuardP.mk
         | ((first | apply callPure' en_vlan9 | apply callQuiet' en_vlan9); · exact fun w _ => c1 w)
         | ((first | apply callPure' en_vlan9 | apply callQuiet' en_vlan9); · exact fun w _ => c2 w)
         | ((first | apply callPure' en_time9 | apply callQuiet' en_time9); · exact fun w _ => c3 w)
         | ((first | apply callPure' en_has6 | apply callQuiet' en_has6); · exact fun w hw => c4 w (hs.later hw))
         | refine Or.inl ⟨_, _, hasM, ?_⟩
         | refine Or.inl ⟨_, _, _, holeM, rfl, rfl, ?_⟩
         | refine lA ?_
         | refine lA0 ?_
         | refine lA1 ?_
         | refine lO ?_
         | refine lO0 ?_
         | refine lO1 ?_
         | refine lR ?_
         | refine lG ?_
         | refine lG0 ?_
         | refine tA ?_
         | refine tA0 ?_
         | refine tA1 ?_
         | refine BytW.ofBlk hasM rfl rfl ?_
         | refine AppW.noneB hasM leM rfl rfl rfl leM leM ?_
         | refine AppW.rowB hasM leM rfl rfl holeM leM leM ?_
         | refine AppW.blkB hasM leM rfl rfl holeM rfl rfl leM leM ?_
         | refine AppW.rowS hasM leM rfl rfl holeM (by omega) leM ?_
         | refine AppW.arrS hasM leM rfl rfl rfl holeM (by first | omega | (simp; omega)) leM ?_
         | refine ⟨sideM, ?_⟩
         | fail)
    all_goals (try conv => whnf)
    all_goals first | rfl | (exfalso; simp at h; done)
  all_goals skip
  all_goals (
    repeat' first
      | (conv => whnf
         first
         | intro _
         | (first | refine selSplit (fun h => ?_) (fun h => ?_) | refine condSplit (fun h => ?_) (fun h => ?_)) <;> first | exact (clash (by assumption) h).elim | exact (clash h (by assumption)).elim | (simp only [decide_eq_true_eq, decide_eq_false_iff_not, Bool.not_eq_true', Bool.not_eq_false', Bool.not_true, Bool.not_false, Bool.or_eq_true, Bool.and_eq_true, Bool.or_eq_false_iff, Bool.and_eq_false_iff, beq_iff_eq, beq_eq_false_iff_ne, ne_eq] at h; first | (exfalso; omega) | skip) | skip
         | refine SeqP.go ?_
         | refine cdM ?_
         | exact IsV.mk
         | apply GuardP.mk
         | ((first | apply callPure' en_vlan9 | apply callQuiet' en_vlan9); · exact fun w _ => c1 w)
         | ((first | apply callPure' en_vlan9 | apply callQuiet' en_vlan9); · exact fun w _ => c2 w)
         | ((first | apply callPure' en_time9 | apply callQuiet' en_time9); · exact fun w _ => c3 w)
         | refine Or.inl ⟨_, _, hasM, ?_⟩
         | refine Or.inl ⟨_, _, _, holeM, rfl, rfl, ?_⟩
         | refine lA ?_
         | refine lA0 ?_
         | refine lA1 ?_
         | refine lO ?_
         | refine lO0 ?_
         | refine lO1 ?_
         | refine lR ?_
         | refine lG ?_
         | refine lG0 ?_
         | refine tA ?_
         | refine tA0 ?_
         | refine tA1 ?_
         | refine BytW.ofBlk hasM rfl rfl ?_
         | refine AppW.noneB hasM leM rfl rfl rfl leM leM ?_
         | refine AppW.rowB hasM leM rfl rfl holeM leM leM ?_
         | refine AppW.blkB hasM leM rfl rfl holeM rfl rfl leM leM ?_
         | refine AppW.rowS hasM leM rfl rfl holeM (by omega) leM ?_
         | refine AppW.arrS hasM leM rfl rfl rfl holeM (by first | omega | (simp; omega)) leM ?_
         | refine ⟨sideM, ?_⟩
         | fail)
    all_goals (try conv => whnf)
    )
  all_goals first | rfl | (exfalso; simp at h; done)
theorem S9.at_is (s : S9) (now : Int) (h : timeB now = true) : s.at now = { s with now := if now > s.now then now else s.now } := by
  unfold S9.at
  by_cases h2 : now > s.now
  · rw [if_pos ⟨h, h2⟩, if_pos h2]
  · rw [if_neg (fun q => h2 q.2), if_neg h2]
theorem hear9_same (s : S9) (n : Int) (l : List Int) (A : Option Addr) (m c : Nat) (hello : Int) (LA : Option Addr) (Lc : Nat) (r now : Int) (w : World) (hs : SlAt w A 1 (ints l)) (hm : l.length = m) (hl : m ≤ 1000)
    (h1 : vlanB r = true) (h3 : timeB now = true) (h4 : vHasB true n l r = true) :
    PuAt Try.prog 41 [.agg ⟨s.enc true n A m c hello LA Lc⟩, .int .i64 r, .int .i64 r, .int .i64 now] (.tuple ⟨[.agg ⟨(s.at now).enc true n A m c hello LA Lc⟩, .int .i64 0]⟩) w := by
  refine funcR_pure tyOk wide Try.func41 ok_hear9 (Nat.le_of_ble_eq_true rfl) ?_
  have c1 := vlan9_w r
  have c3 := time9_w now
  have c4 := fun w hs => has6_w true n l r A c w hs (by omega)
  have c5 := at9_w s true n A m c hello LA Lc now
  rw [S9.at_is s now h3] at c5 ⊢
  rw [hm] at c4
  subst hm
  rw [h1] at c1
  rw [h3] at c3
  rw [h4] at c4
  repeat' first
    | (conv => whnf
       first
       | intro _
       | (first | refine selSplit (fun h => ?_) (fun h => ?_) | refine condSplit (fun h => ?_) (fun h => ?_)) <;> first | exact (clash (by assumption) h).elim | exact (clash h (by assumption)).elim | (simp only [decide_eq_true_eq, decide_eq_false_iff_not, Bool.not_eq_true', Bool.not_eq_false', Bool.not_true, Bool.not_false, Bool.or_eq_true, Bool.and_eq_true, Bool.or_eq_false_iff, Bool.and_eq_false_iff, beq_iff_eq, beq_eq_false_iff_ne, ne_eq] at h; first | (exfalso; omega) | skip) | skip
       | refine SeqP.go ?_
       | refine cdM ?_
       | exact IsV.mk
       | apply GuardP.mk
       | ((first | apply callPure' en_vlan9 | apply callQuiet' en_vlan9); · exact fun w _ => c1 w)
       | ((first | apply callPure' en_time9 | apply callQuiet' en_time9); · exact fun w _ => c3 w)
       | ((first | apply callPure' en_has6 | apply callQuiet' en_has6); · exact fun w hw => c4 w (hs.later hw))
       | ((first | apply callPure' en_at9 | apply callQuiet' en_at9); · exact fun w _ => c5 w)
       | refine Or.inl ⟨_, _, hasM, ?_⟩
       | refine Or.inl ⟨_, _, _, holeM, rfl, rfl, ?_⟩
       | refine lA ?_
       | refine lA0 ?_
       | refine lA1 ?_
       | refine lO ?_
       | refine lO0 ?_
       | refine lO1 ?_
       | refine lR ?_
       | refine lG ?_
       | refine lG0 ?_
       | refine tA ?_
       | refine tA0 ?_
       | refine tA1 ?_
       | refine BytW.ofBlk hasM rfl rfl ?_
       | refine AppW.noneB hasM leM rfl rfl rfl leM leM ?_
       | refine AppW.rowB hasM leM rfl rfl holeM leM leM ?_
       | refine AppW.blkB hasM leM rfl rfl holeM rfl rfl leM leM ?_
       | refine AppW.rowS hasM leM rfl rfl holeM (by omega) leM ?_
       | refine AppW.arrS hasM leM rfl rfl rfl holeM (by first | omega | (simp; omega)) leM ?_
       | refine ⟨sideM, ?_⟩
       | fail)
  all_goals (try conv => whnf)
  all_goals first | rfl | (exfalso; simp at h; done)
theorem hear9_put (s : S9) (t : Bool) (n : Int) (l : List Int) (A : Option Addr) (m c : Nat) (hello : Int) (LA : Option Addr) (Lc : Nat) (r t' now : Int) (w : World) (hs : SlAt w A 1 (ints l)) (hm : l.length = m) (hl : m ≤ 1000)
    (hL : SlAt w LA 2 (heardE s.LL)) (h0 : s.LL = [] → LA = none) (hLL : s.LL.length ≤ 1000)
    (h1 : vlanB r = true) (h2 : vlanB t' = true) (h3 : timeB now = true) (h4 : vHasB t n l r = true) (h5 : ¬ (t = true ∧ r = t')) (hU : IntKind.i64.wrap (3 * hello) = 3 * hello ∧ IntKind.i64.wrap ((s.at now).now + 3 * hello) = (s.at now).now + 3 * hello) (hw1 : IntKind.i64.wrap (s.many + 1) = s.many + 1) :
    FnX Try.prog 41 [.agg ⟨s.enc t n A m c hello LA Lc⟩, .int .i64 r, .int .i64 t', .int .i64 now] [] (fun q : Option Addr × Nat => IsRow (.slice q.1 (s.hear t n l hello r t' now).LL.length q.2) (s.hear t n l hello r t' now).LL.length) (fun q => .tuple ⟨[.agg ⟨(s.hear t n l hello r t' now).enc t n A m c hello q.1 q.2⟩, .int .i64 0]⟩) (fun q => [.arr (.slice q.1 (s.hear t n l hello r t' now).LL.length q.2) 161 2 (heardE (s.hear t n l hello r t' now).LL)]) w := by
  refine funcR_x tyOk wide Try.func41 ok_hear9 (Nat.le_of_ble_eq_true rfl) (St.start0 w) ?_
  have c1 := vlan9_w r
  have c2 := vlan9_w t'
  have c3 := time9_w now
  have c4 := fun w hs => has6_w t n l r A c w hs (by omega)
  have c6 := fun w hs => has6_w t n l t' A c w hs (by omega)
  have c5 := at9_w s t n A m c hello LA Lc now
  unfold S9.hear
  rw [S9.at_is s now h3] at c5 hU ⊢
  rw [hm] at c4 c6
  subst hm
  rw [h1] at c1
  rw [h2] at c2
  rw [h3] at c3
  rw [h4] at c4
  obtain ⟨now0, LL, many, first, told⟩ := s
  simp only at hL h0 hLL hU hw1 c5 ⊢
  generalize (if now > now0 then now else now0) = N at *
  obtain ⟨hU1, hU2⟩ := hU
  have hone := heardE_one LL
  obtain ⟨f2, hf2⟩ : ∃ f2, (if first = 0 then r else first) = f2 := ⟨_, rfl⟩
  obtain ⟨t2, ht2⟩ : ∃ t2, (if first = 0 then t' else told) = t2 := ⟨_, rfl⟩
  obtain ⟨T, hT⟩ : ∃ T, toldL t n l r t' (N + 3 * hello) = T := ⟨_, rfl⟩
  rw [hf2, ht2, hT]
  unfold toldL at hT
  rcases Decidable.em (LL = []) with hl0 | hl0
  · obtain rfl := h0 hl0
    subst hl0
    by_cases hf : first = 0 <;> (first | rw [if_pos hf] at hf2 ht2 | rw [if_neg hf] at hf2 ht2) <;> subst hf2 <;> subst ht2
    all_goals
      cases t
      · rw [if_neg (by decide)] at hT
        subst hT
        repeat' first
          | (conv => whnf
             first
             | intro _
             | (first | refine selSplit (fun h => ?_) (fun h => ?_) | refine condSplit (fun h => ?_) (fun h => ?_)) <;> first | exact (clash (by assumption) h).elim | exact (clash h (by assumption)).elim | (simp only [decide_eq_true_eq, decide_eq_false_iff_not, Bool.not_eq_true', Bool.not_eq_false', Bool.not_true, Bool.not_false, Bool.or_eq_true, Bool.and_eq_true, Bool.or_eq_false_iff, Bool.and_eq_false_iff, beq_iff_eq, beq_eq_false_iff_ne, ne_eq] at h; first | (exfalso; omega) | skip) | skip
             | refine SeqP.go ?_
             | refine cdM ?_
             | exact IsV.mk
             | apply GuardP.mk
             | ((first | apply callPure' en_vlan9 | apply callQuiet' en_vlan9); · exact fun w _ => c1 w)
             | ((first | apply callPure' en_vlan9 | apply callQuiet' en_vlan9); · exact fun w _ => c2 w)
             | ((first | apply callPure' en_time9 | apply callQuiet' en_time9); · exact fun w _ => c3 w)
             | ((first | apply callPure' en_has6 | apply callQuiet' en_has6); · exact fun w hw => c4 w (hs.later hw))
             | ((first | apply callPure' en_has6 | apply callQuiet' en_has6); · exact fun w hw => c6 w (hs.later hw))
             | ((first | apply callPure' en_at9 | apply callQuiet' en_at9); · exact fun w _ => c5 w)
             | (refine AppW.blkS hasM (Nat.le_of_ble_eq_true rfl) rfl rfl rfl holeM rfl (Nat.le_of_ble_eq_true rfl) ?_)
             | (refine appNil rfl rfl rfl rfl Try.underlying77 Try.underlying77 (by kernel_rfl) rfl rfl (Nat.le_refl _) ?_)
             | refine Or.inl ⟨_, _, hasM, ?_⟩
             | refine Or.inl ⟨_, _, _, holeM, rfl, rfl, ?_⟩
             | refine lA ?_
             | refine lA0 ?_
             | refine lA1 ?_
             | refine lO ?_
             | refine lO0 ?_
             | refine lO1 ?_
             | refine lR ?_
             | refine lG ?_
             | refine lG0 ?_
             | refine tA ?_
             | refine tA0 ?_
             | refine tA1 ?_
             | refine BytW.ofBlk hasM rfl rfl ?_
             | refine AppW.noneB hasM leM rfl rfl rfl leM leM ?_
             | refine AppW.rowB hasM leM rfl rfl holeM leM leM ?_
             | refine AppW.blkB hasM leM rfl rfl holeM rfl rfl leM leM ?_
             | refine AppW.rowS hasM leM rfl rfl holeM (by omega) leM ?_
             | refine AppW.arrS hasM leM rfl rfl rfl holeM (by first | omega | (simp; omega)) leM ?_
             | refine ⟨sideM, ?_⟩
             | fail)
        all_goals (try conv => whnf)
        all_goals first | (exfalso; simp at h; done) | (exfalso; exact h5 ⟨rfl, h.2⟩) | skip
        all_goals
          simp only [S9.enc, List.length_append, List.append_assoc, List.nil_append, List.cons_append, heardE_app, heardE_cons, heardE_nil, hU1, hU2, hw1]
          refine EndX.mk (_, _) ?_ rfl ?_
          · assumption
          · exact entM
      · rw [if_pos rfl] at hT
        cases hh : vHasB true n l t' with
        | false =>
          rw [hh] at c6 hT
          simp only [Bool.false_eq_true, if_false, if_true] at hT
          subst hT
          repeat' first
            | (conv => whnf
               first
               | intro _
               | (first | refine selSplit (fun h => ?_) (fun h => ?_) | refine condSplit (fun h => ?_) (fun h => ?_)) <;> first | exact (clash (by assumption) h).elim | exact (clash h (by assumption)).elim | (simp only [decide_eq_true_eq, decide_eq_false_iff_not, Bool.not_eq_true', Bool.not_eq_false', Bool.not_true, Bool.not_false, Bool.or_eq_true, Bool.and_eq_true, Bool.or_eq_false_iff, Bool.and_eq_false_iff, beq_iff_eq, beq_eq_false_iff_ne, ne_eq] at h; first | (exfalso; omega) | skip) | skip
               | refine SeqP.go ?_
               | refine cdM ?_
               | exact IsV.mk
               | apply GuardP.mk
               | ((first | apply callPure' en_vlan9 | apply callQuiet' en_vlan9); · exact fun w _ => c1 w)
               | ((first | apply callPure' en_vlan9 | apply callQuiet' en_vlan9); · exact fun w _ => c2 w)
               | ((first | apply callPure' en_time9 | apply callQuiet' en_time9); · exact fun w _ => c3 w)
               | ((first | apply callPure' en_has6 | apply callQuiet' en_has6); · exact fun w hw => c4 w (hs.later hw))
               | ((first | apply callPure' en_has6 | apply callQuiet' en_has6); · exact fun w hw => c6 w (hs.later hw))
               | ((first | apply callPure' en_at9 | apply callQuiet' en_at9); · exact fun w _ => c5 w)
               | (refine AppW.blkS hasM (Nat.le_of_ble_eq_true rfl) rfl rfl rfl holeM rfl (Nat.le_of_ble_eq_true rfl) ?_)
               | (refine appNil rfl rfl rfl rfl Try.underlying77 Try.underlying77 (by kernel_rfl) rfl rfl (Nat.le_refl _) ?_)
               | refine Or.inl ⟨_, _, hasM, ?_⟩
               | refine Or.inl ⟨_, _, _, holeM, rfl, rfl, ?_⟩
               | refine lA ?_
               | refine lA0 ?_
               | refine lA1 ?_
               | refine lO ?_
               | refine lO0 ?_
               | refine lO1 ?_
               | refine lR ?_
               | refine lG ?_
               | refine lG0 ?_
               | refine tA ?_
               | refine tA0 ?_
               | refine tA1 ?_
               | refine BytW.ofBlk hasM rfl rfl ?_
               | refine AppW.noneB hasM leM rfl rfl rfl leM leM ?_
               | refine AppW.rowB hasM leM rfl rfl holeM leM leM ?_
               | refine AppW.blkB hasM leM rfl rfl holeM rfl rfl leM leM ?_
               | refine AppW.rowS hasM leM rfl rfl holeM (by omega) leM ?_
               | refine AppW.arrS hasM leM rfl rfl rfl holeM (by first | omega | (simp; omega)) leM ?_
               | refine ⟨sideM, ?_⟩
               | fail)
          all_goals (try conv => whnf)
          all_goals first | (exfalso; simp at h; done) | (exfalso; exact h5 ⟨rfl, h.2⟩) | skip
          all_goals
            simp only [S9.enc, List.length_append, List.append_assoc, List.nil_append, List.cons_append, heardE_app, heardE_cons, heardE_nil, hU1, hU2, hw1]
            refine EndX.mk (_, _) ?_ rfl ?_
            · assumption
            · exact entM
        | true =>
          rw [hh] at c6 hT
          simp only [Bool.false_eq_true, if_false, if_true] at hT
          subst hT
          repeat' first
            | (conv => whnf
               first
               | intro _
               | (first | refine selSplit (fun h => ?_) (fun h => ?_) | refine condSplit (fun h => ?_) (fun h => ?_)) <;> first | exact (clash (by assumption) h).elim | exact (clash h (by assumption)).elim | (simp only [decide_eq_true_eq, decide_eq_false_iff_not, Bool.not_eq_true', Bool.not_eq_false', Bool.not_true, Bool.not_false, Bool.or_eq_true, Bool.and_eq_true, Bool.or_eq_false_iff, Bool.and_eq_false_iff, beq_iff_eq, beq_eq_false_iff_ne, ne_eq] at h; first | (exfalso; omega) | skip) | skip
               | refine SeqP.go ?_
               | refine cdM ?_
               | exact IsV.mk
               | apply GuardP.mk
               | ((first | apply callPure' en_vlan9 | apply callQuiet' en_vlan9); · exact fun w _ => c1 w)
               | ((first | apply callPure' en_vlan9 | apply callQuiet' en_vlan9); · exact fun w _ => c2 w)
               | ((first | apply callPure' en_time9 | apply callQuiet' en_time9); · exact fun w _ => c3 w)
               | ((first | apply callPure' en_has6 | apply callQuiet' en_has6); · exact fun w hw => c4 w (hs.later hw))
               | ((first | apply callPure' en_has6 | apply callQuiet' en_has6); · exact fun w hw => c6 w (hs.later hw))
               | ((first | apply callPure' en_at9 | apply callQuiet' en_at9); · exact fun w _ => c5 w)
               | (refine AppW.blkS hasM (Nat.le_of_ble_eq_true rfl) rfl rfl rfl holeM rfl (Nat.le_of_ble_eq_true rfl) ?_)
               | (refine AppW.arrK (n := 1) hasM (Nat.le_of_ble_eq_true rfl) rfl rfl rfl holeM rfl (by decide) (Nat.le_of_ble_eq_true rfl) ?_)
               | (refine appNil rfl rfl rfl rfl Try.underlying77 Try.underlying77 (by kernel_rfl) rfl rfl (Nat.le_refl _) ?_)
               | refine Or.inl ⟨_, _, hasM, ?_⟩
               | refine Or.inl ⟨_, _, _, holeM, rfl, rfl, ?_⟩
               | refine lA ?_
               | refine lA0 ?_
               | refine lA1 ?_
               | refine lO ?_
               | refine lO0 ?_
               | refine lO1 ?_
               | refine lR ?_
               | refine lG ?_
               | refine lG0 ?_
               | refine tA ?_
               | refine tA0 ?_
               | refine tA1 ?_
               | refine BytW.ofBlk hasM rfl rfl ?_
               | refine AppW.noneB hasM leM rfl rfl rfl leM leM ?_
               | refine AppW.rowB hasM leM rfl rfl holeM leM leM ?_
               | refine AppW.blkB hasM leM rfl rfl holeM rfl rfl leM leM ?_
               | refine AppW.rowS hasM leM rfl rfl holeM (by omega) leM ?_
               | refine AppW.arrS hasM leM rfl rfl rfl holeM (by first | omega | (simp; omega)) leM ?_
               | refine ⟨sideM, ?_⟩
               | fail)
          all_goals (try conv => whnf)
          all_goals first | (exfalso; simp at h; done) | (exfalso; exact h5 ⟨rfl, h.2⟩) | skip
          all_goals
            simp only [S9.enc, List.length_append, List.append_assoc, List.nil_append, List.cons_append, heardE_app, heardE_cons, heardE_nil, hU1, hU2, hw1]
            refine EndX.mk (_, _) ?_ rfl ?_
            · assumption
            · exact entM
  · have hp : 0 < (heardE LL).length := by rw [heardE_len]; exact List.length_pos_iff.2 hl0
    obtain ⟨bb, o, e, _⟩ := hL.at_ hp
    subst e
    have ho := hL.old (X := []) hp (by simp)
    by_cases hf : first = 0 <;> (first | rw [if_pos hf] at hf2 ht2 | rw [if_neg hf] at hf2 ht2) <;> subst hf2 <;> subst ht2
    all_goals
      cases t
      · rw [if_neg (by decide)] at hT
        subst hT
        repeat' first
          | (conv => whnf
             first
             | intro _
             | (first | refine selSplit (fun h => ?_) (fun h => ?_) | refine condSplit (fun h => ?_) (fun h => ?_)) <;> first | exact (clash (by assumption) h).elim | exact (clash h (by assumption)).elim | (simp only [decide_eq_true_eq, decide_eq_false_iff_not, Bool.not_eq_true', Bool.not_eq_false', Bool.not_true, Bool.not_false, Bool.or_eq_true, Bool.and_eq_true, Bool.or_eq_false_iff, Bool.and_eq_false_iff, beq_iff_eq, beq_eq_false_iff_ne, ne_eq] at h; first | (exfalso; omega) | skip) | skip
             | refine SeqP.go ?_
             | refine cdM ?_
             | exact IsV.mk
             | apply GuardP.mk
             | ((first | apply callPure' en_vlan9 | apply callQuiet' en_vlan9); · exact fun w _ => c1 w)
             | ((first | apply callPure' en_vlan9 | apply callQuiet' en_vlan9); · exact fun w _ => c2 w)
             | ((first | apply callPure' en_time9 | apply callQuiet' en_time9); · exact fun w _ => c3 w)
             | ((first | apply callPure' en_has6 | apply callQuiet' en_has6); · exact fun w hw => c4 w (hs.later hw))
             | ((first | apply callPure' en_has6 | apply callQuiet' en_has6); · exact fun w hw => c6 w (hs.later hw))
             | ((first | apply callPure' en_at9 | apply callQuiet' en_at9); · exact fun w _ => c5 w)
             | (refine AppW.cloneS (l := heardE LL) ho (Nat.le_of_ble_eq_true rfl) hone (m := LL.length) holeM rfl (heardE_len LL) (Nat.le_trans hLL (by decide)) (Nat.le_of_ble_eq_true rfl) ?_)
             | (refine AppW.arrK (n := LL.length) hasM (Nat.le_of_ble_eq_true rfl) rfl rfl rfl holeM (heardE_len LL) (by omega) (Nat.le_of_ble_eq_true rfl) ?_)
             | (refine AppW.arrK (n := LL.length + 1) hasM (Nat.le_of_ble_eq_true rfl) rfl rfl rfl holeM (by rw [List.length_append, heardE_len]; rfl) (by omega) (Nat.le_of_ble_eq_true rfl) ?_)
             | refine Or.inl ⟨_, _, hasM, ?_⟩
             | refine Or.inl ⟨_, _, _, holeM, rfl, rfl, ?_⟩
             | refine lA ?_
             | refine lA0 ?_
             | refine lA1 ?_
             | refine lO ?_
             | refine lO0 ?_
             | refine lO1 ?_
             | refine lR ?_
             | refine lG ?_
             | refine lG0 ?_
             | refine tA ?_
             | refine tA0 ?_
             | refine tA1 ?_
             | refine BytW.ofBlk hasM rfl rfl ?_
             | refine AppW.noneB hasM leM rfl rfl rfl leM leM ?_
             | refine AppW.rowB hasM leM rfl rfl holeM leM leM ?_
             | refine AppW.blkB hasM leM rfl rfl holeM rfl rfl leM leM ?_
             | refine AppW.rowS hasM leM rfl rfl holeM (by omega) leM ?_
             | refine AppW.arrS hasM leM rfl rfl rfl holeM (by first | omega | (simp; omega)) leM ?_
             | refine ⟨sideM, ?_⟩
             | fail)
        all_goals (try conv => whnf)
        all_goals first | (exfalso; simp at h; done) | (exfalso; exact h5 ⟨rfl, h.2⟩) | skip
        all_goals
          simp only [S9.enc, List.length_append, List.append_assoc, List.nil_append, List.cons_append, heardE_app, heardE_cons, heardE_nil, hU1, hU2, hw1]
          refine EndX.mk (_, _) ?_ rfl ?_
          · assumption
          · exact entM
      · rw [if_pos rfl] at hT
        cases hh : vHasB true n l t' with
        | false =>
          rw [hh] at c6 hT
          simp only [Bool.false_eq_true, if_false, if_true] at hT
          subst hT
          repeat' first
            | (conv => whnf
               first
               | intro _
               | (first | refine selSplit (fun h => ?_) (fun h => ?_) | refine condSplit (fun h => ?_) (fun h => ?_)) <;> first | exact (clash (by assumption) h).elim | exact (clash h (by assumption)).elim | (simp only [decide_eq_true_eq, decide_eq_false_iff_not, Bool.not_eq_true', Bool.not_eq_false', Bool.not_true, Bool.not_false, Bool.or_eq_true, Bool.and_eq_true, Bool.or_eq_false_iff, Bool.and_eq_false_iff, beq_iff_eq, beq_eq_false_iff_ne, ne_eq] at h; first | (exfalso; omega) | skip) | skip
               | refine SeqP.go ?_
               | refine cdM ?_
               | exact IsV.mk
               | apply GuardP.mk
               | ((first | apply callPure' en_vlan9 | apply callQuiet' en_vlan9); · exact fun w _ => c1 w)
               | ((first | apply callPure' en_vlan9 | apply callQuiet' en_vlan9); · exact fun w _ => c2 w)
               | ((first | apply callPure' en_time9 | apply callQuiet' en_time9); · exact fun w _ => c3 w)
               | ((first | apply callPure' en_has6 | apply callQuiet' en_has6); · exact fun w hw => c4 w (hs.later hw))
               | ((first | apply callPure' en_has6 | apply callQuiet' en_has6); · exact fun w hw => c6 w (hs.later hw))
               | ((first | apply callPure' en_at9 | apply callQuiet' en_at9); · exact fun w _ => c5 w)
               | (refine AppW.cloneS (l := heardE LL) ho (Nat.le_of_ble_eq_true rfl) hone (m := LL.length) holeM rfl (heardE_len LL) (Nat.le_trans hLL (by decide)) (Nat.le_of_ble_eq_true rfl) ?_)
               | (refine AppW.arrK (n := LL.length) hasM (Nat.le_of_ble_eq_true rfl) rfl rfl rfl holeM (heardE_len LL) (by omega) (Nat.le_of_ble_eq_true rfl) ?_)
               | (refine AppW.arrK (n := LL.length + 1) hasM (Nat.le_of_ble_eq_true rfl) rfl rfl rfl holeM (by rw [List.length_append, heardE_len]; rfl) (by omega) (Nat.le_of_ble_eq_true rfl) ?_)
               | refine Or.inl ⟨_, _, hasM, ?_⟩
               | refine Or.inl ⟨_, _, _, holeM, rfl, rfl, ?_⟩
               | refine lA ?_
               | refine lA0 ?_
               | refine lA1 ?_
               | refine lO ?_
               | refine lO0 ?_
               | refine lO1 ?_
               | refine lR ?_
               | refine lG ?_
               | refine lG0 ?_
               | refine tA ?_
               | refine tA0 ?_
               | refine tA1 ?_
               | refine BytW.ofBlk hasM rfl rfl ?_
               | refine AppW.noneB hasM leM rfl rfl rfl leM leM ?_
               | refine AppW.rowB hasM leM rfl rfl holeM leM leM ?_
               | refine AppW.blkB hasM leM rfl rfl holeM rfl rfl leM leM ?_
               | refine AppW.rowS hasM leM rfl rfl holeM (by omega) leM ?_
               | refine AppW.arrS hasM leM rfl rfl rfl holeM (by first | omega | (simp; omega)) leM ?_
               | refine ⟨sideM, ?_⟩
               | fail)
          all_goals (try conv => whnf)
          all_goals first | (exfalso; simp at h; done) | (exfalso; exact h5 ⟨rfl, h.2⟩) | skip
          all_goals
            simp only [S9.enc, List.length_append, List.append_assoc, List.nil_append, List.cons_append, heardE_app, heardE_cons, heardE_nil, hU1, hU2, hw1]
            refine EndX.mk (_, _) ?_ rfl ?_
            · assumption
            · exact entM
        | true =>
          rw [hh] at c6 hT
          simp only [Bool.false_eq_true, if_false, if_true] at hT
          subst hT
          repeat' first
            | (conv => whnf
               first
               | intro _
               | (first | refine selSplit (fun h => ?_) (fun h => ?_) | refine condSplit (fun h => ?_) (fun h => ?_)) <;> first | exact (clash (by assumption) h).elim | exact (clash h (by assumption)).elim | (simp only [decide_eq_true_eq, decide_eq_false_iff_not, Bool.not_eq_true', Bool.not_eq_false', Bool.not_true, Bool.not_false, Bool.or_eq_true, Bool.and_eq_true, Bool.or_eq_false_iff, Bool.and_eq_false_iff, beq_iff_eq, beq_eq_false_iff_ne, ne_eq] at h; first | (exfalso; omega) | skip) | skip
               | refine SeqP.go ?_
               | refine cdM ?_
               | exact IsV.mk
               | apply GuardP.mk
               | ((first | apply callPure' en_vlan9 | apply callQuiet' en_vlan9); · exact fun w _ => c1 w)
               | ((first | apply callPure' en_vlan9 | apply callQuiet' en_vlan9); · exact fun w _ => c2 w)
               | ((first | apply callPure' en_time9 | apply callQuiet' en_time9); · exact fun w _ => c3 w)
               | ((first | apply callPure' en_has6 | apply callQuiet' en_has6); · exact fun w hw => c4 w (hs.later hw))
               | ((first | apply callPure' en_has6 | apply callQuiet' en_has6); · exact fun w hw => c6 w (hs.later hw))
               | ((first | apply callPure' en_at9 | apply callQuiet' en_at9); · exact fun w _ => c5 w)
               | (refine AppW.cloneS (l := heardE LL) ho (Nat.le_of_ble_eq_true rfl) hone (m := LL.length) holeM rfl (heardE_len LL) (Nat.le_trans hLL (by decide)) (Nat.le_of_ble_eq_true rfl) ?_)
               | (refine AppW.arrK (n := LL.length) hasM (Nat.le_of_ble_eq_true rfl) rfl rfl rfl holeM (heardE_len LL) (by omega) (Nat.le_of_ble_eq_true rfl) ?_)
               | (refine AppW.arrK (n := LL.length + 1) hasM (Nat.le_of_ble_eq_true rfl) rfl rfl rfl holeM (by rw [List.length_append, heardE_len]; rfl) (by omega) (Nat.le_of_ble_eq_true rfl) ?_)
               | refine Or.inl ⟨_, _, hasM, ?_⟩
               | refine Or.inl ⟨_, _, _, holeM, rfl, rfl, ?_⟩
               | refine lA ?_
               | refine lA0 ?_
               | refine lA1 ?_
               | refine lO ?_
               | refine lO0 ?_
               | refine lO1 ?_
               | refine lR ?_
               | refine lG ?_
               | refine lG0 ?_
               | refine tA ?_
               | refine tA0 ?_
               | refine tA1 ?_
               | refine BytW.ofBlk hasM rfl rfl ?_
               | refine AppW.noneB hasM leM rfl rfl rfl leM leM ?_
               | refine AppW.rowB hasM leM rfl rfl holeM leM leM ?_
               | refine AppW.blkB hasM leM rfl rfl holeM rfl rfl leM leM ?_
               | refine AppW.rowS hasM leM rfl rfl holeM (by omega) leM ?_
               | refine AppW.arrS hasM leM rfl rfl rfl holeM (by first | omega | (simp; omega)) leM ?_
               | refine ⟨sideM, ?_⟩
               | fail)
          all_goals (try conv => whnf)
          all_goals first | (exfalso; simp at h; done) | (exfalso; exact h5 ⟨rfl, h.2⟩) | skip
          all_goals
            simp only [S9.enc, List.length_append, List.append_assoc, List.nil_append, List.cons_append, heardE_app, heardE_cons, heardE_nil, hU1, hU2, hw1]
            refine EndX.mk (_, _) ?_ rfl ?_
            · assumption
            · exact entM
end Go.Proofs.Ytgjdmlgdgbehoaa.Am
