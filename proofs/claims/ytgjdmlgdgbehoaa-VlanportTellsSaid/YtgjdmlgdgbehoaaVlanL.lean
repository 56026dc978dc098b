/- The laws of layer 6. -/
import Derived.Test.YtgjdmlgdgbehoaaVlan6
import Derived.Test.YtgjdmlgdgbehoaaOpb
set_option linter.unusedVariables false
set_option linter.unusedSimpArgs false
set_option maxRecDepth 100000
set_option maxHeartbeats 4000000
namespace Go.Proofs.Ytgjdmlgdgbehoaa.Am
open Go Go.RowKit
theorem ok_same6 : (match Try.f37.body with | some c => codeOk Try.f37.ntmps c | none => false) = true := by kernel_rfl
theorem en_same6 : ∃ fn, Try.prog.funcs[37]? = some fn ∧ (fn.name == "runtime.NumGoroutine") = false ∧ fn.body.isNone = false := ⟨_, Try.func37, by kernel_rfl, by kernel_rfl⟩
theorem same6_w (t : Bool) (n : Int) (l : List Int) (A : Option Addr) (c : Nat) (A' : Option Addr) (c' m : Nat) (hm : l.length = m) (w : World) (hs : SlAt w A 1 (ints l)) (hs' : SlAt w A' 1 (ints l)) (hl : m ≤ 100000) : PuAt Try.prog 37 [.agg ⟨[.bool t, .int .i64 n, .slice A m c]⟩, .agg ⟨[.bool t, .int .i64 n, .slice A' m c']⟩] (.bool true) w := by
  subst hm
  refine funcR_pure tyOk wide Try.func37 ok_same6 (Nat.le_of_ble_eq_true rfl) ?_
  repeat' first
    | (conv => whnf
       first
       | intro _
       | (first | refine selSplit (fun h => ?_) (fun h => ?_) | refine condSplit (fun h => ?_) (fun h => ?_)) <;> first | exact (clash (by assumption) h).elim | exact (clash h (by assumption)).elim | (simp only [decide_eq_true_eq, decide_eq_false_iff_not, Bool.not_eq_true', Bool.not_eq_false', Bool.not_true, Bool.not_false, Bool.or_eq_true, Bool.and_eq_true, Bool.or_eq_false_iff, Bool.and_eq_false_iff, beq_iff_eq, beq_eq_false_iff_ne, ne_eq] at h; first | (exfalso; omega) | skip) | skip
       | (first | refine drM (.quiet 0 (.quiet 1 (.quiet 2 (.quiet 3 (.quiet 4 (.quiet 5 (.quiet 6 (.quiet 7 (.quiet 8 (.quiet 9 (.quiet 10 .done))))))))))) (SubL.refl _) ?_)
       | refine AltP.mk ?_ ?_
       | refine kpM ?_
       | refine SeqP.go ?_
       | refine cdM ?_
       | exact IsV.mk
       | apply GuardP.mk
       | (first | refine eqlW eqS50 rfl rfl rfl fitM fitM ?_ | refine neqW eqS50 rfl rfl rfl fitM fitM ?_)
       | refine Or.inl ⟨_, _, hasM, ?_⟩
       | refine Or.inl ⟨_, _, _, holeM, rfl, rfl, ?_⟩
       | refine lA ?_
       | refine lA0 ?_
       | refine lA1 ?_
       | refine lO ?_
       | refine lO0 ?_
       | refine lO1 ?_
       | refine lR ?_
       | refine lG ?_
       | refine lG0 ?_
       | refine tA ?_
       | refine tA0 ?_
       | refine tA1 ?_
       | refine BytW.ofBlk hasM rfl rfl ?_
       | refine AppW.noneB hasM leM rfl rfl rfl leM leM ?_
       | refine AppW.rowB hasM leM rfl rfl holeM leM leM ?_
       | refine AppW.blkB hasM leM rfl rfl holeM rfl rfl leM leM ?_
       | refine AppW.rowS hasM leM rfl rfl holeM (by omega) leM ?_
       | refine AppW.arrS hasM leM rfl rfl rfl holeM (by first | omega | (simp; omega)) leM ?_
       | refine ⟨sideM, ?_⟩
       | fail)
  all_goals (try conv => whnf)
  · rcases h with (h | h) | h <;> exact absurd trivial h
  · clear h
    rename_i b2 b3
    refine .mk Nat (fun k S H => k ≤ l.length ∧ S = [(5, .int .i64 k), (3, .pointer (some ⟨b3, 0, none⟩)), (2, .pointer (some ⟨b2, 0, none⟩))] ∧ H = [.blk b3 [.bool t, .int .i64 n, .slice A' l.length c'] 52, .blk b2 [.bool t, .int .i64 n, .slice A l.length c] 52]) (fun k => l.length - k) 0 _ _ ⟨by omega, rfl, rfl⟩ subM entM ?_
    rintro k S1 H1 ⟨hk, rfl, rfl⟩
    by_cases hk2 : k < l.length
    · obtain ⟨b, o, e, _⟩ := hs.at_ (by rw [ints_len]; omega)
      subst e
      have o1 := hs.old (X := []) (by rw [ints_len]; omega) (by simp)
      obtain ⟨b', o', e, _⟩ := hs'.at_ (by rw [ints_len]; omega)
      subst e
      have o2 := hs'.old (X := []) (by rw [ints_len]; omega) (by simp)
      obtain ⟨x, hx⟩ : ∃ x, l[k]? = some x := ⟨l[k], List.getElem?_eq_getElem hk2⟩
      have y1 := ints_at hx
      repeat' first
        | (conv => whnf
           first
           | intro _
           | (first | refine selSplit (fun h => ?_) (fun h => ?_) | refine condSplit (fun h => ?_) (fun h => ?_)) <;> first | exact (clash (by assumption) h).elim | exact (clash h (by assumption)).elim | (simp only [decide_eq_true_eq, decide_eq_false_iff_not, Bool.not_eq_true', Bool.not_eq_false', Bool.not_true, Bool.not_false, Bool.or_eq_true, Bool.and_eq_true, Bool.or_eq_false_iff, Bool.and_eq_false_iff, beq_iff_eq, beq_eq_false_iff_ne, ne_eq] at h; first | (exfalso; omega) | skip) | skip
           | (first | refine drM (.quiet 0 (.quiet 1 (.quiet 2 (.quiet 3 (.quiet 4 (.quiet 5 (.quiet 6 (.quiet 7 (.quiet 8 (.quiet 9 (.quiet 10 .done))))))))))) (SubL.refl _) ?_)
           | refine AltP.mk ?_ ?_
           | refine kpM ?_
           | refine SeqP.go ?_
           | refine cdM ?_
           | exact IsV.mk
           | apply GuardP.mk
           | (first | refine eqlW eqS50 rfl rfl rfl fitM fitM ?_ | refine neqW eqS50 rfl rfl rfl fitM fitM ?_)
           | refine Or.inl ⟨_, _, hasM, ?_⟩
           | refine Or.inl ⟨_, _, _, holeM, rfl, rfl, ?_⟩
           | refine lA ?_
           | refine lA0 ?_
           | refine lA1 ?_
           | refine lO ?_
           | refine lO0 ?_
           | refine lO1 ?_
           | refine lR ?_
           | refine lG ?_
           | refine lG0 ?_
           | refine tA ?_
           | refine tA0 ?_
           | refine tA1 ?_
           | refine BytW.ofBlk hasM rfl rfl ?_
           | refine AppW.noneB hasM leM rfl rfl rfl leM leM ?_
           | refine AppW.rowB hasM leM rfl rfl holeM leM leM ?_
           | refine AppW.blkB hasM leM rfl rfl holeM rfl rfl leM leM ?_
           | refine AppW.rowS hasM leM rfl rfl holeM (by omega) leM ?_
           | refine AppW.arrS hasM leM rfl rfl rfl holeM (by first | omega | (simp; omega)) leM ?_
           | refine ⟨sideM, ?_⟩
           | fail)
      all_goals (try conv => whnf)
      all_goals first
        | (exfalso; omega)
        | exact absurd trivial h
        | exact .mk (k + 1) _ _ (by omega) ⟨hk2, rfl, rfl⟩ subM entM
    · skip
      repeat' first
        | (conv => whnf
           first
           | intro _
           | (first | refine selSplit (fun h => ?_) (fun h => ?_) | refine condSplit (fun h => ?_) (fun h => ?_)) <;> first | exact (clash (by assumption) h).elim | exact (clash h (by assumption)).elim | (simp only [decide_eq_true_eq, decide_eq_false_iff_not, Bool.not_eq_true', Bool.not_eq_false', Bool.not_true, Bool.not_false, Bool.or_eq_true, Bool.and_eq_true, Bool.or_eq_false_iff, Bool.and_eq_false_iff, beq_iff_eq, beq_eq_false_iff_ne, ne_eq] at h; first | (exfalso; omega) | skip) | skip
           | (first | refine drM (.quiet 0 (.quiet 1 (.quiet 2 (.quiet 3 (.quiet 4 (.quiet 5 (.quiet 6 (.quiet 7 (.quiet 8 (.quiet 9 (.quiet 10 .done))))))))))) (SubL.refl _) ?_)
           | refine AltP.mk ?_ ?_
           | refine kpM ?_
           | refine SeqP.go ?_
           | refine cdM ?_
           | exact IsV.mk
           | apply GuardP.mk
           | (first | refine eqlW eqS50 rfl rfl rfl fitM fitM ?_ | refine neqW eqS50 rfl rfl rfl fitM fitM ?_)
           | refine Or.inl ⟨_, _, hasM, ?_⟩
           | refine Or.inl ⟨_, _, _, holeM, rfl, rfl, ?_⟩
           | refine lA ?_
           | refine lA0 ?_
           | refine lA1 ?_
           | refine lO ?_
           | refine lO0 ?_
           | refine lO1 ?_
           | refine lR ?_
           | refine lG ?_
           | refine lG0 ?_
           | refine tA ?_
           | refine tA0 ?_
           | refine tA1 ?_
           | refine BytW.ofBlk hasM rfl rfl ?_
           | refine AppW.noneB hasM leM rfl rfl rfl leM leM ?_
           | refine AppW.rowB hasM leM rfl rfl holeM leM leM ?_
           | refine AppW.blkB hasM leM rfl rfl holeM rfl rfl leM leM ?_
           | refine AppW.rowS hasM leM rfl rfl holeM (by omega) leM ?_
           | refine AppW.arrS hasM leM rfl rfl rfl holeM (by first | omega | (simp; omega)) leM ?_
           | refine ⟨sideM, ?_⟩
           | fail)
      all_goals (try conv => whnf)
      all_goals first
        | (exfalso; omega)
        | rfl
def fewB (f : FrameV) : Bool := decide (f.Dst.size ≤ 20) && decide (f.Src.size ≤ 20) && decide (f.Payload.size ≤ 1600)
theorem ok_few1 : (match Try.f24.body with | some c => codeOk Try.f24.ntmps c | none => false) = true := by kernel_rfl
theorem en_few1 : ∃ fn, Try.prog.funcs[24]? = some fn ∧ (fn.name == "runtime.NumGoroutine") = false ∧ fn.body.isNone = false := ⟨_, Try.func24, by kernel_rfl, by kernel_rfl⟩
theorem few1_w (f : FrameV) (w : World) : PuAt Try.prog 24 [.agg ⟨f.enc⟩] (.bool (fewB f)) w := by
  refine funcR_pure tyOk wide Try.func24 ok_few1 (Nat.le_of_ble_eq_true rfl) ?_
  repeat' first
    | (conv => whnf
       first
       | intro _
       | (first | refine selSplit (fun h => ?_) (fun h => ?_) | refine condSplit (fun h => ?_) (fun h => ?_)) <;> first | exact (clash (by assumption) h).elim | exact (clash h (by assumption)).elim | (simp only [decide_eq_true_eq, decide_eq_false_iff_not, Bool.not_eq_true', Bool.not_eq_false', Bool.not_true, Bool.not_false, Bool.or_eq_true, Bool.and_eq_true, Bool.or_eq_false_iff, Bool.and_eq_false_iff, beq_iff_eq, beq_eq_false_iff_ne, ne_eq] at h; first | (exfalso; omega) | skip) | skip
       | refine SeqP.go ?_
       | refine cdM ?_
       | exact IsV.mk
       | apply GuardP.mk
       | (first | refine eqlW eqS50 rfl rfl rfl fitM fitM ?_ | refine neqW eqS50 rfl rfl rfl fitM fitM ?_)
       | refine Or.inl ⟨_, _, hasM, ?_⟩
       | refine Or.inl ⟨_, _, _, holeM, rfl, rfl, ?_⟩
       | refine lA ?_
       | refine lA0 ?_
       | refine lA1 ?_
       | refine lO ?_
       | refine lO0 ?_
       | refine lO1 ?_
       | refine lR ?_
       | refine lG ?_
       | refine lG0 ?_
       | refine tA ?_
       | refine tA0 ?_
       | refine tA1 ?_
       | refine BytW.ofBlk hasM rfl rfl ?_
       | refine AppW.noneB hasM leM rfl rfl rfl leM leM ?_
       | refine AppW.rowB hasM leM rfl rfl holeM leM leM ?_
       | refine AppW.blkB hasM leM rfl rfl holeM rfl rfl leM leM ?_
       | refine AppW.rowS hasM leM rfl rfl holeM (by omega) leM ?_
       | refine AppW.arrS hasM leM rfl rfl rfl holeM (by first | omega | (simp; omega)) leM ?_
       | refine ⟨sideM, ?_⟩
       | fail)
  all_goals (try conv => whnf)
  all_goals (refine v_bool ?_; unfold fewB; grind)
def aF : FrameV := ⟨⟨#[2, 97, 97, 97, 97, 97]⟩, ⟨#[2, 98, 98, 98, 98, 98]⟩, false, 0, 0, 2048, ⟨#[]⟩⟩
def aT : ByteArray := ⟨#[84, 0, 1, 2, 0, 1, 0, 2]⟩
theorem aPrint : vPrintV true 1 [1, 2] = (aT, 0) := by decide +kernel
theorem aProg : progP aT = ((true, 1, [1, 2]), 0) := by decide +kernel
theorem aProgA : progP ⟨#[65]⟩ = ((false, 0, []), 2) := by decide +kernel
theorem aOut : vOutV true 1 [1, 2] aF 2 = ({ aF with Tagged := true, Vlan := 2 }, 0) := by kernel_rfl
theorem aOut3 : vOutV true 1 [1, 2] aF 3 = (FrameV.zero, 5) := by kernel_rfl
theorem aIn : vInV true 1 [1, 2] { aF with Tagged := true, Vlan := 2 } = (2, 0) := by kernel_rfl
theorem ints2 : ∀ x ∈ ints [1, 2], x.length = 1 := by decide
theorem vparse_len (s : ByteArray) (h : s.size ≤ 2000) : (vParseV s).1.2.2.length ≤ 100000 := by
  unfold vParseV decP
  split
  · rename_i p hp
    split at hp
    · cases hp
    · split at hp
      · cases hp; split <;> exact Nat.zero_le _
      · split at hp
        · cases hp
          have := byteAt_range s 3
          split
          · rw [pairs_len]; omega
          · exact Nat.zero_le _
        · cases hp
  · exact Nat.zero_le _
theorem ok_awake06 : (match Try.f23.body with | some c => codeOk Try.f23.ntmps c | none => false) = true := by kernel_rfl
theorem en_awake06 : ∃ fn, Try.prog.funcs[23]? = some fn ∧ (fn.name == "runtime.NumGoroutine") = false ∧ fn.body.isNone = false := ⟨_, Try.func23, by kernel_rfl, by kernel_rfl⟩
theorem awake06_w (w : World) : PuAt Try.prog 23 [] (.bool true) w := by
  refine funcR_pure tyOk wide Try.func23 ok_awake06 (Nat.le_of_ble_eq_true rfl) ?_
  have cP := fun A w hs => vPrint_w true 1 [1, 2] A 2 w hs (by decide)
  have cQ := fun w => vParse_w aT w
  have cA := fun w => vParse_w ⟨#[65]⟩ w
  have cO := fun A w hs => vOut_w true 1 [1, 2] aF 2 A 2 w hs (by decide)
  have cO3 := fun A w hs => vOut_w true 1 [1, 2] aF 3 A 2 w hs (by decide)
  have cI := fun A w hs => vIn_w true 1 [1, 2] { aF with Tagged := true, Vlan := 2 } A 2 w hs (by decide)
  rw [aPrint] at cP
  rw [aProg] at cQ
  rw [aProgA] at cA
  rw [aOut] at cO
  rw [aOut3] at cO3
  rw [aIn] at cI
  repeat' first
    | (conv => whnf
       first
       | intro _
       | (first | refine selSplit (fun h => ?_) (fun h => ?_) | refine condSplit (fun h => ?_) (fun h => ?_)) <;> first | exact (clash (by assumption) h).elim | exact (clash h (by assumption)).elim | (simp only [decide_eq_true_eq, decide_eq_false_iff_not, Bool.not_eq_true', Bool.not_eq_false', Bool.not_true, Bool.not_false, Bool.or_eq_true, Bool.and_eq_true, Bool.or_eq_false_iff, Bool.and_eq_false_iff, beq_iff_eq, beq_eq_false_iff_ne, ne_eq] at h; first | (exfalso; omega) | skip) | skip
       | refine SeqP.go ?_
       | refine cdM ?_
       | exact IsV.mk
       | apply GuardP.mk
       | ((first | apply callPure' en_vPrint | apply callQuiet' en_vPrint); · exact fun w hw => cP _ w (hw.blkSl hasM rfl ints2))
       | (refine callX takeM en_vParse (fun w hw => cQ w) ?_)
       | (refine callX takeM en_vParse (fun w hw => cA w) ?_)
       | ((first | apply callPure' en_vOut | apply callQuiet' en_vOut); · exact fun w hw => cO _ w (hw.blkSl hasM rfl ints2))
       | ((first | apply callPure' en_vOut | apply callQuiet' en_vOut); · exact fun w hw => cO3 _ w (hw.blkSl hasM rfl ints2))
       | ((first | apply callPure' en_vIn | apply callQuiet' en_vIn); · exact fun w hw => cI _ w (hw.blkSl hasM rfl ints2))
       | ((first | apply callPure' en_same6 | apply callQuiet' en_same6); · exact fun w hw => same6_w true 1 [1, 2] _ 2 _ _ 2 rfl w (hw.blkSl hasM rfl ints2) (hw.arrSl hasM) (by decide))
       | ((first | apply callPure' en_vRight | apply callQuiet' en_vRight); · exact fun w hw => vRight_w true 1 [1, 2] _ 2 w (hw.blkSl hasM rfl ints2) (by decide))
       | ((first | apply callPure' en_vHas | apply callQuiet' en_vHas); · exact fun w hw => vHas_w true 1 [1, 2] 1 _ 2 w (hw.blkSl hasM rfl ints2) (by decide))
       | (first | refine eqlW eqS50 rfl rfl rfl fitM fitM ?_ | refine neqW eqS50 rfl rfl rfl fitM fitM ?_)
       | refine Or.inl ⟨_, _, hasM, ?_⟩
       | refine Or.inl ⟨_, _, _, holeM, rfl, rfl, ?_⟩
       | refine lA ?_
       | refine lA0 ?_
       | refine lA1 ?_
       | refine lO ?_
       | refine lO0 ?_
       | refine lO1 ?_
       | refine lR ?_
       | refine lG ?_
       | refine lG0 ?_
       | refine tA ?_
       | refine tA0 ?_
       | refine tA1 ?_
       | refine BytW.ofBlk hasM rfl rfl ?_
       | refine AppW.noneB hasM leM rfl rfl rfl leM leM ?_
       | refine AppW.rowB hasM leM rfl rfl holeM leM leM ?_
       | refine AppW.blkB hasM leM rfl rfl holeM rfl rfl leM leM ?_
       | refine AppW.rowS hasM leM rfl rfl holeM (by omega) leM ?_
       | refine AppW.arrS hasM leM rfl rfl rfl holeM (by first | omega | (simp; omega)) leM ?_
       | refine ⟨sideM, ?_⟩
       | fail)
  all_goals (try conv => whnf)
  all_goals exact v_bool (by decide +kernel)
theorem ok_VlanportTells : (match Try.f6.body with | some c => codeOk Try.f6.ntmps c | none => false) = true := by kernel_rfl
theorem en_VlanportTells : ∃ fn, Try.prog.funcs[6]? = some fn ∧ (fn.name == "runtime.NumGoroutine") = false ∧ fn.body.isNone = false := ⟨_, Try.func6, by kernel_rfl, by kernel_rfl⟩
theorem VlanportTells_w (t : Bool) (n : Int) (l : List Int) (s : ByteArray) (f : FrameV) (v : Int) (A : Option Addr) (c : Nat) (w : World) (hs : SlAt w A 1 (ints l)) : PuAt Try.prog 6 [.agg ⟨[.bool t, .int .i64 n, .slice A l.length c]⟩, .string s, .agg ⟨f.enc⟩, .int .i64 v] (.bool true) w := by
  refine funcR_pure tyOk wide Try.func6 ok_VlanportTells (Nat.le_of_ble_eq_true rfl) ?_
  have c6 := fun hl w => parse6_w s hl w
  have cP := fun w => vParse_w s w
  rw [ref_is] at c6
  rw [prog_is] at cP
  repeat' first
    | (conv => whnf
       first
       | intro _
       | (first | refine selSplit (fun h => ?_) (fun h => ?_) | refine condSplit (fun h => ?_) (fun h => ?_)) <;> first | exact (clash (by assumption) h).elim | exact (clash h (by assumption)).elim | (simp only [decide_eq_true_eq, decide_eq_false_iff_not, Bool.not_eq_true', Bool.not_eq_false', Bool.not_true, Bool.not_false, Bool.or_eq_true, Bool.and_eq_true, Bool.or_eq_false_iff, Bool.and_eq_false_iff, beq_iff_eq, beq_eq_false_iff_ne, ne_eq] at h; first | (exfalso; omega) | skip) | skip
       | (first | refine drC (.quiet 0 (.quiet 1 (.quiet 2 (.quiet 3 (.quiet 4 (.quiet 5 (.quiet 6 (.quiet 7 (.quiet 8 (.quiet 9 (.quiet 10 (.quiet 11 (.quiet 12 (.quiet 13 (.quiet 14 (.quiet 15 (.quiet 16 (.quiet 17 (.quiet 18 (.quiet 19 (.quiet 20 (.quiet 21 (.quiet 22 (.quiet 23 (.quiet 24 (.quiet 25 (.quiet 26 (.quiet 27 (.quiet 28 (.quiet 29 (.quiet 30 (.quiet 31 (.quiet 32 (.quiet 33 (.quiet 34 (.quiet 35 (.quiet 36 (.quiet 37 (.quiet 38 (.quiet 39 (.quiet 40 (.quiet 41 (.quiet 42 (.quiet 43 (.quiet 44 (.quiet 45 (.quiet 46 (.quiet 47 (.quiet 48 (.quiet 49 (.quiet 50 (.quiet 51 (.quiet 52 (.quiet 53 (.quiet 54 .done))))))))))))))))))))))))))))))))))))))))))))))))))))))) (SubL.refl _) ?_)
       | refine AltP.mk ?_ ?_
       | refine kpM ?_
       | refine SeqP.go ?_
       | refine cdM ?_
       | exact IsV.mk
       | apply GuardP.mk
       | ((first | apply callPure' en_awake06 | apply callQuiet' en_awake06); · exact fun w _ => awake06_w w)
       | ((first | apply callPure' en_few1 | apply callQuiet' en_few1); · exact fun w _ => few1_w f w)
       | ((first | apply callPure' en_vPrint | apply callQuiet' en_vPrint); · exact fun w hw => vPrint_w t n l A c w (hs.later hw) (by omega))
       | ((first | apply callPure' en_print6 | apply callQuiet' en_print6); · exact fun w hw => print6_w t n l A c w (hs.later hw) (by omega))
       | (refine callX takeM en_vParse (fun w hw => cP w) ?_)
       | (refine callX takeM en_parse6 (fun w hw => c6 (by omega) w) ?_)
       | ((first | apply callPure' en_vIn | apply callQuiet' en_vIn); · exact fun w hw => vIn_w t n l f A c w (hs.later hw) (by omega))
       | ((first | apply callPure' en_in6f | apply callQuiet' en_in6f); · exact fun w hw => in6f_w t n l f A c w (hs.later hw) (by omega))
       | ((first | apply callPure' en_vOut | apply callQuiet' en_vOut); · exact fun w hw => vOut_w t n l f v A c w (hs.later hw) (by omega))
       | ((first | apply callPure' en_out6 | apply callQuiet' en_out6); · exact fun w hw => out6_w t n l f v A c w (hs.later hw) (by omega))
       | ((first | apply callPure' en_vRight | apply callQuiet' en_vRight); · exact fun w hw => vRight_w t n l A c w (hs.later hw) (by omega))
       | ((first | apply callPure' en_right6 | apply callQuiet' en_right6); · exact fun w hw => right6_w t n l A c w (hs.later hw) (by omega))
       | ((first | apply callPure' en_vHas | apply callQuiet' en_vHas); · exact fun w hw => vHas_w t n l v A c w (hs.later hw) (by omega))
       | ((first | apply callPure' en_has6 | apply callQuiet' en_has6); · exact fun w hw => has6_w t n l v A c w (hs.later hw) (by omega))
       | ((first | apply callPure' en_same6 | apply callQuiet' en_same6); · exact fun w hw => same6_w (vParseV s).1.1 (vParseV s).1.2.1 (vParseV s).1.2.2 _ _ _ _ _ rfl w (hw.arrSl hasM) (hw.arrSl hasM) (vparse_len s (by omega)))
       | (first | refine eqlW eqS50 rfl rfl rfl fitM fitM ?_ | refine neqW eqS50 rfl rfl rfl fitM fitM ?_)
       | refine Or.inl ⟨_, _, hasM, ?_⟩
       | refine Or.inl ⟨_, _, _, holeM, rfl, rfl, ?_⟩
       | refine lA ?_
       | refine lA0 ?_
       | refine lA1 ?_
       | refine lO ?_
       | refine lO0 ?_
       | refine lO1 ?_
       | refine lR ?_
       | refine lG ?_
       | refine lG0 ?_
       | refine tA ?_
       | refine tA0 ?_
       | refine tA1 ?_
       | refine BytW.ofBlk hasM rfl rfl ?_
       | refine AppW.noneB hasM leM rfl rfl rfl leM leM ?_
       | refine AppW.rowB hasM leM rfl rfl holeM leM leM ?_
       | refine AppW.blkB hasM leM rfl rfl holeM rfl rfl leM leM ?_
       | refine AppW.rowS hasM leM rfl rfl holeM (by omega) leM ?_
       | refine AppW.arrS hasM leM rfl rfl rfl holeM (by first | omega | (simp; omega)) leM ?_
       | refine ⟨sideM, ?_⟩
       | fail)
  all_goals (try conv => whnf)
  · rfl
  · exact v_bool (by simp [allEq, cellEq])
theorem right_un {f : FrameV} (h : fRightB f = true) : fRightB { f with Tagged := false, Priority := 0, Vlan := 0 } = true := by unfold fRightB at *; simp at *; omega
theorem right_tag {f : FrameV} {v : Int} (h : fRightB f = true) (hv : 1 ≤ v ∧ v ≤ 4094) : fRightB { f with Tagged := true, Vlan := v } = true := by unfold fRightB at *; simp at *; omega
inductive OutCase (t : Bool) (n : Int) (l : List Int) (f : FrameV) (v : Int) : Prop
  | no (h : vOutV t n l f v = (FrameV.zero, 2)) | none (h : vOutV t n l f v = (FrameV.zero, 5)) (hh : vHasB t n l v = false)
  | un (h : vOutV t n l f v = ({ f with Tagged := false, Priority := 0, Vlan := 0 }, 0)) (hr : vRightB t n l = true) (hf : fRightB f = true) (hh : vHasB t n l v = true) (hv : v = n)
  | tag (h : vOutV t n l f v = ({ f with Tagged := true, Vlan := v }, 0)) (hr : vRightB t n l = true) (hf : fRightB f = true) (hh : vHasB t n l v = true) (hv : ¬ v = n)
theorem outCase (t : Bool) (n : Int) (l : List Int) (f : FrameV) (v : Int) : OutCase t n l f v := by
  by_cases h1 : vRightB t n l = false ∨ fRightB f = false
  · exact .no (by unfold vOutV; rw [if_pos h1])
  have hr : vRightB t n l = true := by simpa using fun q => h1 (.inl q)
  have hf : fRightB f = true := by simpa using fun q => h1 (.inr q)
  cases hh : vHasB t n l v with
  | false => exact .none (by unfold vOutV; rw [if_neg h1, if_pos hh]) hh
  | true =>
    by_cases hv : v = n
    · exact .un (by unfold vOutV; rw [if_neg h1, if_neg (by rw [hh]; decide), if_pos hv]) hr hf hh hv
    · exact .tag (by unfold vOutV; rw [if_neg h1, if_neg (by rw [hh]; decide), if_neg hv]) hr hf hh hv
theorem in_un {t : Bool} {n : Int} {l : List Int} {f : FrameV} (hr : vRightB t n l = true) (hf : fRightB f = true) : vInV t n l { f with Tagged := false, Priority := 0, Vlan := 0 } = if vHasB t n l n = false then (0, 5) else (n, 0) := by
  unfold vInV
  rw [if_neg (fun q => q.elim (fun q => absurd (q.symm.trans hr) (by decide)) (fun q => absurd (q.symm.trans (right_un hf)) (by decide))), if_neg (fun q => q.1 rfl)]
  rfl
theorem in_tag {t : Bool} {n : Int} {l : List Int} {f : FrameV} {v : Int} (hr : vRightB t n l = true) (hf : fRightB f = true) (hh : vHasB t n l v = true) (hv : ¬ v = n) : vInV t n l { f with Tagged := true, Vlan := v } = (v, 0) := by
  have h1 := has_range hh
  have ht : t = true := by
    unfold vHasB at hh
    cases t
    · simp at hh; exact absurd hh.2 hv
    · rfl
  unfold vInV
  rw [if_neg (fun q => q.elim (fun q => absurd (q.symm.trans hr) (by decide)) (fun q => absurd (q.symm.trans (right_tag hf h1)) (by decide))), if_neg (fun q => absurd (q.2.symm.trans ht) (by decide))]
  show (if vHasB t n l (if v = 0 then n else v) = false then ((0 : Int), (5 : Int)) else (if v = 0 then n else v, 0)) = _
  rw [if_neg (c := v = 0) (by omega), if_neg (by rw [hh]; decide)]
theorem ok_VlanportThrough : (match Try.f7.body with | some c => codeOk Try.f7.ntmps c | none => false) = true := by kernel_rfl
theorem en_VlanportThrough : ∃ fn, Try.prog.funcs[7]? = some fn ∧ (fn.name == "runtime.NumGoroutine") = false ∧ fn.body.isNone = false := ⟨_, Try.func7, by kernel_rfl, by kernel_rfl⟩
theorem VlanportThrough_w (t : Bool) (n : Int) (l : List Int) (f : FrameV) (v : Int) (nat_ : Int) (A : Option Addr) (c : Nat) (w : World) (hs : SlAt w A 1 (ints l)) : PuAt Try.prog 7 [.agg ⟨[.bool t, .int .i64 n, .slice A l.length c]⟩, .agg ⟨f.enc⟩, .int .i64 v, .int .i64 nat_] (.bool true) w := by
  have hc := outCase t n l f v
  refine funcR_pure tyOk wide Try.func7 ok_VlanportThrough (Nat.le_of_ble_eq_true rfl) ?_
  repeat' first
    | (conv => whnf
       first
       | intro _
       | (first | refine selSplit (fun h => ?_) (fun h => ?_) | refine condSplit (fun h => ?_) (fun h => ?_)) <;> first | exact (clash (by assumption) h).elim | exact (clash h (by assumption)).elim | (simp only [decide_eq_true_eq, decide_eq_false_iff_not, Bool.not_eq_true', Bool.not_eq_false', Bool.not_true, Bool.not_false, Bool.or_eq_true, Bool.and_eq_true, Bool.or_eq_false_iff, Bool.and_eq_false_iff, beq_iff_eq, beq_eq_false_iff_ne, ne_eq] at h; first | (exfalso; omega) | skip) | skip
       | refine SeqP.go ?_
       | refine cdM ?_
       | exact IsV.mk
       | apply GuardP.mk
       | ((first | apply callPure' en_awake06 | apply callQuiet' en_awake06); · exact fun w _ => awake06_w w)
       | ((first | apply callPure' en_few1 | apply callQuiet' en_few1); · exact fun w _ => few1_w f w)
       | ((first | apply callPure' en_vOut | apply callQuiet' en_vOut); · exact fun w hw => vOut_w t n l f v A c w (hs.later hw) (by omega))
       | ((first | apply callPure' en_vIn | apply callQuiet' en_vIn); · exact fun w hw => vIn_w t n l (vOutV t n l f v).1 A c w (hs.later hw) (by omega))
       | ((first | apply callPure' en_vIn | apply callQuiet' en_vIn); · exact fun w hw => vIn_w t nat_ l (vOutV t n l f v).1 A c w (hs.later hw) (by omega))
       | ((first | apply callPure' en_vHas | apply callQuiet' en_vHas); · exact fun w hw => vHas_w t n l v A c w (hs.later hw) (by omega))
       | ((first | apply callPure' en_vHas | apply callQuiet' en_vHas); · exact fun w hw => vHas_w t nat_ l nat_ A c w (hs.later hw) (by omega))
       | ((first | apply callPure' en_vRight | apply callQuiet' en_vRight); · exact fun w hw => vRight_w t nat_ l A c w (hs.later hw) (by omega))
       | ((first | apply callPure' en_fRight | apply callQuiet' en_fRight); · exact fun w _ => fRight_w (vOutV t n l f v).1 w)
       | (first | refine eqlW eqS50 rfl rfl rfl fitM fitM ?_ | refine neqW eqS50 rfl rfl rfl fitM fitM ?_)
       | refine Or.inl ⟨_, _, hasM, ?_⟩
       | refine Or.inl ⟨_, _, _, holeM, rfl, rfl, ?_⟩
       | refine lA ?_
       | refine lA0 ?_
       | refine lA1 ?_
       | refine lO ?_
       | refine lO0 ?_
       | refine lO1 ?_
       | refine lR ?_
       | refine lG ?_
       | refine lG0 ?_
       | refine tA ?_
       | refine tA0 ?_
       | refine tA1 ?_
       | refine BytW.ofBlk hasM rfl rfl ?_
       | refine AppW.noneB hasM leM rfl rfl rfl leM leM ?_
       | refine AppW.rowB hasM leM rfl rfl holeM leM leM ?_
       | refine AppW.blkB hasM leM rfl rfl holeM rfl rfl leM leM ?_
       | refine AppW.rowS hasM leM rfl rfl holeM (by omega) leM ?_
       | refine AppW.arrS hasM leM rfl rfl rfl holeM (by first | omega | (simp; omega)) leM ?_
       | refine ⟨sideM, ?_⟩
       | fail)
  all_goals (try conv => whnf)
  · rfl
  · refine v_bool ?_
    cases hc with
    | no h' => rw [h']; (simp [allEq, cellEq, FrameV.zero, td50]; rfl)
    | none h' hh => rw [h', hh]; (simp [allEq, cellEq, FrameV.zero, td50]; rfl)
    | un h' => rw [h'] at h; exact absurd rfl h
    | tag h' => rw [h'] at h; exact absurd rfl h
  · exfalso
    cases hc with
    | no h' => have h0 : (vOutV t n l f v).2 = 0 := (by assumption); rw [h'] at h0; exact absurd h0 (by decide)
    | none h' => have h0 : (vOutV t n l f v).2 = 0 := (by assumption); rw [h'] at h0; exact absurd h0 (by decide)
    | un h' hr hf hh hv =>
      subst hv
      rw [h', in_un hr hf, if_neg (by rw [hh]; decide)] at h
      simp [right_un hf] at h
    | tag h' hr hf hh hv =>
      rw [h', in_tag hr hf hh hv] at h
      simp [right_tag hf (has_range hh), hv] at h
  · rfl
  · have g : (t = true ∧ vRightB t nat_ l = true) ∧ v = n := by assumption
    refine v_bool ?_
    cases hc with
    | no h' => have h0 : (vOutV t n l f v).2 = 0 := (by assumption); rw [h'] at h0; exact absurd h0 (by decide)
    | none h' => have h0 : (vOutV t n l f v).2 = 0 := (by assumption); rw [h'] at h0; exact absurd h0 (by decide)
    | un h' hr hf hh hv => rw [h', in_un g.1.2 hf, if_pos h]; rfl
    | tag h' hr hf hh hv => exact absurd g.2 hv
  · have g : (t = true ∧ vRightB t nat_ l = true) ∧ v = n := by assumption
    refine v_bool ?_
    cases hc with
    | no h' => have h0 : (vOutV t n l f v).2 = 0 := (by assumption); rw [h'] at h0; exact absurd h0 (by decide)
    | none h' => have h0 : (vOutV t n l f v).2 = 0 := (by assumption); rw [h'] at h0; exact absurd h0 (by decide)
    | un h' hr hf hh hv => rw [h', in_un g.1.2 hf, if_neg (by rw [h]; decide)]; simp
    | tag h' hr hf hh hv => exact absurd g.2 hv
theorem ints_of : ∀ (l : List (List Value)), (∀ e ∈ l, ∃ x : Int, e = [.int .i64 x]) → ∃ xs : List Int, l = ints xs
  | [], _ => ⟨[], rfl⟩
  | e :: l, h => by
    obtain ⟨x, hx⟩ := h e List.mem_cons_self
    obtain ⟨xs, hxs⟩ := ints_of l fun e he => h e (List.mem_cons_of_mem _ he)
    exact ⟨x :: xs, by rw [hx, hxs]; rfl⟩
theorem VlanportTells_n (t : Bool) (n : Int) (L : List (List Value)) (s : ByteArray) (f : FrameV) (v : Int) (A : Option Addr) (c : Nat) (w : World) (h : ∀ e ∈ L, e.length = 1 ∧ RInt .i64 w e) (hr : 0 < L.length → ∃ b o, A = some ⟨b, o, none⟩ ∧ ∀ i e, L[i]? = some e → w.rangeAt b (o + i * 1) e) : PuAt Try.prog 6 [.agg ⟨[.bool t, .int .i64 n, .slice A L.length c]⟩, .string s, .agg ⟨f.enc⟩, .int .i64 v] (.bool true) w := by
  obtain ⟨l, rfl⟩ := ints_of L fun e he => by obtain ⟨x, hx, _⟩ := (h e he).2; exact ⟨x, hx⟩
  rw [ints_len]
  exact VlanportTells_w t n l s f v A c w (slAt_of (fun e he => (h e he).1) hr)
theorem VlanportThrough_n (t : Bool) (n : Int) (L : List (List Value)) (f : FrameV) (v : Int) (nat_ : Int) (A : Option Addr) (c : Nat) (w : World) (h : ∀ e ∈ L, e.length = 1 ∧ RInt .i64 w e) (hr : 0 < L.length → ∃ b o, A = some ⟨b, o, none⟩ ∧ ∀ i e, L[i]? = some e → w.rangeAt b (o + i * 1) e) : PuAt Try.prog 7 [.agg ⟨[.bool t, .int .i64 n, .slice A L.length c]⟩, .agg ⟨f.enc⟩, .int .i64 v, .int .i64 nat_] (.bool true) w := by
  obtain ⟨l, rfl⟩ := ints_of L fun e he => by obtain ⟨x, hx, _⟩ := (h e he).2; exact ⟨x, hx⟩
  rw [ints_len]
  exact VlanportThrough_w t n l f v nat_ A c w (slAt_of (fun e he => (h e he).1) hr)
end Go.Proofs.Ytgjdmlgdgbehoaa.Am
