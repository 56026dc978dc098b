/- The laws of layer 11: awake; InfoOff. -/
import Derived.Test.YtmgoahmbdpoikaaInfo2
import Derived.Test.YtmgoahmbdpoikaaSendL
set_option linter.unusedVariables false
set_option linter.unusedSimpArgs false
set_option maxRecDepth 100000
set_option maxHeartbeats 4000000
namespace Go.Proofs.Ytmgoahmbdpoikaa.Am
open Go Go.RowKit
theorem chooseOk_pos {b : BridgeV} {ps : List PortV} (h : chooseOk b ps = true) : 0 < ps.length := by
  cases ps with
  | nil => simp [chooseOk, anyRe, idxRe] at h
  | cons p r => simp
theorem Choose_w (b : BridgeV) (ps : List PortV) (n : Nat) (hn : ps.length = n) (A : Option Addr) (c : Nat) (w : World) (hs : SlAt w A 61 (ps.map PortV.enc)) (hlen : n ≤ 1000) :
    FnX Try.prog 38 [.agg ⟨b.enc⟩, .slice A n c] [] (fun s : Option Addr × Nat => IsRow (.slice s.1 n s.2) n) (fun s => .tuple ⟨[.slice s.1 n s.2, .bool (chooseV b ps).2]⟩) (fun s => [.arr (.slice s.1 n s.2) 28 61 ((chooseV b ps).1.map PortV.enc)]) w := by
  by_cases h : chooseOk b ps = true
  · have e : chooseV b ps = (ps.mapIdx (choseF b ps (bestV b.Id (infosV ps))), true) := by unfold chooseV; rw [if_pos h]
    rw [e]
    exact (Choose_yes b ps n hn A c w hs hlen h (by rw [← hn]; exact chooseOk_pos h)).map fun s hs => ⟨(some ⟨s.1, 0, none⟩, s.2), .inr ⟨_, _, rfl, hs⟩, rfl, Ent.refl⟩
  · have e : chooseV b ps = (ps, false) := by unfold chooseV; rw [if_neg h]
    rw [e]
    exact Choose_no b ps n hn A c w hs hlen (by simpa using h)
def iB : BpduV := ⟨3, 14, 1, 0, 2, 1, 0, 5120, 512, 3840⟩
def iP : PortV := powerV (newV 1 4 true) true
def iP2 : PortV := { iP with Vector_Root := 1152921504606846976 }
def iQ : PortV := hearV iP2 iB
def iR : PortV := ((chooseV (usualV 9) [iQ]).1[0]?).getD PortV.zero
theorem i_choose : chooseV (usualV 9) [iQ] = ([iR], true) := by kernel_rfl
theorem i_again : chooseV (usualV 9) [iR] = ([iR], false) := by kernel_rfl
theorem iChoose (A : Option Addr) (c : Nat) (w : World) (hs : SlAt w A 61 ([iQ].map PortV.enc)) : FnX Try.prog 38 [.agg ⟨(usualV 9).enc⟩, .slice A 1 c] [] (fun s : Nat × Nat => 1 ≤ s.2) (fun s => .tuple ⟨[.slice (some ⟨s.1, 0, none⟩) 1 s.2, .bool true]⟩) (fun s => [.arr (.slice (some ⟨s.1, 0, none⟩) 1 s.2) 28 61 [iR.enc]]) w := by
  have h := Choose_w (usualV 9) [iQ] 1 rfl A c w hs (by decide)
  rw [i_choose] at h
  exact h.map fun s hs => by
    obtain ⟨A, q⟩ := s
    obtain ⟨g, rfl, hq⟩ := hs.at_ (by decide)
    exact ⟨(g, q), hq, rfl, Ent.refl⟩
theorem iAgain (A : Option Addr) (c : Nat) (w : World) (hs : SlAt w A 61 ([iR].map PortV.enc)) : FnX Try.prog 38 [.agg ⟨(usualV 9).enc⟩, .slice A 1 c] [] (fun s : Nat × Nat => 1 ≤ s.2) (fun s => .tuple ⟨[.slice (some ⟨s.1, 0, none⟩) 1 s.2, .bool false]⟩) (fun s => [.arr (.slice (some ⟨s.1, 0, none⟩) 1 s.2) 28 61 [iR.enc]]) w := by
  have h := Choose_w (usualV 9) [iR] 1 rfl A c w hs (by decide)
  rw [i_again] at h
  exact h.map fun s hs => by
    obtain ⟨A, q⟩ := s
    obtain ⟨g, rfl, hq⟩ := hs.at_ (by decide)
    exact ⟨(g, q), hq, rfl, Ent.refl⟩
theorem i_len (l : List PortV) : ∀ x ∈ l.map PortV.enc, x.length = 61 := ports_len l
theorem ok_awake11 : (match Try.f28.body with | some c => codeOk Try.f28.ntmps c | none => false) = true := by kernel_rfl
theorem en_awake11 : ∃ fn, Try.prog.funcs[28]? = some fn ∧ (fn.name == "runtime.NumGoroutine") = false ∧ fn.body.isNone = false := ⟨_, Try.func28, by kernel_rfl, by kernel_rfl⟩
theorem awake11_w (w : World) : PuAt Try.prog 28 [] (.bool true) w := by
  refine funcR_pure tyOk wide Try.func28 ok_awake11 (Nat.le_of_ble_eq_true rfl) ?_
  repeat' first
    | (conv => whnf
       first
       | intro _
       | (first | refine selSplit (fun h => ?_) (fun h => ?_) | refine condSplit (fun h => ?_) (fun h => ?_)) <;> first | exact (clash (by assumption) h).elim | exact (clash h (by assumption)).elim | (simp only [decide_eq_true_eq, decide_eq_false_iff_not, Bool.not_eq_true', Bool.not_eq_false', Bool.not_true, Bool.not_false, Bool.or_eq_true, Bool.and_eq_true, Bool.or_eq_false_iff, Bool.and_eq_false_iff, beq_iff_eq, beq_eq_false_iff_ne, ne_eq] at h; first | (exfalso; omega) | skip) | skip
       | (first | refine drM (.quiet 0 (.quiet 1 (.last 2 true (.last 3 false (.last 4 false (.pure 5 (.pure 6 (.last 7 false (.last 8 false .done))))))))) (SubL.refl _) ?_)
       | refine AltP.mk ?_ ?_
       | refine kpM ?_
       | refine SeqP.go ?_
       | refine cdM ?_
       | exact IsV.mk
       | apply GuardP.mk
       | ((first | apply callPure' en_sNew | apply callQuiet' en_sNew); · exact fun w _ => sNew_w 1 4 true w)
       | ((first | apply callPure' en_sNew | apply callQuiet' en_sNew); · exact fun w _ => sNew_w 1 4 false w)
       | ((first | apply callPure' en_Power | apply callQuiet' en_Power); · exact fun w _ => Power_w (newV 1 4 true) true w)
       | ((first | apply callPure' en_Power | apply callQuiet' en_Power); · exact fun w _ => Power_w (newV 1 4 false) true w)
       | ((first | apply callPure' en_Hear | apply callQuiet' en_Hear); · exact fun w _ => Hear_w iP iB w)
       | ((first | apply callPure' en_Hear | apply callQuiet' en_Hear); · exact fun w _ => Hear_w iP2 iB w)
       | ((first | apply callPure' en_Usual | apply callQuiet' en_Usual); · exact fun w _ => Usual_w _ w)
       | (refine callX takeM en_Choose (fun w hw => iChoose _ 1 w (hw.blkSl hasM rfl (i_len _))) ?_)
       | (refine callX takeM en_Choose (fun w hw => iAgain _ _ w (hw.arrSl hasM)) ?_)
       | ((first | apply callPure' en_Settle | apply callQuiet' en_Settle); · exact fun w _ => Settle_w (powerV (newV 1 4 false) true) w)
       | ((first | apply callPure' en_iAge | apply callQuiet' en_iAge); · exact fun w _ => iAge_w { iQ with Info := 0 } w)
       | ((first | apply callPure' en_infoRight | apply callQuiet' en_infoRight); · exact fun w _ => infoRight_w _ w)
       | (first | refine eqlW eqS28 rfl rfl rfl fitM fitM ?_ | refine neqW eqS28 rfl rfl rfl fitM fitM ?_ | refine eqlW eqS24 rfl rfl rfl fitM fitM ?_ | refine neqW eqS24 rfl rfl rfl fitM fitM ?_ | refine eqlW eqS26 rfl rfl rfl fitM fitM ?_ | refine neqW eqS26 rfl rfl rfl fitM fitM ?_)
       | refine Or.inl ⟨_, _, hasM, ?_⟩
       | refine Or.inl ⟨_, _, _, holeM, rfl, rfl, ?_⟩
       | refine lA ?_
       | refine lA0 ?_
       | refine lA1 ?_
       | refine lO ?_
       | refine lO0 ?_
       | refine lO1 ?_
       | refine lR ?_
       | refine lG ?_
       | refine lG0 ?_
       | refine tA ?_
       | refine tA0 ?_
       | refine tA1 ?_
       | refine BytW.ofBlk hasM rfl rfl ?_
       | refine AppW.noneB hasM leM rfl rfl rfl leM leM ?_
       | refine AppW.rowB hasM leM rfl rfl holeM leM leM ?_
       | refine AppW.blkB hasM leM rfl rfl holeM rfl rfl leM leM ?_
       | refine AppW.rowS hasM leM rfl rfl holeM (by omega) leM ?_
       | refine AppW.arrS hasM leM rfl rfl rfl holeM (by first | omega | (simp; omega)) leM ?_
       | refine ⟨sideM, ?_⟩
       | fail)
  all_goals (try conv => whnf)
  all_goals exact v_bool (by decide +kernel)
theorem off_on (p : PortV) : (powerV p false).On = false := by
  unfold powerV anewV
  split
  · assumption
  · rfl
theorem hear_off {p : PortV} (b : BpduV) (h : p.On = false) : hearV p b = p := by unfold hearV; rw [if_pos (.inl h)]
theorem power_same {p : PortV} {on : Bool} (h : p.On = on) : powerV p on = p := by unfold powerV; rw [if_pos h]
theorem on_on {p : PortV} (h : p.On = false) : powerV p true = anewV { p with On := true, Source := 1 } := by unfold powerV; rw [if_neg (by rw [h]; decide), if_pos rfl]
theorem off_of {p : PortV} (h : p.On = true) : powerV p false = anewV { p with On := false, Source := 0, Info := 0, Oper := p.Admin, Proposing := false, Proposed := false, Agree := false, Agreed := false } := by unfold powerV; rw [if_neg (by rw [h]; decide), if_neg (by decide)]
theorem eqSelf (p : PortV) : allEq p.enc p.enc = true := (PortV.eqEnc p p).2 rfl
theorem ok_InfoOff : (match Try.f9.body with | some c => codeOk Try.f9.ntmps c | none => false) = true := by kernel_rfl
theorem en_InfoOff : ∃ fn, Try.prog.funcs[9]? = some fn ∧ (fn.name == "runtime.NumGoroutine") = false ∧ fn.body.isNone = false := ⟨_, Try.func9, by kernel_rfl, by kernel_rfl⟩
theorem InfoOff_w (p : PortV) (b : BpduV) (w : World) : PuAt Try.prog 9 [.agg ⟨p.enc⟩, .agg ⟨b.enc⟩] (.bool true) w := by
  refine funcR_pure tyOk wide Try.func9 ok_InfoOff (Nat.le_of_ble_eq_true rfl) ?_
  have h1 := off_on p
  have c1 := fun w => Power_w p false w
  obtain ⟨o, ho⟩ : ∃ o, powerV p false = o := ⟨_, rfl⟩
  rw [ho] at h1
  have c1 : ∀ w, PuAt _ _ _ (.agg ⟨o.enc⟩) w := fun w => by have := c1 w; rw [ho] at this; exact this
  have c2 : ∀ w, PuAt _ _ _ (.agg ⟨o.enc⟩) w := fun w => by have := Hear_w o b w; rw [hear_off b h1] at this; exact this
  have c3 : ∀ w, PuAt _ _ _ (.agg ⟨o.enc⟩) w := fun w => by have := Power_w o false w; rw [power_same h1] at this; exact this
  have c4 := fun w => Power_w o true w
  obtain ⟨n, hn⟩ : ∃ n, powerV o true = n := ⟨_, rfl⟩
  have hn2 := on_on h1
  rw [hn] at hn2
  have hno : n.On = true := by rw [hn2]; rfl
  have c4 : ∀ w, PuAt _ _ _ (.agg ⟨n.enc⟩) w := fun w => by have := c4 w; rw [hn] at this; exact this
  have c5 : ∀ w, PuAt _ _ _ (.agg ⟨n.enc⟩) w := fun w => by have := Power_w n true w; rw [power_same hno] at this; exact this
  repeat' first
    | (conv => whnf
       first
       | intro _
       | (first | refine selSplit (fun h => ?_) (fun h => ?_) | refine condSplit (fun h => ?_) (fun h => ?_)) <;> first | exact (clash (by assumption) h).elim | exact (clash h (by assumption)).elim | (simp only [decide_eq_true_eq, decide_eq_false_iff_not, Bool.not_eq_true', Bool.not_eq_false', Bool.not_true, Bool.not_false, Bool.or_eq_true, Bool.and_eq_true, Bool.or_eq_false_iff, Bool.and_eq_false_iff, beq_iff_eq, beq_eq_false_iff_ne, ne_eq] at h; first | (exfalso; omega) | skip) | skip
       | (first | refine drC (.quiet 0 (.quiet 1 (.quiet 2 (.quiet 3 (.quiet 4 (.quiet 5 (.quiet 6 (.quiet 7 (.quiet 8 (.quiet 9 (.quiet 10 (.quiet 11 (.quiet 12 (.quiet 13 (.quiet 14 .done))))))))))))))) (SubL.refl _) ?_ | refine drC (.quiet 0 (.quiet 1 (.quiet 2 (.quiet 3 (.quiet 4 (.quiet 5 (.quiet 6 (.quiet 7 (.quiet 8 (.quiet 9 (.quiet 10 (.quiet 11 (.quiet 12 (.quiet 13 (.quiet 14 (.quiet 15 (.quiet 16 (.quiet 17 (.quiet 18 (.quiet 19 (.quiet 20 (.quiet 21 (.quiet 22 .done))))))))))))))))))))))) (SubL.refl _) ?_)
       | refine AltP.mk ?_ ?_
       | refine kpM ?_
       | refine SeqP.go ?_
       | refine cdM ?_
       | exact IsV.mk
       | apply GuardP.mk
       | ((first | apply callPure' en_awake11 | apply callQuiet' en_awake11); · exact fun w _ => awake11_w w)
       | ((first | apply callPure' en_Power | apply callQuiet' en_Power); · exact fun w _ => c1 w)
       | ((first | apply callPure' en_Hear | apply callQuiet' en_Hear); · exact fun w _ => c2 w)
       | ((first | apply callPure' en_Power | apply callQuiet' en_Power); · exact fun w _ => c3 w)
       | ((first | apply callPure' en_Power | apply callQuiet' en_Power); · exact fun w _ => c4 w)
       | ((first | apply callPure' en_Power | apply callQuiet' en_Power); · exact fun w _ => c5 w)
       | (first | refine eqlW eqS28 rfl rfl rfl fitM fitM ?_ | refine neqW eqS28 rfl rfl rfl fitM fitM ?_ | refine eqlW eqS24 rfl rfl rfl fitM fitM ?_ | refine neqW eqS24 rfl rfl rfl fitM fitM ?_ | refine eqlW eqS26 rfl rfl rfl fitM fitM ?_ | refine neqW eqS26 rfl rfl rfl fitM fitM ?_)
       | refine Or.inl ⟨_, _, hasM, ?_⟩
       | refine Or.inl ⟨_, _, _, holeM, rfl, rfl, ?_⟩
       | refine lA ?_
       | refine lA0 ?_
       | refine lA1 ?_
       | refine lO ?_
       | refine lO0 ?_
       | refine lO1 ?_
       | refine lR ?_
       | refine lG ?_
       | refine lG0 ?_
       | refine tA ?_
       | refine tA0 ?_
       | refine tA1 ?_
       | refine BytW.ofBlk hasM rfl rfl ?_
       | refine AppW.noneB hasM leM rfl rfl rfl leM leM ?_
       | refine AppW.rowB hasM leM rfl rfl holeM leM leM ?_
       | refine AppW.blkB hasM leM rfl rfl holeM rfl rfl leM leM ?_
       | refine AppW.rowS hasM leM rfl rfl holeM (by omega) leM ?_
       | refine AppW.arrS hasM leM rfl rfl rfl holeM (by first | omega | (simp; omega)) leM ?_
       | refine ⟨sideM, ?_⟩
       | fail)
  all_goals (try conv => whnf)
  · exfalso
    rcases h with (h | h) | h
    · rw [h1] at h; cases h
    · exact absurd ((eqSelf o).symm.trans h) (by decide)
    · exact absurd ((eqSelf o).symm.trans h) (by decide)
  · exfalso
    rcases h with (((h | h) | h) | h) | h
    · rw [hno] at h; cases h
    · exact h (by rw [hn2]; rfl)
    · rw [hn2] at h; cases h
    · rw [hn2] at h; cases h
    · exact absurd ((eqSelf n).symm.trans h) (by decide)
  · have e : o = p := ho.symm.trans (power_same h)
    subst e
    exact v_bool (eqSelf _)
  · rw [off_of h] at ho
    subst ho
    refine v_bool ?_
    simp [anewV]
end Go.Proofs.Ytmgoahmbdpoikaa.Am
