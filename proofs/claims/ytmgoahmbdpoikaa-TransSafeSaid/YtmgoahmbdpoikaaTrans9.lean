/- The law TransSafe. -/
import Derived.Test.YtmgoahmbdpoikaaTrans8
set_option linter.unusedVariables false
set_option linter.unusedSimpArgs false
set_option maxRecDepth 100000
set_option maxHeartbeats 4000000
namespace Go.Proofs.Ytmgoahmbdpoikaa.Am
open Go Go.RowKit
def eC : PortV := ((chooseV (usualV 9) [iP]).1[0]?).getD PortV.zero
theorem e_choose : chooseV (usualV 9) [iP] = ([eC], true) := by kernel_rfl
def edge12V : PortV := settleV eC
theorem eChoose (A : Option Addr) (c : Nat) (w : World) (hs : SlAt w A 61 ([iP].map PortV.enc)) : FnX Try.prog 38 [.agg ⟨(usualV 9).enc⟩, .slice A 1 c] [] (fun s : Nat × Nat => 1 ≤ s.2) (fun s => .tuple ⟨[.slice (some ⟨s.1, 0, none⟩) 1 s.2, .bool true]⟩) (fun s => [.arr (.slice (some ⟨s.1, 0, none⟩) 1 s.2) 28 61 [eC.enc]]) w := by
  have h := Choose_w (usualV 9) [iP] 1 rfl A c w hs (by decide)
  rw [e_choose] at h
  exact h.map fun s hs => by
    obtain ⟨A, q⟩ := s
    obtain ⟨g, rfl, hq⟩ := hs.at_ (by decide)
    exact ⟨(g, q), hq, rfl, Ent.refl⟩
theorem ok_Edge12 : (match Try.f75.body with | some c => codeOk Try.f75.ntmps c | none => false) = true := by kernel_rfl
theorem en_Edge12 : ∃ fn, Try.prog.funcs[75]? = some fn ∧ (fn.name == "runtime.NumGoroutine") = false ∧ fn.body.isNone = false := ⟨_, Try.func75, by kernel_rfl, by kernel_rfl⟩
theorem Edge12_w (w : World) : PuAt Try.prog 75 [] (.agg ⟨edge12V.enc⟩) w := by
  refine funcR_pure tyOk wide Try.func75 ok_Edge12 (Nat.le_of_ble_eq_true rfl) ?_
  repeat' first
    | (conv => whnf
       first
       | intro _
       | (first | refine selSplit (fun h => ?_) (fun h => ?_) | refine condSplit (fun h => ?_) (fun h => ?_)) <;> first | exact (clash (by assumption) h).elim | exact (clash h (by assumption)).elim | (simp only [decide_eq_true_eq, decide_eq_false_iff_not, Bool.not_eq_true', Bool.not_eq_false', Bool.not_true, Bool.not_false, Bool.or_eq_true, Bool.and_eq_true, Bool.or_eq_false_iff, Bool.and_eq_false_iff, beq_iff_eq, beq_eq_false_iff_ne, ne_eq] at h; first | (exfalso; omega) | skip) | skip
       | (first | refine drM (.quiet 0 (.quiet 1 (.last 2 true (.last 3 false (.last 4 false (.pure 5 (.pure 6 (.last 7 false (.last 8 false .done))))))))) (SubL.refl _) ?_)
       | refine AltP.mk ?_ ?_
       | refine kpM ?_
       | refine SeqP.go ?_
       | refine cdM ?_
       | exact IsV.mk
       | apply GuardP.mk
       | ((first | apply callPure' en_sNew | apply callQuiet' en_sNew); · exact fun w _ => sNew_w 1 4 true w)
       | ((first | apply callPure' en_Power | apply callQuiet' en_Power); · exact fun w _ => Power_w (newV 1 4 true) true w)
       | ((first | apply callPure' en_Usual | apply callQuiet' en_Usual); · exact fun w _ => Usual_w _ w)
       | (refine callX takeM en_Choose (fun w hw => eChoose _ 1 w (hw.blkSl hasM rfl (i_len _))) ?_)
       | ((first | apply callPure' en_Settle | apply callQuiet' en_Settle); · exact fun w _ => Settle_w eC w)
       | (first | refine eqlW eqS28 rfl rfl rfl fitM fitM ?_ | refine neqW eqS28 rfl rfl rfl fitM fitM ?_ | refine eqlW eqS24 rfl rfl rfl fitM fitM ?_ | refine neqW eqS24 rfl rfl rfl fitM fitM ?_ | refine eqlW eqS26 rfl rfl rfl fitM fitM ?_ | refine neqW eqS26 rfl rfl rfl fitM fitM ?_)
       | refine Or.inl ⟨_, _, hasM, ?_⟩
       | refine Or.inl ⟨_, _, _, holeM, rfl, rfl, ?_⟩
       | refine lA ?_
       | refine lA0 ?_
       | refine lA1 ?_
       | refine lO ?_
       | refine lO0 ?_
       | refine lO1 ?_
       | refine lR ?_
       | refine lG ?_
       | refine lG0 ?_
       | refine tA ?_
       | refine tA0 ?_
       | refine tA1 ?_
       | refine BytW.ofBlk hasM rfl rfl ?_
       | refine AppW.noneB hasM leM rfl rfl rfl leM leM ?_
       | refine AppW.rowB hasM leM rfl rfl holeM leM leM ?_
       | refine AppW.blkB hasM leM rfl rfl holeM rfl rfl leM leM ?_
       | refine AppW.rowS hasM leM rfl rfl holeM (by omega) leM ?_
       | refine AppW.arrS hasM leM rfl rfl rfl holeM (by first | omega | (simp; omega)) leM ?_
       | refine ⟨sideM, ?_⟩
       | fail)
  all_goals (try conv => whnf)
  all_goals first
    | rfl
    | (exfalso; exact h trivial)
def b9 : BridgeV := usualV 9
def rP : PortV := ((restV b9 [edge12V]).1[0]?).getD PortV.zero
def rN : Int := (restV b9 [edge12V]).2
theorem r_rest : restV b9 [edge12V] = ([rP], rN) := by kernel_rfl
theorem r_move0 : moveV b9 [rP] 0 = ([rP], false) := by kernel_rfl
theorem r_move1 : moveV b9 [rP] 1 = ([rP], false) := by kernel_rfl
theorem r_pass : passTV b9 [rP] = [rP] := by kernel_rfl
def sP : PortV := { PortV.zero with Learn := true, Forward := true }
theorem up1 {f : FuncId} {args : List Value} {v : Nat × Nat → Value} {w : World} {qs : List PortV} {mk : Value → Value} (hm : ∀ x : Option Addr × Nat, True)
    (h : FnX Try.prog f args [] (fun s : Option Addr × Nat => IsRow (.slice s.1 1 s.2) 1) (fun s => mk (.slice s.1 1 s.2)) (fun s => [.arr (.slice s.1 1 s.2) 28 61 (qs.map PortV.enc)]) w) :
    FnX Try.prog f args [] (fun s : Nat × Nat => 1 ≤ s.2) (fun s => mk (.slice (some ⟨s.1, 0, none⟩) 1 s.2)) (fun s => [.arr (.slice (some ⟨s.1, 0, none⟩) 1 s.2) 28 61 (qs.map PortV.enc)]) w :=
  h.map fun s hs => by
    obtain ⟨A, q⟩ := s
    obtain ⟨g, rfl, hq⟩ := hs.at_ (by decide)
    exact ⟨(g, q), hq, rfl, Ent.refl⟩
theorem rRest (A : Option Addr) (c : Nat) (w : World) (hs : SlAt w A 61 ([edge12V].map PortV.enc)) : FnX Try.prog 74 [.agg ⟨b9.enc⟩, .slice A 1 c] [] (fun s : Nat × Nat => 1 ≤ s.2) (fun s => .tuple ⟨[.slice (some ⟨s.1, 0, none⟩) 1 s.2, .int .i64 rN]⟩) (fun s => [.arr (.slice (some ⟨s.1, 0, none⟩) 1 s.2) 28 61 [rP.enc]]) w := by
  have h := tRest_w b9 [edge12V] 1 rfl A c w hs (by decide)
  rw [r_rest] at h
  exact up1 (v := fun _ => .bool true) (mk := fun x => .tuple ⟨[x, .int .i64 rN]⟩) (qs := [rP]) (fun _ => trivial) h
theorem rMove (j : Nat) (hj : moveV b9 [rP] j = ([rP], false)) (A : Option Addr) (c : Nat) (w : World) (hs : SlAt w A 61 ([rP].map PortV.enc)) : FnX Try.prog 76 [.agg ⟨b9.enc⟩, .slice A 1 c, .int .i64 j] [] (fun s : Nat × Nat => 1 ≤ s.2) (fun s => .tuple ⟨[.slice (some ⟨s.1, 0, none⟩) 1 s.2, .bool false]⟩) (fun s => [.arr (.slice (some ⟨s.1, 0, none⟩) 1 s.2) 28 61 [rP.enc]]) w := by
  have h := Move_w b9 [rP] 1 j rfl A c w hs (by decide)
  rw [hj] at h
  exact up1 (v := fun _ => .bool true) (mk := fun x => .tuple ⟨[x, .bool false]⟩) (qs := [rP]) (fun _ => trivial) h
theorem rMove0 (A : Option Addr) (c : Nat) (w : World) (hs : SlAt w A 61 ([rP].map PortV.enc)) : FnX Try.prog 76 [.agg ⟨b9.enc⟩, .slice A 1 c, .int .i64 0] [] (fun s : Nat × Nat => 1 ≤ s.2) (fun s => .tuple ⟨[.slice (some ⟨s.1, 0, none⟩) 1 s.2, .bool false]⟩) (fun s => [.arr (.slice (some ⟨s.1, 0, none⟩) 1 s.2) 28 61 [rP.enc]]) w := rMove 0 r_move0 A c w hs
theorem rMove1 (A : Option Addr) (c : Nat) (w : World) (hs : SlAt w A 61 ([rP].map PortV.enc)) : FnX Try.prog 76 [.agg ⟨b9.enc⟩, .slice A 1 c, .int .i64 1] [] (fun s : Nat × Nat => 1 ≤ s.2) (fun s => .tuple ⟨[.slice (some ⟨s.1, 0, none⟩) 1 s.2, .bool false]⟩) (fun s => [.arr (.slice (some ⟨s.1, 0, none⟩) 1 s.2) 28 61 [rP.enc]]) w := rMove 1 r_move1 A c w hs
theorem rPass (A : Option Addr) (c : Nat) (w : World) (hs : SlAt w A 61 ([rP].map PortV.enc)) : FnX Try.prog 43 [.agg ⟨b9.enc⟩, .slice A 1 c] [] (fun s : Nat × Nat => 1 ≤ s.2) (fun s => .tuple ⟨[.slice (some ⟨s.1, 0, none⟩) 1 s.2, .bool false]⟩) (fun s => [.arr (.slice (some ⟨s.1, 0, none⟩) 1 s.2) 28 61 [rP.enc]]) w := by
  have h := tPass_w b9 [rP] 1 rfl A c w hs (by decide)
  have e : (!eqPs (passTV b9 [rP]) [rP]) = false := by rw [r_pass, (eqPs_iff _ _).2 rfl]; rfl
  rw [e, r_pass] at h
  exact up1 (v := fun _ => .bool true) (mk := fun x => .tuple ⟨[x, .bool false]⟩) (qs := [rP]) (fun _ => trivial) h
theorem ok_awake12 : (match Try.f42.body with | some c => codeOk Try.f42.ntmps c | none => false) = true := by kernel_rfl
theorem en_awake12 : ∃ fn, Try.prog.funcs[42]? = some fn ∧ (fn.name == "runtime.NumGoroutine") = false ∧ fn.body.isNone = false := ⟨_, Try.func42, by kernel_rfl, by kernel_rfl⟩
theorem awake12_w (w : World) : PuAt Try.prog 42 [] (.bool true) w := by
  refine funcR_pure tyOk wide Try.func42 ok_awake12 (Nat.le_of_ble_eq_true rfl) ?_
  repeat' first
    | (conv => whnf
       first
       | intro _
       | (first | refine selSplit (fun h => ?_) (fun h => ?_) | refine condSplit (fun h => ?_) (fun h => ?_)) <;> first | exact (clash (by assumption) h).elim | exact (clash h (by assumption)).elim | (simp only [decide_eq_true_eq, decide_eq_false_iff_not, Bool.not_eq_true', Bool.not_eq_false', Bool.not_true, Bool.not_false, Bool.or_eq_true, Bool.and_eq_true, Bool.or_eq_false_iff, Bool.and_eq_false_iff, beq_iff_eq, beq_eq_false_iff_ne, ne_eq] at h; first | (exfalso; omega) | skip) | skip
       | (first | refine drM (.quiet 0 (.quiet 1 (.last 2 true (.last 3 false (.last 4 false (.pure 5 (.pure 6 (.last 7 false (.last 8 false .done))))))))) (SubL.refl _) ?_)
       | refine AltP.mk ?_ ?_
       | refine kpM ?_
       | refine SeqP.go ?_
       | refine cdM ?_
       | exact IsV.mk
       | apply GuardP.mk
       | ((first | apply callPure' en_Usual | apply callQuiet' en_Usual); · exact fun w _ => Usual_w _ w)
       | ((first | apply callPure' en_Edge12 | apply callQuiet' en_Edge12); · exact fun w _ => Edge12_w w)
       | (refine callX takeM en_tRest (fun w hw => rRest _ 1 w (hw.blkSl hasM rfl (i_len _))) ?_)
       | (refine callX takeM en_tMove (fun w hw => rMove0 _ _ w (hw.arrSl hasM)) ?_)
       | (refine callX takeM en_tMove (fun w hw => rMove1 _ _ w (hw.arrSl hasM)) ?_)
       | (refine callX takeM en_tPass (fun w hw => rPass _ _ w (hw.arrSl hasM)) ?_)
       | ((first | apply callPure' en_tState | apply callQuiet' en_tState); · exact fun w _ => tState_w sP w)
       | ((first | apply callPure' en_tState | apply callQuiet' en_tState); · exact fun w _ => tState_w (stateV sP) w)
       | (first | refine eqlW eqS28 rfl rfl rfl fitM fitM ?_ | refine neqW eqS28 rfl rfl rfl fitM fitM ?_ | refine eqlW eqS24 rfl rfl rfl fitM fitM ?_ | refine neqW eqS24 rfl rfl rfl fitM fitM ?_ | refine eqlW eqS26 rfl rfl rfl fitM fitM ?_ | refine neqW eqS26 rfl rfl rfl fitM fitM ?_)
       | refine Or.inl ⟨_, _, hasM, ?_⟩
       | refine Or.inl ⟨_, _, _, holeM, rfl, rfl, ?_⟩
       | refine lA ?_
       | refine lA0 ?_
       | refine lA1 ?_
       | refine lO ?_
       | refine lO0 ?_
       | refine lO1 ?_
       | refine lR ?_
       | refine lG ?_
       | refine lG0 ?_
       | refine tA ?_
       | refine tA0 ?_
       | refine tA1 ?_
       | refine BytW.ofBlk hasM rfl rfl ?_
       | refine AppW.noneB hasM leM rfl rfl rfl leM leM ?_
       | refine AppW.rowB hasM leM rfl rfl holeM leM leM ?_
       | refine AppW.blkB hasM leM rfl rfl holeM rfl rfl leM leM ?_
       | refine AppW.rowS hasM leM rfl rfl holeM (by omega) leM ?_
       | refine AppW.arrS hasM leM rfl rfl rfl holeM (by first | omega | (simp; omega)) leM ?_
       | refine ⟨sideM, ?_⟩
       | fail)
  all_goals (try conv => whnf)
  all_goals first
    | exact absurd trivial h
    | exact v_bool (by decide +kernel)
end Go.Proofs.Ytmgoahmbdpoikaa.Am
