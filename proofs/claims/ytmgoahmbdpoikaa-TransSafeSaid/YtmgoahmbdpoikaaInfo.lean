/- Package info, and what it uses of state: what a port does with what it hears. -/
import Derived.Test.YtmgoahmbdpoikaaRoles2
import Derived.Test.YtmgoahmbdpoikaaState
import Derived.Test.YtmgoahmbdpoikaaBpdu
set_option linter.unusedVariables false
set_option linter.unusedSimpArgs false
set_option maxRecDepth 100000
set_option maxHeartbeats 4000000
namespace Go.Proofs.Ytmgoahmbdpoikaa.Am
open Go Go.RowKit
def PortV.v4 (p : PortV) : V4 := (p.Vector_Root, p.Vector_Cost, p.Vector_Bridge, p.Vector_Port)
def PortV.o4 (p : PortV) : V4 := (p.Offer_Root, p.Offer_Cost, p.Offer_Bridge, p.Offer_Port)
def PortV.times (p : PortV) : TimesV := ⟨p.Times_Age, p.Times_Max, p.Times_Hello, p.Times_Delay⟩
def PortV.given (p : PortV) : TimesV := ⟨p.Given_Age, p.Given_Max, p.Given_Hello, p.Given_Delay⟩
def BpduV.v4 (b : BpduV) : V4 := (b.Vector_Root, b.Vector_Cost, b.Vector_Bridge, b.Vector_Port)
def newV (id cost : Int) (edge : Bool) : PortV := { PortV.zero with Id := id, Cost := cost, Admin := edge, Oper := edge, SendRstp := true }
theorem ok_sNew : (match Try.f61.body with | some c => codeOk Try.f61.ntmps c | none => false) = true := by kernel_rfl
theorem en_sNew : ∃ fn, Try.prog.funcs[61]? = some fn ∧ (fn.name == "runtime.NumGoroutine") = false ∧ fn.body.isNone = false := ⟨_, Try.func61, by kernel_rfl, by kernel_rfl⟩
theorem sNew_w (id cost : Int) (edge : Bool) (w : World) : PuAt Try.prog 61 [.int .u64 id, .int .u64 cost, .bool edge] (.agg ⟨(newV id cost edge).enc⟩) w := by
  refine funcR_pure tyOk wide Try.func61 ok_sNew (Nat.le_of_ble_eq_true rfl) ?_
  repeat' first
    | (conv => whnf
       first
       | intro _
       | (first | refine selSplit (fun h => ?_) (fun h => ?_) | refine condSplit (fun h => ?_) (fun h => ?_)) <;> first | exact (clash (by assumption) h).elim | exact (clash h (by assumption)).elim | (simp only [decide_eq_true_eq, decide_eq_false_iff_not, Bool.not_eq_true', Bool.not_eq_false', Bool.not_true, Bool.not_false, Bool.or_eq_true, Bool.and_eq_true, Bool.or_eq_false_iff, Bool.and_eq_false_iff, beq_iff_eq, beq_eq_false_iff_ne, ne_eq] at h; first | (exfalso; omega) | skip) | skip
       | refine SeqP.go ?_
       | refine cdM ?_
       | exact IsV.mk
       | apply GuardP.mk
       | (first | refine eqlW eqS24 rfl rfl rfl fitM fitM ?_ | refine neqW eqS24 rfl rfl rfl fitM fitM ?_ | refine eqlW eqS26 rfl rfl rfl fitM fitM ?_ | refine neqW eqS26 rfl rfl rfl fitM fitM ?_)
       | refine Or.inl ⟨_, _, hasM, ?_⟩
       | refine Or.inl ⟨_, _, _, holeM, rfl, rfl, ?_⟩
       | refine lA ?_
       | refine lA0 ?_
       | refine lA1 ?_
       | refine lO ?_
       | refine lO0 ?_
       | refine lO1 ?_
       | refine lR ?_
       | refine lG ?_
       | refine lG0 ?_
       | refine tA ?_
       | refine tA0 ?_
       | refine tA1 ?_
       | refine BytW.ofBlk hasM rfl rfl ?_
       | refine AppW.noneB hasM leM rfl rfl rfl leM leM ?_
       | refine AppW.rowB hasM leM rfl rfl holeM leM leM ?_
       | refine AppW.blkB hasM leM rfl rfl holeM rfl rfl leM leM ?_
       | refine AppW.rowS hasM leM rfl rfl holeM (by omega) leM ?_
       | refine AppW.arrS hasM leM rfl rfl rfl holeM (by first | omega | (simp; omega)) leM ?_
       | refine ⟨sideM, ?_⟩
       | fail)
  all_goals (try conv => whnf)
  all_goals rfl
def q256 (n : Int) : Int := IntKind.i64.wrap (n.tdiv 256)
def timesV (b : BpduV) : TimesV := ⟨q256 b.Age, q256 b.Max, if 1 < q256 b.Hello then q256 b.Hello else 1, q256 b.Delay⟩
theorem ok_TimesOf : (match Try.f65.body with | some c => codeOk Try.f65.ntmps c | none => false) = true := by kernel_rfl
theorem en_TimesOf : ∃ fn, Try.prog.funcs[65]? = some fn ∧ (fn.name == "runtime.NumGoroutine") = false ∧ fn.body.isNone = false := ⟨_, Try.func65, by kernel_rfl, by kernel_rfl⟩
theorem TimesOf_w (b : BpduV) (w : World) : PuAt Try.prog 65 [.agg ⟨b.enc⟩] (.agg ⟨(timesV b).enc⟩) w := by
  refine funcR_pure tyOk wide Try.func65 ok_TimesOf (Nat.le_of_ble_eq_true rfl) ?_
  repeat' first
    | (conv => whnf
       first
       | intro _
       | (first | refine selSplit (fun h => ?_) (fun h => ?_) | refine condSplit (fun h => ?_) (fun h => ?_)) <;> first | exact (clash (by assumption) h).elim | exact (clash h (by assumption)).elim | (simp only [decide_eq_true_eq, decide_eq_false_iff_not, Bool.not_eq_true', Bool.not_eq_false', Bool.not_true, Bool.not_false, Bool.or_eq_true, Bool.and_eq_true, Bool.or_eq_false_iff, Bool.and_eq_false_iff, beq_iff_eq, beq_eq_false_iff_ne, ne_eq] at h; first | (exfalso; omega) | skip) | skip
       | refine SeqP.go ?_
       | refine cdM ?_
       | exact IsV.mk
       | apply GuardP.mk
       | (first | refine eqlW eqS24 rfl rfl rfl fitM fitM ?_ | refine neqW eqS24 rfl rfl rfl fitM fitM ?_ | refine eqlW eqS26 rfl rfl rfl fitM fitM ?_ | refine neqW eqS26 rfl rfl rfl fitM fitM ?_)
       | refine Or.inl ⟨_, _, hasM, ?_⟩
       | refine Or.inl ⟨_, _, _, holeM, rfl, rfl, ?_⟩
       | refine lA ?_
       | refine lA0 ?_
       | refine lA1 ?_
       | refine lO ?_
       | refine lO0 ?_
       | refine lO1 ?_
       | refine lR ?_
       | refine lG ?_
       | refine lG0 ?_
       | refine tA ?_
       | refine tA0 ?_
       | refine tA1 ?_
       | refine BytW.ofBlk hasM rfl rfl ?_
       | refine AppW.noneB hasM leM rfl rfl rfl leM leM ?_
       | refine AppW.rowB hasM leM rfl rfl holeM leM leM ?_
       | refine AppW.blkB hasM leM rfl rfl holeM rfl rfl leM leM ?_
       | refine AppW.rowS hasM leM rfl rfl holeM (by omega) leM ?_
       | refine AppW.arrS hasM leM rfl rfl rfl holeM (by first | omega | (simp; omega)) leM ?_
       | refine ⟨sideM, ?_⟩
       | fail)
  all_goals (try conv => whnf)
  all_goals rfl
def sameB2 (p : PortV) (b : BpduV) : Bool := allEq (encV b.v4) (encV p.v4) && allEq (timesV b).enc p.times.enc
def roleOf (b : BpduV) : Int := if b.Kind = 1 then 3 else roleV b.Flags
/-- What was heard. -/
def heardK (p : PortV) (b : BpduV) : Int :=
  if bRightV b = false ∨ b.Kind = 2 then 0
  else if (roleOf b = 3 ∧ sameB2 p b = true) ∧ p.Source = 3 then 2
  else if roleOf b = 3 ∧ sup4 b.v4 p.v4 = true then 1
  else if roleOf b = 3 then 3
  else if 0 < roleOf b ∧ 0 ≤ cmp4 b.v4 p.v4 then 4 else 0
theorem ok_sHeard : (match Try.f63.body with | some c => codeOk Try.f63.ntmps c | none => false) = true := by kernel_rfl
theorem en_sHeard : ∃ fn, Try.prog.funcs[63]? = some fn ∧ (fn.name == "runtime.NumGoroutine") = false ∧ fn.body.isNone = false := ⟨_, Try.func63, by kernel_rfl, by kernel_rfl⟩
theorem sHeard_w (p : PortV) (b : BpduV) (w : World) : PuAt Try.prog 63 [.agg ⟨p.enc⟩, .agg ⟨b.enc⟩] (.int .i64 (heardK p b)) w := by
  refine funcR_pure tyOk wide Try.func63 ok_sHeard (Nat.le_of_ble_eq_true rfl) ?_
  repeat' first
    | (conv => whnf
       first
       | intro _
       | (first | refine selSplit (fun h => ?_) (fun h => ?_) | refine condSplit (fun h => ?_) (fun h => ?_)) <;> first | exact (clash (by assumption) h).elim | exact (clash h (by assumption)).elim | (simp only [decide_eq_true_eq, decide_eq_false_iff_not, Bool.not_eq_true', Bool.not_eq_false', Bool.not_true, Bool.not_false, Bool.or_eq_true, Bool.and_eq_true, Bool.or_eq_false_iff, Bool.and_eq_false_iff, beq_iff_eq, beq_eq_false_iff_ne, ne_eq] at h; first | (exfalso; omega) | skip) | skip
       | (first | refine drC (.quiet 0 (.quiet 1 (.quiet 2 (.quiet 3 (.quiet 4 (.quiet 5 (.quiet 6 (.quiet 7 (.quiet 8 (.quiet 9 (.quiet 10 (.quiet 11 (.quiet 12 .done))))))))))))) (SubL.refl _) ?_)
       | refine AltP.mk ?_ ?_
       | refine kpM ?_
       | refine SeqP.go ?_
       | refine cdM ?_
       | exact IsV.mk
       | apply GuardP.mk
       | ((first | apply callPure' en_bRight | apply callQuiet' en_bRight); · exact fun w _ => bRight_w b w)
       | ((first | apply callPure' en_bRole | apply callQuiet' en_bRole); · exact fun w _ => bRole_w b.Flags w)
       | ((first | apply callPure' en_TimesOf | apply callQuiet' en_TimesOf); · exact fun w _ => TimesOf_w b w)
       | ((first | apply callPure' en_vSupersedes | apply callQuiet' en_vSupersedes); · exact fun w _ => vSup4 b.v4 p.v4 w)
       | ((first | apply callPure' en_vCompare | apply callQuiet' en_vCompare); · exact fun w _ => vCompare4 b.v4 p.v4 w)
       | (first | refine eqlW eqS24 rfl rfl rfl fitM fitM ?_ | refine neqW eqS24 rfl rfl rfl fitM fitM ?_ | refine eqlW eqS26 rfl rfl rfl fitM fitM ?_ | refine neqW eqS26 rfl rfl rfl fitM fitM ?_)
       | refine Or.inl ⟨_, _, hasM, ?_⟩
       | refine Or.inl ⟨_, _, _, holeM, rfl, rfl, ?_⟩
       | refine lA ?_
       | refine lA0 ?_
       | refine lA1 ?_
       | refine lO ?_
       | refine lO0 ?_
       | refine lO1 ?_
       | refine lR ?_
       | refine lG ?_
       | refine lG0 ?_
       | refine tA ?_
       | refine tA0 ?_
       | refine tA1 ?_
       | refine BytW.ofBlk hasM rfl rfl ?_
       | refine AppW.noneB hasM leM rfl rfl rfl leM leM ?_
       | refine AppW.rowB hasM leM rfl rfl holeM leM leM ?_
       | refine AppW.blkB hasM leM rfl rfl holeM rfl rfl leM leM ?_
       | refine AppW.rowS hasM leM rfl rfl holeM (by omega) leM ?_
       | refine AppW.arrS hasM leM rfl rfl rfl holeM (by first | omega | (simp; omega)) leM ?_
       | refine ⟨sideM, ?_⟩
       | fail)
  all_goals (try conv => whnf)
  all_goals
    refine v_int ?_
    unfold heardK roleOf sameB2 sup4
    simp only [encV, BpduV.v4, PortV.v4, PortV.times, TimesV.enc] at *
    grind
def anewV (p : PortV) : PortV := { p with Reselect := true, Ready := false }
theorem ok_anew : (match Try.f62.body with | some c => codeOk Try.f62.ntmps c | none => false) = true := by kernel_rfl
theorem en_anew : ∃ fn, Try.prog.funcs[62]? = some fn ∧ (fn.name == "runtime.NumGoroutine") = false ∧ fn.body.isNone = false := ⟨_, Try.func62, by kernel_rfl, by kernel_rfl⟩
theorem anew_w (p : PortV) (w : World) : PuAt Try.prog 62 [.agg ⟨p.enc⟩] (.agg ⟨(anewV p).enc⟩) w := by
  refine funcR_pure tyOk wide Try.func62 ok_anew (Nat.le_of_ble_eq_true rfl) ?_
  repeat' first
    | (conv => whnf
       first
       | intro _
       | (first | refine selSplit (fun h => ?_) (fun h => ?_) | refine condSplit (fun h => ?_) (fun h => ?_)) <;> first | exact (clash (by assumption) h).elim | exact (clash h (by assumption)).elim | (simp only [decide_eq_true_eq, decide_eq_false_iff_not, Bool.not_eq_true', Bool.not_eq_false', Bool.not_true, Bool.not_false, Bool.or_eq_true, Bool.and_eq_true, Bool.or_eq_false_iff, Bool.and_eq_false_iff, beq_iff_eq, beq_eq_false_iff_ne, ne_eq] at h; first | (exfalso; omega) | skip) | skip
       | refine SeqP.go ?_
       | refine cdM ?_
       | exact IsV.mk
       | apply GuardP.mk
       | (first | refine eqlW eqS24 rfl rfl rfl fitM fitM ?_ | refine neqW eqS24 rfl rfl rfl fitM fitM ?_ | refine eqlW eqS26 rfl rfl rfl fitM fitM ?_ | refine neqW eqS26 rfl rfl rfl fitM fitM ?_)
       | refine Or.inl ⟨_, _, hasM, ?_⟩
       | refine Or.inl ⟨_, _, _, holeM, rfl, rfl, ?_⟩
       | refine lA ?_
       | refine lA0 ?_
       | refine lA1 ?_
       | refine lO ?_
       | refine lO0 ?_
       | refine lO1 ?_
       | refine lR ?_
       | refine lG ?_
       | refine lG0 ?_
       | refine tA ?_
       | refine tA0 ?_
       | refine tA1 ?_
       | refine BytW.ofBlk hasM rfl rfl ?_
       | refine AppW.noneB hasM leM rfl rfl rfl leM leM ?_
       | refine AppW.rowB hasM leM rfl rfl holeM leM leM ?_
       | refine AppW.blkB hasM leM rfl rfl holeM rfl rfl leM leM ?_
       | refine AppW.rowS hasM leM rfl rfl holeM (by omega) leM ?_
       | refine AppW.arrS hasM leM rfl rfl rfl holeM (by first | omega | (simp; omega)) leM ?_
       | refine ⟨sideM, ?_⟩
       | fail)
  all_goals (try conv => whnf)
  all_goals rfl
def powerV (p : PortV) (on : Bool) : PortV :=
  if p.On = on then p else if on = true then anewV { p with On := true, Source := 1 }
  else anewV { p with On := false, Source := 0, Info := 0, Oper := p.Admin, Proposing := false, Proposed := false, Agree := false, Agreed := false }
theorem ok_Power : (match Try.f30.body with | some c => codeOk Try.f30.ntmps c | none => false) = true := by kernel_rfl
theorem en_Power : ∃ fn, Try.prog.funcs[30]? = some fn ∧ (fn.name == "runtime.NumGoroutine") = false ∧ fn.body.isNone = false := ⟨_, Try.func30, by kernel_rfl, by kernel_rfl⟩
theorem Power_w (p : PortV) (on : Bool) (w : World) : PuAt Try.prog 30 [.agg ⟨p.enc⟩, .bool on] (.agg ⟨(powerV p on).enc⟩) w := by
  refine funcR_pure tyOk wide Try.func30 ok_Power (Nat.le_of_ble_eq_true rfl) ?_
  cases on
  all_goals
    repeat' first
      | (conv => whnf
         first
         | intro _
         | (first | refine selSplit (fun h => ?_) (fun h => ?_) | refine condSplit (fun h => ?_) (fun h => ?_)) <;> first | exact (clash (by assumption) h).elim | exact (clash h (by assumption)).elim | (simp only [decide_eq_true_eq, decide_eq_false_iff_not, Bool.not_eq_true', Bool.not_eq_false', Bool.not_true, Bool.not_false, Bool.or_eq_true, Bool.and_eq_true, Bool.or_eq_false_iff, Bool.and_eq_false_iff, beq_iff_eq, beq_eq_false_iff_ne, ne_eq] at h; first | (exfalso; omega) | skip) | skip
         | refine SeqP.go ?_
         | refine cdM ?_
         | exact IsV.mk
         | apply GuardP.mk
         | ((first | apply callPure' en_anew | apply callQuiet' en_anew); · exact fun w _ => anew_w { p with On := true, Source := 1 } w)
         | ((first | apply callPure' en_anew | apply callQuiet' en_anew); · exact fun w _ => anew_w { p with On := false, Source := 0, Info := 0, Oper := p.Admin, Proposing := false, Proposed := false, Agree := false, Agreed := false } w)
         | (first | refine eqlW eqS24 rfl rfl rfl fitM fitM ?_ | refine neqW eqS24 rfl rfl rfl fitM fitM ?_ | refine eqlW eqS26 rfl rfl rfl fitM fitM ?_ | refine neqW eqS26 rfl rfl rfl fitM fitM ?_)
         | refine Or.inl ⟨_, _, hasM, ?_⟩
         | refine Or.inl ⟨_, _, _, holeM, rfl, rfl, ?_⟩
         | refine lA ?_
         | refine lA0 ?_
         | refine lA1 ?_
         | refine lO ?_
         | refine lO0 ?_
         | refine lO1 ?_
         | refine lR ?_
         | refine lG ?_
         | refine lG0 ?_
         | refine tA ?_
         | refine tA0 ?_
         | refine tA1 ?_
         | refine BytW.ofBlk hasM rfl rfl ?_
         | refine AppW.noneB hasM leM rfl rfl rfl leM leM ?_
         | refine AppW.rowB hasM leM rfl rfl holeM leM leM ?_
         | refine AppW.blkB hasM leM rfl rfl holeM rfl rfl leM leM ?_
         | refine AppW.rowS hasM leM rfl rfl holeM (by omega) leM ?_
         | refine AppW.arrS hasM leM rfl rfl rfl holeM (by first | omega | (simp; omega)) leM ?_
         | refine ⟨sideM, ?_⟩
         | fail)
    all_goals (try conv => whnf)
  all_goals (show Value.agg _ = _; unfold powerV; (repeat (first | rw [if_pos (by first | assumption | grind | decide)] | rw [if_neg (by first | assumption | grind | decide)])); rfl)
def bitV (b : BpduV) (bit : Int) : Bool := !decide (bits .and .i64 b.Flags bit = 0)
theorem ok_recIs : (match Try.f83.body with | some c => codeOk Try.f83.ntmps c | none => false) = true := by kernel_rfl
theorem en_recIs : ∃ fn, Try.prog.funcs[83]? = some fn ∧ (fn.name == "runtime.NumGoroutine") = false ∧ fn.body.isNone = false := ⟨_, Try.func83, by kernel_rfl, by kernel_rfl⟩
theorem recIs_w (b : BpduV) (bb : Nat) (bit : Int) (w : World) (hb : w.rangeAt bb 0 b.enc) : PuAt Try.prog 83 [.int .i64 bit, .pointer (some ⟨bb, 0, none⟩)] (.bool (bitV b bit)) w := by
  refine funcR_pure tyOk wide Try.func83 ok_recIs (Nat.le_of_ble_eq_true rfl) ?_
  have hr := rg_old (X := []) hb (by simp)
  repeat' first
    | (conv => whnf
       first
       | intro _
       | (first | refine selSplit (fun h => ?_) (fun h => ?_) | refine condSplit (fun h => ?_) (fun h => ?_)) <;> first | exact (clash (by assumption) h).elim | exact (clash h (by assumption)).elim | (simp only [decide_eq_true_eq, decide_eq_false_iff_not, Bool.not_eq_true', Bool.not_eq_false', Bool.not_true, Bool.not_false, Bool.or_eq_true, Bool.and_eq_true, Bool.or_eq_false_iff, Bool.and_eq_false_iff, beq_iff_eq, beq_eq_false_iff_ne, ne_eq] at h; first | (exfalso; omega) | skip) | skip
       | refine SeqP.go ?_
       | refine cdM ?_
       | exact IsV.mk
       | apply GuardP.mk
       | (first | refine eqlW eqS24 rfl rfl rfl fitM fitM ?_ | refine neqW eqS24 rfl rfl rfl fitM fitM ?_ | refine eqlW eqS26 rfl rfl rfl fitM fitM ?_ | refine neqW eqS26 rfl rfl rfl fitM fitM ?_)
       | refine Or.inl ⟨_, _, hasM, ?_⟩
       | refine Or.inl ⟨_, _, _, holeM, rfl, rfl, ?_⟩
       | refine lA ?_
       | refine lA0 ?_
       | refine lA1 ?_
       | refine lO ?_
       | refine lO0 ?_
       | refine lO1 ?_
       | refine lR ?_
       | refine lG ?_
       | refine lG0 ?_
       | refine tA ?_
       | refine tA0 ?_
       | refine tA1 ?_
       | refine BytW.ofBlk hasM rfl rfl ?_
       | refine AppW.noneB hasM leM rfl rfl rfl leM leM ?_
       | refine AppW.rowB hasM leM rfl rfl holeM leM leM ?_
       | refine AppW.blkB hasM leM rfl rfl holeM rfl rfl leM leM ?_
       | refine AppW.rowS hasM leM rfl rfl holeM (by omega) leM ?_
       | refine AppW.arrS hasM leM rfl rfl rfl holeM (by first | omega | (simp; omega)) leM ?_
       | refine ⟨sideM, ?_⟩
       | fail)
  all_goals (try conv => whnf)
  all_goals rfl
def recordV (p : PortV) (b : BpduV) : PortV :=
  { p with Proposed := p.Proposed || (decide (b.Kind = 3) && bitV b 2), HeardTc := p.HeardTc || bitV b 1, HeardAck := p.HeardAck || (!decide (b.Kind = 3) && bitV b 128), Info := if IntKind.i64.wrap ((timesV b).Age + 1) ≤ (timesV b).Max then IntKind.i64.wrap (3 * (timesV b).Hello) else 0 }
theorem ok_record : (match Try.f64.body with | some c => codeOk Try.f64.ntmps c | none => false) = true := by kernel_rfl
theorem en_record : ∃ fn, Try.prog.funcs[64]? = some fn ∧ (fn.name == "runtime.NumGoroutine") = false ∧ fn.body.isNone = false := ⟨_, Try.func64, by kernel_rfl, by kernel_rfl⟩
theorem record_w (p : PortV) (b : BpduV) (w : World) : PuAt Try.prog 64 [.agg ⟨p.enc⟩, .agg ⟨b.enc⟩] (.agg ⟨(recordV p b).enc⟩) w := by
  refine funcR_pure tyOk wide Try.func64 ok_record (Nat.le_of_ble_eq_true rfl) ?_
  repeat' first
    | (conv => whnf
       first
       | intro _
       | (first | refine selSplit (fun h => ?_) (fun h => ?_) | refine condSplit (fun h => ?_) (fun h => ?_)) <;> first | exact (clash (by assumption) h).elim | exact (clash h (by assumption)).elim | (simp only [decide_eq_true_eq, decide_eq_false_iff_not, Bool.not_eq_true', Bool.not_eq_false', Bool.not_true, Bool.not_false, Bool.or_eq_true, Bool.and_eq_true, Bool.or_eq_false_iff, Bool.and_eq_false_iff, beq_iff_eq, beq_eq_false_iff_ne, ne_eq] at h; first | (exfalso; omega) | skip) | skip
       | refine SeqP.go ?_
       | refine cdM ?_
       | exact IsV.mk
       | apply GuardP.mk
       | ((first | apply callPure' en_TimesOf | apply callQuiet' en_TimesOf); · exact fun w _ => TimesOf_w b w)
       | ((first | apply callPure' en_recIs | apply callQuiet' en_recIs); · exact fun w hw => recIs_w b _ _ w (hw.range hasM))
       | (first | refine eqlW eqS24 rfl rfl rfl fitM fitM ?_ | refine neqW eqS24 rfl rfl rfl fitM fitM ?_ | refine eqlW eqS26 rfl rfl rfl fitM fitM ?_ | refine neqW eqS26 rfl rfl rfl fitM fitM ?_)
       | refine Or.inl ⟨_, _, hasM, ?_⟩
       | refine Or.inl ⟨_, _, _, holeM, rfl, rfl, ?_⟩
       | refine lA ?_
       | refine lA0 ?_
       | refine lA1 ?_
       | refine lO ?_
       | refine lO0 ?_
       | refine lO1 ?_
       | refine lR ?_
       | refine lG ?_
       | refine lG0 ?_
       | refine tA ?_
       | refine tA0 ?_
       | refine tA1 ?_
       | refine BytW.ofBlk hasM rfl rfl ?_
       | refine AppW.noneB hasM leM rfl rfl rfl leM leM ?_
       | refine AppW.rowB hasM leM rfl rfl holeM leM leM ?_
       | refine AppW.blkB hasM leM rfl rfl holeM rfl rfl leM leM ?_
       | refine AppW.rowS hasM leM rfl rfl holeM (by omega) leM ?_
       | refine AppW.arrS hasM leM rfl rfl rfl holeM (by first | omega | (simp; omega)) leM ?_
       | refine ⟨sideM, ?_⟩
       | fail)
  all_goals (try conv => whnf)
  all_goals (show Value.agg _ = _; unfold recordV; (repeat (first | rw [if_pos (by first | assumption | grind | decide)] | rw [if_neg (by first | assumption | grind | decide)])); rfl)
def rstpV (p : PortV) (b : BpduV) : PortV := if b.Kind = 3 then { p with HeardRstp := true, Oper := false } else { p with HeardStp := true, Oper := false }
def hearV (p : PortV) (b : BpduV) : PortV :=
  if p.On = false ∨ bRightV b = false ∨ b.Kind = 2 then p
  else if heardK p b = 1 then
    if allEq [.int .u64 p.Vector_Root, .int .u64 p.Vector_Cost, .int .u64 p.Vector_Bridge, .int .u64 p.Vector_Port] [.int .u64 b.Vector_Root, .int .u64 b.Vector_Cost, .int .u64 b.Vector_Bridge, .int .u64 b.Vector_Port] = true then anewV { recordV { rstpV p b with Agreed := false, Proposing := false } b with Vector_Root := b.Vector_Root, Vector_Cost := b.Vector_Cost, Vector_Bridge := b.Vector_Bridge, Vector_Port := b.Vector_Port, Times_Age := (timesV b).Age, Times_Max := (timesV b).Max, Times_Hello := (timesV b).Hello, Times_Delay := (timesV b).Delay, Source := 3 }
    else anewV { recordV { rstpV p b with Agreed := false, Proposing := false } b with Agree := false, Synced := false, Vector_Root := b.Vector_Root, Vector_Cost := b.Vector_Cost, Vector_Bridge := b.Vector_Bridge, Vector_Port := b.Vector_Port, Times_Age := (timesV b).Age, Times_Max := (timesV b).Max, Times_Hello := (timesV b).Hello, Times_Delay := (timesV b).Delay, Source := 3 }
  else if heardK p b = 2 then recordV (rstpV p b) b
  else if heardK p b = 3 then if b.Kind = 3 ∧ bitV b 16 = true then { rstpV p b with Disputed := true, Agreed := false } else rstpV p b
  else if heardK p b = 4 then if (b.Kind = 3 ∧ p.SendRstp = true) ∧ bitV b 64 = true then { rstpV p b with Agreed := true, Proposing := false, HeardTc := p.HeardTc || bitV b 1 } else { rstpV p b with HeardTc := p.HeardTc || bitV b 1 }
  else rstpV p b
theorem ok_Hear : (match Try.f32.body with | some c => codeOk Try.f32.ntmps c | none => false) = true := by kernel_rfl
theorem en_Hear : ∃ fn, Try.prog.funcs[32]? = some fn ∧ (fn.name == "runtime.NumGoroutine") = false ∧ fn.body.isNone = false := ⟨_, Try.func32, by kernel_rfl, by kernel_rfl⟩
theorem Hear_w (p : PortV) (b : BpduV) (w : World) : PuAt Try.prog 32 [.agg ⟨p.enc⟩, .agg ⟨b.enc⟩] (.agg ⟨(hearV p b).enc⟩) w := by
  refine funcR_pure tyOk wide Try.func32 ok_Hear (Nat.le_of_ble_eq_true rfl) ?_
  have e16 : bitV b 16 = true ↔ ¬ bits .and .i64 b.Flags 16 = 0 := by unfold bitV; simp
  have e64 : bitV b 64 = true ↔ ¬ bits .and .i64 b.Flags 64 = 0 := by unfold bitV; simp
  repeat' first
    | (conv => whnf
       first
       | intro _
       | (first | refine selSplit (fun h => ?_) (fun h => ?_) | refine condSplit (fun h => ?_) (fun h => ?_)) <;> first | exact (clash (by assumption) h).elim | exact (clash h (by assumption)).elim | (simp only [decide_eq_true_eq, decide_eq_false_iff_not, Bool.not_eq_true', Bool.not_eq_false', Bool.not_true, Bool.not_false, Bool.or_eq_true, Bool.and_eq_true, Bool.or_eq_false_iff, Bool.and_eq_false_iff, beq_iff_eq, beq_eq_false_iff_ne, ne_eq] at h; first | (exfalso; omega) | skip) | skip
       | (first | refine drM (.quiet 0 (.quiet 1 (.quiet 2 (.quiet 3 (.quiet 4 (.last 5 false (.last 6 false (.last 7 false (.last 8 false (.last 9 false .done)))))))))) (SubL.refl _) ?_)
       | refine AltP.mk ?_ ?_
       | refine kpM ?_
       | refine SeqP.go ?_
       | refine cdM ?_
       | exact IsV.mk
       | apply GuardP.mk
       | ((first | apply callPure' en_bRight | apply callQuiet' en_bRight); · exact fun w _ => bRight_w b w)
       | ((first | apply callPure' en_sHeard | apply callQuiet' en_sHeard); · exact fun w _ => sHeard_w p b w)
       | ((first | apply callPure' en_TimesOf | apply callQuiet' en_TimesOf); · exact fun w _ => TimesOf_w b w)
       | ((first | apply callPure' en_record | apply callQuiet' en_record); · exact fun w _ => record_w { p with HeardRstp := true, Oper := false, Agreed := false, Proposing := false } b w)
       | ((first | apply callPure' en_record | apply callQuiet' en_record); · exact fun w _ => record_w { p with HeardRstp := true, Oper := false } b w)
       | ((first | apply callPure' en_record | apply callQuiet' en_record); · exact fun w _ => record_w { p with HeardStp := true, Oper := false, Agreed := false, Proposing := false } b w)
       | ((first | apply callPure' en_record | apply callQuiet' en_record); · exact fun w _ => record_w { p with HeardStp := true, Oper := false } b w)
       | ((first | apply callPure' en_anew | apply callQuiet' en_anew); · exact fun w _ => anew_w { recordV { p with HeardRstp := true, Oper := false, Agreed := false, Proposing := false } b with Vector_Root := b.Vector_Root, Vector_Cost := b.Vector_Cost, Vector_Bridge := b.Vector_Bridge, Vector_Port := b.Vector_Port, Times_Age := (timesV b).Age, Times_Max := (timesV b).Max, Times_Hello := (timesV b).Hello, Times_Delay := (timesV b).Delay, Source := 3 } w)
       | ((first | apply callPure' en_anew | apply callQuiet' en_anew); · exact fun w _ => anew_w { recordV { p with HeardRstp := true, Oper := false, Agreed := false, Proposing := false } b with Agree := false, Synced := false, Vector_Root := b.Vector_Root, Vector_Cost := b.Vector_Cost, Vector_Bridge := b.Vector_Bridge, Vector_Port := b.Vector_Port, Times_Age := (timesV b).Age, Times_Max := (timesV b).Max, Times_Hello := (timesV b).Hello, Times_Delay := (timesV b).Delay, Source := 3 } w)
       | ((first | apply callPure' en_anew | apply callQuiet' en_anew); · exact fun w _ => anew_w { recordV { p with HeardStp := true, Oper := false, Agreed := false, Proposing := false } b with Vector_Root := b.Vector_Root, Vector_Cost := b.Vector_Cost, Vector_Bridge := b.Vector_Bridge, Vector_Port := b.Vector_Port, Times_Age := (timesV b).Age, Times_Max := (timesV b).Max, Times_Hello := (timesV b).Hello, Times_Delay := (timesV b).Delay, Source := 3 } w)
       | ((first | apply callPure' en_anew | apply callQuiet' en_anew); · exact fun w _ => anew_w { recordV { p with HeardStp := true, Oper := false, Agreed := false, Proposing := false } b with Agree := false, Synced := false, Vector_Root := b.Vector_Root, Vector_Cost := b.Vector_Cost, Vector_Bridge := b.Vector_Bridge, Vector_Port := b.Vector_Port, Times_Age := (timesV b).Age, Times_Max := (timesV b).Max, Times_Hello := (timesV b).Hello, Times_Delay := (timesV b).Delay, Source := 3 } w)
       | (first | refine eqlW eqS24 rfl rfl rfl fitM fitM ?_ | refine neqW eqS24 rfl rfl rfl fitM fitM ?_ | refine eqlW eqS26 rfl rfl rfl fitM fitM ?_ | refine neqW eqS26 rfl rfl rfl fitM fitM ?_)
       | refine Or.inl ⟨_, _, hasM, ?_⟩
       | refine Or.inl ⟨_, _, _, holeM, rfl, rfl, ?_⟩
       | refine lA ?_
       | refine lA0 ?_
       | refine lA1 ?_
       | refine lO ?_
       | refine lO0 ?_
       | refine lO1 ?_
       | refine lR ?_
       | refine lG ?_
       | refine lG0 ?_
       | refine tA ?_
       | refine tA0 ?_
       | refine tA1 ?_
       | refine BytW.ofBlk hasM rfl rfl ?_
       | refine AppW.noneB hasM leM rfl rfl rfl leM leM ?_
       | refine AppW.rowB hasM leM rfl rfl holeM leM leM ?_
       | refine AppW.blkB hasM leM rfl rfl holeM rfl rfl leM leM ?_
       | refine AppW.rowS hasM leM rfl rfl holeM (by omega) leM ?_
       | refine AppW.arrS hasM leM rfl rfl rfl holeM (by first | omega | (simp; omega)) leM ?_
       | refine ⟨sideM, ?_⟩
       | fail)
  all_goals (try conv => whnf)
  all_goals (show Value.agg _ = _)
  all_goals first
    | (unfold hearV rstpV; (repeat (first | rw [if_pos (by first | assumption | grind | decide)] | rw [if_neg (by first | assumption | grind | decide)])); rfl)
    | (have h2 : allEq [.int .u64 p.Vector_Root, .int .u64 p.Vector_Cost, .int .u64 p.Vector_Bridge, .int .u64 p.Vector_Port] [.int .u64 b.Vector_Root, .int .u64 b.Vector_Cost, .int .u64 b.Vector_Bridge, .int .u64 b.Vector_Port] = true := h
       unfold hearV rstpV; (repeat (first | rw [if_pos (by first | assumption | grind | decide)] | rw [if_neg (by first | assumption | grind | decide)])); rfl)
    | (have h2 : allEq [.int .u64 p.Vector_Root, .int .u64 p.Vector_Cost, .int .u64 p.Vector_Bridge, .int .u64 p.Vector_Port] [.int .u64 b.Vector_Root, .int .u64 b.Vector_Cost, .int .u64 b.Vector_Bridge, .int .u64 b.Vector_Port] = false := h
       unfold hearV rstpV; (repeat (first | rw [if_pos (by first | assumption | grind | decide)] | rw [if_neg (by first | assumption | grind | decide)])); rfl)
def ageV (p : PortV) : PortV := if (¬ p.Source = 3 ∨ ¬ p.Info = 0) ∨ p.Update = true then p else anewV { p with Source := 1 }
theorem ok_iAge : (match Try.f34.body with | some c => codeOk Try.f34.ntmps c | none => false) = true := by kernel_rfl
theorem en_iAge : ∃ fn, Try.prog.funcs[34]? = some fn ∧ (fn.name == "runtime.NumGoroutine") = false ∧ fn.body.isNone = false := ⟨_, Try.func34, by kernel_rfl, by kernel_rfl⟩
theorem iAge_w (p : PortV) (w : World) : PuAt Try.prog 34 [.agg ⟨p.enc⟩] (.agg ⟨(ageV p).enc⟩) w := by
  refine funcR_pure tyOk wide Try.func34 ok_iAge (Nat.le_of_ble_eq_true rfl) ?_
  repeat' first
    | (conv => whnf
       first
       | intro _
       | (first | refine selSplit (fun h => ?_) (fun h => ?_) | refine condSplit (fun h => ?_) (fun h => ?_)) <;> first | exact (clash (by assumption) h).elim | exact (clash h (by assumption)).elim | (simp only [decide_eq_true_eq, decide_eq_false_iff_not, Bool.not_eq_true', Bool.not_eq_false', Bool.not_true, Bool.not_false, Bool.or_eq_true, Bool.and_eq_true, Bool.or_eq_false_iff, Bool.and_eq_false_iff, beq_iff_eq, beq_eq_false_iff_ne, ne_eq] at h; first | (exfalso; omega) | skip) | skip
       | refine SeqP.go ?_
       | refine cdM ?_
       | exact IsV.mk
       | apply GuardP.mk
       | ((first | apply callPure' en_anew | apply callQuiet' en_anew); · exact fun w _ => anew_w { p with Source := 1 } w)
       | (first | refine eqlW eqS24 rfl rfl rfl fitM fitM ?_ | refine neqW eqS24 rfl rfl rfl fitM fitM ?_ | refine eqlW eqS26 rfl rfl rfl fitM fitM ?_ | refine neqW eqS26 rfl rfl rfl fitM fitM ?_)
       | refine Or.inl ⟨_, _, hasM, ?_⟩
       | refine Or.inl ⟨_, _, _, holeM, rfl, rfl, ?_⟩
       | refine lA ?_
       | refine lA0 ?_
       | refine lA1 ?_
       | refine lO ?_
       | refine lO0 ?_
       | refine lO1 ?_
       | refine lR ?_
       | refine lG ?_
       | refine lG0 ?_
       | refine tA ?_
       | refine tA0 ?_
       | refine tA1 ?_
       | refine BytW.ofBlk hasM rfl rfl ?_
       | refine AppW.noneB hasM leM rfl rfl rfl leM leM ?_
       | refine AppW.rowB hasM leM rfl rfl holeM leM leM ?_
       | refine AppW.blkB hasM leM rfl rfl holeM rfl rfl leM leM ?_
       | refine AppW.rowS hasM leM rfl rfl holeM (by omega) leM ?_
       | refine AppW.arrS hasM leM rfl rfl rfl holeM (by first | omega | (simp; omega)) leM ?_
       | refine ⟨sideM, ?_⟩
       | fail)
  all_goals (try conv => whnf)
  all_goals (show Value.agg _ = _; unfold ageV; (repeat (first | rw [if_pos (by first | assumption | grind | decide)] | rw [if_neg (by first | assumption | grind | decide)])); rfl)
def settleV (p : PortV) : PortV :=
  if p.Ready = false ∨ p.Update = false then p
  else { p with Proposing := false, Proposed := false, Agreed := p.Agreed && allEq (encV p.o4) (encV p.v4), Synced := p.Synced && (p.Agreed && allEq (encV p.o4) (encV p.v4)), Vector_Root := p.Offer_Root, Vector_Cost := p.Offer_Cost, Vector_Bridge := p.Offer_Bridge, Vector_Port := p.Offer_Port, Times_Age := p.Given_Age, Times_Max := p.Given_Max, Times_Hello := p.Given_Hello, Times_Delay := p.Given_Delay, Update := false, Source := 2, NewInfo := true }
theorem ok_Settle : (match Try.f36.body with | some c => codeOk Try.f36.ntmps c | none => false) = true := by kernel_rfl
theorem en_Settle : ∃ fn, Try.prog.funcs[36]? = some fn ∧ (fn.name == "runtime.NumGoroutine") = false ∧ fn.body.isNone = false := ⟨_, Try.func36, by kernel_rfl, by kernel_rfl⟩
theorem Settle_w (p : PortV) (w : World) : PuAt Try.prog 36 [.agg ⟨p.enc⟩] (.agg ⟨(settleV p).enc⟩) w := by
  refine funcR_pure tyOk wide Try.func36 ok_Settle (Nat.le_of_ble_eq_true rfl) ?_
  repeat' first
    | (conv => whnf
       first
       | intro _
       | (first | refine selSplit (fun h => ?_) (fun h => ?_) | refine condSplit (fun h => ?_) (fun h => ?_)) <;> first | exact (clash (by assumption) h).elim | exact (clash h (by assumption)).elim | (simp only [decide_eq_true_eq, decide_eq_false_iff_not, Bool.not_eq_true', Bool.not_eq_false', Bool.not_true, Bool.not_false, Bool.or_eq_true, Bool.and_eq_true, Bool.or_eq_false_iff, Bool.and_eq_false_iff, beq_iff_eq, beq_eq_false_iff_ne, ne_eq] at h; first | (exfalso; omega) | skip) | skip
       | refine SeqP.go ?_
       | refine cdM ?_
       | exact IsV.mk
       | apply GuardP.mk
       | (first | refine eqlW eqS24 rfl rfl rfl fitM fitM ?_ | refine neqW eqS24 rfl rfl rfl fitM fitM ?_ | refine eqlW eqS26 rfl rfl rfl fitM fitM ?_ | refine neqW eqS26 rfl rfl rfl fitM fitM ?_)
       | refine Or.inl ⟨_, _, hasM, ?_⟩
       | refine Or.inl ⟨_, _, _, holeM, rfl, rfl, ?_⟩
       | refine lA ?_
       | refine lA0 ?_
       | refine lA1 ?_
       | refine lO ?_
       | refine lO0 ?_
       | refine lO1 ?_
       | refine lR ?_
       | refine lG ?_
       | refine lG0 ?_
       | refine tA ?_
       | refine tA0 ?_
       | refine tA1 ?_
       | refine BytW.ofBlk hasM rfl rfl ?_
       | refine AppW.noneB hasM leM rfl rfl rfl leM leM ?_
       | refine AppW.rowB hasM leM rfl rfl holeM leM leM ?_
       | refine AppW.blkB hasM leM rfl rfl holeM rfl rfl leM leM ?_
       | refine AppW.rowS hasM leM rfl rfl holeM (by omega) leM ?_
       | refine AppW.arrS hasM leM rfl rfl rfl holeM (by first | omega | (simp; omega)) leM ?_
       | refine ⟨sideM, ?_⟩
       | fail)
  all_goals (try conv => whnf)
  all_goals (show Value.agg _ = _; unfold settleV; (repeat (first | rw [if_pos (by first | assumption | grind | decide)] | rw [if_neg (by first | assumption | grind | decide)])); rfl)
def knownV (p : PortV) : InfoV :=
  if p.On = true then if p.Source = 3 then ⟨p.Id, p.Cost, p.Source, p.Vector_Root, p.Vector_Cost, p.Vector_Bridge, p.Vector_Port⟩ else ⟨p.Id, p.Cost, p.Source, 0, 0, 0, 0⟩ else ⟨p.Id, p.Cost, 0, 0, 0, 0, 0⟩
theorem ok_known : (match Try.f70.body with | some c => codeOk Try.f70.ntmps c | none => false) = true := by kernel_rfl
theorem en_known : ∃ fn, Try.prog.funcs[70]? = some fn ∧ (fn.name == "runtime.NumGoroutine") = false ∧ fn.body.isNone = false := ⟨_, Try.func70, by kernel_rfl, by kernel_rfl⟩
theorem known_w (p : PortV) (w : World) : PuAt Try.prog 70 [.agg ⟨p.enc⟩] (.agg ⟨(knownV p).enc⟩) w := by
  refine funcR_pure tyOk wide Try.func70 ok_known (Nat.le_of_ble_eq_true rfl) ?_
  repeat' first
    | (conv => whnf
       first
       | intro _
       | (first | refine selSplit (fun h => ?_) (fun h => ?_) | refine condSplit (fun h => ?_) (fun h => ?_)) <;> first | exact (clash (by assumption) h).elim | exact (clash h (by assumption)).elim | (simp only [decide_eq_true_eq, decide_eq_false_iff_not, Bool.not_eq_true', Bool.not_eq_false', Bool.not_true, Bool.not_false, Bool.or_eq_true, Bool.and_eq_true, Bool.or_eq_false_iff, Bool.and_eq_false_iff, beq_iff_eq, beq_eq_false_iff_ne, ne_eq] at h; first | (exfalso; omega) | skip) | skip
       | refine SeqP.go ?_
       | refine cdM ?_
       | exact IsV.mk
       | apply GuardP.mk
       | (first | refine eqlW eqS24 rfl rfl rfl fitM fitM ?_ | refine neqW eqS24 rfl rfl rfl fitM fitM ?_ | refine eqlW eqS26 rfl rfl rfl fitM fitM ?_ | refine neqW eqS26 rfl rfl rfl fitM fitM ?_)
       | refine Or.inl ⟨_, _, hasM, ?_⟩
       | refine Or.inl ⟨_, _, _, holeM, rfl, rfl, ?_⟩
       | refine lA ?_
       | refine lA0 ?_
       | refine lA1 ?_
       | refine lO ?_
       | refine lO0 ?_
       | refine lO1 ?_
       | refine lR ?_
       | refine lG ?_
       | refine lG0 ?_
       | refine tA ?_
       | refine tA0 ?_
       | refine tA1 ?_
       | refine BytW.ofBlk hasM rfl rfl ?_
       | refine AppW.noneB hasM leM rfl rfl rfl leM leM ?_
       | refine AppW.rowB hasM leM rfl rfl holeM leM leM ?_
       | refine AppW.blkB hasM leM rfl rfl holeM rfl rfl leM leM ?_
       | refine AppW.rowS hasM leM rfl rfl holeM (by omega) leM ?_
       | refine AppW.arrS hasM leM rfl rfl rfl holeM (by first | omega | (simp; omega)) leM ?_
       | refine ⟨sideM, ?_⟩
       | fail)
  all_goals (try conv => whnf)
  all_goals (show Value.agg _ = _; unfold knownV; (repeat (first | rw [if_pos (by first | assumption | grind | decide)] | rw [if_neg (by first | assumption | grind | decide)])); rfl)
end Go.Proofs.Ytmgoahmbdpoikaa.Am
