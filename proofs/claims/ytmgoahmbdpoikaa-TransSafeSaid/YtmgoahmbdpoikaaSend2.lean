/- Package send: what is sent. -/
import Derived.Test.YtmgoahmbdpoikaaSend
set_option linter.unusedVariables false
set_option linter.unusedSimpArgs false
set_option maxRecDepth 100000
set_option maxHeartbeats 4000000
namespace Go.Proofs.Ytmgoahmbdpoikaa.Am
open Go Go.RowKit
def scaledV (n : Int) : Int := if IntKind.i64.wrap (n * 256) < 65535 then IntKind.i64.wrap (n * 256) else 65535
theorem ok_scaled : (match Try.f79.body with | some c => codeOk Try.f79.ntmps c | none => false) = true := by kernel_rfl
theorem en_scaled : ∃ fn, Try.prog.funcs[79]? = some fn ∧ (fn.name == "runtime.NumGoroutine") = false ∧ fn.body.isNone = false := ⟨_, Try.func79, by kernel_rfl, by kernel_rfl⟩
theorem scaled_w (n : Int) (w : World) : PuAt Try.prog 79 [.int .i64 n] (.int .i64 (scaledV n)) w := by
  refine funcR_pure tyOk wide Try.func79 ok_scaled (Nat.le_of_ble_eq_true rfl) ?_
  repeat' first
    | (conv => whnf
       first
       | intro _
       | (first | refine selSplit (fun h => ?_) (fun h => ?_) | refine condSplit (fun h => ?_) (fun h => ?_)) <;> first | exact (clash (by assumption) h).elim | exact (clash h (by assumption)).elim | (simp only [decide_eq_true_eq, decide_eq_false_iff_not, Bool.not_eq_true', Bool.not_eq_false', Bool.not_true, Bool.not_false, Bool.or_eq_true, Bool.and_eq_true, Bool.or_eq_false_iff, Bool.and_eq_false_iff, beq_iff_eq, beq_eq_false_iff_ne, ne_eq] at h; first | (exfalso; omega) | skip) | skip
       | refine SeqP.go ?_
       | refine cdM ?_
       | exact IsV.mk
       | apply GuardP.mk
       | refine Or.inl ⟨_, _, hasM, ?_⟩
       | refine Or.inl ⟨_, _, _, holeM, rfl, rfl, ?_⟩
       | refine lA ?_
       | refine lA0 ?_
       | refine lA1 ?_
       | refine lO ?_
       | refine lO0 ?_
       | refine lO1 ?_
       | refine lG ?_
       | refine lG0 ?_
       | refine tA ?_
       | refine tA0 ?_
       | refine tA1 ?_
       | refine BytW.ofBlk hasM rfl rfl ?_
       | refine AppW.noneB hasM leM rfl rfl rfl leM leM ?_
       | refine AppW.rowB hasM leM rfl rfl holeM leM leM ?_
       | refine AppW.blkB hasM leM rfl rfl holeM rfl rfl leM leM ?_
       | refine AppW.rowS hasM leM rfl rfl holeM (by omega) leM ?_
       | refine AppW.arrS hasM leM rfl rfl rfl holeM (by first | omega | (simp; omega)) leM ?_
       | refine ⟨sideM, ?_⟩
       | fail)
  all_goals (try conv => whnf)
  all_goals rfl
def putV (is : Bool) (bit n : Int) : Int := if is then bits .or .i64 n (IntKind.i64.wrap (1 * 2 ^ min bit.toNat IntKind.i64.bits)) else n
theorem ok_put : (match Try.f92.body with | some c => codeOk Try.f92.ntmps c | none => false) = true := by kernel_rfl
theorem en_put : ∃ fn, Try.prog.funcs[92]? = some fn ∧ (fn.name == "runtime.NumGoroutine") = false ∧ fn.body.isNone = false := ⟨_, Try.func92, by kernel_rfl, by kernel_rfl⟩
theorem put_w (is : Bool) (bit n : Int) (b : Nat) (w : World) (hbit : 0 ≤ bit) (hb : w.heap[b]? = some (.cells ⟨[.int .i64 n]⟩ 3 (0, 0))) : OneAt Try.prog 92 [.bool is, .int .i64 bit, .pointer (some ⟨b, 0, none⟩)] b [.int .i64 n] 3 (.tuple ⟨[]⟩) [.int .i64 (putV is bit n)] w := by
  refine funcR_one tyOk wide Try.func92 ok_put (Nat.le_of_ble_eq_true rfl) hb ?_
  repeat' first
    | (conv => whnf
       first
       | intro _
       | (first | refine selSplit (fun h => ?_) (fun h => ?_) | refine condSplit (fun h => ?_) (fun h => ?_)) <;> first | exact (clash (by assumption) h).elim | exact (clash h (by assumption)).elim | (simp only [decide_eq_true_eq, decide_eq_false_iff_not, Bool.not_eq_true', Bool.not_eq_false', Bool.not_true, Bool.not_false, Bool.or_eq_true, Bool.and_eq_true, Bool.or_eq_false_iff, Bool.and_eq_false_iff, beq_iff_eq, beq_eq_false_iff_ne, ne_eq] at h; first | (exfalso; omega) | skip) | skip
       | (first | refine drM (.quiet 0 (.quiet 1 (.quiet 2 (.quiet 3 (.last 4 false .done))))) (SubL.refl _) ?_)
       | refine AltP.mk ?_ ?_
       | refine kpM ?_
       | refine SeqP.go ?_
       | refine cdM ?_
       | exact IsV.mk
       | apply GuardP.mk
       | refine Or.inl ⟨_, _, hasM, ?_⟩
       | refine Or.inl ⟨_, _, _, holeM, rfl, rfl, ?_⟩
       | refine lA ?_
       | refine lA0 ?_
       | refine lA1 ?_
       | refine lO ?_
       | refine lO0 ?_
       | refine lO1 ?_
       | refine lG ?_
       | refine lG0 ?_
       | refine tA ?_
       | refine tA0 ?_
       | refine tA1 ?_
       | refine BytW.ofBlk hasM rfl rfl ?_
       | refine AppW.noneB hasM leM rfl rfl rfl leM leM ?_
       | refine AppW.rowB hasM leM rfl rfl holeM leM leM ?_
       | refine AppW.blkB hasM leM rfl rfl holeM rfl rfl leM leM ?_
       | refine AppW.rowS hasM leM rfl rfl holeM (by omega) leM ?_
       | refine AppW.arrS hasM leM rfl rfl rfl holeM (by first | omega | (simp; omega)) leM ?_
       | refine ⟨sideM, ?_⟩
       | fail)
  all_goals (try conv => whnf)
  all_goals (simp only [putV, *, if_true, if_false, Bool.false_eq_true]; exact List.Sublist.refl _)
def roleBits (r : Int) : Int := if r = 1 then 2 else if r = 2 then 3 else if r = 3 ∨ r = 4 then 1 else 0
theorem roleAt (r : Int) (h0 : 0 ≤ r) (h5 : r < 5) : [Value.int .i64 0, .int .i64 2, .int .i64 3, .int .i64 1, .int .i64 1][r.toNat]? = some (.int .i64 (roleBits r)) := by
  rcases (show r = 0 ∨ r = 1 ∨ r = 2 ∨ r = 3 ∨ r = 4 by omega) with rfl | rfl | rfl | rfl | rfl <;> rfl
def flagsV (p : PortV) (config : Bool) : Int :=
  let n1 := putV (decide (0 < p.Tc)) 0 0
  if config then putV p.TcAck 7 n1 else
  let n2 := putV p.Proposing 1 n1
  let n3 := if 0 ≤ p.Role ∧ p.Role < 5 then bits .or .i64 n2 (IntKind.i64.wrap (roleBits p.Role * 2 ^ min (2 : Int).toNat IntKind.i64.bits)) else n2
  putV p.Agree 6 (putV p.Forwarding 5 (putV p.Learning 4 n3))
theorem ok_Flags : (match Try.f80.body with | some c => codeOk Try.f80.ntmps c | none => false) = true := by kernel_rfl
theorem en_Flags : ∃ fn, Try.prog.funcs[80]? = some fn ∧ (fn.name == "runtime.NumGoroutine") = false ∧ fn.body.isNone = false := ⟨_, Try.func80, by kernel_rfl, by kernel_rfl⟩
theorem Flags_w (p : PortV) (c : Bool) (w : World) : PuAt Try.prog 80 [.agg ⟨p.enc⟩, .bool c] (.int .i64 (flagsV p c)) w := by
  refine funcR_pure tyOk wide Try.func80 ok_Flags (Nat.le_of_ble_eq_true rfl) ?_
  repeat' first
    | (conv => whnf
       first
       | intro _
       | (first | refine selSplit (fun h => ?_) (fun h => ?_) | refine condSplit (fun h => ?_) (fun h => ?_)) <;> first | exact (clash (by assumption) h).elim | exact (clash h (by assumption)).elim | (simp only [decide_eq_true_eq, decide_eq_false_iff_not, Bool.not_eq_true', Bool.not_eq_false', Bool.not_true, Bool.not_false, Bool.or_eq_true, Bool.and_eq_true, Bool.or_eq_false_iff, Bool.and_eq_false_iff, beq_iff_eq, beq_eq_false_iff_ne, ne_eq] at h; first | (exfalso; omega) | skip) | skip
       | (first | refine drM (.quiet 0 (.quiet 1 (.quiet 2 (.quiet 3 (.quiet 4 (.quiet 5 (.quiet 6 (.last 7 false .done)))))))) (SubL.refl _) ?_)
       | refine AltP.mk ?_ ?_
       | refine kpM ?_
       | refine SeqP.go ?_
       | refine cdM ?_
       | exact IsV.mk
       | apply GuardP.mk
       | (refine callOne holeM en_put (fun w hw => put_w _ _ _ _ w (by decide) (hw.blk hasM)) ?_)
       | (refine Or.inr ⟨[.int .i64 (roleBits p.Role)], Rd.elem (i := p.Role.toNat) (vs := [.int .i64 0, .int .i64 2, .int .i64 3, .int .i64 1, .int .i64 1]) (o := 0) (Rd.blk hasM rfl) (roleAt _ (by omega) (by omega)), rfl, ?_⟩)
       | refine Or.inl ⟨_, _, hasM, ?_⟩
       | refine Or.inl ⟨_, _, _, holeM, rfl, rfl, ?_⟩
       | refine lA ?_
       | refine lA0 ?_
       | refine lA1 ?_
       | refine lO ?_
       | refine lO0 ?_
       | refine lO1 ?_
       | refine lG ?_
       | refine lG0 ?_
       | refine tA ?_
       | refine tA0 ?_
       | refine tA1 ?_
       | refine BytW.ofBlk hasM rfl rfl ?_
       | refine AppW.noneB hasM leM rfl rfl rfl leM leM ?_
       | refine AppW.rowB hasM leM rfl rfl holeM leM leM ?_
       | refine AppW.blkB hasM leM rfl rfl holeM rfl rfl leM leM ?_
       | refine AppW.rowS hasM leM rfl rfl holeM (by omega) leM ?_
       | refine AppW.arrS hasM leM rfl rfl rfl holeM (by first | omega | (simp; omega)) leM ?_
       | refine ⟨sideM, ?_⟩
       | fail)
  all_goals (try conv => whnf)
  all_goals (show Value.int _ _ = _; refine v_int ?_; unfold flagsV)
  all_goals (dsimp only; (repeat (first | rw [if_pos (by first | assumption | grind | decide)] | rw [if_neg (by first | assumption | grind | decide)])))
def messageV (p : PortV) (k : Int) : BpduV := { Kind := k, Flags := flagsV p (decide (k = 1)), Vector_Root := p.Offer_Root, Vector_Cost := p.Offer_Cost, Vector_Bridge := p.Offer_Bridge, Vector_Port := p.Offer_Port, Age := scaledV p.Given_Age, Max := scaledV p.Given_Max, Hello := scaledV p.Given_Hello, Delay := scaledV p.Given_Delay }
theorem ok_message : (match Try.f53.body with | some c => codeOk Try.f53.ntmps c | none => false) = true := by kernel_rfl
theorem en_message : ∃ fn, Try.prog.funcs[53]? = some fn ∧ (fn.name == "runtime.NumGoroutine") = false ∧ fn.body.isNone = false := ⟨_, Try.func53, by kernel_rfl, by kernel_rfl⟩
theorem message_w (p : PortV) (k : Int) (w : World) : PuAt Try.prog 53 [.agg ⟨p.enc⟩, .int .i64 k] (.agg ⟨(messageV p k).enc⟩) w := by
  refine funcR_pure tyOk wide Try.func53 ok_message (Nat.le_of_ble_eq_true rfl) ?_
  repeat' first
    | (conv => whnf
       first
       | intro _
       | (first | refine selSplit (fun h => ?_) (fun h => ?_) | refine condSplit (fun h => ?_) (fun h => ?_)) <;> first | exact (clash (by assumption) h).elim | exact (clash h (by assumption)).elim | (simp only [decide_eq_true_eq, decide_eq_false_iff_not, Bool.not_eq_true', Bool.not_eq_false', Bool.not_true, Bool.not_false, Bool.or_eq_true, Bool.and_eq_true, Bool.or_eq_false_iff, Bool.and_eq_false_iff, beq_iff_eq, beq_eq_false_iff_ne, ne_eq] at h; first | (exfalso; omega) | skip) | skip
       | (first | refine drM (.quiet 0 (.quiet 1 (.quiet 2 (.quiet 3 (.quiet 4 (.quiet 5 (.quiet 6 (.quiet 7 (.quiet 8 (.quiet 9 (.quiet 10 (.quiet 11 (.quiet 12 (.quiet 13 (.quiet 14 (.quiet 15 (.quiet 16 (.quiet 17 (.quiet 18 (.quiet 19 (.quiet 20 (.quiet 21 (.quiet 22 (.quiet 23 (.last 24 false .done))))))))))))))))))))))))) (SubL.refl _) ?_)
       | refine AltP.mk ?_ ?_
       | refine kpM ?_
       | refine SeqP.go ?_
       | refine cdM ?_
       | exact IsV.mk
       | apply GuardP.mk
       | ((first | apply callPure' en_scaled | apply callQuiet' en_scaled); · exact fun w _ => scaled_w _ w)
       | ((first | apply callPure' en_Flags | apply callQuiet' en_Flags); · exact fun w _ => Flags_w p _ w)
       | refine Or.inl ⟨_, _, hasM, ?_⟩
       | refine Or.inl ⟨_, _, _, holeM, rfl, rfl, ?_⟩
       | refine lA ?_
       | refine lA0 ?_
       | refine lA1 ?_
       | refine lO ?_
       | refine lO0 ?_
       | refine lO1 ?_
       | refine lG ?_
       | refine lG0 ?_
       | refine tA ?_
       | refine tA0 ?_
       | refine tA1 ?_
       | refine BytW.ofBlk hasM rfl rfl ?_
       | refine AppW.noneB hasM leM rfl rfl rfl leM leM ?_
       | refine AppW.rowB hasM leM rfl rfl holeM leM leM ?_
       | refine AppW.blkB hasM leM rfl rfl holeM rfl rfl leM leM ?_
       | refine AppW.rowS hasM leM rfl rfl holeM (by omega) leM ?_
       | refine AppW.arrS hasM leM rfl rfl rfl holeM (by first | omega | (simp; omega)) leM ?_
       | refine ⟨sideM, ?_⟩
       | fail)
  all_goals (try conv => whnf)
  all_goals rfl
def rightB (b : BridgeV) : Bool := decide (b.Times_Age = 0 ∧ 6 ≤ b.Times_Max ∧ b.Times_Max ≤ 40 ∧ 1 ≤ b.Times_Hello ∧ b.Times_Hello ≤ 2 ∧ 4 ≤ b.Times_Delay ∧ b.Times_Delay ≤ 30)
theorem ok_infoRight : (match Try.f15.body with | some c => codeOk Try.f15.ntmps c | none => false) = true := by kernel_rfl
theorem en_infoRight : ∃ fn, Try.prog.funcs[15]? = some fn ∧ (fn.name == "runtime.NumGoroutine") = false ∧ fn.body.isNone = false := ⟨_, Try.func15, by kernel_rfl, by kernel_rfl⟩
theorem infoRight_w (b : BridgeV) (w : World) : PuAt Try.prog 15 [.agg ⟨b.enc⟩] (.bool (rightB b)) w := by
  refine funcR_pure tyOk wide Try.func15 ok_infoRight (Nat.le_of_ble_eq_true rfl) ?_
  repeat' first
    | (conv => whnf
       first
       | intro _
       | (first | refine selSplit (fun h => ?_) (fun h => ?_) | refine condSplit (fun h => ?_) (fun h => ?_)) <;> first | exact (clash (by assumption) h).elim | exact (clash h (by assumption)).elim | (simp only [decide_eq_true_eq, decide_eq_false_iff_not, Bool.not_eq_true', Bool.not_eq_false', Bool.not_true, Bool.not_false, Bool.or_eq_true, Bool.and_eq_true, Bool.or_eq_false_iff, Bool.and_eq_false_iff, beq_iff_eq, beq_eq_false_iff_ne, ne_eq] at h; first | (exfalso; omega) | skip) | skip
       | refine SeqP.go ?_
       | refine cdM ?_
       | exact IsV.mk
       | apply GuardP.mk
       | refine Or.inl ⟨_, _, hasM, ?_⟩
       | refine Or.inl ⟨_, _, _, holeM, rfl, rfl, ?_⟩
       | refine lA ?_
       | refine lA0 ?_
       | refine lA1 ?_
       | refine lO ?_
       | refine lO0 ?_
       | refine lO1 ?_
       | refine lG ?_
       | refine lG0 ?_
       | refine tA ?_
       | refine tA0 ?_
       | refine tA1 ?_
       | refine BytW.ofBlk hasM rfl rfl ?_
       | refine AppW.noneB hasM leM rfl rfl rfl leM leM ?_
       | refine AppW.rowB hasM leM rfl rfl holeM leM leM ?_
       | refine AppW.blkB hasM leM rfl rfl holeM rfl rfl leM leM ?_
       | refine AppW.rowS hasM leM rfl rfl holeM (by omega) leM ?_
       | refine AppW.arrS hasM leM rfl rfl rfl holeM (by first | omega | (simp; omega)) leM ?_
       | refine ⟨sideM, ?_⟩
       | fail)
  all_goals (try conv => whnf)
  all_goals (refine v_bool ?_; unfold rightB; grind)
def noBpdu : BpduV := { Kind := 0, Flags := 0, Vector_Root := 0, Vector_Cost := 0, Vector_Bridge := 0, Vector_Port := 0, Age := 0, Max := 0, Hello := 0, Delay := 0 }
/-- A port behind the Hello time. -/
def helloV (b : BridgeV) (p : PortV) : PortV := if p.Hello = 0 then { p with NewInfo := p.NewInfo || decide (p.Role = 2) || (decide (p.Role = 1) && !decide (p.Tc = 0)), Hello := b.Times_Hello } else p
def sendV (b : BridgeV) (p : PortV) : PortV × BpduV × Bool :=
  if rightB b = false ∨ p.On = false ∨ p.Ready = false ∨ p.Update = true then (p, noBpdu, false) else
  if (helloV b p).NewInfo = false ∨ 6 ≤ p.TxCount then (helloV b p, noBpdu, false) else
  if p.SendRstp = true ∧ 1 ≤ p.Role ∧ p.Role ≤ 4 then ({ helloV b p with NewInfo := false, TcAck := false, TxCount := IntKind.i64.wrap (p.TxCount + 1) }, messageV { helloV b p with NewInfo := false } 3, true) else
  if p.SendRstp = false ∧ p.Role = 2 then ({ helloV b p with NewInfo := false, TcAck := false, TxCount := IntKind.i64.wrap (p.TxCount + 1) }, messageV { helloV b p with NewInfo := false } 1, true) else
  if p.SendRstp = false ∧ p.Role = 1 then ({ helloV b p with NewInfo := false, TxCount := IntKind.i64.wrap (p.TxCount + 1) }, { noBpdu with Kind := 2 }, true) else
  ({ helloV b p with NewInfo := false }, noBpdu, false)
theorem ok_Send : (match Try.f18.body with | some c => codeOk Try.f18.ntmps c | none => false) = true := by kernel_rfl
theorem en_Send : ∃ fn, Try.prog.funcs[18]? = some fn ∧ (fn.name == "runtime.NumGoroutine") = false ∧ fn.body.isNone = false := ⟨_, Try.func18, by kernel_rfl, by kernel_rfl⟩
theorem Send_w (b : BridgeV) (p : PortV) (w : World) : PuAt Try.prog 18 [.agg ⟨b.enc⟩, .agg ⟨p.enc⟩] (.tuple ⟨[.agg ⟨(sendV b p).1.enc⟩, .agg ⟨(sendV b p).2.1.enc⟩, .bool (sendV b p).2.2]⟩) w := by
  refine funcR_pure tyOk wide Try.func18 ok_Send (Nat.le_of_ble_eq_true rfl) ?_
  repeat' first
    | (conv => whnf
       first
       | intro _
       | (first | refine selSplit (fun h => ?_) (fun h => ?_) | refine condSplit (fun h => ?_) (fun h => ?_)) <;> first | exact (clash (by assumption) h).elim | exact (clash h (by assumption)).elim | (simp only [decide_eq_true_eq, decide_eq_false_iff_not, Bool.not_eq_true', Bool.not_eq_false', Bool.not_true, Bool.not_false, Bool.or_eq_true, Bool.and_eq_true, Bool.or_eq_false_iff, Bool.and_eq_false_iff, beq_iff_eq, beq_eq_false_iff_ne, ne_eq] at h; first | (exfalso; omega) | skip) | skip
       | (first | refine drM (.quiet 0 (.quiet 1 (.last 2 true (.last 3 false (.last 4 false .done))))) (SubL.of (List.Sublist.cons_cons _ (List.Sublist.cons_cons _ (List.Sublist.cons _ (List.Sublist.refl _))))) ?_)
       | refine AltP.mk ?_ ?_
       | refine kpM ?_
       | refine SeqP.go ?_
       | refine cdM ?_
       | exact IsV.mk
       | apply GuardP.mk
       | ((first | apply callPure' en_infoRight | apply callQuiet' en_infoRight); · exact fun w _ => infoRight_w b w)
       | ((first | apply callPure' en_message | apply callQuiet' en_message); · exact fun w _ => message_w { p with NewInfo := false } _ w)
       | ((first | apply callPure' en_message | apply callQuiet' en_message); · exact fun w _ => message_w { p with NewInfo := false, Hello := b.Times_Hello } _ w)
       | refine Or.inl ⟨_, _, hasM, ?_⟩
       | refine Or.inl ⟨_, _, _, holeM, rfl, rfl, ?_⟩
       | refine lA ?_
       | refine lA0 ?_
       | refine lA1 ?_
       | refine lO ?_
       | refine lO0 ?_
       | refine lO1 ?_
       | refine lG ?_
       | refine lG0 ?_
       | refine tA ?_
       | refine tA0 ?_
       | refine tA1 ?_
       | refine BytW.ofBlk hasM rfl rfl ?_
       | refine AppW.noneB hasM leM rfl rfl rfl leM leM ?_
       | refine AppW.rowB hasM leM rfl rfl holeM leM leM ?_
       | refine AppW.blkB hasM leM rfl rfl holeM rfl rfl leM leM ?_
       | refine AppW.rowS hasM leM rfl rfl holeM (by omega) leM ?_
       | refine AppW.arrS hasM leM rfl rfl rfl holeM (by first | omega | (simp; omega)) leM ?_
       | refine ⟨sideM, ?_⟩
       | fail)
  all_goals (try conv => whnf)
  all_goals (show Value.tuple _ = _; unfold sendV helloV; (repeat (first | rw [if_pos (by first | assumption | grind | decide)] | rw [if_neg (by first | assumption | grind | decide)])); rfl)
end Go.Proofs.Ytmgoahmbdpoikaa.Am
