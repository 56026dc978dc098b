/- Package state: timers, ticks. -/
import Derived.Test.YtmgoahmbdpoikaaSend2
import Derived.Test.YtmgoahmbdpoikaaAm15
set_option linter.unusedVariables false
set_option linter.unusedSimpArgs false
set_option maxRecDepth 100000
set_option maxHeartbeats 4000000
namespace Go.Proofs.Ytmgoahmbdpoikaa.Am
open Go Go.RowKit
theorem subSym {cs : List Value} {o : Nat} {v : Value} {k : List Value → Prop} (hx : cs[o]? = some v) (hk : k [v]) : subK False cs o 1 k := by
  have hlt : o < cs.length := (List.getElem?_eq_some_iff.1 hx).1
  rw [subK_eq _ _ _ _ _ (by omega), List.drop_eq_getElem_cons hlt, (List.getElem?_eq_some_iff.1 hx).2]
  exact hk
theorem putSym {cs : List Value} {o : Nat} {v : Value} {k : List Value → Prop} (hlt : o < cs.length) (hk : k (cs.set o v)) : putK False cs o [v] k := by
  rw [putK_eq _ _ _ _ _ (by simp; omega)]
  rw [List.set_eq_take_append_cons_drop, if_pos hlt] at hk
  simpa using hk
def lessV (n : Int) : Int := IntKind.i64.wrap (n - (if (if 0 < n then n else 0) < 1 then (if 0 < n then n else 0) else 1))
theorem lessV_eq {n : Int} (h0 : -9223372036854775808 ≤ n) (h1 : n < 9223372036854775808) : lessV n = if 0 < n then n - 1 else n := by
  unfold lessV
  by_cases h : 0 < n
  · rw [if_pos h, if_pos h]
    by_cases g : n < 1
    · omega
    · rw [if_neg g, w64 (by omega) (by omega)]
  · rw [if_neg h, if_neg h, if_pos (by omega), Int.sub_zero, w64 h0 h1]
theorem ok_less : (match Try.f54.body with | some c => codeOk Try.f54.ntmps c | none => false) = true := by kernel_rfl
theorem en_less : ∃ fn, Try.prog.funcs[54]? = some fn ∧ (fn.name == "runtime.NumGoroutine") = false ∧ fn.body.isNone = false := ⟨_, Try.func54, by kernel_rfl, by kernel_rfl⟩
theorem less_w (cs : List Value) (o b T : Nat) (n : Int) (w : World) (hx : cs[o]? = some (.int .i64 n)) (hb : w.heap[b]? = some (.cells ⟨cs⟩ T (0, 0))) : OneAt Try.prog 54 [.pointer (some ⟨b, o, none⟩)] b cs T (.tuple ⟨[]⟩) (cs.set o (.int .i64 (lessV n))) w := by
  have hlt : o < cs.length := (List.getElem?_eq_some_iff.1 hx).1
  refine funcR_one tyOk wide Try.func54 ok_less (Nat.le_of_ble_eq_true rfl) hb ?_
  repeat' first
    | (conv => whnf
       first
       | intro _
       | (first | refine selSplit (fun h => ?_) (fun h => ?_) | refine condSplit (fun h => ?_) (fun h => ?_)) <;> first | exact (clash (by assumption) h).elim | exact (clash h (by assumption)).elim | (simp only [decide_eq_true_eq, decide_eq_false_iff_not, Bool.not_eq_true', Bool.not_eq_false', Bool.not_true, Bool.not_false, Bool.or_eq_true, Bool.and_eq_true, Bool.or_eq_false_iff, Bool.and_eq_false_iff, beq_iff_eq, beq_eq_false_iff_ne, ne_eq] at h; first | (exfalso; omega) | skip) | skip
       | (first | refine drM (.quiet 0 (.quiet 1 (.quiet 2 (.quiet 3 (.quiet 4 (.quiet 5 (.quiet 6 (.quiet 7 (.quiet 8 (.quiet 9 (.last 10 false .done))))))))))) (SubL.refl _) ?_)
       | refine AltP.mk ?_ ?_
       | refine kpM ?_
       | refine SeqP.go ?_
       | refine cdM ?_
       | exact IsV.mk
       | apply GuardP.mk
       | (apply subSym hx)
       | (apply putSym hlt)
       | refine Or.inl ⟨_, _, hasM, ?_⟩
       | refine Or.inl ⟨_, _, _, holeM, rfl, rfl, ?_⟩
       | refine lA ?_
       | refine lA0 ?_
       | refine lA1 ?_
       | refine lO ?_
       | refine lO0 ?_
       | refine lO1 ?_
       | refine lG ?_
       | refine lG0 ?_
       | refine tA ?_
       | refine tA0 ?_
       | refine tA1 ?_
       | refine BytW.ofBlk hasM rfl rfl ?_
       | refine AppW.noneB hasM leM rfl rfl rfl leM leM ?_
       | refine AppW.rowB hasM leM rfl rfl holeM leM leM ?_
       | refine AppW.blkB hasM leM rfl rfl holeM rfl rfl leM leM ?_
       | refine AppW.rowS hasM leM rfl rfl holeM (by omega) leM ?_
       | refine AppW.arrS hasM leM rfl rfl rfl holeM (by first | omega | (simp; omega)) leM ?_
       | refine ⟨sideM, ?_⟩
       | fail)
  all_goals (try conv => whnf)
  all_goals exact List.Sublist.refl _
theorem ok_timers : (match Try.f55.body with | some c => codeOk Try.f55.ntmps c | none => false) = true := by kernel_rfl
theorem en_timers : ∃ fn, Try.prog.funcs[55]? = some fn ∧ (fn.name == "runtime.NumGoroutine") = false ∧ fn.body.isNone = false := ⟨_, Try.func55, by kernel_rfl, by kernel_rfl⟩
theorem timers_w (b : Nat) (w : World) : PuAt Try.prog 55 [.pointer (some ⟨b, 0, none⟩)] (.agg ⟨[.pointer (some ⟨b, 0 + 50, none⟩), .pointer (some ⟨b, 0 + 51, none⟩), .pointer (some ⟨b, 0 + 52, none⟩), .pointer (some ⟨b, 0 + 53, none⟩), .pointer (some ⟨b, 0 + 54, none⟩), .pointer (some ⟨b, 0 + 55, none⟩), .pointer (some ⟨b, 0 + 56, none⟩), .pointer (some ⟨b, 0 + 57, none⟩)]⟩) w := by
  refine funcR_pure tyOk wide Try.func55 ok_timers (Nat.le_of_ble_eq_true rfl) ?_
  repeat' first
    | (conv => whnf
       first
       | intro _
       | (first | refine selSplit (fun h => ?_) (fun h => ?_) | refine condSplit (fun h => ?_) (fun h => ?_)) <;> first | exact (clash (by assumption) h).elim | exact (clash h (by assumption)).elim | (simp only [decide_eq_true_eq, decide_eq_false_iff_not, Bool.not_eq_true', Bool.not_eq_false', Bool.not_true, Bool.not_false, Bool.or_eq_true, Bool.and_eq_true, Bool.or_eq_false_iff, Bool.and_eq_false_iff, beq_iff_eq, beq_eq_false_iff_ne, ne_eq] at h; first | (exfalso; omega) | skip) | skip
       | (first | refine drM (.quiet 0 (.quiet 1 (.quiet 2 (.quiet 3 (.quiet 4 (.quiet 5 (.quiet 6 (.quiet 7 (.quiet 8 (.quiet 9 (.quiet 10 (.quiet 11 (.quiet 12 (.quiet 13 (.quiet 14 (.quiet 15 (.quiet 16 (.quiet 17 (.quiet 18 (.quiet 19 (.quiet 20 (.quiet 21 (.quiet 22 (.quiet 23 (.quiet 24 (.last 25 false .done)))))))))))))))))))))))))) (SubL.refl _) ?_)
       | refine AltP.mk ?_ ?_
       | refine kpM ?_
       | refine SeqP.go ?_
       | refine cdM ?_
       | exact IsV.mk
       | apply GuardP.mk
       | refine Or.inl ⟨_, _, hasM, ?_⟩
       | refine Or.inl ⟨_, _, _, holeM, rfl, rfl, ?_⟩
       | refine lA ?_
       | refine lA0 ?_
       | refine lA1 ?_
       | refine lO ?_
       | refine lO0 ?_
       | refine lO1 ?_
       | refine lG ?_
       | refine lG0 ?_
       | refine tA ?_
       | refine tA0 ?_
       | refine tA1 ?_
       | refine BytW.ofBlk hasM rfl rfl ?_
       | refine AppW.noneB hasM leM rfl rfl rfl leM leM ?_
       | refine AppW.rowB hasM leM rfl rfl holeM leM leM ?_
       | refine AppW.blkB hasM leM rfl rfl holeM rfl rfl leM leM ?_
       | refine AppW.rowS hasM leM rfl rfl holeM (by omega) leM ?_
       | refine AppW.arrS hasM leM rfl rfl rfl holeM (by first | omega | (simp; omega)) leM ?_
       | refine ⟨sideM, ?_⟩
       | fail)
  all_goals (try conv => whnf)
  all_goals rfl
def tickK (k : Nat) (p : PortV) : PortV := match k with
  | 0 => p
  | 1 => { p with Fd := lessV p.Fd }
  | 2 => { p with Fd := lessV p.Fd, Rr := lessV p.Rr }
  | 3 => { p with Fd := lessV p.Fd, Rr := lessV p.Rr, Rb := lessV p.Rb }
  | 4 => { p with Fd := lessV p.Fd, Rr := lessV p.Rr, Rb := lessV p.Rb, Tc := lessV p.Tc }
  | 5 => { p with Fd := lessV p.Fd, Rr := lessV p.Rr, Rb := lessV p.Rb, Tc := lessV p.Tc, Edge := lessV p.Edge }
  | 6 => { p with Fd := lessV p.Fd, Rr := lessV p.Rr, Rb := lessV p.Rb, Tc := lessV p.Tc, Edge := lessV p.Edge, Md := lessV p.Md }
  | 7 => { p with Fd := lessV p.Fd, Rr := lessV p.Rr, Rb := lessV p.Rb, Tc := lessV p.Tc, Edge := lessV p.Edge, Md := lessV p.Md, Info := lessV p.Info }
  | _ => { p with Fd := lessV p.Fd, Rr := lessV p.Rr, Rb := lessV p.Rb, Tc := lessV p.Tc, Edge := lessV p.Edge, Md := lessV p.Md, Info := lessV p.Info, Hello := lessV p.Hello }
def tickV (p : PortV) : PortV := { p with Fd := lessV p.Fd, Rr := lessV p.Rr, Rb := lessV p.Rb, Tc := lessV p.Tc, Edge := lessV p.Edge, Md := lessV p.Md, Info := lessV p.Info, Hello := lessV p.Hello, TxCount := lessV p.TxCount }
theorem ok_Tick : (match Try.f21.body with | some c => codeOk Try.f21.ntmps c | none => false) = true := by kernel_rfl
theorem en_Tick : ∃ fn, Try.prog.funcs[21]? = some fn ∧ (fn.name == "runtime.NumGoroutine") = false ∧ fn.body.isNone = false := ⟨_, Try.func21, by kernel_rfl, by kernel_rfl⟩
theorem Tick_w (p : PortV) (w : World) : PuAt Try.prog 21 [.agg ⟨p.enc⟩] (.agg ⟨(tickV p).enc⟩) w := by
  refine funcR_pure tyOk wide Try.func21 ok_Tick (Nat.le_of_ble_eq_true rfl) ?_
  repeat' first
    | (conv => whnf
       first
       | intro _
       | (first | refine selSplit (fun h => ?_) (fun h => ?_) | refine condSplit (fun h => ?_) (fun h => ?_)) <;> first | exact (clash (by assumption) h).elim | exact (clash h (by assumption)).elim | (simp only [decide_eq_true_eq, decide_eq_false_iff_not, Bool.not_eq_true', Bool.not_eq_false', Bool.not_true, Bool.not_false, Bool.or_eq_true, Bool.and_eq_true, Bool.or_eq_false_iff, Bool.and_eq_false_iff, beq_iff_eq, beq_eq_false_iff_ne, ne_eq] at h; first | (exfalso; omega) | skip) | skip
       | refine SeqP.go ?_
       | refine cdM ?_
       | exact IsV.mk
       | apply GuardP.mk
       | ((first | apply callPure' en_timers | apply callQuiet' en_timers); · exact fun w _ => timers_w _ w)
       | refine Or.inl ⟨_, _, hasM, ?_⟩
       | refine Or.inl ⟨_, _, _, holeM, rfl, rfl, ?_⟩
       | refine lA ?_
       | refine lA0 ?_
       | refine lA1 ?_
       | refine lO ?_
       | refine lO0 ?_
       | refine lO1 ?_
       | refine lG ?_
       | refine lG0 ?_
       | refine tA ?_
       | refine tA0 ?_
       | refine tA1 ?_
       | refine BytW.ofBlk hasM rfl rfl ?_
       | refine AppW.noneB hasM leM rfl rfl rfl leM leM ?_
       | refine AppW.rowB hasM leM rfl rfl holeM leM leM ?_
       | refine AppW.blkB hasM leM rfl rfl holeM rfl rfl leM leM ?_
       | refine AppW.rowS hasM leM rfl rfl holeM (by omega) leM ?_
       | refine AppW.arrS hasM leM rfl rfl rfl holeM (by first | omega | (simp; omega)) leM ?_
       | refine ⟨sideM, ?_⟩
       | fail)
  all_goals (try conv => whnf)
  rename_i b1 b2
  refine .mk Nat (fun k S H => k ≤ 8 ∧ S = [(7, .int .i64 k), (6, .agg ⟨[.pointer (some ⟨b1, 0 + 50, none⟩), .pointer (some ⟨b1, 0 + 51, none⟩), .pointer (some ⟨b1, 0 + 52, none⟩), .pointer (some ⟨b1, 0 + 53, none⟩), .pointer (some ⟨b1, 0 + 54, none⟩), .pointer (some ⟨b1, 0 + 55, none⟩), .pointer (some ⟨b1, 0 + 56, none⟩), .pointer (some ⟨b1, 0 + 57, none⟩)]⟩), (3, .func (.func 54) #[] #[]), (2, .pointer (some ⟨b2, 0, none⟩)), (1, .pointer (some ⟨b1, 0, none⟩))] ∧ H = [.blk b1 (tickK k p).enc 28, .blk b2 td28.zero 28]) (fun k => 8 - k) 0 _ _ ⟨by omega, rfl, rfl⟩ subM entM ?_
  rintro k S1 H1 ⟨hk, rfl, rfl⟩
  rcases (show k = 0 ∨ k = 1 ∨ k = 2 ∨ k = 3 ∨ k = 4 ∨ k = 5 ∨ k = 6 ∨ k = 7 ∨ k = 8 by omega) with rfl | rfl | rfl | rfl | rfl | rfl | rfl | rfl | rfl
  all_goals
    repeat' first
      | (conv => whnf
         first
         | intro _
         | (first | refine selSplit (fun h => ?_) (fun h => ?_) | refine condSplit (fun h => ?_) (fun h => ?_)) <;> first | exact (clash (by assumption) h).elim | exact (clash h (by assumption)).elim | (simp only [decide_eq_true_eq, decide_eq_false_iff_not, Bool.not_eq_true', Bool.not_eq_false', Bool.not_true, Bool.not_false, Bool.or_eq_true, Bool.and_eq_true, Bool.or_eq_false_iff, Bool.and_eq_false_iff, beq_iff_eq, beq_eq_false_iff_ne, ne_eq] at h; first | (exfalso; omega) | skip) | skip
         | refine SeqP.go ?_
         | refine cdM ?_
         | exact IsV.mk
         | apply GuardP.mk
         | (refine callOne holeM en_less (fun w hw => less_w _ _ _ _ _ w rfl (hw.blk hasM)) ?_)
         | refine Or.inl ⟨_, _, hasM, ?_⟩
         | refine Or.inl ⟨_, _, _, holeM, rfl, rfl, ?_⟩
         | refine lA ?_
         | refine lA0 ?_
         | refine lA1 ?_
         | refine lO ?_
         | refine lO0 ?_
         | refine lO1 ?_
         | refine lG ?_
         | refine lG0 ?_
         | refine tA ?_
         | refine tA0 ?_
         | refine tA1 ?_
         | refine BytW.ofBlk hasM rfl rfl ?_
         | refine AppW.noneB hasM leM rfl rfl rfl leM leM ?_
         | refine AppW.rowB hasM leM rfl rfl holeM leM leM ?_
         | refine AppW.blkB hasM leM rfl rfl holeM rfl rfl leM leM ?_
         | refine AppW.rowS hasM leM rfl rfl holeM (by omega) leM ?_
         | refine AppW.arrS hasM leM rfl rfl rfl holeM (by first | omega | (simp; omega)) leM ?_
         | refine ⟨sideM, ?_⟩
         | fail)
    all_goals (try conv => whnf)
  all_goals first
    | exact .mk 1 _ _ (by omega) ⟨by omega, rfl, rfl⟩ subM entM
    | exact .mk 2 _ _ (by omega) ⟨by omega, rfl, rfl⟩ subM entM
    | exact .mk 3 _ _ (by omega) ⟨by omega, rfl, rfl⟩ subM entM
    | exact .mk 4 _ _ (by omega) ⟨by omega, rfl, rfl⟩ subM entM
    | exact .mk 5 _ _ (by omega) ⟨by omega, rfl, rfl⟩ subM entM
    | exact .mk 6 _ _ (by omega) ⟨by omega, rfl, rfl⟩ subM entM
    | exact .mk 7 _ _ (by omega) ⟨by omega, rfl, rfl⟩ subM entM
    | exact .mk 8 _ _ (by omega) ⟨by omega, rfl, rfl⟩ subM entM
    | rfl
end Go.Proofs.Ytmgoahmbdpoikaa.Am
