/- Package trans: what its closures ask, and what they do (this text is printed by gen_trans.py). -/
import Derived.Test.YtmgoahmbdpoikaaSend2
import Derived.Test.YtmgoahmbdpoikaaPClone
set_option linter.unusedVariables false
set_option linter.unusedSimpArgs false
set_option maxRecDepth 100000
set_option maxHeartbeats 4000000
namespace Go.Proofs.Ytmgoahmbdpoikaa.Am
open Go Go.RowKit
def moverE (t : TimesV) (g n c j : Nat) : List Value := [.int .i64 t.Age, .int .i64 t.Max, .int .i64 t.Hello, .int .i64 t.Delay, .slice (some ⟨g, 0, none⟩) n c, .int .i64 j, .pointer (some ⟨g, 0 + j * 61, none⟩)]
def stillB (p : PortV) : Bool := !p.Learning && !p.Forwarding
theorem ok_still : (match Try.f123.body with | some c => codeOk Try.f123.ntmps c | none => false) = true := by kernel_rfl
theorem en_still : ∃ fn, Try.prog.funcs[123]? = some fn ∧ (fn.name == "runtime.NumGoroutine") = false ∧ fn.body.isNone = false := ⟨_, Try.func123, by kernel_rfl, by kernel_rfl⟩
theorem still_w (p : PortV) (b o : Nat) (w : World) (h : w.rangeAt b o p.enc) : PuAt Try.prog 123 [.pointer (some ⟨b, o, none⟩)] (.bool (stillB p)) w := by
  refine funcR_pure tyOk wide Try.func123 ok_still (Nat.le_of_ble_eq_true rfl) ?_
  have hr := rg_old (X := []) h (by simp)
  repeat' first
    | (conv => whnf
       first
       | intro _
       | (first | refine selSplit (fun h => ?_) (fun h => ?_) | refine condSplit (fun h => ?_) (fun h => ?_)) <;> first | exact (clash (by assumption) h).elim | exact (clash h (by assumption)).elim | (simp only [decide_eq_true_eq, decide_eq_false_iff_not, Bool.not_eq_true', Bool.not_eq_false', Bool.not_true, Bool.not_false, Bool.or_eq_true, Bool.and_eq_true, Bool.or_eq_false_iff, Bool.and_eq_false_iff, beq_iff_eq, beq_eq_false_iff_ne, ne_eq] at h; first | (exfalso; omega) | skip) | skip
       | refine SeqP.go ?_
       | refine cdM ?_
       | exact IsV.mk
       | apply GuardP.mk
       | refine Or.inl ⟨_, _, hasM, ?_⟩
       | refine Or.inl ⟨_, _, _, holeM, rfl, rfl, ?_⟩
       | refine lA ?_
       | refine lA0 ?_
       | refine lA1 ?_
       | refine lO ?_
       | refine lO0 ?_
       | refine lO1 ?_
       | refine lG ?_
       | refine lG0 ?_
       | refine tA ?_
       | refine tA0 ?_
       | refine tA1 ?_
       | refine BytW.ofBlk hasM rfl rfl ?_
       | refine AppW.noneB hasM leM rfl rfl rfl leM leM ?_
       | refine AppW.rowB hasM leM rfl rfl holeM leM leM ?_
       | refine AppW.blkB hasM leM rfl rfl holeM rfl rfl leM leM ?_
       | refine AppW.rowS hasM leM rfl rfl holeM (by omega) leM ?_
       | refine AppW.arrS hasM leM rfl rfl rfl holeM (by first | omega | (simp; omega)) leM ?_
       | refine ⟨sideM, ?_⟩
       | fail)
  all_goals (try conv => whnf)
  all_goals rfl
theorem ok_wProp1 : (match Try.f137.body with | some c => codeOk Try.f137.ntmps c | none => false) = true := by kernel_rfl
theorem en_wProp1 : ∃ fn, Try.prog.funcs[137]? = some fn ∧ (fn.name == "runtime.NumGoroutine") = false ∧ fn.body.isNone = false := ⟨_, Try.func137, by kernel_rfl, by kernel_rfl⟩
theorem wProp1_w (p : PortV) (g j bp : Nat) (w : World) (hp : w.rangeAt bp 0 [.pointer (some ⟨g, 0 + j * 61, none⟩)]) (hx : w.rangeAt g (0 + j * 61) p.enc) : PuAt Try.prog 137 [.pointer (some ⟨bp, 0, none⟩)] (.bool (p.Proposed && !p.Agree)) w := by
  refine funcR_pure tyOk wide Try.func137 ok_wProp1 (Nat.le_of_ble_eq_true rfl) ?_
  have r1 := rg_old (X := []) hp (by simp)
  have r2 := rg_old (X := []) hx (by simp)
  repeat' first
    | (conv => whnf
       first
       | intro _
       | (first | refine selSplit (fun h => ?_) (fun h => ?_) | refine condSplit (fun h => ?_) (fun h => ?_)) <;> first | exact (clash (by assumption) h).elim | exact (clash h (by assumption)).elim | (simp only [decide_eq_true_eq, decide_eq_false_iff_not, Bool.not_eq_true', Bool.not_eq_false', Bool.not_true, Bool.not_false, Bool.or_eq_true, Bool.and_eq_true, Bool.or_eq_false_iff, Bool.and_eq_false_iff, beq_iff_eq, beq_eq_false_iff_ne, ne_eq] at h; first | (exfalso; omega) | skip) | skip
       | refine SeqP.go ?_
       | refine cdM ?_
       | exact IsV.mk
       | apply GuardP.mk
       | refine Or.inl ⟨_, _, hasM, ?_⟩
       | refine Or.inl ⟨_, _, _, holeM, rfl, rfl, ?_⟩
       | refine lA ?_
       | refine lA0 ?_
       | refine lA1 ?_
       | refine lO ?_
       | refine lO0 ?_
       | refine lO1 ?_
       | refine lG ?_
       | refine lG0 ?_
       | refine tA ?_
       | refine tA0 ?_
       | refine tA1 ?_
       | refine BytW.ofBlk hasM rfl rfl ?_
       | refine AppW.noneB hasM leM rfl rfl rfl leM leM ?_
       | refine AppW.rowB hasM leM rfl rfl holeM leM leM ?_
       | refine AppW.blkB hasM leM rfl rfl holeM rfl rfl leM leM ?_
       | refine AppW.rowS hasM leM rfl rfl holeM (by omega) leM ?_
       | refine AppW.arrS hasM leM rfl rfl rfl holeM (by first | omega | (simp; omega)) leM ?_
       | refine ⟨sideM, ?_⟩
       | fail)
  all_goals (try conv => whnf)
  all_goals rfl
theorem ok_wRoot1 : (match Try.f108.body with | some c => codeOk Try.f108.ntmps c | none => false) = true := by kernel_rfl
theorem en_wRoot1 : ∃ fn, Try.prog.funcs[108]? = some fn ∧ (fn.name == "runtime.NumGoroutine") = false ∧ fn.body.isNone = false := ⟨_, Try.func108, by kernel_rfl, by kernel_rfl⟩
theorem wRoot1_w (p : PortV) (g j bp : Nat) (w : World) (hp : w.rangeAt bp 0 [.pointer (some ⟨g, 0 + j * 61, none⟩)]) (hx : w.rangeAt g (0 + j * 61) p.enc) : PuAt Try.prog 108 [.pointer (some ⟨bp, 0, none⟩)] (.bool (p.Agreed && !p.Synced || p.Sync && p.Synced)) w := by
  refine funcR_pure tyOk wide Try.func108 ok_wRoot1 (Nat.le_of_ble_eq_true rfl) ?_
  have r1 := rg_old (X := []) hp (by simp)
  have r2 := rg_old (X := []) hx (by simp)
  repeat' first
    | (conv => whnf
       first
       | intro _
       | (first | refine selSplit (fun h => ?_) (fun h => ?_) | refine condSplit (fun h => ?_) (fun h => ?_)) <;> first | exact (clash (by assumption) h).elim | exact (clash h (by assumption)).elim | (simp only [decide_eq_true_eq, decide_eq_false_iff_not, Bool.not_eq_true', Bool.not_eq_false', Bool.not_true, Bool.not_false, Bool.or_eq_true, Bool.and_eq_true, Bool.or_eq_false_iff, Bool.and_eq_false_iff, beq_iff_eq, beq_eq_false_iff_ne, ne_eq] at h; first | (exfalso; omega) | skip) | skip
       | refine SeqP.go ?_
       | refine cdM ?_
       | exact IsV.mk
       | apply GuardP.mk
       | refine Or.inl ⟨_, _, hasM, ?_⟩
       | refine Or.inl ⟨_, _, _, holeM, rfl, rfl, ?_⟩
       | refine lA ?_
       | refine lA0 ?_
       | refine lA1 ?_
       | refine lO ?_
       | refine lO0 ?_
       | refine lO1 ?_
       | refine lG ?_
       | refine lG0 ?_
       | refine tA ?_
       | refine tA0 ?_
       | refine tA1 ?_
       | refine BytW.ofBlk hasM rfl rfl ?_
       | refine AppW.noneB hasM leM rfl rfl rfl leM leM ?_
       | refine AppW.rowB hasM leM rfl rfl holeM leM leM ?_
       | refine AppW.blkB hasM leM rfl rfl holeM rfl rfl leM leM ?_
       | refine AppW.rowS hasM leM rfl rfl holeM (by omega) leM ?_
       | refine AppW.arrS hasM leM rfl rfl rfl holeM (by first | omega | (simp; omega)) leM ?_
       | refine ⟨sideM, ?_⟩
       | fail)
  all_goals (try conv => whnf)
  all_goals rfl
theorem ok_wRoot3 : (match Try.f110.body with | some c => codeOk Try.f110.ntmps c | none => false) = true := by kernel_rfl
theorem en_wRoot3 : ∃ fn, Try.prog.funcs[110]? = some fn ∧ (fn.name == "runtime.NumGoroutine") = false ∧ fn.body.isNone = false := ⟨_, Try.func110, by kernel_rfl, by kernel_rfl⟩
theorem wRoot3_w (p : PortV) (g j bp : Nat) (w : World) (hp : w.rangeAt bp 0 [.pointer (some ⟨g, 0 + j * 61, none⟩)]) (hx : w.rangeAt g (0 + j * 61) p.enc) : PuAt Try.prog 110 [.pointer (some ⟨bp, 0, none⟩)] (.bool (!p.Forward && !p.Reroot)) w := by
  refine funcR_pure tyOk wide Try.func110 ok_wRoot3 (Nat.le_of_ble_eq_true rfl) ?_
  have r1 := rg_old (X := []) hp (by simp)
  have r2 := rg_old (X := []) hx (by simp)
  repeat' first
    | (conv => whnf
       first
       | intro _
       | (first | refine selSplit (fun h => ?_) (fun h => ?_) | refine condSplit (fun h => ?_) (fun h => ?_)) <;> first | exact (clash (by assumption) h).elim | exact (clash h (by assumption)).elim | (simp only [decide_eq_true_eq, decide_eq_false_iff_not, Bool.not_eq_true', Bool.not_eq_false', Bool.not_true, Bool.not_false, Bool.or_eq_true, Bool.and_eq_true, Bool.or_eq_false_iff, Bool.and_eq_false_iff, beq_iff_eq, beq_eq_false_iff_ne, ne_eq] at h; first | (exfalso; omega) | skip) | skip
       | refine SeqP.go ?_
       | refine cdM ?_
       | exact IsV.mk
       | apply GuardP.mk
       | refine Or.inl ⟨_, _, hasM, ?_⟩
       | refine Or.inl ⟨_, _, _, holeM, rfl, rfl, ?_⟩
       | refine lA ?_
       | refine lA0 ?_
       | refine lA1 ?_
       | refine lO ?_
       | refine lO0 ?_
       | refine lO1 ?_
       | refine lG ?_
       | refine lG0 ?_
       | refine tA ?_
       | refine tA0 ?_
       | refine tA1 ?_
       | refine BytW.ofBlk hasM rfl rfl ?_
       | refine AppW.noneB hasM leM rfl rfl rfl leM leM ?_
       | refine AppW.rowB hasM leM rfl rfl holeM leM leM ?_
       | refine AppW.blkB hasM leM rfl rfl holeM rfl rfl leM leM ?_
       | refine AppW.rowS hasM leM rfl rfl holeM (by omega) leM ?_
       | refine AppW.arrS hasM leM rfl rfl rfl holeM (by first | omega | (simp; omega)) leM ?_
       | refine ⟨sideM, ?_⟩
       | fail)
  all_goals (try conv => whnf)
  all_goals rfl
theorem ok_wRoot5 : (match Try.f112.body with | some c => codeOk Try.f112.ntmps c | none => false) = true := by kernel_rfl
theorem en_wRoot5 : ∃ fn, Try.prog.funcs[112]? = some fn ∧ (fn.name == "runtime.NumGoroutine") = false ∧ fn.body.isNone = false := ⟨_, Try.func112, by kernel_rfl, by kernel_rfl⟩
theorem wRoot5_w (p : PortV) (g j bp : Nat) (t : TimesV) (n c bm bv : Nat) (w : World) (hp : w.rangeAt bp 0 [.pointer (some ⟨g, 0 + j * 61, none⟩)]) (hx : w.rangeAt g (0 + j * 61) p.enc) (hm : w.rangeAt bm 0 [.pointer (some ⟨bv, 0, none⟩)]) (hv : w.rangeAt bv 0 (moverE t g n c j)) : PuAt Try.prog 112 [.pointer (some ⟨bp, 0, none⟩), .pointer (some ⟨bm, 0, none⟩)] (.bool (!decide (p.Rr = t.Delay))) w := by
  refine funcR_pure tyOk wide Try.func112 ok_wRoot5 (Nat.le_of_ble_eq_true rfl) ?_
  have r1 := rg_old (X := []) hp (by simp)
  have r2 := rg_old (X := []) hx (by simp)
  have r3 := rg_old (X := []) hm (by simp)
  have r4 := rg_old (X := []) hv (by simp)
  repeat' first
    | (conv => whnf
       first
       | intro _
       | (first | refine selSplit (fun h => ?_) (fun h => ?_) | refine condSplit (fun h => ?_) (fun h => ?_)) <;> first | exact (clash (by assumption) h).elim | exact (clash h (by assumption)).elim | (simp only [decide_eq_true_eq, decide_eq_false_iff_not, Bool.not_eq_true', Bool.not_eq_false', Bool.not_true, Bool.not_false, Bool.or_eq_true, Bool.and_eq_true, Bool.or_eq_false_iff, Bool.and_eq_false_iff, beq_iff_eq, beq_eq_false_iff_ne, ne_eq] at h; first | (exfalso; omega) | skip) | skip
       | (first | refine drM (.quiet 0 (.quiet 1 (.quiet 2 (.quiet 3 (.quiet 4 (.quiet 5 (.quiet 6 (.quiet 7 (.quiet 8 (.quiet 9 (.quiet 10 .done))))))))))) (SubL.refl _) ?_)
       | refine AltP.mk ?_ ?_
       | refine kpM ?_
       | refine SeqP.go ?_
       | refine cdM ?_
       | exact IsV.mk
       | apply GuardP.mk
       | refine Or.inl ⟨_, _, hasM, ?_⟩
       | refine Or.inl ⟨_, _, _, holeM, rfl, rfl, ?_⟩
       | refine lA ?_
       | refine lA0 ?_
       | refine lA1 ?_
       | refine lO ?_
       | refine lO0 ?_
       | refine lO1 ?_
       | refine lG ?_
       | refine lG0 ?_
       | refine tA ?_
       | refine tA0 ?_
       | refine tA1 ?_
       | refine BytW.ofBlk hasM rfl rfl ?_
       | refine AppW.noneB hasM leM rfl rfl rfl leM leM ?_
       | refine AppW.rowB hasM leM rfl rfl holeM leM leM ?_
       | refine AppW.blkB hasM leM rfl rfl holeM rfl rfl leM leM ?_
       | refine AppW.rowS hasM leM rfl rfl holeM (by omega) leM ?_
       | refine AppW.arrS hasM leM rfl rfl rfl holeM (by first | omega | (simp; omega)) leM ?_
       | refine ⟨sideM, ?_⟩
       | fail)
  all_goals (try conv => whnf)
  all_goals rfl
theorem ok_wRoot7 : (match Try.f114.body with | some c => codeOk Try.f114.ntmps c | none => false) = true := by kernel_rfl
theorem en_wRoot7 : ∃ fn, Try.prog.funcs[114]? = some fn ∧ (fn.name == "runtime.NumGoroutine") = false ∧ fn.body.isNone = false := ⟨_, Try.func114, by kernel_rfl, by kernel_rfl⟩
theorem wRoot7_w (p : PortV) (g j bp : Nat) (w : World) (hp : w.rangeAt bp 0 [.pointer (some ⟨g, 0 + j * 61, none⟩)]) (hx : w.rangeAt g (0 + j * 61) p.enc) : PuAt Try.prog 114 [.pointer (some ⟨bp, 0, none⟩)] (.bool (p.Reroot && p.Forward)) w := by
  refine funcR_pure tyOk wide Try.func114 ok_wRoot7 (Nat.le_of_ble_eq_true rfl) ?_
  have r1 := rg_old (X := []) hp (by simp)
  have r2 := rg_old (X := []) hx (by simp)
  repeat' first
    | (conv => whnf
       first
       | intro _
       | (first | refine selSplit (fun h => ?_) (fun h => ?_) | refine condSplit (fun h => ?_) (fun h => ?_)) <;> first | exact (clash (by assumption) h).elim | exact (clash h (by assumption)).elim | (simp only [decide_eq_true_eq, decide_eq_false_iff_not, Bool.not_eq_true', Bool.not_eq_false', Bool.not_true, Bool.not_false, Bool.or_eq_true, Bool.and_eq_true, Bool.or_eq_false_iff, Bool.and_eq_false_iff, beq_iff_eq, beq_eq_false_iff_ne, ne_eq] at h; first | (exfalso; omega) | skip) | skip
       | refine SeqP.go ?_
       | refine cdM ?_
       | exact IsV.mk
       | apply GuardP.mk
       | refine Or.inl ⟨_, _, hasM, ?_⟩
       | refine Or.inl ⟨_, _, _, holeM, rfl, rfl, ?_⟩
       | refine lA ?_
       | refine lA0 ?_
       | refine lA1 ?_
       | refine lO ?_
       | refine lO0 ?_
       | refine lO1 ?_
       | refine lG ?_
       | refine lG0 ?_
       | refine tA ?_
       | refine tA0 ?_
       | refine tA1 ?_
       | refine BytW.ofBlk hasM rfl rfl ?_
       | refine AppW.noneB hasM leM rfl rfl rfl leM leM ?_
       | refine AppW.rowB hasM leM rfl rfl holeM leM leM ?_
       | refine AppW.blkB hasM leM rfl rfl holeM rfl rfl leM leM ?_
       | refine AppW.rowS hasM leM rfl rfl holeM (by omega) leM ?_
       | refine AppW.arrS hasM leM rfl rfl rfl holeM (by first | omega | (simp; omega)) leM ?_
       | refine ⟨sideM, ?_⟩
       | fail)
  all_goals (try conv => whnf)
  all_goals rfl
theorem ok_wTold1 : (match Try.f120.body with | some c => codeOk Try.f120.ntmps c | none => false) = true := by kernel_rfl
theorem en_wTold1 : ∃ fn, Try.prog.funcs[120]? = some fn ∧ (fn.name == "runtime.NumGoroutine") = false ∧ fn.body.isNone = false := ⟨_, Try.func120, by kernel_rfl, by kernel_rfl⟩
theorem wTold1_w (p : PortV) (g j bp : Nat) (w : World) (hp : w.rangeAt bp 0 [.pointer (some ⟨g, 0 + j * 61, none⟩)]) (hx : w.rangeAt g (0 + j * 61) p.enc) : PuAt Try.prog 120 [.pointer (some ⟨bp, 0, none⟩)] (.bool (!p.Forward && !p.Agreed && !p.Proposing && !p.Oper && p.SendRstp)) w := by
  refine funcR_pure tyOk wide Try.func120 ok_wTold1 (Nat.le_of_ble_eq_true rfl) ?_
  have r1 := rg_old (X := []) hp (by simp)
  have r2 := rg_old (X := []) hx (by simp)
  repeat' first
    | (conv => whnf
       first
       | intro _
       | (first | refine selSplit (fun h => ?_) (fun h => ?_) | refine condSplit (fun h => ?_) (fun h => ?_)) <;> first | exact (clash (by assumption) h).elim | exact (clash h (by assumption)).elim | (simp only [decide_eq_true_eq, decide_eq_false_iff_not, Bool.not_eq_true', Bool.not_eq_false', Bool.not_true, Bool.not_false, Bool.or_eq_true, Bool.and_eq_true, Bool.or_eq_false_iff, Bool.and_eq_false_iff, beq_iff_eq, beq_eq_false_iff_ne, ne_eq] at h; first | (exfalso; omega) | skip) | skip
       | refine SeqP.go ?_
       | refine cdM ?_
       | exact IsV.mk
       | apply GuardP.mk
       | refine Or.inl ⟨_, _, hasM, ?_⟩
       | refine Or.inl ⟨_, _, _, holeM, rfl, rfl, ?_⟩
       | refine lA ?_
       | refine lA0 ?_
       | refine lA1 ?_
       | refine lO ?_
       | refine lO0 ?_
       | refine lO1 ?_
       | refine lG ?_
       | refine lG0 ?_
       | refine tA ?_
       | refine tA0 ?_
       | refine tA1 ?_
       | refine BytW.ofBlk hasM rfl rfl ?_
       | refine AppW.noneB hasM leM rfl rfl rfl leM leM ?_
       | refine AppW.rowB hasM leM rfl rfl holeM leM leM ?_
       | refine AppW.blkB hasM leM rfl rfl holeM rfl rfl leM leM ?_
       | refine AppW.rowS hasM leM rfl rfl holeM (by omega) leM ?_
       | refine AppW.arrS hasM leM rfl rfl rfl holeM (by first | omega | (simp; omega)) leM ?_
       | refine ⟨sideM, ?_⟩
       | fail)
  all_goals (try conv => whnf)
  all_goals rfl
theorem ok_wTold3 : (match Try.f122.body with | some c => codeOk Try.f122.ntmps c | none => false) = true := by kernel_rfl
theorem en_wTold3 : ∃ fn, Try.prog.funcs[122]? = some fn ∧ (fn.name == "runtime.NumGoroutine") = false ∧ fn.body.isNone = false := ⟨_, Try.func122, by kernel_rfl, by kernel_rfl⟩
theorem wTold3_w (p : PortV) (g j bp : Nat) (w : World) (hp : w.rangeAt bp 0 [.pointer (some ⟨g, 0 + j * 61, none⟩)]) (hx : w.rangeAt g (0 + j * 61) p.enc) : PuAt Try.prog 122 [.pointer (some ⟨bp, 0, none⟩)] (.bool (!p.Synced && (stillB p || p.Agreed || p.Oper) || p.Sync && p.Synced)) w := by
  refine funcR_pure tyOk wide Try.func122 ok_wTold3 (Nat.le_of_ble_eq_true rfl) ?_
  have r1 := rg_old (X := []) hp (by simp)
  have r2 := rg_old (X := []) hx (by simp)
  repeat' first
    | (conv => whnf
       first
       | intro _
       | (first | refine selSplit (fun h => ?_) (fun h => ?_) | refine condSplit (fun h => ?_) (fun h => ?_)) <;> first | exact (clash (by assumption) h).elim | exact (clash h (by assumption)).elim | (simp only [decide_eq_true_eq, decide_eq_false_iff_not, Bool.not_eq_true', Bool.not_eq_false', Bool.not_true, Bool.not_false, Bool.or_eq_true, Bool.and_eq_true, Bool.or_eq_false_iff, Bool.and_eq_false_iff, beq_iff_eq, beq_eq_false_iff_ne, ne_eq] at h; first | (exfalso; omega) | skip) | skip
       | refine SeqP.go ?_
       | refine cdM ?_
       | exact IsV.mk
       | apply GuardP.mk
       | ((first | apply callPure' en_still | apply callQuiet' en_still); · exact fun w hw => still_w p g _ w (r2 _ w hw))
       | refine Or.inl ⟨_, _, hasM, ?_⟩
       | refine Or.inl ⟨_, _, _, holeM, rfl, rfl, ?_⟩
       | refine lA ?_
       | refine lA0 ?_
       | refine lA1 ?_
       | refine lO ?_
       | refine lO0 ?_
       | refine lO1 ?_
       | refine lG ?_
       | refine lG0 ?_
       | refine tA ?_
       | refine tA0 ?_
       | refine tA1 ?_
       | refine BytW.ofBlk hasM rfl rfl ?_
       | refine AppW.noneB hasM leM rfl rfl rfl leM leM ?_
       | refine AppW.rowB hasM leM rfl rfl holeM leM leM ?_
       | refine AppW.blkB hasM leM rfl rfl holeM rfl rfl leM leM ?_
       | refine AppW.rowS hasM leM rfl rfl holeM (by omega) leM ?_
       | refine AppW.arrS hasM leM rfl rfl rfl holeM (by first | omega | (simp; omega)) leM ?_
       | refine ⟨sideM, ?_⟩
       | fail)
  all_goals (try conv => whnf)
  all_goals rfl
theorem ok_wTold5 : (match Try.f125.body with | some c => codeOk Try.f125.ntmps c | none => false) = true := by kernel_rfl
theorem en_wTold5 : ∃ fn, Try.prog.funcs[125]? = some fn ∧ (fn.name == "runtime.NumGoroutine") = false ∧ fn.body.isNone = false := ⟨_, Try.func125, by kernel_rfl, by kernel_rfl⟩
theorem wTold5_w (p : PortV) (g j bp : Nat) (w : World) (hp : w.rangeAt bp 0 [.pointer (some ⟨g, 0 + j * 61, none⟩)]) (hx : w.rangeAt g (0 + j * 61) p.enc) : PuAt Try.prog 125 [.pointer (some ⟨bp, 0, none⟩)] (.bool (decide (p.Rr = 0) && p.Reroot)) w := by
  refine funcR_pure tyOk wide Try.func125 ok_wTold5 (Nat.le_of_ble_eq_true rfl) ?_
  have r1 := rg_old (X := []) hp (by simp)
  have r2 := rg_old (X := []) hx (by simp)
  repeat' first
    | (conv => whnf
       first
       | intro _
       | (first | refine selSplit (fun h => ?_) (fun h => ?_) | refine condSplit (fun h => ?_) (fun h => ?_)) <;> first | exact (clash (by assumption) h).elim | exact (clash h (by assumption)).elim | (simp only [decide_eq_true_eq, decide_eq_false_iff_not, Bool.not_eq_true', Bool.not_eq_false', Bool.not_true, Bool.not_false, Bool.or_eq_true, Bool.and_eq_true, Bool.or_eq_false_iff, Bool.and_eq_false_iff, beq_iff_eq, beq_eq_false_iff_ne, ne_eq] at h; first | (exfalso; omega) | skip) | skip
       | refine SeqP.go ?_
       | refine cdM ?_
       | exact IsV.mk
       | apply GuardP.mk
       | refine Or.inl ⟨_, _, hasM, ?_⟩
       | refine Or.inl ⟨_, _, _, holeM, rfl, rfl, ?_⟩
       | refine lA ?_
       | refine lA0 ?_
       | refine lA1 ?_
       | refine lO ?_
       | refine lO0 ?_
       | refine lO1 ?_
       | refine lG ?_
       | refine lG0 ?_
       | refine tA ?_
       | refine tA0 ?_
       | refine tA1 ?_
       | refine BytW.ofBlk hasM rfl rfl ?_
       | refine AppW.noneB hasM leM rfl rfl rfl leM leM ?_
       | refine AppW.rowB hasM leM rfl rfl holeM leM leM ?_
       | refine AppW.blkB hasM leM rfl rfl holeM rfl rfl leM leM ?_
       | refine AppW.rowS hasM leM rfl rfl holeM (by omega) leM ?_
       | refine AppW.arrS hasM leM rfl rfl rfl holeM (by first | omega | (simp; omega)) leM ?_
       | refine ⟨sideM, ?_⟩
       | fail)
  all_goals (try conv => whnf)
  all_goals rfl
theorem ok_wTold7 : (match Try.f127.body with | some c => codeOk Try.f127.ntmps c | none => false) = true := by kernel_rfl
theorem en_wTold7 : ∃ fn, Try.prog.funcs[127]? = some fn ∧ (fn.name == "runtime.NumGoroutine") = false ∧ fn.body.isNone = false := ⟨_, Try.func127, by kernel_rfl, by kernel_rfl⟩
theorem wTold7_w (p : PortV) (g j bp : Nat) (w : World) (hp : w.rangeAt bp 0 [.pointer (some ⟨g, 0 + j * 61, none⟩)]) (hx : w.rangeAt g (0 + j * 61) p.enc) : PuAt Try.prog 127 [.pointer (some ⟨bp, 0, none⟩)] (.bool ((p.Sync && !p.Synced || p.Reroot && !decide (p.Rr = 0) || p.Disputed) && !p.Oper && (p.Learn || p.Forward))) w := by
  refine funcR_pure tyOk wide Try.func127 ok_wTold7 (Nat.le_of_ble_eq_true rfl) ?_
  have r1 := rg_old (X := []) hp (by simp)
  have r2 := rg_old (X := []) hx (by simp)
  repeat' first
    | (conv => whnf
       first
       | intro _
       | (first | refine selSplit (fun h => ?_) (fun h => ?_) | refine condSplit (fun h => ?_) (fun h => ?_)) <;> first | exact (clash (by assumption) h).elim | exact (clash h (by assumption)).elim | (simp only [decide_eq_true_eq, decide_eq_false_iff_not, Bool.not_eq_true', Bool.not_eq_false', Bool.not_true, Bool.not_false, Bool.or_eq_true, Bool.and_eq_true, Bool.or_eq_false_iff, Bool.and_eq_false_iff, beq_iff_eq, beq_eq_false_iff_ne, ne_eq] at h; first | (exfalso; omega) | skip) | skip
       | refine SeqP.go ?_
       | refine cdM ?_
       | exact IsV.mk
       | apply GuardP.mk
       | refine Or.inl ⟨_, _, hasM, ?_⟩
       | refine Or.inl ⟨_, _, _, holeM, rfl, rfl, ?_⟩
       | refine lA ?_
       | refine lA0 ?_
       | refine lA1 ?_
       | refine lO ?_
       | refine lO0 ?_
       | refine lO1 ?_
       | refine lG ?_
       | refine lG0 ?_
       | refine tA ?_
       | refine tA0 ?_
       | refine tA1 ?_
       | refine BytW.ofBlk hasM rfl rfl ?_
       | refine AppW.noneB hasM leM rfl rfl rfl leM leM ?_
       | refine AppW.rowB hasM leM rfl rfl holeM leM leM ?_
       | refine AppW.blkB hasM leM rfl rfl holeM rfl rfl leM leM ?_
       | refine AppW.rowS hasM leM rfl rfl holeM (by omega) leM ?_
       | refine AppW.arrS hasM leM rfl rfl rfl holeM (by first | omega | (simp; omega)) leM ?_
       | refine ⟨sideM, ?_⟩
       | fail)
  all_goals (try conv => whnf)
  all_goals rfl
def maySt (p : PortV) : Bool := (decide (p.Fd = 0) || p.Agreed || p.Oper) && (decide (p.Rr = 0) || !p.Reroot) && !p.Sync && !p.Disputed
theorem ok_wTold9 : (match Try.f129.body with | some c => codeOk Try.f129.ntmps c | none => false) = true := by kernel_rfl
theorem en_wTold9 : ∃ fn, Try.prog.funcs[129]? = some fn ∧ (fn.name == "runtime.NumGoroutine") = false ∧ fn.body.isNone = false := ⟨_, Try.func129, by kernel_rfl, by kernel_rfl⟩
theorem wTold9_w (p : PortV) (g j bp : Nat) (w : World) (hp : w.rangeAt bp 0 [.pointer (some ⟨g, 0 + j * 61, none⟩)]) (hx : w.rangeAt g (0 + j * 61) p.enc) : PuAt Try.prog 129 [.pointer (some ⟨bp, 0, none⟩)] (.bool (maySt p)) w := by
  refine funcR_pure tyOk wide Try.func129 ok_wTold9 (Nat.le_of_ble_eq_true rfl) ?_
  have r1 := rg_old (X := []) hp (by simp)
  have r2 := rg_old (X := []) hx (by simp)
  repeat' first
    | (conv => whnf
       first
       | intro _
       | (first | refine selSplit (fun h => ?_) (fun h => ?_) | refine condSplit (fun h => ?_) (fun h => ?_)) <;> first | exact (clash (by assumption) h).elim | exact (clash h (by assumption)).elim | (simp only [decide_eq_true_eq, decide_eq_false_iff_not, Bool.not_eq_true', Bool.not_eq_false', Bool.not_true, Bool.not_false, Bool.or_eq_true, Bool.and_eq_true, Bool.or_eq_false_iff, Bool.and_eq_false_iff, beq_iff_eq, beq_eq_false_iff_ne, ne_eq] at h; first | (exfalso; omega) | skip) | skip
       | refine SeqP.go ?_
       | refine cdM ?_
       | exact IsV.mk
       | apply GuardP.mk
       | refine Or.inl ⟨_, _, hasM, ?_⟩
       | refine Or.inl ⟨_, _, _, holeM, rfl, rfl, ?_⟩
       | refine lA ?_
       | refine lA0 ?_
       | refine lA1 ?_
       | refine lO ?_
       | refine lO0 ?_
       | refine lO1 ?_
       | refine lG ?_
       | refine lG0 ?_
       | refine tA ?_
       | refine tA0 ?_
       | refine tA1 ?_
       | refine BytW.ofBlk hasM rfl rfl ?_
       | refine AppW.noneB hasM leM rfl rfl rfl leM leM ?_
       | refine AppW.rowB hasM leM rfl rfl holeM leM leM ?_
       | refine AppW.blkB hasM leM rfl rfl holeM rfl rfl leM leM ?_
       | refine AppW.rowS hasM leM rfl rfl holeM (by omega) leM ?_
       | refine AppW.arrS hasM leM rfl rfl rfl holeM (by first | omega | (simp; omega)) leM ?_
       | refine ⟨sideM, ?_⟩
       | fail)
  all_goals (try conv => whnf)
  all_goals rfl
theorem ok_wBlk1 : (match Try.f131.body with | some c => codeOk Try.f131.ntmps c | none => false) = true := by kernel_rfl
theorem en_wBlk1 : ∃ fn, Try.prog.funcs[131]? = some fn ∧ (fn.name == "runtime.NumGoroutine") = false ∧ fn.body.isNone = false := ⟨_, Try.func131, by kernel_rfl, by kernel_rfl⟩
theorem wBlk1_w (p : PortV) (g j bp : Nat) (bf : Nat) (fd : Int) (w : World) (hp : w.rangeAt bp 0 [.pointer (some ⟨g, 0 + j * 61, none⟩)]) (hx : w.rangeAt g (0 + j * 61) p.enc) (hf : w.rangeAt bf 0 [.int .i64 fd]) : PuAt Try.prog 131 [.pointer (some ⟨bp, 0, none⟩), .pointer (some ⟨bf, 0, none⟩)] (.bool (stillB p && (!decide (p.Fd = fd) || p.Sync || p.Reroot || !p.Synced))) w := by
  refine funcR_pure tyOk wide Try.func131 ok_wBlk1 (Nat.le_of_ble_eq_true rfl) ?_
  have r1 := rg_old (X := []) hp (by simp)
  have r2 := rg_old (X := []) hx (by simp)
  have r5 := rg_old (X := []) hf (by simp)
  repeat' first
    | (conv => whnf
       first
       | intro _
       | (first | refine selSplit (fun h => ?_) (fun h => ?_) | refine condSplit (fun h => ?_) (fun h => ?_)) <;> first | exact (clash (by assumption) h).elim | exact (clash h (by assumption)).elim | (simp only [decide_eq_true_eq, decide_eq_false_iff_not, Bool.not_eq_true', Bool.not_eq_false', Bool.not_true, Bool.not_false, Bool.or_eq_true, Bool.and_eq_true, Bool.or_eq_false_iff, Bool.and_eq_false_iff, beq_iff_eq, beq_eq_false_iff_ne, ne_eq] at h; first | (exfalso; omega) | skip) | skip
       | (first | refine drC (.quiet 0 (.quiet 1 (.quiet 2 (.quiet 3 (.quiet 4 (.quiet 5 (.quiet 6 (.quiet 7 (.quiet 8 (.quiet 9 (.quiet 10 (.quiet 11 (.quiet 12 (.quiet 13 (.quiet 14 (.quiet 15 (.quiet 16 (.quiet 17 (.quiet 18 (.quiet 19 (.quiet 20 (.quiet 21 (.quiet 22 (.quiet 23 (.quiet 24 (.quiet 25 (.quiet 26 (.quiet 27 (.quiet 28 (.quiet 29 .done)))))))))))))))))))))))))))))) (SubL.refl _) ?_)
       | refine AltP.mk ?_ ?_
       | refine kpM ?_
       | refine SeqP.go ?_
       | refine cdM ?_
       | exact IsV.mk
       | apply GuardP.mk
       | ((first | apply callPure' en_still | apply callQuiet' en_still); · exact fun w hw => still_w p g _ w (r2 _ w hw))
       | refine Or.inl ⟨_, _, hasM, ?_⟩
       | refine Or.inl ⟨_, _, _, holeM, rfl, rfl, ?_⟩
       | refine lA ?_
       | refine lA0 ?_
       | refine lA1 ?_
       | refine lO ?_
       | refine lO0 ?_
       | refine lO1 ?_
       | refine lG ?_
       | refine lG0 ?_
       | refine tA ?_
       | refine tA0 ?_
       | refine tA1 ?_
       | refine BytW.ofBlk hasM rfl rfl ?_
       | refine AppW.noneB hasM leM rfl rfl rfl leM leM ?_
       | refine AppW.rowB hasM leM rfl rfl holeM leM leM ?_
       | refine AppW.blkB hasM leM rfl rfl holeM rfl rfl leM leM ?_
       | refine AppW.rowS hasM leM rfl rfl holeM (by omega) leM ?_
       | refine AppW.arrS hasM leM rfl rfl rfl holeM (by first | omega | (simp; omega)) leM ?_
       | refine ⟨sideM, ?_⟩
       | fail)
  all_goals (try conv => whnf)
  all_goals rfl
theorem ok_wBlk4 : (match Try.f134.body with | some c => codeOk Try.f134.ntmps c | none => false) = true := by kernel_rfl
theorem en_wBlk4 : ∃ fn, Try.prog.funcs[134]? = some fn ∧ (fn.name == "runtime.NumGoroutine") = false ∧ fn.body.isNone = false := ⟨_, Try.func134, by kernel_rfl, by kernel_rfl⟩
theorem wBlk4_w (p : PortV) (g j bp : Nat) (t : TimesV) (n c bm bv : Nat) (w : World) (hp : w.rangeAt bp 0 [.pointer (some ⟨g, 0 + j * 61, none⟩)]) (hx : w.rangeAt g (0 + j * 61) p.enc) (hm : w.rangeAt bm 0 [.pointer (some ⟨bv, 0, none⟩)]) (hv : w.rangeAt bv 0 (moverE t g n c j)) : PuAt Try.prog 134 [.pointer (some ⟨bp, 0, none⟩), .pointer (some ⟨bm, 0, none⟩)] (.bool (!decide (p.Rb = IntKind.i64.wrap (2 * t.Hello)))) w := by
  refine funcR_pure tyOk wide Try.func134 ok_wBlk4 (Nat.le_of_ble_eq_true rfl) ?_
  have r1 := rg_old (X := []) hp (by simp)
  have r2 := rg_old (X := []) hx (by simp)
  have r3 := rg_old (X := []) hm (by simp)
  have r4 := rg_old (X := []) hv (by simp)
  repeat' first
    | (conv => whnf
       first
       | intro _
       | (first | refine selSplit (fun h => ?_) (fun h => ?_) | refine condSplit (fun h => ?_) (fun h => ?_)) <;> first | exact (clash (by assumption) h).elim | exact (clash h (by assumption)).elim | (simp only [decide_eq_true_eq, decide_eq_false_iff_not, Bool.not_eq_true', Bool.not_eq_false', Bool.not_true, Bool.not_false, Bool.or_eq_true, Bool.and_eq_true, Bool.or_eq_false_iff, Bool.and_eq_false_iff, beq_iff_eq, beq_eq_false_iff_ne, ne_eq] at h; first | (exfalso; omega) | skip) | skip
       | (first | refine drM (.quiet 0 (.quiet 1 (.quiet 2 (.quiet 3 (.quiet 4 (.quiet 5 (.quiet 6 (.quiet 7 (.quiet 8 (.quiet 9 (.quiet 10 (.quiet 11 .done)))))))))))) (SubL.refl _) ?_)
       | refine AltP.mk ?_ ?_
       | refine kpM ?_
       | refine SeqP.go ?_
       | refine cdM ?_
       | exact IsV.mk
       | apply GuardP.mk
       | refine Or.inl ⟨_, _, hasM, ?_⟩
       | refine Or.inl ⟨_, _, _, holeM, rfl, rfl, ?_⟩
       | refine lA ?_
       | refine lA0 ?_
       | refine lA1 ?_
       | refine lO ?_
       | refine lO0 ?_
       | refine lO1 ?_
       | refine lG ?_
       | refine lG0 ?_
       | refine tA ?_
       | refine tA0 ?_
       | refine tA1 ?_
       | refine BytW.ofBlk hasM rfl rfl ?_
       | refine AppW.noneB hasM leM rfl rfl rfl leM leM ?_
       | refine AppW.rowB hasM leM rfl rfl holeM leM leM ?_
       | refine AppW.blkB hasM leM rfl rfl holeM rfl rfl leM leM ?_
       | refine AppW.rowS hasM leM rfl rfl holeM (by omega) leM ?_
       | refine AppW.arrS hasM leM rfl rfl rfl holeM (by first | omega | (simp; omega)) leM ?_
       | refine ⟨sideM, ?_⟩
       | fail)
  all_goals (try conv => whnf)
  all_goals rfl
theorem ok_dMove2 : (match Try.f100.body with | some c => codeOk Try.f100.ntmps c | none => false) = true := by kernel_rfl
theorem en_dMove2 : ∃ fn, Try.prog.funcs[100]? = some fn ∧ (fn.name == "runtime.NumGoroutine") = false ∧ fn.body.isNone = false := ⟨_, Try.func100, by kernel_rfl, by kernel_rfl⟩
theorem dMove2_w (l : List (List Value)) (p : PortV) (g n c j bp : Nat) (t : TimesV) (bm bv : Nat) (w : World) (hx : l[j]? = some p.enc) (hw : St w (feet [.arr (.slice (some ⟨g, 0, none⟩) n c) 28 61 l, .blk bp [.pointer (some ⟨g, 0 + j * 61, none⟩)] 76, .blk bm [.pointer (some ⟨bv, 0, none⟩)] 124, .blk bv (moverE t g n c j) 126]) [.arr (.slice (some ⟨g, 0, none⟩) n c) 28 61 l, .blk bp [.pointer (some ⟨g, 0 + j * 61, none⟩)] 76, .blk bm [.pointer (some ⟨bv, 0, none⟩)] 124, .blk bv (moverE t g n c j) 126] w) :
    FnX Try.prog 100 [.pointer (some ⟨bp, 0, none⟩), .pointer (some ⟨bm, 0, none⟩)] [.arr (.slice (some ⟨g, 0, none⟩) n c) 28 61 l, .blk bp [.pointer (some ⟨g, 0 + j * 61, none⟩)] 76, .blk bm [.pointer (some ⟨bv, 0, none⟩)] 124, .blk bv (moverE t g n c j) 126] (fun _ : Unit => True) (fun _ => .tuple ⟨[]⟩) (fun _ => [.arr (.slice (some ⟨g, 0, none⟩) n c) 28 61 (l.set j (if p.Selected = 1 then { p with Role := p.Selected, Rr := t.Delay } else { p with Role := p.Selected }).enc), .blk bp [.pointer (some ⟨g, 0 + j * 61, none⟩)] 76, .blk bm [.pointer (some ⟨bv, 0, none⟩)] 124, .blk bv (moverE t g n c j) 126]) w := by
  refine funcR_x tyOk wide Try.func100 ok_dMove2 (Nat.le_of_ble_eq_true rfl) hw ?_
  repeat' first
    | (conv => whnf
       first
       | intro _
       | (first | refine selSplit (fun h => ?_) (fun h => ?_) | refine condSplit (fun h => ?_) (fun h => ?_)) <;> first | exact (clash (by assumption) h).elim | exact (clash h (by assumption)).elim | (simp only [decide_eq_true_eq, decide_eq_false_iff_not, Bool.not_eq_true', Bool.not_eq_false', Bool.not_true, Bool.not_false, Bool.or_eq_true, Bool.and_eq_true, Bool.or_eq_false_iff, Bool.and_eq_false_iff, beq_iff_eq, beq_eq_false_iff_ne, ne_eq] at h; first | (exfalso; omega) | skip) | skip
       | (first | refine drM (.quiet 0 (.quiet 1 (.quiet 2 (.quiet 3 (.quiet 4 (.quiet 5 (.quiet 6 (.last 7 false .done)))))))) (SubL.refl _) ?_ | refine drM (.quiet 0 (.quiet 1 (.quiet 2 (.quiet 3 (.quiet 4 (.quiet 5 (.quiet 6 (.quiet 7 (.last 8 false .done))))))))) (SubL.refl _) ?_)
       | refine AltP.mk ?_ ?_
       | refine kpM ?_
       | refine SeqP.go ?_
       | refine cdM ?_
       | exact IsV.mk
       | apply GuardP.mk
       | refine Or.inl ⟨_, _, hasM, ?_⟩
       | refine Or.inl ⟨_, _, _, holeM, rfl, rfl, ?_⟩
       | refine lA ?_
       | refine lA0 ?_
       | refine lA1 ?_
       | refine lO ?_
       | refine lO0 ?_
       | refine lO1 ?_
       | refine lG ?_
       | refine lG0 ?_
       | refine tA ?_
       | refine tA0 ?_
       | refine tA1 ?_
       | refine BytW.ofBlk hasM rfl rfl ?_
       | refine AppW.noneB hasM leM rfl rfl rfl leM leM ?_
       | refine AppW.rowB hasM leM rfl rfl holeM leM leM ?_
       | refine AppW.blkB hasM leM rfl rfl holeM rfl rfl leM leM ?_
       | refine AppW.rowS hasM leM rfl rfl holeM (by omega) leM ?_
       | refine AppW.arrS hasM leM rfl rfl rfl holeM (by first | omega | (simp; omega)) leM ?_
       | refine ⟨sideM, ?_⟩
       | fail)
  all_goals (try conv => whnf)
  all_goals (refine EndX.mk () trivial rfl ?_; (repeat (first | rw [if_pos (by first | assumption | grind | decide)] | rw [if_neg (by first | assumption | grind | decide)])); (try simp only [List.set_set, setSame hx]); exact entM)
theorem ok_dMove4 : (match Try.f102.body with | some c => codeOk Try.f102.ntmps c | none => false) = true := by kernel_rfl
theorem en_dMove4 : ∃ fn, Try.prog.funcs[102]? = some fn ∧ (fn.name == "runtime.NumGoroutine") = false ∧ fn.body.isNone = false := ⟨_, Try.func102, by kernel_rfl, by kernel_rfl⟩
theorem dMove4_w (l : List (List Value)) (p : PortV) (g n c j bp : Nat) (w : World) (hx : l[j]? = some p.enc) (hw : St w (feet [.arr (.slice (some ⟨g, 0, none⟩) n c) 28 61 l, .blk bp [.pointer (some ⟨g, 0 + j * 61, none⟩)] 76]) [.arr (.slice (some ⟨g, 0, none⟩) n c) 28 61 l, .blk bp [.pointer (some ⟨g, 0 + j * 61, none⟩)] 76] w) :
    FnX Try.prog 102 [.pointer (some ⟨bp, 0, none⟩)] [.arr (.slice (some ⟨g, 0, none⟩) n c) 28 61 l, .blk bp [.pointer (some ⟨g, 0 + j * 61, none⟩)] 76] (fun _ : Unit => True) (fun _ => .tuple ⟨[]⟩) (fun _ => [.arr (.slice (some ⟨g, 0, none⟩) n c) 28 61 (l.set j ({ p with Role := p.Selected, Learn := false, Forward := false }).enc), .blk bp [.pointer (some ⟨g, 0 + j * 61, none⟩)] 76]) w := by
  refine funcR_x tyOk wide Try.func102 ok_dMove4 (Nat.le_of_ble_eq_true rfl) hw ?_
  repeat' first
    | (conv => whnf
       first
       | intro _
       | (first | refine selSplit (fun h => ?_) (fun h => ?_) | refine condSplit (fun h => ?_) (fun h => ?_)) <;> first | exact (clash (by assumption) h).elim | exact (clash h (by assumption)).elim | (simp only [decide_eq_true_eq, decide_eq_false_iff_not, Bool.not_eq_true', Bool.not_eq_false', Bool.not_true, Bool.not_false, Bool.or_eq_true, Bool.and_eq_true, Bool.or_eq_false_iff, Bool.and_eq_false_iff, beq_iff_eq, beq_eq_false_iff_ne, ne_eq] at h; first | (exfalso; omega) | skip) | skip
       | (first | refine drM (.quiet 0 (.quiet 1 (.quiet 2 (.quiet 3 (.quiet 4 (.quiet 5 (.last 6 true (.last 7 true (.last 8 true (.last 9 true (.last 10 true (.last 11 true (.last 12 true (.last 13 false (.last 14 false (.last 15 false .done)))))))))))))))) (SubL.of (List.Sublist.cons _ (List.Sublist.refl _))) ?_)
       | refine AltP.mk ?_ ?_
       | refine kpM ?_
       | refine SeqP.go ?_
       | refine cdM ?_
       | exact IsV.mk
       | apply GuardP.mk
       | refine Or.inl ⟨_, _, hasM, ?_⟩
       | refine Or.inl ⟨_, _, _, holeM, rfl, rfl, ?_⟩
       | refine lA ?_
       | refine lA0 ?_
       | refine lA1 ?_
       | refine lO ?_
       | refine lO0 ?_
       | refine lO1 ?_
       | refine lG ?_
       | refine lG0 ?_
       | refine tA ?_
       | refine tA0 ?_
       | refine tA1 ?_
       | refine BytW.ofBlk hasM rfl rfl ?_
       | refine AppW.noneB hasM leM rfl rfl rfl leM leM ?_
       | refine AppW.rowB hasM leM rfl rfl holeM leM leM ?_
       | refine AppW.blkB hasM leM rfl rfl holeM rfl rfl leM leM ?_
       | refine AppW.rowS hasM leM rfl rfl holeM (by omega) leM ?_
       | refine AppW.arrS hasM leM rfl rfl rfl holeM (by first | omega | (simp; omega)) leM ?_
       | refine ⟨sideM, ?_⟩
       | fail)
  all_goals (try conv => whnf)
  all_goals (refine EndX.mk () trivial rfl ?_; (repeat (first | rw [if_pos (by first | assumption | grind | decide)] | rw [if_neg (by first | assumption | grind | decide)])); (try simp only [List.set_set, setSame hx]); exact entM)
theorem ok_dRoot2 : (match Try.f109.body with | some c => codeOk Try.f109.ntmps c | none => false) = true := by kernel_rfl
theorem en_dRoot2 : ∃ fn, Try.prog.funcs[109]? = some fn ∧ (fn.name == "runtime.NumGoroutine") = false ∧ fn.body.isNone = false := ⟨_, Try.func109, by kernel_rfl, by kernel_rfl⟩
theorem dRoot2_w (l : List (List Value)) (p : PortV) (g n c j bp : Nat) (w : World) (hx : l[j]? = some p.enc) (hw : St w (feet [.arr (.slice (some ⟨g, 0, none⟩) n c) 28 61 l, .blk bp [.pointer (some ⟨g, 0 + j * 61, none⟩)] 76]) [.arr (.slice (some ⟨g, 0, none⟩) n c) 28 61 l, .blk bp [.pointer (some ⟨g, 0 + j * 61, none⟩)] 76] w) :
    FnX Try.prog 109 [.pointer (some ⟨bp, 0, none⟩)] [.arr (.slice (some ⟨g, 0, none⟩) n c) 28 61 l, .blk bp [.pointer (some ⟨g, 0 + j * 61, none⟩)] 76] (fun _ : Unit => True) (fun _ => .tuple ⟨[]⟩) (fun _ => [.arr (.slice (some ⟨g, 0, none⟩) n c) 28 61 (l.set j ({ p with Synced := true, Sync := false }).enc), .blk bp [.pointer (some ⟨g, 0 + j * 61, none⟩)] 76]) w := by
  refine funcR_x tyOk wide Try.func109 ok_dRoot2 (Nat.le_of_ble_eq_true rfl) hw ?_
  repeat' first
    | (conv => whnf
       first
       | intro _
       | (first | refine selSplit (fun h => ?_) (fun h => ?_) | refine condSplit (fun h => ?_) (fun h => ?_)) <;> first | exact (clash (by assumption) h).elim | exact (clash h (by assumption)).elim | (simp only [decide_eq_true_eq, decide_eq_false_iff_not, Bool.not_eq_true', Bool.not_eq_false', Bool.not_true, Bool.not_false, Bool.or_eq_true, Bool.and_eq_true, Bool.or_eq_false_iff, Bool.and_eq_false_iff, beq_iff_eq, beq_eq_false_iff_ne, ne_eq] at h; first | (exfalso; omega) | skip) | skip
       | (first | refine drM (.quiet 0 (.quiet 1 (.quiet 2 (.quiet 3 (.last 4 true (.last 5 false (.last 6 false (.last 7 false .done)))))))) (SubL.of (List.Sublist.cons _ (List.Sublist.refl _))) ?_)
       | refine AltP.mk ?_ ?_
       | refine kpM ?_
       | refine SeqP.go ?_
       | refine cdM ?_
       | exact IsV.mk
       | apply GuardP.mk
       | refine Or.inl ⟨_, _, hasM, ?_⟩
       | refine Or.inl ⟨_, _, _, holeM, rfl, rfl, ?_⟩
       | refine lA ?_
       | refine lA0 ?_
       | refine lA1 ?_
       | refine lO ?_
       | refine lO0 ?_
       | refine lO1 ?_
       | refine lG ?_
       | refine lG0 ?_
       | refine tA ?_
       | refine tA0 ?_
       | refine tA1 ?_
       | refine BytW.ofBlk hasM rfl rfl ?_
       | refine AppW.noneB hasM leM rfl rfl rfl leM leM ?_
       | refine AppW.rowB hasM leM rfl rfl holeM leM leM ?_
       | refine AppW.blkB hasM leM rfl rfl holeM rfl rfl leM leM ?_
       | refine AppW.rowS hasM leM rfl rfl holeM (by omega) leM ?_
       | refine AppW.arrS hasM leM rfl rfl rfl holeM (by first | omega | (simp; omega)) leM ?_
       | refine ⟨sideM, ?_⟩
       | fail)
  all_goals (try conv => whnf)
  all_goals (refine EndX.mk () trivial rfl ?_; (repeat (first | rw [if_pos (by first | assumption | grind | decide)] | rw [if_neg (by first | assumption | grind | decide)])); (try simp only [List.set_set, setSame hx]); exact entM)
theorem ok_dRoot6 : (match Try.f113.body with | some c => codeOk Try.f113.ntmps c | none => false) = true := by kernel_rfl
theorem en_dRoot6 : ∃ fn, Try.prog.funcs[113]? = some fn ∧ (fn.name == "runtime.NumGoroutine") = false ∧ fn.body.isNone = false := ⟨_, Try.func113, by kernel_rfl, by kernel_rfl⟩
theorem dRoot6_w (l : List (List Value)) (p : PortV) (g n c j bp : Nat) (t : TimesV) (bm bv : Nat) (w : World) (hx : l[j]? = some p.enc) (hw : St w (feet [.arr (.slice (some ⟨g, 0, none⟩) n c) 28 61 l, .blk bp [.pointer (some ⟨g, 0 + j * 61, none⟩)] 76, .blk bm [.pointer (some ⟨bv, 0, none⟩)] 124, .blk bv (moverE t g n c j) 126]) [.arr (.slice (some ⟨g, 0, none⟩) n c) 28 61 l, .blk bp [.pointer (some ⟨g, 0 + j * 61, none⟩)] 76, .blk bm [.pointer (some ⟨bv, 0, none⟩)] 124, .blk bv (moverE t g n c j) 126] w) :
    FnX Try.prog 113 [.pointer (some ⟨bm, 0, none⟩), .pointer (some ⟨bp, 0, none⟩)] [.arr (.slice (some ⟨g, 0, none⟩) n c) 28 61 l, .blk bp [.pointer (some ⟨g, 0 + j * 61, none⟩)] 76, .blk bm [.pointer (some ⟨bv, 0, none⟩)] 124, .blk bv (moverE t g n c j) 126] (fun _ : Unit => True) (fun _ => .tuple ⟨[]⟩) (fun _ => [.arr (.slice (some ⟨g, 0, none⟩) n c) 28 61 (l.set j ({ p with Rr := t.Delay }).enc), .blk bp [.pointer (some ⟨g, 0 + j * 61, none⟩)] 76, .blk bm [.pointer (some ⟨bv, 0, none⟩)] 124, .blk bv (moverE t g n c j) 126]) w := by
  refine funcR_x tyOk wide Try.func113 ok_dRoot6 (Nat.le_of_ble_eq_true rfl) hw ?_
  repeat' first
    | (conv => whnf
       first
       | intro _
       | (first | refine selSplit (fun h => ?_) (fun h => ?_) | refine condSplit (fun h => ?_) (fun h => ?_)) <;> first | exact (clash (by assumption) h).elim | exact (clash h (by assumption)).elim | (simp only [decide_eq_true_eq, decide_eq_false_iff_not, Bool.not_eq_true', Bool.not_eq_false', Bool.not_true, Bool.not_false, Bool.or_eq_true, Bool.and_eq_true, Bool.or_eq_false_iff, Bool.and_eq_false_iff, beq_iff_eq, beq_eq_false_iff_ne, ne_eq] at h; first | (exfalso; omega) | skip) | skip
       | (first | refine drM (.quiet 0 (.quiet 1 (.quiet 2 (.quiet 3 (.quiet 4 (.quiet 5 (.quiet 6 (.quiet 7 (.last 8 false .done))))))))) (SubL.refl _) ?_)
       | refine AltP.mk ?_ ?_
       | refine kpM ?_
       | refine SeqP.go ?_
       | refine cdM ?_
       | exact IsV.mk
       | apply GuardP.mk
       | refine Or.inl ⟨_, _, hasM, ?_⟩
       | refine Or.inl ⟨_, _, _, holeM, rfl, rfl, ?_⟩
       | refine lA ?_
       | refine lA0 ?_
       | refine lA1 ?_
       | refine lO ?_
       | refine lO0 ?_
       | refine lO1 ?_
       | refine lG ?_
       | refine lG0 ?_
       | refine tA ?_
       | refine tA0 ?_
       | refine tA1 ?_
       | refine BytW.ofBlk hasM rfl rfl ?_
       | refine AppW.noneB hasM leM rfl rfl rfl leM leM ?_
       | refine AppW.rowB hasM leM rfl rfl holeM leM leM ?_
       | refine AppW.blkB hasM leM rfl rfl holeM rfl rfl leM leM ?_
       | refine AppW.rowS hasM leM rfl rfl holeM (by omega) leM ?_
       | refine AppW.arrS hasM leM rfl rfl rfl holeM (by first | omega | (simp; omega)) leM ?_
       | refine ⟨sideM, ?_⟩
       | fail)
  all_goals (try conv => whnf)
  all_goals (refine EndX.mk () trivial rfl ?_; (repeat (first | rw [if_pos (by first | assumption | grind | decide)] | rw [if_neg (by first | assumption | grind | decide)])); (try simp only [List.set_set, setSame hx]); exact entM)
theorem ok_dRoot8 : (match Try.f115.body with | some c => codeOk Try.f115.ntmps c | none => false) = true := by kernel_rfl
theorem en_dRoot8 : ∃ fn, Try.prog.funcs[115]? = some fn ∧ (fn.name == "runtime.NumGoroutine") = false ∧ fn.body.isNone = false := ⟨_, Try.func115, by kernel_rfl, by kernel_rfl⟩
theorem dRoot8_w (l : List (List Value)) (p : PortV) (g n c j bp : Nat) (w : World) (hx : l[j]? = some p.enc) (hw : St w (feet [.arr (.slice (some ⟨g, 0, none⟩) n c) 28 61 l, .blk bp [.pointer (some ⟨g, 0 + j * 61, none⟩)] 76]) [.arr (.slice (some ⟨g, 0, none⟩) n c) 28 61 l, .blk bp [.pointer (some ⟨g, 0 + j * 61, none⟩)] 76] w) :
    FnX Try.prog 115 [.pointer (some ⟨bp, 0, none⟩)] [.arr (.slice (some ⟨g, 0, none⟩) n c) 28 61 l, .blk bp [.pointer (some ⟨g, 0 + j * 61, none⟩)] 76] (fun _ : Unit => True) (fun _ => .tuple ⟨[]⟩) (fun _ => [.arr (.slice (some ⟨g, 0, none⟩) n c) 28 61 (l.set j ({ p with Reroot := false }).enc), .blk bp [.pointer (some ⟨g, 0 + j * 61, none⟩)] 76]) w := by
  refine funcR_x tyOk wide Try.func115 ok_dRoot8 (Nat.le_of_ble_eq_true rfl) hw ?_
  repeat' first
    | (conv => whnf
       first
       | intro _
       | (first | refine selSplit (fun h => ?_) (fun h => ?_) | refine condSplit (fun h => ?_) (fun h => ?_)) <;> first | exact (clash (by assumption) h).elim | exact (clash h (by assumption)).elim | (simp only [decide_eq_true_eq, decide_eq_false_iff_not, Bool.not_eq_true', Bool.not_eq_false', Bool.not_true, Bool.not_false, Bool.or_eq_true, Bool.and_eq_true, Bool.or_eq_false_iff, Bool.and_eq_false_iff, beq_iff_eq, beq_eq_false_iff_ne, ne_eq] at h; first | (exfalso; omega) | skip) | skip
       | refine SeqP.go ?_
       | refine cdM ?_
       | exact IsV.mk
       | apply GuardP.mk
       | refine Or.inl ⟨_, _, hasM, ?_⟩
       | refine Or.inl ⟨_, _, _, holeM, rfl, rfl, ?_⟩
       | refine lA ?_
       | refine lA0 ?_
       | refine lA1 ?_
       | refine lO ?_
       | refine lO0 ?_
       | refine lO1 ?_
       | refine lG ?_
       | refine lG0 ?_
       | refine tA ?_
       | refine tA0 ?_
       | refine tA1 ?_
       | refine BytW.ofBlk hasM rfl rfl ?_
       | refine AppW.noneB hasM leM rfl rfl rfl leM leM ?_
       | refine AppW.rowB hasM leM rfl rfl holeM leM leM ?_
       | refine AppW.blkB hasM leM rfl rfl holeM rfl rfl leM leM ?_
       | refine AppW.rowS hasM leM rfl rfl holeM (by omega) leM ?_
       | refine AppW.arrS hasM leM rfl rfl rfl holeM (by first | omega | (simp; omega)) leM ?_
       | refine ⟨sideM, ?_⟩
       | fail)
  all_goals (try conv => whnf)
  all_goals (refine EndX.mk () trivial rfl ?_; (repeat (first | rw [if_pos (by first | assumption | grind | decide)] | rw [if_neg (by first | assumption | grind | decide)])); (try simp only [List.set_set, setSame hx]); exact entM)
theorem ok_dTold2 : (match Try.f121.body with | some c => codeOk Try.f121.ntmps c | none => false) = true := by kernel_rfl
theorem en_dTold2 : ∃ fn, Try.prog.funcs[121]? = some fn ∧ (fn.name == "runtime.NumGoroutine") = false ∧ fn.body.isNone = false := ⟨_, Try.func121, by kernel_rfl, by kernel_rfl⟩
theorem dTold2_w (l : List (List Value)) (p : PortV) (g n c j bp : Nat) (w : World) (hx : l[j]? = some p.enc) (hw : St w (feet [.arr (.slice (some ⟨g, 0, none⟩) n c) 28 61 l, .blk bp [.pointer (some ⟨g, 0 + j * 61, none⟩)] 76]) [.arr (.slice (some ⟨g, 0, none⟩) n c) 28 61 l, .blk bp [.pointer (some ⟨g, 0 + j * 61, none⟩)] 76] w) :
    FnX Try.prog 121 [.pointer (some ⟨bp, 0, none⟩)] [.arr (.slice (some ⟨g, 0, none⟩) n c) 28 61 l, .blk bp [.pointer (some ⟨g, 0 + j * 61, none⟩)] 76] (fun _ : Unit => True) (fun _ => .tuple ⟨[]⟩) (fun _ => [.arr (.slice (some ⟨g, 0, none⟩) n c) 28 61 (l.set j ({ p with Proposing := true, NewInfo := true, Edge := 3 }).enc), .blk bp [.pointer (some ⟨g, 0 + j * 61, none⟩)] 76]) w := by
  refine funcR_x tyOk wide Try.func121 ok_dTold2 (Nat.le_of_ble_eq_true rfl) hw ?_
  repeat' first
    | (conv => whnf
       first
       | intro _
       | (first | refine selSplit (fun h => ?_) (fun h => ?_) | refine condSplit (fun h => ?_) (fun h => ?_)) <;> first | exact (clash (by assumption) h).elim | exact (clash h (by assumption)).elim | (simp only [decide_eq_true_eq, decide_eq_false_iff_not, Bool.not_eq_true', Bool.not_eq_false', Bool.not_true, Bool.not_false, Bool.or_eq_true, Bool.and_eq_true, Bool.or_eq_false_iff, Bool.and_eq_false_iff, beq_iff_eq, beq_eq_false_iff_ne, ne_eq] at h; first | (exfalso; omega) | skip) | skip
       | (first | refine drM (.quiet 0 (.quiet 1 (.quiet 2 (.quiet 3 (.quiet 4 (.last 5 true (.last 6 true (.last 7 true (.last 8 true (.last 9 false (.last 10 false (.last 11 false .done)))))))))))) (SubL.of (List.Sublist.cons _ (List.Sublist.refl _))) ?_)
       | refine AltP.mk ?_ ?_
       | refine kpM ?_
       | refine SeqP.go ?_
       | refine cdM ?_
       | exact IsV.mk
       | apply GuardP.mk
       | refine Or.inl ⟨_, _, hasM, ?_⟩
       | refine Or.inl ⟨_, _, _, holeM, rfl, rfl, ?_⟩
       | refine lA ?_
       | refine lA0 ?_
       | refine lA1 ?_
       | refine lO ?_
       | refine lO0 ?_
       | refine lO1 ?_
       | refine lG ?_
       | refine lG0 ?_
       | refine tA ?_
       | refine tA0 ?_
       | refine tA1 ?_
       | refine BytW.ofBlk hasM rfl rfl ?_
       | refine AppW.noneB hasM leM rfl rfl rfl leM leM ?_
       | refine AppW.rowB hasM leM rfl rfl holeM leM leM ?_
       | refine AppW.blkB hasM leM rfl rfl holeM rfl rfl leM leM ?_
       | refine AppW.rowS hasM leM rfl rfl holeM (by omega) leM ?_
       | refine AppW.arrS hasM leM rfl rfl rfl holeM (by first | omega | (simp; omega)) leM ?_
       | refine ⟨sideM, ?_⟩
       | fail)
  all_goals (try conv => whnf)
  all_goals (refine EndX.mk () trivial rfl ?_; (repeat (first | rw [if_pos (by first | assumption | grind | decide)] | rw [if_neg (by first | assumption | grind | decide)])); (try simp only [List.set_set, setSame hx]); exact entM)
theorem ok_dTold4 : (match Try.f124.body with | some c => codeOk Try.f124.ntmps c | none => false) = true := by kernel_rfl
theorem en_dTold4 : ∃ fn, Try.prog.funcs[124]? = some fn ∧ (fn.name == "runtime.NumGoroutine") = false ∧ fn.body.isNone = false := ⟨_, Try.func124, by kernel_rfl, by kernel_rfl⟩
theorem dTold4_w (l : List (List Value)) (p : PortV) (g n c j bp : Nat) (w : World) (hx : l[j]? = some p.enc) (hw : St w (feet [.arr (.slice (some ⟨g, 0, none⟩) n c) 28 61 l, .blk bp [.pointer (some ⟨g, 0 + j * 61, none⟩)] 76]) [.arr (.slice (some ⟨g, 0, none⟩) n c) 28 61 l, .blk bp [.pointer (some ⟨g, 0 + j * 61, none⟩)] 76] w) :
    FnX Try.prog 124 [.pointer (some ⟨bp, 0, none⟩)] [.arr (.slice (some ⟨g, 0, none⟩) n c) 28 61 l, .blk bp [.pointer (some ⟨g, 0 + j * 61, none⟩)] 76] (fun _ : Unit => True) (fun _ => .tuple ⟨[]⟩) (fun _ => [.arr (.slice (some ⟨g, 0, none⟩) n c) 28 61 (l.set j ({ p with Rr := 0, Synced := true, Sync := false }).enc), .blk bp [.pointer (some ⟨g, 0 + j * 61, none⟩)] 76]) w := by
  refine funcR_x tyOk wide Try.func124 ok_dTold4 (Nat.le_of_ble_eq_true rfl) hw ?_
  repeat' first
    | (conv => whnf
       first
       | intro _
       | (first | refine selSplit (fun h => ?_) (fun h => ?_) | refine condSplit (fun h => ?_) (fun h => ?_)) <;> first | exact (clash (by assumption) h).elim | exact (clash h (by assumption)).elim | (simp only [decide_eq_true_eq, decide_eq_false_iff_not, Bool.not_eq_true', Bool.not_eq_false', Bool.not_true, Bool.not_false, Bool.or_eq_true, Bool.and_eq_true, Bool.or_eq_false_iff, Bool.and_eq_false_iff, beq_iff_eq, beq_eq_false_iff_ne, ne_eq] at h; first | (exfalso; omega) | skip) | skip
       | (first | refine drM (.quiet 0 (.quiet 1 (.quiet 2 (.quiet 3 (.quiet 4 (.last 5 true (.last 6 true (.last 7 true (.last 8 true (.last 9 false (.last 10 false (.last 11 false .done)))))))))))) (SubL.of (List.Sublist.cons _ (List.Sublist.refl _))) ?_)
       | refine AltP.mk ?_ ?_
       | refine kpM ?_
       | refine SeqP.go ?_
       | refine cdM ?_
       | exact IsV.mk
       | apply GuardP.mk
       | refine Or.inl ⟨_, _, hasM, ?_⟩
       | refine Or.inl ⟨_, _, _, holeM, rfl, rfl, ?_⟩
       | refine lA ?_
       | refine lA0 ?_
       | refine lA1 ?_
       | refine lO ?_
       | refine lO0 ?_
       | refine lO1 ?_
       | refine lG ?_
       | refine lG0 ?_
       | refine tA ?_
       | refine tA0 ?_
       | refine tA1 ?_
       | refine BytW.ofBlk hasM rfl rfl ?_
       | refine AppW.noneB hasM leM rfl rfl rfl leM leM ?_
       | refine AppW.rowB hasM leM rfl rfl holeM leM leM ?_
       | refine AppW.blkB hasM leM rfl rfl holeM rfl rfl leM leM ?_
       | refine AppW.rowS hasM leM rfl rfl holeM (by omega) leM ?_
       | refine AppW.arrS hasM leM rfl rfl rfl holeM (by first | omega | (simp; omega)) leM ?_
       | refine ⟨sideM, ?_⟩
       | fail)
  all_goals (try conv => whnf)
  all_goals (refine EndX.mk () trivial rfl ?_; (repeat (first | rw [if_pos (by first | assumption | grind | decide)] | rw [if_neg (by first | assumption | grind | decide)])); (try simp only [List.set_set, setSame hx]); exact entM)
theorem ok_dTold6 : (match Try.f126.body with | some c => codeOk Try.f126.ntmps c | none => false) = true := by kernel_rfl
theorem en_dTold6 : ∃ fn, Try.prog.funcs[126]? = some fn ∧ (fn.name == "runtime.NumGoroutine") = false ∧ fn.body.isNone = false := ⟨_, Try.func126, by kernel_rfl, by kernel_rfl⟩
theorem dTold6_w (l : List (List Value)) (p : PortV) (g n c j bp : Nat) (w : World) (hx : l[j]? = some p.enc) (hw : St w (feet [.arr (.slice (some ⟨g, 0, none⟩) n c) 28 61 l, .blk bp [.pointer (some ⟨g, 0 + j * 61, none⟩)] 76]) [.arr (.slice (some ⟨g, 0, none⟩) n c) 28 61 l, .blk bp [.pointer (some ⟨g, 0 + j * 61, none⟩)] 76] w) :
    FnX Try.prog 126 [.pointer (some ⟨bp, 0, none⟩)] [.arr (.slice (some ⟨g, 0, none⟩) n c) 28 61 l, .blk bp [.pointer (some ⟨g, 0 + j * 61, none⟩)] 76] (fun _ : Unit => True) (fun _ => .tuple ⟨[]⟩) (fun _ => [.arr (.slice (some ⟨g, 0, none⟩) n c) 28 61 (l.set j ({ p with Reroot := false }).enc), .blk bp [.pointer (some ⟨g, 0 + j * 61, none⟩)] 76]) w := by
  refine funcR_x tyOk wide Try.func126 ok_dTold6 (Nat.le_of_ble_eq_true rfl) hw ?_
  repeat' first
    | (conv => whnf
       first
       | intro _
       | (first | refine selSplit (fun h => ?_) (fun h => ?_) | refine condSplit (fun h => ?_) (fun h => ?_)) <;> first | exact (clash (by assumption) h).elim | exact (clash h (by assumption)).elim | (simp only [decide_eq_true_eq, decide_eq_false_iff_not, Bool.not_eq_true', Bool.not_eq_false', Bool.not_true, Bool.not_false, Bool.or_eq_true, Bool.and_eq_true, Bool.or_eq_false_iff, Bool.and_eq_false_iff, beq_iff_eq, beq_eq_false_iff_ne, ne_eq] at h; first | (exfalso; omega) | skip) | skip
       | refine SeqP.go ?_
       | refine cdM ?_
       | exact IsV.mk
       | apply GuardP.mk
       | refine Or.inl ⟨_, _, hasM, ?_⟩
       | refine Or.inl ⟨_, _, _, holeM, rfl, rfl, ?_⟩
       | refine lA ?_
       | refine lA0 ?_
       | refine lA1 ?_
       | refine lO ?_
       | refine lO0 ?_
       | refine lO1 ?_
       | refine lG ?_
       | refine lG0 ?_
       | refine tA ?_
       | refine tA0 ?_
       | refine tA1 ?_
       | refine BytW.ofBlk hasM rfl rfl ?_
       | refine AppW.noneB hasM leM rfl rfl rfl leM leM ?_
       | refine AppW.rowB hasM leM rfl rfl holeM leM leM ?_
       | refine AppW.blkB hasM leM rfl rfl holeM rfl rfl leM leM ?_
       | refine AppW.rowS hasM leM rfl rfl holeM (by omega) leM ?_
       | refine AppW.arrS hasM leM rfl rfl rfl holeM (by first | omega | (simp; omega)) leM ?_
       | refine ⟨sideM, ?_⟩
       | fail)
  all_goals (try conv => whnf)
  all_goals (refine EndX.mk () trivial rfl ?_; (repeat (first | rw [if_pos (by first | assumption | grind | decide)] | rw [if_neg (by first | assumption | grind | decide)])); (try simp only [List.set_set, setSame hx]); exact entM)
theorem ok_dTold8 : (match Try.f128.body with | some c => codeOk Try.f128.ntmps c | none => false) = true := by kernel_rfl
theorem en_dTold8 : ∃ fn, Try.prog.funcs[128]? = some fn ∧ (fn.name == "runtime.NumGoroutine") = false ∧ fn.body.isNone = false := ⟨_, Try.func128, by kernel_rfl, by kernel_rfl⟩
theorem dTold8_w (l : List (List Value)) (p : PortV) (g n c j bp : Nat) (t : TimesV) (bm bv : Nat) (w : World) (hx : l[j]? = some p.enc) (hw : St w (feet [.arr (.slice (some ⟨g, 0, none⟩) n c) 28 61 l, .blk bp [.pointer (some ⟨g, 0 + j * 61, none⟩)] 76, .blk bm [.pointer (some ⟨bv, 0, none⟩)] 124, .blk bv (moverE t g n c j) 126]) [.arr (.slice (some ⟨g, 0, none⟩) n c) 28 61 l, .blk bp [.pointer (some ⟨g, 0 + j * 61, none⟩)] 76, .blk bm [.pointer (some ⟨bv, 0, none⟩)] 124, .blk bv (moverE t g n c j) 126] w) :
    FnX Try.prog 128 [.pointer (some ⟨bm, 0, none⟩), .pointer (some ⟨bp, 0, none⟩)] [.arr (.slice (some ⟨g, 0, none⟩) n c) 28 61 l, .blk bp [.pointer (some ⟨g, 0 + j * 61, none⟩)] 76, .blk bm [.pointer (some ⟨bv, 0, none⟩)] 124, .blk bv (moverE t g n c j) 126] (fun _ : Unit => True) (fun _ => .tuple ⟨[]⟩) (fun _ => [.arr (.slice (some ⟨g, 0, none⟩) n c) 28 61 (l.set j ({ p with Learn := false, Forward := false, Disputed := false, Fd := t.Delay }).enc), .blk bp [.pointer (some ⟨g, 0 + j * 61, none⟩)] 76, .blk bm [.pointer (some ⟨bv, 0, none⟩)] 124, .blk bv (moverE t g n c j) 126]) w := by
  refine funcR_x tyOk wide Try.func128 ok_dTold8 (Nat.le_of_ble_eq_true rfl) hw ?_
  repeat' first
    | (conv => whnf
       first
       | intro _
       | (first | refine selSplit (fun h => ?_) (fun h => ?_) | refine condSplit (fun h => ?_) (fun h => ?_)) <;> first | exact (clash (by assumption) h).elim | exact (clash h (by assumption)).elim | (simp only [decide_eq_true_eq, decide_eq_false_iff_not, Bool.not_eq_true', Bool.not_eq_false', Bool.not_true, Bool.not_false, Bool.or_eq_true, Bool.and_eq_true, Bool.or_eq_false_iff, Bool.and_eq_false_iff, beq_iff_eq, beq_eq_false_iff_ne, ne_eq] at h; first | (exfalso; omega) | skip) | skip
       | (first | refine drM (.quiet 0 (.quiet 1 (.quiet 2 (.quiet 3 (.quiet 4 (.quiet 5 (.quiet 6 (.quiet 7 (.quiet 8 (.quiet 9 (.quiet 10 (.last 11 true (.last 12 true (.last 13 true (.last 14 true (.last 15 true (.last 16 true (.last 17 true (.last 18 false (.last 19 false (.last 20 false .done))))))))))))))))))))) (SubL.of (List.Sublist.cons _ (List.Sublist.refl _))) ?_)
       | refine AltP.mk ?_ ?_
       | refine kpM ?_
       | refine SeqP.go ?_
       | refine cdM ?_
       | exact IsV.mk
       | apply GuardP.mk
       | refine Or.inl ⟨_, _, hasM, ?_⟩
       | refine Or.inl ⟨_, _, _, holeM, rfl, rfl, ?_⟩
       | refine lA ?_
       | refine lA0 ?_
       | refine lA1 ?_
       | refine lO ?_
       | refine lO0 ?_
       | refine lO1 ?_
       | refine lG ?_
       | refine lG0 ?_
       | refine tA ?_
       | refine tA0 ?_
       | refine tA1 ?_
       | refine BytW.ofBlk hasM rfl rfl ?_
       | refine AppW.noneB hasM leM rfl rfl rfl leM leM ?_
       | refine AppW.rowB hasM leM rfl rfl holeM leM leM ?_
       | refine AppW.blkB hasM leM rfl rfl holeM rfl rfl leM leM ?_
       | refine AppW.rowS hasM leM rfl rfl holeM (by omega) leM ?_
       | refine AppW.arrS hasM leM rfl rfl rfl holeM (by first | omega | (simp; omega)) leM ?_
       | refine ⟨sideM, ?_⟩
       | fail)
  all_goals (try conv => whnf)
  all_goals (refine EndX.mk () trivial rfl ?_; (repeat (first | rw [if_pos (by first | assumption | grind | decide)] | rw [if_neg (by first | assumption | grind | decide)])); (try simp only [List.set_set, setSame hx]); exact entM)
theorem ok_dTold10 : (match Try.f130.body with | some c => codeOk Try.f130.ntmps c | none => false) = true := by kernel_rfl
theorem en_dTold10 : ∃ fn, Try.prog.funcs[130]? = some fn ∧ (fn.name == "runtime.NumGoroutine") = false ∧ fn.body.isNone = false := ⟨_, Try.func130, by kernel_rfl, by kernel_rfl⟩
theorem dTold10_w (l : List (List Value)) (p : PortV) (g n c j bp : Nat) (w : World) (hx : l[j]? = some p.enc) (hw : St w (feet [.arr (.slice (some ⟨g, 0, none⟩) n c) 28 61 l, .blk bp [.pointer (some ⟨g, 0 + j * 61, none⟩)] 76]) [.arr (.slice (some ⟨g, 0, none⟩) n c) 28 61 l, .blk bp [.pointer (some ⟨g, 0 + j * 61, none⟩)] 76] w) :
    FnX Try.prog 130 [.pointer (some ⟨bp, 0, none⟩)] [.arr (.slice (some ⟨g, 0, none⟩) n c) 28 61 l, .blk bp [.pointer (some ⟨g, 0 + j * 61, none⟩)] 76] (fun _ : Unit => True) (fun _ => .tuple ⟨[]⟩) (fun _ => [.arr (.slice (some ⟨g, 0, none⟩) n c) 28 61 (l.set j ({ p with Agreed := p.SendRstp }).enc), .blk bp [.pointer (some ⟨g, 0 + j * 61, none⟩)] 76]) w := by
  refine funcR_x tyOk wide Try.func130 ok_dTold10 (Nat.le_of_ble_eq_true rfl) hw ?_
  repeat' first
    | (conv => whnf
       first
       | intro _
       | (first | refine selSplit (fun h => ?_) (fun h => ?_) | refine condSplit (fun h => ?_) (fun h => ?_)) <;> first | exact (clash (by assumption) h).elim | exact (clash h (by assumption)).elim | (simp only [decide_eq_true_eq, decide_eq_false_iff_not, Bool.not_eq_true', Bool.not_eq_false', Bool.not_true, Bool.not_false, Bool.or_eq_true, Bool.and_eq_true, Bool.or_eq_false_iff, Bool.and_eq_false_iff, beq_iff_eq, beq_eq_false_iff_ne, ne_eq] at h; first | (exfalso; omega) | skip) | skip
       | (first | refine drM (.quiet 0 (.quiet 1 (.quiet 2 (.quiet 3 (.quiet 4 (.quiet 5 (.quiet 6 (.last 7 false .done)))))))) (SubL.refl _) ?_)
       | refine AltP.mk ?_ ?_
       | refine kpM ?_
       | refine SeqP.go ?_
       | refine cdM ?_
       | exact IsV.mk
       | apply GuardP.mk
       | refine Or.inl ⟨_, _, hasM, ?_⟩
       | refine Or.inl ⟨_, _, _, holeM, rfl, rfl, ?_⟩
       | refine lA ?_
       | refine lA0 ?_
       | refine lA1 ?_
       | refine lO ?_
       | refine lO0 ?_
       | refine lO1 ?_
       | refine lG ?_
       | refine lG0 ?_
       | refine tA ?_
       | refine tA0 ?_
       | refine tA1 ?_
       | refine BytW.ofBlk hasM rfl rfl ?_
       | refine AppW.noneB hasM leM rfl rfl rfl leM leM ?_
       | refine AppW.rowB hasM leM rfl rfl holeM leM leM ?_
       | refine AppW.blkB hasM leM rfl rfl holeM rfl rfl leM leM ?_
       | refine AppW.rowS hasM leM rfl rfl holeM (by omega) leM ?_
       | refine AppW.arrS hasM leM rfl rfl rfl holeM (by first | omega | (simp; omega)) leM ?_
       | refine ⟨sideM, ?_⟩
       | fail)
  all_goals (try conv => whnf)
  all_goals (refine EndX.mk () trivial rfl ?_; (repeat (first | rw [if_pos (by first | assumption | grind | decide)] | rw [if_neg (by first | assumption | grind | decide)])); (try simp only [List.set_set, setSame hx]); exact entM)
theorem ok_dBlk2 : (match Try.f132.body with | some c => codeOk Try.f132.ntmps c | none => false) = true := by kernel_rfl
theorem en_dBlk2 : ∃ fn, Try.prog.funcs[132]? = some fn ∧ (fn.name == "runtime.NumGoroutine") = false ∧ fn.body.isNone = false := ⟨_, Try.func132, by kernel_rfl, by kernel_rfl⟩
theorem dBlk2_w (l : List (List Value)) (p : PortV) (g n c j bp : Nat) (bf : Nat) (fd : Int) (w : World) (hx : l[j]? = some p.enc) (hw : St w (feet [.arr (.slice (some ⟨g, 0, none⟩) n c) 28 61 l, .blk bp [.pointer (some ⟨g, 0 + j * 61, none⟩)] 76, .blk bf [.int .i64 fd] 3]) [.arr (.slice (some ⟨g, 0, none⟩) n c) 28 61 l, .blk bp [.pointer (some ⟨g, 0 + j * 61, none⟩)] 76, .blk bf [.int .i64 fd] 3] w) :
    FnX Try.prog 132 [.pointer (some ⟨bf, 0, none⟩), .pointer (some ⟨bp, 0, none⟩)] [.arr (.slice (some ⟨g, 0, none⟩) n c) 28 61 l, .blk bp [.pointer (some ⟨g, 0 + j * 61, none⟩)] 76, .blk bf [.int .i64 fd] 3] (fun _ : Unit => True) (fun _ => .tuple ⟨[]⟩) (fun _ => [.arr (.slice (some ⟨g, 0, none⟩) n c) 28 61 (l.set j ({ p with Fd := fd, Synced := true, Rr := 0, Sync := false, Reroot := false }).enc), .blk bp [.pointer (some ⟨g, 0 + j * 61, none⟩)] 76, .blk bf [.int .i64 fd] 3]) w := by
  refine funcR_x tyOk wide Try.func132 ok_dBlk2 (Nat.le_of_ble_eq_true rfl) hw ?_
  repeat' first
    | (conv => whnf
       first
       | intro _
       | (first | refine selSplit (fun h => ?_) (fun h => ?_) | refine condSplit (fun h => ?_) (fun h => ?_)) <;> first | exact (clash (by assumption) h).elim | exact (clash h (by assumption)).elim | (simp only [decide_eq_true_eq, decide_eq_false_iff_not, Bool.not_eq_true', Bool.not_eq_false', Bool.not_true, Bool.not_false, Bool.or_eq_true, Bool.and_eq_true, Bool.or_eq_false_iff, Bool.and_eq_false_iff, beq_iff_eq, beq_eq_false_iff_ne, ne_eq] at h; first | (exfalso; omega) | skip) | skip
       | (first | refine drM (.quiet 0 (.quiet 1 (.quiet 2 (.quiet 3 (.quiet 4 (.quiet 5 (.quiet 6 (.quiet 7 (.last 8 true (.last 9 true (.last 10 true (.last 11 true (.last 12 true (.last 13 true (.last 14 true (.last 15 true (.last 16 true (.last 17 true (.last 18 false (.last 19 false (.last 20 false .done))))))))))))))))))))) (SubL.of (List.Sublist.cons _ (List.Sublist.refl _))) ?_)
       | refine AltP.mk ?_ ?_
       | refine kpM ?_
       | refine SeqP.go ?_
       | refine cdM ?_
       | exact IsV.mk
       | apply GuardP.mk
       | refine Or.inl ⟨_, _, hasM, ?_⟩
       | refine Or.inl ⟨_, _, _, holeM, rfl, rfl, ?_⟩
       | refine lA ?_
       | refine lA0 ?_
       | refine lA1 ?_
       | refine lO ?_
       | refine lO0 ?_
       | refine lO1 ?_
       | refine lG ?_
       | refine lG0 ?_
       | refine tA ?_
       | refine tA0 ?_
       | refine tA1 ?_
       | refine BytW.ofBlk hasM rfl rfl ?_
       | refine AppW.noneB hasM leM rfl rfl rfl leM leM ?_
       | refine AppW.rowB hasM leM rfl rfl holeM leM leM ?_
       | refine AppW.blkB hasM leM rfl rfl holeM rfl rfl leM leM ?_
       | refine AppW.rowS hasM leM rfl rfl holeM (by omega) leM ?_
       | refine AppW.arrS hasM leM rfl rfl rfl holeM (by first | omega | (simp; omega)) leM ?_
       | refine ⟨sideM, ?_⟩
       | fail)
  all_goals (try conv => whnf)
  all_goals (refine EndX.mk () trivial rfl ?_; (repeat (first | rw [if_pos (by first | assumption | grind | decide)] | rw [if_neg (by first | assumption | grind | decide)])); (try simp only [List.set_set, setSame hx]); exact entM)
theorem ok_dBlk5 : (match Try.f135.body with | some c => codeOk Try.f135.ntmps c | none => false) = true := by kernel_rfl
theorem en_dBlk5 : ∃ fn, Try.prog.funcs[135]? = some fn ∧ (fn.name == "runtime.NumGoroutine") = false ∧ fn.body.isNone = false := ⟨_, Try.func135, by kernel_rfl, by kernel_rfl⟩
theorem dBlk5_w (l : List (List Value)) (p : PortV) (g n c j bp : Nat) (t : TimesV) (bm bv : Nat) (w : World) (hx : l[j]? = some p.enc) (hw : St w (feet [.arr (.slice (some ⟨g, 0, none⟩) n c) 28 61 l, .blk bp [.pointer (some ⟨g, 0 + j * 61, none⟩)] 76, .blk bm [.pointer (some ⟨bv, 0, none⟩)] 124, .blk bv (moverE t g n c j) 126]) [.arr (.slice (some ⟨g, 0, none⟩) n c) 28 61 l, .blk bp [.pointer (some ⟨g, 0 + j * 61, none⟩)] 76, .blk bm [.pointer (some ⟨bv, 0, none⟩)] 124, .blk bv (moverE t g n c j) 126] w) :
    FnX Try.prog 135 [.pointer (some ⟨bm, 0, none⟩), .pointer (some ⟨bp, 0, none⟩)] [.arr (.slice (some ⟨g, 0, none⟩) n c) 28 61 l, .blk bp [.pointer (some ⟨g, 0 + j * 61, none⟩)] 76, .blk bm [.pointer (some ⟨bv, 0, none⟩)] 124, .blk bv (moverE t g n c j) 126] (fun _ : Unit => True) (fun _ => .tuple ⟨[]⟩) (fun _ => [.arr (.slice (some ⟨g, 0, none⟩) n c) 28 61 (l.set j ({ p with Rb := IntKind.i64.wrap (2 * t.Hello) }).enc), .blk bp [.pointer (some ⟨g, 0 + j * 61, none⟩)] 76, .blk bm [.pointer (some ⟨bv, 0, none⟩)] 124, .blk bv (moverE t g n c j) 126]) w := by
  refine funcR_x tyOk wide Try.func135 ok_dBlk5 (Nat.le_of_ble_eq_true rfl) hw ?_
  repeat' first
    | (conv => whnf
       first
       | intro _
       | (first | refine selSplit (fun h => ?_) (fun h => ?_) | refine condSplit (fun h => ?_) (fun h => ?_)) <;> first | exact (clash (by assumption) h).elim | exact (clash h (by assumption)).elim | (simp only [decide_eq_true_eq, decide_eq_false_iff_not, Bool.not_eq_true', Bool.not_eq_false', Bool.not_true, Bool.not_false, Bool.or_eq_true, Bool.and_eq_true, Bool.or_eq_false_iff, Bool.and_eq_false_iff, beq_iff_eq, beq_eq_false_iff_ne, ne_eq] at h; first | (exfalso; omega) | skip) | skip
       | (first | refine drM (.quiet 0 (.quiet 1 (.quiet 2 (.quiet 3 (.quiet 4 (.quiet 5 (.quiet 6 (.quiet 7 (.quiet 8 (.last 9 false .done)))))))))) (SubL.refl _) ?_)
       | refine AltP.mk ?_ ?_
       | refine kpM ?_
       | refine SeqP.go ?_
       | refine cdM ?_
       | exact IsV.mk
       | apply GuardP.mk
       | refine Or.inl ⟨_, _, hasM, ?_⟩
       | refine Or.inl ⟨_, _, _, holeM, rfl, rfl, ?_⟩
       | refine lA ?_
       | refine lA0 ?_
       | refine lA1 ?_
       | refine lO ?_
       | refine lO0 ?_
       | refine lO1 ?_
       | refine lG ?_
       | refine lG0 ?_
       | refine tA ?_
       | refine tA0 ?_
       | refine tA1 ?_
       | refine BytW.ofBlk hasM rfl rfl ?_
       | refine AppW.noneB hasM leM rfl rfl rfl leM leM ?_
       | refine AppW.rowB hasM leM rfl rfl holeM leM leM ?_
       | refine AppW.blkB hasM leM rfl rfl holeM rfl rfl leM leM ?_
       | refine AppW.rowS hasM leM rfl rfl holeM (by omega) leM ?_
       | refine AppW.arrS hasM leM rfl rfl rfl holeM (by first | omega | (simp; omega)) leM ?_
       | refine ⟨sideM, ?_⟩
       | fail)
  all_goals (try conv => whnf)
  all_goals (refine EndX.mk () trivial rfl ?_; (repeat (first | rw [if_pos (by first | assumption | grind | decide)] | rw [if_neg (by first | assumption | grind | decide)])); (try simp only [List.set_set, setSame hx]); exact entM)
theorem ok_dStep2 : (match Try.f144.body with | some c => codeOk Try.f144.ntmps c | none => false) = true := by kernel_rfl
theorem en_dStep2 : ∃ fn, Try.prog.funcs[144]? = some fn ∧ (fn.name == "runtime.NumGoroutine") = false ∧ fn.body.isNone = false := ⟨_, Try.func144, by kernel_rfl, by kernel_rfl⟩
theorem dStep2_w (l : List (List Value)) (p : PortV) (g n c j bp : Nat) (t : TimesV) (bm bv : Nat) (w : World) (hx : l[j]? = some p.enc) (hw : St w (feet [.arr (.slice (some ⟨g, 0, none⟩) n c) 28 61 l, .blk bp [.pointer (some ⟨g, 0 + j * 61, none⟩)] 76, .blk bm [.pointer (some ⟨bv, 0, none⟩)] 124, .blk bv (moverE t g n c j) 126]) [.arr (.slice (some ⟨g, 0, none⟩) n c) 28 61 l, .blk bp [.pointer (some ⟨g, 0 + j * 61, none⟩)] 76, .blk bm [.pointer (some ⟨bv, 0, none⟩)] 124, .blk bv (moverE t g n c j) 126] w) :
    FnX Try.prog 144 [.pointer (some ⟨bm, 0, none⟩), .pointer (some ⟨bp, 0, none⟩)] [.arr (.slice (some ⟨g, 0, none⟩) n c) 28 61 l, .blk bp [.pointer (some ⟨g, 0 + j * 61, none⟩)] 76, .blk bm [.pointer (some ⟨bv, 0, none⟩)] 124, .blk bv (moverE t g n c j) 126] (fun _ : Unit => True) (fun _ => .tuple ⟨[]⟩) (fun _ => [.arr (.slice (some ⟨g, 0, none⟩) n c) 28 61 (l.set j ({ p with Learn := true, Fd := t.Delay }).enc), .blk bp [.pointer (some ⟨g, 0 + j * 61, none⟩)] 76, .blk bm [.pointer (some ⟨bv, 0, none⟩)] 124, .blk bv (moverE t g n c j) 126]) w := by
  refine funcR_x tyOk wide Try.func144 ok_dStep2 (Nat.le_of_ble_eq_true rfl) hw ?_
  repeat' first
    | (conv => whnf
       first
       | intro _
       | (first | refine selSplit (fun h => ?_) (fun h => ?_) | refine condSplit (fun h => ?_) (fun h => ?_)) <;> first | exact (clash (by assumption) h).elim | exact (clash h (by assumption)).elim | (simp only [decide_eq_true_eq, decide_eq_false_iff_not, Bool.not_eq_true', Bool.not_eq_false', Bool.not_true, Bool.not_false, Bool.or_eq_true, Bool.and_eq_true, Bool.or_eq_false_iff, Bool.and_eq_false_iff, beq_iff_eq, beq_eq_false_iff_ne, ne_eq] at h; first | (exfalso; omega) | skip) | skip
       | (first | refine drM (.quiet 0 (.quiet 1 (.quiet 2 (.quiet 3 (.quiet 4 (.quiet 5 (.quiet 6 (.quiet 7 (.quiet 8 (.last 9 true (.last 10 false (.last 11 false (.last 12 false .done))))))))))))) (SubL.of (List.Sublist.cons _ (List.Sublist.refl _))) ?_)
       | refine AltP.mk ?_ ?_
       | refine kpM ?_
       | refine SeqP.go ?_
       | refine cdM ?_
       | exact IsV.mk
       | apply GuardP.mk
       | refine Or.inl ⟨_, _, hasM, ?_⟩
       | refine Or.inl ⟨_, _, _, holeM, rfl, rfl, ?_⟩
       | refine lA ?_
       | refine lA0 ?_
       | refine lA1 ?_
       | refine lO ?_
       | refine lO0 ?_
       | refine lO1 ?_
       | refine lG ?_
       | refine lG0 ?_
       | refine tA ?_
       | refine tA0 ?_
       | refine tA1 ?_
       | refine BytW.ofBlk hasM rfl rfl ?_
       | refine AppW.noneB hasM leM rfl rfl rfl leM leM ?_
       | refine AppW.rowB hasM leM rfl rfl holeM leM leM ?_
       | refine AppW.blkB hasM leM rfl rfl holeM rfl rfl leM leM ?_
       | refine AppW.rowS hasM leM rfl rfl holeM (by omega) leM ?_
       | refine AppW.arrS hasM leM rfl rfl rfl holeM (by first | omega | (simp; omega)) leM ?_
       | refine ⟨sideM, ?_⟩
       | fail)
  all_goals (try conv => whnf)
  all_goals (refine EndX.mk () trivial rfl ?_; (repeat (first | rw [if_pos (by first | assumption | grind | decide)] | rw [if_neg (by first | assumption | grind | decide)])); (try simp only [List.set_set, setSame hx]); exact entM)
end Go.Proofs.Ytmgoahmbdpoikaa.Am
