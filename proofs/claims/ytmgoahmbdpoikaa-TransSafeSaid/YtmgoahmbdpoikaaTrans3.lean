/- Package trans: closures that call closures (this text is printed by gen_trans3.py). -/
import Derived.Test.YtmgoahmbdpoikaaTrans2
set_option linter.unusedVariables false
set_option linter.unusedSimpArgs false
set_option maxRecDepth 100000
set_option maxHeartbeats 4000000
namespace Go.Proofs.Ytmgoahmbdpoikaa.Am
open Go Go.RowKit
theorem ok_wMove1 : (match Try.f99.body with | some c => codeOk Try.f99.ntmps c | none => false) = true := by kernel_rfl
theorem en_wMove1 : ∃ fn, Try.prog.funcs[99]? = some fn ∧ (fn.name == "runtime.NumGoroutine") = false ∧ fn.body.isNone = false := ⟨_, Try.func99, by kernel_rfl, by kernel_rfl⟩
theorem wMove1_w (w : World) : PuAt Try.prog 99 [] (.bool true) w := by
  refine funcR_pure tyOk wide Try.func99 ok_wMove1 (Nat.le_of_ble_eq_true rfl) ?_
  repeat' first
    | (conv => whnf
       first
       | intro _
       | (first | refine selSplit (fun h => ?_) (fun h => ?_) | refine condSplit (fun h => ?_) (fun h => ?_)) <;> first | exact (clash (by assumption) h).elim | exact (clash h (by assumption)).elim | (simp only [decide_eq_true_eq, decide_eq_false_iff_not, Bool.not_eq_true', Bool.not_eq_false', Bool.not_true, Bool.not_false, Bool.or_eq_true, Bool.and_eq_true, Bool.or_eq_false_iff, Bool.and_eq_false_iff, beq_iff_eq, beq_eq_false_iff_ne, ne_eq] at h; first | (exfalso; omega) | skip) | skip
       | refine SeqP.go ?_
       | refine cdM ?_
       | exact IsV.mk
       | apply GuardP.mk
       | refine Or.inl ⟨_, _, hasM, ?_⟩
       | refine Or.inl ⟨_, _, _, holeM, rfl, rfl, ?_⟩
       | refine lA ?_
       | refine lA0 ?_
       | refine lA1 ?_
       | refine lO ?_
       | refine lO0 ?_
       | refine lO1 ?_
       | refine lG ?_
       | refine lG0 ?_
       | refine tA ?_
       | refine tA0 ?_
       | refine tA1 ?_
       | refine BytW.ofBlk hasM rfl rfl ?_
       | refine AppW.noneB hasM leM rfl rfl rfl leM leM ?_
       | refine AppW.rowB hasM leM rfl rfl holeM leM leM ?_
       | refine AppW.blkB hasM leM rfl rfl holeM rfl rfl leM leM ?_
       | refine AppW.rowS hasM leM rfl rfl holeM (by omega) leM ?_
       | refine AppW.arrS hasM leM rfl rfl rfl holeM (by first | omega | (simp; omega)) leM ?_
       | refine ⟨sideM, ?_⟩
       | fail)
  all_goals (try conv => whnf)
  all_goals rfl
theorem ok_wMove3 : (match Try.f101.body with | some c => codeOk Try.f101.ntmps c | none => false) = true := by kernel_rfl
theorem en_wMove3 : ∃ fn, Try.prog.funcs[101]? = some fn ∧ (fn.name == "runtime.NumGoroutine") = false ∧ fn.body.isNone = false := ⟨_, Try.func101, by kernel_rfl, by kernel_rfl⟩
theorem wMove3_w (w : World) : PuAt Try.prog 101 [] (.bool true) w := by
  refine funcR_pure tyOk wide Try.func101 ok_wMove3 (Nat.le_of_ble_eq_true rfl) ?_
  repeat' first
    | (conv => whnf
       first
       | intro _
       | (first | refine selSplit (fun h => ?_) (fun h => ?_) | refine condSplit (fun h => ?_) (fun h => ?_)) <;> first | exact (clash (by assumption) h).elim | exact (clash h (by assumption)).elim | (simp only [decide_eq_true_eq, decide_eq_false_iff_not, Bool.not_eq_true', Bool.not_eq_false', Bool.not_true, Bool.not_false, Bool.or_eq_true, Bool.and_eq_true, Bool.or_eq_false_iff, Bool.and_eq_false_iff, beq_iff_eq, beq_eq_false_iff_ne, ne_eq] at h; first | (exfalso; omega) | skip) | skip
       | refine SeqP.go ?_
       | refine cdM ?_
       | exact IsV.mk
       | apply GuardP.mk
       | refine Or.inl ⟨_, _, hasM, ?_⟩
       | refine Or.inl ⟨_, _, _, holeM, rfl, rfl, ?_⟩
       | refine lA ?_
       | refine lA0 ?_
       | refine lA1 ?_
       | refine lO ?_
       | refine lO0 ?_
       | refine lO1 ?_
       | refine lG ?_
       | refine lG0 ?_
       | refine tA ?_
       | refine tA0 ?_
       | refine tA1 ?_
       | refine BytW.ofBlk hasM rfl rfl ?_
       | refine AppW.noneB hasM leM rfl rfl rfl leM leM ?_
       | refine AppW.rowB hasM leM rfl rfl holeM leM leM ?_
       | refine AppW.blkB hasM leM rfl rfl holeM rfl rfl leM leM ?_
       | refine AppW.rowS hasM leM rfl rfl holeM (by omega) leM ?_
       | refine AppW.arrS hasM leM rfl rfl rfl holeM (by first | omega | (simp; omega)) leM ?_
       | refine ⟨sideM, ?_⟩
       | fail)
  all_goals (try conv => whnf)
  all_goals rfl
theorem ok_dRoot10 : (match Try.f119.body with | some c => codeOk Try.f119.ntmps c | none => false) = true := by kernel_rfl
theorem en_dRoot10 : ∃ fn, Try.prog.funcs[119]? = some fn ∧ (fn.name == "runtime.NumGoroutine") = false ∧ fn.body.isNone = false := ⟨_, Try.func119, by kernel_rfl, by kernel_rfl⟩
theorem dRoot10_w (w : World) : PuAt Try.prog 119 [] (.tuple ⟨[]⟩) w := by
  refine funcR_pure tyOk wide Try.func119 ok_dRoot10 (Nat.le_of_ble_eq_true rfl) ?_
  repeat' first
    | (conv => whnf
       first
       | intro _
       | (first | refine selSplit (fun h => ?_) (fun h => ?_) | refine condSplit (fun h => ?_) (fun h => ?_)) <;> first | exact (clash (by assumption) h).elim | exact (clash h (by assumption)).elim | (simp only [decide_eq_true_eq, decide_eq_false_iff_not, Bool.not_eq_true', Bool.not_eq_false', Bool.not_true, Bool.not_false, Bool.or_eq_true, Bool.and_eq_true, Bool.or_eq_false_iff, Bool.and_eq_false_iff, beq_iff_eq, beq_eq_false_iff_ne, ne_eq] at h; first | (exfalso; omega) | skip) | skip
       | refine SeqP.go ?_
       | refine cdM ?_
       | exact IsV.mk
       | apply GuardP.mk
       | refine Or.inl ⟨_, _, hasM, ?_⟩
       | refine Or.inl ⟨_, _, _, holeM, rfl, rfl, ?_⟩
       | refine lA ?_
       | refine lA0 ?_
       | refine lA1 ?_
       | refine lO ?_
       | refine lO0 ?_
       | refine lO1 ?_
       | refine lG ?_
       | refine lG0 ?_
       | refine tA ?_
       | refine tA0 ?_
       | refine tA1 ?_
       | refine BytW.ofBlk hasM rfl rfl ?_
       | refine AppW.noneB hasM leM rfl rfl rfl leM leM ?_
       | refine AppW.rowB hasM leM rfl rfl holeM leM leM ?_
       | refine AppW.blkB hasM leM rfl rfl holeM rfl rfl leM leM ?_
       | refine AppW.rowS hasM leM rfl rfl holeM (by omega) leM ?_
       | refine AppW.arrS hasM leM rfl rfl rfl holeM (by first | omega | (simp; omega)) leM ?_
       | refine ⟨sideM, ?_⟩
       | fail)
  all_goals (try conv => whnf)
  all_goals rfl
/-- A closure in a box. -/
def boxF (f bq : Nat) : List Value := [.func (.func f) #[] #[.pointer (some ⟨bq, 0, none⟩)]]
def boxF2 (f bq bm : Nat) : List Value := [.func (.func f) #[] #[.pointer (some ⟨bq, 0, none⟩), .pointer (some ⟨bm, 0, none⟩)]]
theorem ok_wBlk3 : (match Try.f133.body with | some c => codeOk Try.f133.ntmps c | none => false) = true := by kernel_rfl
theorem en_wBlk3 : ∃ fn, Try.prog.funcs[133]? = some fn ∧ (fn.name == "runtime.NumGoroutine") = false ∧ fn.body.isNone = false := ⟨_, Try.func133, by kernel_rfl, by kernel_rfl⟩
theorem wBlk3_w (p : PortV) (g j bp bq bf : Nat) (w : World) (hp : w.rangeAt bp 0 [.pointer (some ⟨g, 0 + j * 61, none⟩)]) (hq : w.rangeAt bq 0 [.pointer (some ⟨g, 0 + j * 61, none⟩)]) (hx : w.rangeAt g (0 + j * 61) p.enc) (hf : w.rangeAt bf 0 (boxF 137 bq)) :
    PuAt Try.prog 133 [.pointer (some ⟨bp, 0, none⟩), .pointer (some ⟨bf, 0, none⟩)] (.bool (stillB p && (p.Proposed && !p.Agree))) w := by
  refine funcR_pure tyOk wide Try.func133 ok_wBlk3 (Nat.le_of_ble_eq_true rfl) ?_
  have r1 := rg_old (X := []) hp (by simp)
  have r2 := rg_old (X := []) hx (by simp)
  have r3 := rg_old (X := []) hq (by simp)
  have r5 := rg_old (X := []) hf (by simp)
  repeat' first
    | (conv => whnf
       first
       | intro _
       | (first | refine selSplit (fun h => ?_) (fun h => ?_) | refine condSplit (fun h => ?_) (fun h => ?_)) <;> first | exact (clash (by assumption) h).elim | exact (clash h (by assumption)).elim | (simp only [decide_eq_true_eq, decide_eq_false_iff_not, Bool.not_eq_true', Bool.not_eq_false', Bool.not_true, Bool.not_false, Bool.or_eq_true, Bool.and_eq_true, Bool.or_eq_false_iff, Bool.and_eq_false_iff, beq_iff_eq, beq_eq_false_iff_ne, ne_eq] at h; first | (exfalso; omega) | skip) | skip
       | refine SeqP.go ?_
       | refine cdM ?_
       | exact IsV.mk
       | apply GuardP.mk
       | ((first | apply callPure' en_still | apply callQuiet' en_still); · exact fun w hw => still_w p g _ w (r2 _ w hw))
       | ((first | apply callPure' en_wProp1 | apply callQuiet' en_wProp1); · exact fun w hw => wProp1_w p g j bq w (r3 _ w hw) (r2 _ w hw))
       | refine Or.inl ⟨_, _, hasM, ?_⟩
       | refine Or.inl ⟨_, _, _, holeM, rfl, rfl, ?_⟩
       | refine lA ?_
       | refine lA0 ?_
       | refine lA1 ?_
       | refine lO ?_
       | refine lO0 ?_
       | refine lO1 ?_
       | refine lG ?_
       | refine lG0 ?_
       | refine tA ?_
       | refine tA0 ?_
       | refine tA1 ?_
       | refine BytW.ofBlk hasM rfl rfl ?_
       | refine AppW.noneB hasM leM rfl rfl rfl leM leM ?_
       | refine AppW.rowB hasM leM rfl rfl holeM leM leM ?_
       | refine AppW.blkB hasM leM rfl rfl holeM rfl rfl leM leM ?_
       | refine AppW.rowS hasM leM rfl rfl holeM (by omega) leM ?_
       | refine AppW.arrS hasM leM rfl rfl rfl holeM (by first | omega | (simp; omega)) leM ?_
       | refine ⟨sideM, ?_⟩
       | fail)
  all_goals (try conv => whnf)
  all_goals rfl
theorem ok_wStep1 : (match Try.f143.body with | some c => codeOk Try.f143.ntmps c | none => false) = true := by kernel_rfl
theorem en_wStep1 : ∃ fn, Try.prog.funcs[143]? = some fn ∧ (fn.name == "runtime.NumGoroutine") = false ∧ fn.body.isNone = false := ⟨_, Try.func143, by kernel_rfl, by kernel_rfl⟩
theorem wStep1R_w (p : PortV) (g j bp bq bf : Nat) (t : TimesV) (n c bm bv : Nat) (ps : List PortV) (hn : ps.length = n) (hl : n ≤ 1000) (w : World) (hp : w.rangeAt bp 0 [.pointer (some ⟨g, 0 + j * 61, none⟩)]) (hq : w.rangeAt bq 0 [.pointer (some ⟨g, 0 + j * 61, none⟩)]) (hx : w.rangeAt g (0 + j * 61) p.enc) (hf : w.rangeAt bf 0 (boxF2 117 bq bm)) (hm : w.rangeAt bm 0 [.pointer (some ⟨bv, 0, none⟩)]) (hv : w.rangeAt bv 0 (moverE t g n c j)) (hs : SlAt w (some ⟨g, 0, none⟩) 61 (ps.map PortV.enc)) :
    PuAt Try.prog 143 [.pointer (some ⟨bp, 0, none⟩), .pointer (some ⟨bf, 0, none⟩)] (.bool (!p.Learn && mayRo ps j p)) w := by
  refine funcR_pure tyOk wide Try.func143 ok_wStep1 (Nat.le_of_ble_eq_true rfl) ?_
  have r1 := rg_old (X := []) hp (by simp)
  have r2 := rg_old (X := []) hx (by simp)
  have r3 := rg_old (X := []) hq (by simp)
  have r5 := rg_old (X := []) hf (by simp)
  have r3' := rg_old (X := []) hm (by simp)
  have r4 := rg_old (X := []) hv (by simp)
  repeat' first
    | (conv => whnf
       first
       | intro _
       | (first | refine selSplit (fun h => ?_) (fun h => ?_) | refine condSplit (fun h => ?_) (fun h => ?_)) <;> first | exact (clash (by assumption) h).elim | exact (clash h (by assumption)).elim | (simp only [decide_eq_true_eq, decide_eq_false_iff_not, Bool.not_eq_true', Bool.not_eq_false', Bool.not_true, Bool.not_false, Bool.or_eq_true, Bool.and_eq_true, Bool.or_eq_false_iff, Bool.and_eq_false_iff, beq_iff_eq, beq_eq_false_iff_ne, ne_eq] at h; first | (exfalso; omega) | skip) | skip
       | refine SeqP.go ?_
       | refine cdM ?_
       | exact IsV.mk
       | apply GuardP.mk
       | ((first | apply callPure' en_wRoot9 | apply callQuiet' en_wRoot9); · exact fun w hw => wRoot9_w p g j bq t n c bm bv ps hn hl w (r3 _ w hw) (r2 _ w hw) (r3' _ w hw) (r4 _ w hw) (hs.later hw))
       | refine Or.inl ⟨_, _, hasM, ?_⟩
       | refine Or.inl ⟨_, _, _, holeM, rfl, rfl, ?_⟩
       | refine lA ?_
       | refine lA0 ?_
       | refine lA1 ?_
       | refine lO ?_
       | refine lO0 ?_
       | refine lO1 ?_
       | refine lG ?_
       | refine lG0 ?_
       | refine tA ?_
       | refine tA0 ?_
       | refine tA1 ?_
       | refine BytW.ofBlk hasM rfl rfl ?_
       | refine AppW.noneB hasM leM rfl rfl rfl leM leM ?_
       | refine AppW.rowB hasM leM rfl rfl holeM leM leM ?_
       | refine AppW.blkB hasM leM rfl rfl holeM rfl rfl leM leM ?_
       | refine AppW.rowS hasM leM rfl rfl holeM (by omega) leM ?_
       | refine AppW.arrS hasM leM rfl rfl rfl holeM (by first | omega | (simp; omega)) leM ?_
       | refine ⟨sideM, ?_⟩
       | fail)
  all_goals (try conv => whnf)
  all_goals rfl
theorem ok_wStep3 : (match Try.f145.body with | some c => codeOk Try.f145.ntmps c | none => false) = true := by kernel_rfl
theorem en_wStep3 : ∃ fn, Try.prog.funcs[145]? = some fn ∧ (fn.name == "runtime.NumGoroutine") = false ∧ fn.body.isNone = false := ⟨_, Try.func145, by kernel_rfl, by kernel_rfl⟩
theorem wStep3R_w (p : PortV) (g j bp bq bf : Nat) (t : TimesV) (n c bm bv : Nat) (ps : List PortV) (hn : ps.length = n) (hl : n ≤ 1000) (w : World) (hp : w.rangeAt bp 0 [.pointer (some ⟨g, 0 + j * 61, none⟩)]) (hq : w.rangeAt bq 0 [.pointer (some ⟨g, 0 + j * 61, none⟩)]) (hx : w.rangeAt g (0 + j * 61) p.enc) (hf : w.rangeAt bf 0 (boxF2 117 bq bm)) (hm : w.rangeAt bm 0 [.pointer (some ⟨bv, 0, none⟩)]) (hv : w.rangeAt bv 0 (moverE t g n c j)) (hs : SlAt w (some ⟨g, 0, none⟩) 61 (ps.map PortV.enc)) :
    PuAt Try.prog 145 [.pointer (some ⟨bp, 0, none⟩), .pointer (some ⟨bf, 0, none⟩)] (.bool (p.Learn && !p.Forward && mayRo ps j p)) w := by
  refine funcR_pure tyOk wide Try.func145 ok_wStep3 (Nat.le_of_ble_eq_true rfl) ?_
  have r1 := rg_old (X := []) hp (by simp)
  have r2 := rg_old (X := []) hx (by simp)
  have r3 := rg_old (X := []) hq (by simp)
  have r5 := rg_old (X := []) hf (by simp)
  have r3' := rg_old (X := []) hm (by simp)
  have r4 := rg_old (X := []) hv (by simp)
  repeat' first
    | (conv => whnf
       first
       | intro _
       | (first | refine selSplit (fun h => ?_) (fun h => ?_) | refine condSplit (fun h => ?_) (fun h => ?_)) <;> first | exact (clash (by assumption) h).elim | exact (clash h (by assumption)).elim | (simp only [decide_eq_true_eq, decide_eq_false_iff_not, Bool.not_eq_true', Bool.not_eq_false', Bool.not_true, Bool.not_false, Bool.or_eq_true, Bool.and_eq_true, Bool.or_eq_false_iff, Bool.and_eq_false_iff, beq_iff_eq, beq_eq_false_iff_ne, ne_eq] at h; first | (exfalso; omega) | skip) | skip
       | refine SeqP.go ?_
       | refine cdM ?_
       | exact IsV.mk
       | apply GuardP.mk
       | ((first | apply callPure' en_wRoot9 | apply callQuiet' en_wRoot9); · exact fun w hw => wRoot9_w p g j bq t n c bm bv ps hn hl w (r3 _ w hw) (r2 _ w hw) (r3' _ w hw) (r4 _ w hw) (hs.later hw))
       | refine Or.inl ⟨_, _, hasM, ?_⟩
       | refine Or.inl ⟨_, _, _, holeM, rfl, rfl, ?_⟩
       | refine lA ?_
       | refine lA0 ?_
       | refine lA1 ?_
       | refine lO ?_
       | refine lO0 ?_
       | refine lO1 ?_
       | refine lG ?_
       | refine lG0 ?_
       | refine tA ?_
       | refine tA0 ?_
       | refine tA1 ?_
       | refine BytW.ofBlk hasM rfl rfl ?_
       | refine AppW.noneB hasM leM rfl rfl rfl leM leM ?_
       | refine AppW.rowB hasM leM rfl rfl holeM leM leM ?_
       | refine AppW.blkB hasM leM rfl rfl holeM rfl rfl leM leM ?_
       | refine AppW.rowS hasM leM rfl rfl holeM (by omega) leM ?_
       | refine AppW.arrS hasM leM rfl rfl rfl holeM (by first | omega | (simp; omega)) leM ?_
       | refine ⟨sideM, ?_⟩
       | fail)
  all_goals (try conv => whnf)
  all_goals rfl
theorem wStep1T_w (p : PortV) (g j bp bq bf : Nat)  (w : World) (hp : w.rangeAt bp 0 [.pointer (some ⟨g, 0 + j * 61, none⟩)]) (hq : w.rangeAt bq 0 [.pointer (some ⟨g, 0 + j * 61, none⟩)]) (hx : w.rangeAt g (0 + j * 61) p.enc) (hf : w.rangeAt bf 0 (boxF 129 bq))  :
    PuAt Try.prog 143 [.pointer (some ⟨bp, 0, none⟩), .pointer (some ⟨bf, 0, none⟩)] (.bool (!p.Learn && maySt p)) w := by
  refine funcR_pure tyOk wide Try.func143 ok_wStep1 (Nat.le_of_ble_eq_true rfl) ?_
  have r1 := rg_old (X := []) hp (by simp)
  have r2 := rg_old (X := []) hx (by simp)
  have r3 := rg_old (X := []) hq (by simp)
  have r5 := rg_old (X := []) hf (by simp)
  repeat' first
    | (conv => whnf
       first
       | intro _
       | (first | refine selSplit (fun h => ?_) (fun h => ?_) | refine condSplit (fun h => ?_) (fun h => ?_)) <;> first | exact (clash (by assumption) h).elim | exact (clash h (by assumption)).elim | (simp only [decide_eq_true_eq, decide_eq_false_iff_not, Bool.not_eq_true', Bool.not_eq_false', Bool.not_true, Bool.not_false, Bool.or_eq_true, Bool.and_eq_true, Bool.or_eq_false_iff, Bool.and_eq_false_iff, beq_iff_eq, beq_eq_false_iff_ne, ne_eq] at h; first | (exfalso; omega) | skip) | skip
       | refine SeqP.go ?_
       | refine cdM ?_
       | exact IsV.mk
       | apply GuardP.mk
       | ((first | apply callPure' en_wTold9 | apply callQuiet' en_wTold9); · exact fun w hw => wTold9_w p g j bq w (r3 _ w hw) (r2 _ w hw))
       | refine Or.inl ⟨_, _, hasM, ?_⟩
       | refine Or.inl ⟨_, _, _, holeM, rfl, rfl, ?_⟩
       | refine lA ?_
       | refine lA0 ?_
       | refine lA1 ?_
       | refine lO ?_
       | refine lO0 ?_
       | refine lO1 ?_
       | refine lG ?_
       | refine lG0 ?_
       | refine tA ?_
       | refine tA0 ?_
       | refine tA1 ?_
       | refine BytW.ofBlk hasM rfl rfl ?_
       | refine AppW.noneB hasM leM rfl rfl rfl leM leM ?_
       | refine AppW.rowB hasM leM rfl rfl holeM leM leM ?_
       | refine AppW.blkB hasM leM rfl rfl holeM rfl rfl leM leM ?_
       | refine AppW.rowS hasM leM rfl rfl holeM (by omega) leM ?_
       | refine AppW.arrS hasM leM rfl rfl rfl holeM (by first | omega | (simp; omega)) leM ?_
       | refine ⟨sideM, ?_⟩
       | fail)
  all_goals (try conv => whnf)
  all_goals rfl
theorem wStep3T_w (p : PortV) (g j bp bq bf : Nat)  (w : World) (hp : w.rangeAt bp 0 [.pointer (some ⟨g, 0 + j * 61, none⟩)]) (hq : w.rangeAt bq 0 [.pointer (some ⟨g, 0 + j * 61, none⟩)]) (hx : w.rangeAt g (0 + j * 61) p.enc) (hf : w.rangeAt bf 0 (boxF 129 bq))  :
    PuAt Try.prog 145 [.pointer (some ⟨bp, 0, none⟩), .pointer (some ⟨bf, 0, none⟩)] (.bool (p.Learn && !p.Forward && maySt p)) w := by
  refine funcR_pure tyOk wide Try.func145 ok_wStep3 (Nat.le_of_ble_eq_true rfl) ?_
  have r1 := rg_old (X := []) hp (by simp)
  have r2 := rg_old (X := []) hx (by simp)
  have r3 := rg_old (X := []) hq (by simp)
  have r5 := rg_old (X := []) hf (by simp)
  repeat' first
    | (conv => whnf
       first
       | intro _
       | (first | refine selSplit (fun h => ?_) (fun h => ?_) | refine condSplit (fun h => ?_) (fun h => ?_)) <;> first | exact (clash (by assumption) h).elim | exact (clash h (by assumption)).elim | (simp only [decide_eq_true_eq, decide_eq_false_iff_not, Bool.not_eq_true', Bool.not_eq_false', Bool.not_true, Bool.not_false, Bool.or_eq_true, Bool.and_eq_true, Bool.or_eq_false_iff, Bool.and_eq_false_iff, beq_iff_eq, beq_eq_false_iff_ne, ne_eq] at h; first | (exfalso; omega) | skip) | skip
       | refine SeqP.go ?_
       | refine cdM ?_
       | exact IsV.mk
       | apply GuardP.mk
       | ((first | apply callPure' en_wTold9 | apply callQuiet' en_wTold9); · exact fun w hw => wTold9_w p g j bq w (r3 _ w hw) (r2 _ w hw))
       | refine Or.inl ⟨_, _, hasM, ?_⟩
       | refine Or.inl ⟨_, _, _, holeM, rfl, rfl, ?_⟩
       | refine lA ?_
       | refine lA0 ?_
       | refine lA1 ?_
       | refine lO ?_
       | refine lO0 ?_
       | refine lO1 ?_
       | refine lG ?_
       | refine lG0 ?_
       | refine tA ?_
       | refine tA0 ?_
       | refine tA1 ?_
       | refine BytW.ofBlk hasM rfl rfl ?_
       | refine AppW.noneB hasM leM rfl rfl rfl leM leM ?_
       | refine AppW.rowB hasM leM rfl rfl holeM leM leM ?_
       | refine AppW.blkB hasM leM rfl rfl holeM rfl rfl leM leM ?_
       | refine AppW.rowS hasM leM rfl rfl holeM (by omega) leM ?_
       | refine AppW.arrS hasM leM rfl rfl rfl holeM (by first | omega | (simp; omega)) leM ?_
       | refine ⟨sideM, ?_⟩
       | fail)
  all_goals (try conv => whnf)
  all_goals rfl
theorem ok_dStep4 : (match Try.f146.body with | some c => codeOk Try.f146.ntmps c | none => false) = true := by kernel_rfl
theorem en_dStep4 : ∃ fn, Try.prog.funcs[146]? = some fn ∧ (fn.name == "runtime.NumGoroutine") = false ∧ fn.body.isNone = false := ⟨_, Try.func146, by kernel_rfl, by kernel_rfl⟩
theorem dStep4R_w (l : List (List Value)) (p : PortV) (g n c j bp bf : Nat) (w : World) (hx : l[j]? = some p.enc) (hw : St w (feet [.arr (.slice (some ⟨g, 0, none⟩) n c) 28 61 l, .blk bp [.pointer (some ⟨g, 0 + j * 61, none⟩)] 76, .blk bf [.func (.func 119) #[] #[]] 1]) [.arr (.slice (some ⟨g, 0, none⟩) n c) 28 61 l, .blk bp [.pointer (some ⟨g, 0 + j * 61, none⟩)] 76, .blk bf [.func (.func 119) #[] #[]] 1] w) :
    FnX Try.prog 146 [.pointer (some ⟨bp, 0, none⟩), .pointer (some ⟨bf, 0, none⟩)] [.arr (.slice (some ⟨g, 0, none⟩) n c) 28 61 l, .blk bp [.pointer (some ⟨g, 0 + j * 61, none⟩)] 76, .blk bf [.func (.func 119) #[] #[]] 1] (fun _ : Unit => True) (fun _ => .tuple ⟨[]⟩) (fun _ => [.arr (.slice (some ⟨g, 0, none⟩) n c) 28 61 (l.set j ({ p with Forward := true, Fd := 0 } : PortV).enc), .blk bp [.pointer (some ⟨g, 0 + j * 61, none⟩)] 76, .blk bf [.func (.func 119) #[] #[]] 1]) w := by
  refine funcR_x tyOk wide Try.func146 ok_dStep4 (Nat.le_of_ble_eq_true rfl) hw ?_
  repeat' first
    | (conv => whnf
       first
       | intro _
       | (first | refine selSplit (fun h => ?_) (fun h => ?_) | refine condSplit (fun h => ?_) (fun h => ?_)) <;> first | exact (clash (by assumption) h).elim | exact (clash h (by assumption)).elim | (simp only [decide_eq_true_eq, decide_eq_false_iff_not, Bool.not_eq_true', Bool.not_eq_false', Bool.not_true, Bool.not_false, Bool.or_eq_true, Bool.and_eq_true, Bool.or_eq_false_iff, Bool.and_eq_false_iff, beq_iff_eq, beq_eq_false_iff_ne, ne_eq] at h; first | (exfalso; omega) | skip) | skip
       | (first | refine drM (.quiet 0 (.quiet 1 (.quiet 2 (.quiet 3 (.last 4 true (.last 5 false (.last 6 false (.last 7 false .done)))))))) (SubL.of (List.Sublist.cons _ (List.Sublist.refl _))) ?_)
       | refine AltP.mk ?_ ?_
       | refine kpM ?_
       | refine SeqP.go ?_
       | refine cdM ?_
       | exact IsV.mk
       | apply GuardP.mk
       | ((first | apply callPure' en_dRoot10 | apply callQuiet' en_dRoot10); · exact fun w _ => dRoot10_w w)
       | refine Or.inl ⟨_, _, hasM, ?_⟩
       | refine Or.inl ⟨_, _, _, holeM, rfl, rfl, ?_⟩
       | refine lA ?_
       | refine lA0 ?_
       | refine lA1 ?_
       | refine lO ?_
       | refine lO0 ?_
       | refine lO1 ?_
       | refine lG ?_
       | refine lG0 ?_
       | refine tA ?_
       | refine tA0 ?_
       | refine tA1 ?_
       | refine BytW.ofBlk hasM rfl rfl ?_
       | refine AppW.noneB hasM leM rfl rfl rfl leM leM ?_
       | refine AppW.rowB hasM leM rfl rfl holeM leM leM ?_
       | refine AppW.blkB hasM leM rfl rfl holeM rfl rfl leM leM ?_
       | refine AppW.rowS hasM leM rfl rfl holeM (by omega) leM ?_
       | refine AppW.arrS hasM leM rfl rfl rfl holeM (by first | omega | (simp; omega)) leM ?_
       | refine ⟨sideM, ?_⟩
       | fail)
  all_goals (try conv => whnf)
  all_goals (refine EndX.mk () trivial rfl ?_; (try simp only [List.set_set, setSame hx]); exact entM)
theorem dStep4T_w (l : List (List Value)) (p : PortV) (g n c j bp bf bq : Nat) (w : World) (hx : l[j]? = some p.enc) (hw : St w (feet [.arr (.slice (some ⟨g, 0, none⟩) n c) 28 61 l, .blk bp [.pointer (some ⟨g, 0 + j * 61, none⟩)] 76, .blk bf (boxF 130 bq) 1, .blk bq [.pointer (some ⟨g, 0 + j * 61, none⟩)] 76]) [.arr (.slice (some ⟨g, 0, none⟩) n c) 28 61 l, .blk bp [.pointer (some ⟨g, 0 + j * 61, none⟩)] 76, .blk bf (boxF 130 bq) 1, .blk bq [.pointer (some ⟨g, 0 + j * 61, none⟩)] 76] w) :
    FnX Try.prog 146 [.pointer (some ⟨bp, 0, none⟩), .pointer (some ⟨bf, 0, none⟩)] [.arr (.slice (some ⟨g, 0, none⟩) n c) 28 61 l, .blk bp [.pointer (some ⟨g, 0 + j * 61, none⟩)] 76, .blk bf (boxF 130 bq) 1, .blk bq [.pointer (some ⟨g, 0 + j * 61, none⟩)] 76] (fun _ : Unit => True) (fun _ => .tuple ⟨[]⟩) (fun _ => [.arr (.slice (some ⟨g, 0, none⟩) n c) 28 61 (l.set j ({ p with Forward := true, Fd := 0, Agreed := p.SendRstp } : PortV).enc), .blk bp [.pointer (some ⟨g, 0 + j * 61, none⟩)] 76, .blk bf (boxF 130 bq) 1, .blk bq [.pointer (some ⟨g, 0 + j * 61, none⟩)] 76]) w := by
  refine funcR_x tyOk wide Try.func146 ok_dStep4 (Nat.le_of_ble_eq_true rfl) hw ?_
  repeat' first
    | (conv => whnf
       first
       | intro _
       | (first | refine selSplit (fun h => ?_) (fun h => ?_) | refine condSplit (fun h => ?_) (fun h => ?_)) <;> first | exact (clash (by assumption) h).elim | exact (clash h (by assumption)).elim | (simp only [decide_eq_true_eq, decide_eq_false_iff_not, Bool.not_eq_true', Bool.not_eq_false', Bool.not_true, Bool.not_false, Bool.or_eq_true, Bool.and_eq_true, Bool.or_eq_false_iff, Bool.and_eq_false_iff, beq_iff_eq, beq_eq_false_iff_ne, ne_eq] at h; first | (exfalso; omega) | skip) | skip
       | (first | refine drM (.quiet 0 (.quiet 1 (.quiet 2 (.quiet 3 (.last 4 true (.last 5 false (.last 6 false (.last 7 false .done)))))))) (SubL.of (List.Sublist.cons _ (List.Sublist.refl _))) ?_)
       | refine AltP.mk ?_ ?_
       | refine kpM ?_
       | refine SeqP.go ?_
       | refine cdM ?_
       | exact IsV.mk
       | apply GuardP.mk
       | (refine callX takeM en_dTold10 (fun w hw => dTold10_w _ { p with Forward := true, Fd := 0 } g n c j bq w (getSelf (getSelf hx)) (hw.sub2 takeM)) ?_)
       | refine Or.inl ⟨_, _, hasM, ?_⟩
       | refine Or.inl ⟨_, _, _, holeM, rfl, rfl, ?_⟩
       | refine lA ?_
       | refine lA0 ?_
       | refine lA1 ?_
       | refine lO ?_
       | refine lO0 ?_
       | refine lO1 ?_
       | refine lG ?_
       | refine lG0 ?_
       | refine tA ?_
       | refine tA0 ?_
       | refine tA1 ?_
       | refine BytW.ofBlk hasM rfl rfl ?_
       | refine AppW.noneB hasM leM rfl rfl rfl leM leM ?_
       | refine AppW.rowB hasM leM rfl rfl holeM leM leM ?_
       | refine AppW.blkB hasM leM rfl rfl holeM rfl rfl leM leM ?_
       | refine AppW.rowS hasM leM rfl rfl holeM (by omega) leM ?_
       | refine AppW.arrS hasM leM rfl rfl rfl holeM (by first | omega | (simp; omega)) leM ?_
       | refine ⟨sideM, ?_⟩
       | fail)
  all_goals (try conv => whnf)
  all_goals (refine EndX.mk () trivial rfl ?_; (try simp only [List.set_set, setSame hx]); exact entM)
end Go.Proofs.Ytmgoahmbdpoikaa.Am
