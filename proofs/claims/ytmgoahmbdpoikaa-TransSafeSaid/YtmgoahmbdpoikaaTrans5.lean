/- Package trans: the rows of moves, case by case (this text is printed by gen_trans5.py). -/
import Derived.Test.YtmgoahmbdpoikaaTrans4
set_option linter.unusedVariables false
set_option linter.unusedSimpArgs false
set_option maxRecDepth 100000
set_option maxHeartbeats 4000000
namespace Go.Proofs.Ytmgoahmbdpoikaa.Am
open Go Go.RowKit
theorem ok_blocked : (match Try.f105.body with | some c => codeOk Try.f105.ntmps c | none => false) = true := by kernel_rfl
theorem en_blocked : ∃ fn, Try.prog.funcs[105]? = some fn ∧ (fn.name == "runtime.NumGoroutine") = false ∧ fn.body.isNone = false := ⟨_, Try.func105, by kernel_rfl, by kernel_rfl⟩
theorem ok_moves : (match Try.f91.body with | some c => codeOk Try.f91.ntmps c | none => false) = true := by kernel_rfl
theorem en_moves : ∃ fn, Try.prog.funcs[91]? = some fn ∧ (fn.name == "runtime.NumGoroutine") = false ∧ fn.body.isNone = false := ⟨_, Try.func91, by kernel_rfl, by kernel_rfl⟩
structure MvA where
  bm : Nat
  bp : Nat
  gs : Nat
structure MvZ where
  bm : Nat
  bp : Nat
  bf : Nat
  gs : Nat
structure MvL where
  bm : Nat
  bp : Nat
  bf : Nat
  b7 : Nat
  pm : Nat
  pp : Nat
  gr : Nat
  q : Nat
theorem blockedZ_w (t : TimesV) (l : List (List Value)) (p : PortV) (g n c j bv : Nat) (hr : p.Role = 0) (w : World) (hx : l[j]? = some p.enc) (hw : St w (feet [.blk bv (moverE t g n c j) 126, .arr (.slice (some ⟨g, 0, none⟩) n c) 28 61 l]) [.blk bv (moverE t g n c j) 126, .arr (.slice (some ⟨g, 0, none⟩) n c) 28 61 l] w) :
    FnX Try.prog 105 [.pointer (some ⟨bv, 0, none⟩)] [.blk bv (moverE t g n c j) 126, .arr (.slice (some ⟨g, 0, none⟩) n c) 28 61 l] (fun s : MvZ => True) (fun s => .slice (some ⟨s.gs, 0, none⟩) 1 1) (fun s => [.blk s.gs [.func (.func 131) #[] #[.pointer (some ⟨s.bp, 0, none⟩), .pointer (some ⟨s.bf, 0, none⟩)], .func (.func 132) #[] #[.pointer (some ⟨s.bf, 0, none⟩), .pointer (some ⟨s.bp, 0, none⟩)]] 130, .blk s.bf [.int .i64 t.Max] 3, .blk s.bp [.pointer (some ⟨g, 0 + j * 61, none⟩)] 76, .blk s.bm [.pointer (some ⟨bv, 0, none⟩)] 124, .blk bv (moverE t g n c j) 126, .arr (.slice (some ⟨g, 0, none⟩) n c) 28 61 l]) w := by
  refine funcR_x tyOk wide Try.func105 ok_blocked (Nat.le_of_ble_eq_true rfl) hw ?_
  repeat' first
    | (conv => whnf
       first
       | intro _
       | (first | refine selSplit (fun h => ?_) (fun h => ?_) | refine condSplit (fun h => ?_) (fun h => ?_)) <;> first | exact (clash (by assumption) h).elim | exact (clash h (by assumption)).elim | (simp only [decide_eq_true_eq, decide_eq_false_iff_not, Bool.not_eq_true', Bool.not_eq_false', Bool.not_true, Bool.not_false, Bool.or_eq_true, Bool.and_eq_true, Bool.or_eq_false_iff, Bool.and_eq_false_iff, beq_iff_eq, beq_eq_false_iff_ne, ne_eq] at h; first | (exfalso; omega) | skip) | skip
       | refine SeqP.go ?_
       | refine cdM ?_
       | exact IsV.mk
       | apply GuardP.mk
       | (refine callX takeM en_proposals (fun w hw => proposals_w t g n c j bv w (hw.sub2 takeM)) ?_)
       | refine Or.inl ⟨_, _, hasM, ?_⟩
       | refine Or.inl ⟨_, _, _, holeM, rfl, rfl, ?_⟩
       | refine lA ?_
       | refine lA0 ?_
       | refine lA1 ?_
       | refine lO ?_
       | refine lO0 ?_
       | refine lO1 ?_
       | refine lR ?_
       | refine lG ?_
       | refine lG0 ?_
       | refine tA ?_
       | refine tA0 ?_
       | refine tA1 ?_
       | refine BytW.ofBlk hasM rfl rfl ?_
       | refine AppW.noneE hasM leM rfl leM rfl rfl leM leM ?_
       | refine AppW.rowE hasM leM rfl leM rfl holeM (by first | exact leM | omega) leM ?_
       | refine AppW.blkE hasM leM rfl leM rfl holeM rfl rfl leM leM ?_
       | refine AppW.noneB hasM leM rfl rfl rfl leM leM ?_
       | refine AppW.rowB hasM leM rfl rfl holeM leM leM ?_
       | refine AppW.blkB hasM leM rfl rfl holeM rfl rfl leM leM ?_
       | refine AppW.rowS hasM leM rfl rfl holeM (by omega) leM ?_
       | refine AppW.arrS hasM leM rfl rfl rfl holeM (by first | omega | (simp; omega)) leM ?_
       | refine ⟨sideM, ?_⟩
       | fail)
  all_goals (try conv => whnf)
  all_goals first
    | (exfalso; omega)
    | exact EndX.mk ⟨_, _, _, _⟩ (by first | exact trivial | assumption) rfl entM
theorem blockedL_w (t : TimesV) (l : List (List Value)) (p : PortV) (g n c j bv : Nat) (hr : p.Role = 3) (w : World) (hx : l[j]? = some p.enc) (hw : St w (feet [.blk bv (moverE t g n c j) 126, .arr (.slice (some ⟨g, 0, none⟩) n c) 28 61 l]) [.blk bv (moverE t g n c j) 126, .arr (.slice (some ⟨g, 0, none⟩) n c) 28 61 l] w) :
    FnX Try.prog 105 [.pointer (some ⟨bv, 0, none⟩)] [.blk bv (moverE t g n c j) 126, .arr (.slice (some ⟨g, 0, none⟩) n c) 28 61 l] (fun s : MvL => 3 ≤ s.q) (fun s => .slice (some ⟨s.gr, 0, none⟩) 3 s.q) (fun s => [.row (.slice (some ⟨s.gr, 0, none⟩) 3 s.q) 130 2 3 [.func (.func 133) #[] #[.pointer (some ⟨s.bp, 0, none⟩), .pointer (some ⟨s.b7, 0, none⟩)], .func (.func 138) #[.pointer (some ⟨bv, 0, none⟩)] #[], .func (.func 139) #[] #[.pointer (some ⟨s.pp, 0, none⟩), .pointer (some ⟨s.pm, 0, none⟩)], .func (.func 141) #[] #[.pointer (some ⟨s.pm, 0, none⟩), .pointer (some ⟨s.pp, 0, none⟩)], .func (.func 131) #[] #[.pointer (some ⟨s.bp, 0, none⟩), .pointer (some ⟨s.bf, 0, none⟩)], .func (.func 132) #[] #[.pointer (some ⟨s.bf, 0, none⟩), .pointer (some ⟨s.bp, 0, none⟩)]], .blk s.b7 (boxF 137 s.pp) 29, .blk s.bf [.int .i64 t.Delay] 3, .blk s.bp [.pointer (some ⟨g, 0 + j * 61, none⟩)] 76, .blk s.pp [.pointer (some ⟨g, 0 + j * 61, none⟩)] 76, .blk s.pm [.pointer (some ⟨bv, 0, none⟩)] 124, .blk s.bm [.pointer (some ⟨bv, 0, none⟩)] 124, .blk bv (moverE t g n c j) 126, .arr (.slice (some ⟨g, 0, none⟩) n c) 28 61 l]) w := by
  refine funcR_x tyOk wide Try.func105 ok_blocked (Nat.le_of_ble_eq_true rfl) hw ?_
  repeat' first
    | (conv => whnf
       first
       | intro _
       | (first | refine selSplit (fun h => ?_) (fun h => ?_) | refine condSplit (fun h => ?_) (fun h => ?_)) <;> first | exact (clash (by assumption) h).elim | exact (clash h (by assumption)).elim | (simp only [decide_eq_true_eq, decide_eq_false_iff_not, Bool.not_eq_true', Bool.not_eq_false', Bool.not_true, Bool.not_false, Bool.or_eq_true, Bool.and_eq_true, Bool.or_eq_false_iff, Bool.and_eq_false_iff, beq_iff_eq, beq_eq_false_iff_ne, ne_eq] at h; first | (exfalso; omega) | skip) | skip
       | refine SeqP.go ?_
       | refine cdM ?_
       | exact IsV.mk
       | apply GuardP.mk
       | (refine callX takeM en_proposals (fun w hw => proposals_w t g n c j bv w (hw.sub2 takeM)) ?_)
       | refine Or.inl ⟨_, _, hasM, ?_⟩
       | refine Or.inl ⟨_, _, _, holeM, rfl, rfl, ?_⟩
       | refine lA ?_
       | refine lA0 ?_
       | refine lA1 ?_
       | refine lO ?_
       | refine lO0 ?_
       | refine lO1 ?_
       | refine lR ?_
       | refine lG ?_
       | refine lG0 ?_
       | refine tA ?_
       | refine tA0 ?_
       | refine tA1 ?_
       | refine BytW.ofBlk hasM rfl rfl ?_
       | refine AppW.noneE hasM leM rfl leM rfl rfl leM leM ?_
       | refine AppW.rowE hasM leM rfl leM rfl holeM (by first | exact leM | omega) leM ?_
       | refine AppW.blkE hasM leM rfl leM rfl holeM rfl rfl leM leM ?_
       | refine AppW.noneB hasM leM rfl rfl rfl leM leM ?_
       | refine AppW.rowB hasM leM rfl rfl holeM leM leM ?_
       | refine AppW.blkB hasM leM rfl rfl holeM rfl rfl leM leM ?_
       | refine AppW.rowS hasM leM rfl rfl holeM (by omega) leM ?_
       | refine AppW.arrS hasM leM rfl rfl rfl holeM (by first | omega | (simp; omega)) leM ?_
       | refine ⟨sideM, ?_⟩
       | fail)
  all_goals (try conv => whnf)
  all_goals first
    | (exfalso; omega)
    | exact EndX.mk ⟨_, _, _, _, _, _, _, _⟩ (by first | exact trivial | assumption) rfl entM
theorem blockedK_w (t : TimesV) (l : List (List Value)) (p : PortV) (g n c j bv : Nat) (hr : p.Role = 4) (w : World) (hx : l[j]? = some p.enc) (hw : St w (feet [.blk bv (moverE t g n c j) 126, .arr (.slice (some ⟨g, 0, none⟩) n c) 28 61 l]) [.blk bv (moverE t g n c j) 126, .arr (.slice (some ⟨g, 0, none⟩) n c) 28 61 l] w) :
    FnX Try.prog 105 [.pointer (some ⟨bv, 0, none⟩)] [.blk bv (moverE t g n c j) 126, .arr (.slice (some ⟨g, 0, none⟩) n c) 28 61 l] (fun s : MvL => 4 ≤ s.q) (fun s => .slice (some ⟨s.gr, 0, none⟩) 4 s.q) (fun s => [.row (.slice (some ⟨s.gr, 0, none⟩) 4 s.q) 130 2 4 [.func (.func 133) #[] #[.pointer (some ⟨s.bp, 0, none⟩), .pointer (some ⟨s.b7, 0, none⟩)], .func (.func 138) #[.pointer (some ⟨bv, 0, none⟩)] #[], .func (.func 139) #[] #[.pointer (some ⟨s.pp, 0, none⟩), .pointer (some ⟨s.pm, 0, none⟩)], .func (.func 141) #[] #[.pointer (some ⟨s.pm, 0, none⟩), .pointer (some ⟨s.pp, 0, none⟩)], .func (.func 131) #[] #[.pointer (some ⟨s.bp, 0, none⟩), .pointer (some ⟨s.bf, 0, none⟩)], .func (.func 132) #[] #[.pointer (some ⟨s.bf, 0, none⟩), .pointer (some ⟨s.bp, 0, none⟩)], .func (.func 134) #[] #[.pointer (some ⟨s.bp, 0, none⟩), .pointer (some ⟨s.bm, 0, none⟩)], .func (.func 135) #[] #[.pointer (some ⟨s.bm, 0, none⟩), .pointer (some ⟨s.bp, 0, none⟩)]], .blk s.b7 (boxF 137 s.pp) 29, .blk s.bf [.int .i64 t.Delay] 3, .blk s.bp [.pointer (some ⟨g, 0 + j * 61, none⟩)] 76, .blk s.pp [.pointer (some ⟨g, 0 + j * 61, none⟩)] 76, .blk s.pm [.pointer (some ⟨bv, 0, none⟩)] 124, .blk s.bm [.pointer (some ⟨bv, 0, none⟩)] 124, .blk bv (moverE t g n c j) 126, .arr (.slice (some ⟨g, 0, none⟩) n c) 28 61 l]) w := by
  refine funcR_x tyOk wide Try.func105 ok_blocked (Nat.le_of_ble_eq_true rfl) hw ?_
  repeat' first
    | (conv => whnf
       first
       | intro _
       | (first | refine selSplit (fun h => ?_) (fun h => ?_) | refine condSplit (fun h => ?_) (fun h => ?_)) <;> first | exact (clash (by assumption) h).elim | exact (clash h (by assumption)).elim | (simp only [decide_eq_true_eq, decide_eq_false_iff_not, Bool.not_eq_true', Bool.not_eq_false', Bool.not_true, Bool.not_false, Bool.or_eq_true, Bool.and_eq_true, Bool.or_eq_false_iff, Bool.and_eq_false_iff, beq_iff_eq, beq_eq_false_iff_ne, ne_eq] at h; first | (exfalso; omega) | skip) | skip
       | refine SeqP.go ?_
       | refine cdM ?_
       | exact IsV.mk
       | apply GuardP.mk
       | (refine callX takeM en_proposals (fun w hw => proposals_w t g n c j bv w (hw.sub2 takeM)) ?_)
       | refine Or.inl ⟨_, _, hasM, ?_⟩
       | refine Or.inl ⟨_, _, _, holeM, rfl, rfl, ?_⟩
       | refine lA ?_
       | refine lA0 ?_
       | refine lA1 ?_
       | refine lO ?_
       | refine lO0 ?_
       | refine lO1 ?_
       | refine lR ?_
       | refine lG ?_
       | refine lG0 ?_
       | refine tA ?_
       | refine tA0 ?_
       | refine tA1 ?_
       | refine BytW.ofBlk hasM rfl rfl ?_
       | refine AppW.noneE hasM leM rfl leM rfl rfl leM leM ?_
       | refine AppW.rowE hasM leM rfl leM rfl holeM (by first | exact leM | omega) leM ?_
       | refine AppW.blkE hasM leM rfl leM rfl holeM rfl rfl leM leM ?_
       | refine AppW.noneB hasM leM rfl rfl rfl leM leM ?_
       | refine AppW.rowB hasM leM rfl rfl holeM leM leM ?_
       | refine AppW.blkB hasM leM rfl rfl holeM rfl rfl leM leM ?_
       | refine AppW.rowS hasM leM rfl rfl holeM (by omega) leM ?_
       | refine AppW.arrS hasM leM rfl rfl rfl holeM (by first | omega | (simp; omega)) leM ?_
       | refine ⟨sideM, ?_⟩
       | fail)
  all_goals (try conv => whnf)
  all_goals first
    | (exfalso; omega)
    | exact EndX.mk ⟨_, _, _, _, _, _, _, _⟩ (by first | exact trivial | assumption) rfl entM
theorem movesA_w (t : TimesV) (l : List (List Value)) (p : PortV) (g n c j bv : Nat) (h1 : p.Ready = true) (h2 : p.Update = false) (h3 : ¬ p.Selected = p.Role) (h4 : p.Selected = 1 ∨ p.Selected = 2) (w : World) (hx : l[j]? = some p.enc) (hw : St w (feet [.blk bv (moverE t g n c j) 126, .arr (.slice (some ⟨g, 0, none⟩) n c) 28 61 l]) [.blk bv (moverE t g n c j) 126, .arr (.slice (some ⟨g, 0, none⟩) n c) 28 61 l] w) :
    FnX Try.prog 91 [.pointer (some ⟨bv, 0, none⟩)] [.blk bv (moverE t g n c j) 126, .arr (.slice (some ⟨g, 0, none⟩) n c) 28 61 l] (fun s : MvA => True) (fun s => .slice (some ⟨s.gs, 0, none⟩) 1 1) (fun s => [.blk s.gs [.func (.func 99) #[] #[], .func (.func 100) #[] #[.pointer (some ⟨s.bp, 0, none⟩), .pointer (some ⟨s.bm, 0, none⟩)]] 130, .blk s.bp [.pointer (some ⟨g, 0 + j * 61, none⟩)] 76, .blk s.bm [.pointer (some ⟨bv, 0, none⟩)] 124, .blk bv (moverE t g n c j) 126, .arr (.slice (some ⟨g, 0, none⟩) n c) 28 61 l]) w := by
  refine funcR_x tyOk wide Try.func91 ok_moves (Nat.le_of_ble_eq_true rfl) hw ?_
  repeat' first
    | (conv => whnf
       first
       | (refine condYes ?_ ?_; · (simp [h1, h2, h3, h4]; done))
       | (refine condNo ?_ ?_; · (simp [h1, h2, h3, h4]; done))
       | intro _
       | (first | refine selSplit (fun h => ?_) (fun h => ?_) | refine condSplit (fun h => ?_) (fun h => ?_)) <;> first | exact (clash (by assumption) h).elim | exact (clash h (by assumption)).elim | (simp only [decide_eq_true_eq, decide_eq_false_iff_not, Bool.not_eq_true', Bool.not_eq_false', Bool.not_true, Bool.not_false, Bool.or_eq_true, Bool.and_eq_true, Bool.or_eq_false_iff, Bool.and_eq_false_iff, beq_iff_eq, beq_eq_false_iff_ne, ne_eq] at h; first | (exfalso; omega) | skip) | skip
       | (first | refine drC (.quiet 0 (.quiet 1 (.quiet 2 (.quiet 3 (.quiet 4 (.quiet 5 (.quiet 6 (.quiet 7 (.quiet 8 (.quiet 9 (.quiet 10 (.quiet 11 (.quiet 12 (.quiet 13 (.quiet 14 (.quiet 15 (.quiet 16 (.quiet 17 (.quiet 18 (.quiet 19 (.quiet 20 (.quiet 21 (.quiet 22 (.quiet 23 .done)))))))))))))))))))))))) (SubL.refl _) ?_ | refine drM (.quiet 0 (.quiet 1 (.quiet 2 (.quiet 3 (.quiet 4 (.quiet 5 (.quiet 6 (.quiet 7 (.quiet 8 (.quiet 9 .done)))))))))) (SubL.refl _) ?_)
       | refine AltP.mk ?_ ?_
       | refine kpM ?_
       | refine SeqP.go ?_
       | refine cdM ?_
       | exact IsV.mk
       | apply GuardP.mk
       | refine Or.inl ⟨_, _, hasM, ?_⟩
       | refine Or.inl ⟨_, _, _, holeM, rfl, rfl, ?_⟩
       | refine lA ?_
       | refine lA0 ?_
       | refine lA1 ?_
       | refine lO ?_
       | refine lO0 ?_
       | refine lO1 ?_
       | refine lR ?_
       | refine lG ?_
       | refine lG0 ?_
       | refine tA ?_
       | refine tA0 ?_
       | refine tA1 ?_
       | refine BytW.ofBlk hasM rfl rfl ?_
       | refine AppW.noneB hasM leM rfl rfl rfl leM leM ?_
       | refine AppW.rowB hasM leM rfl rfl holeM leM leM ?_
       | refine AppW.blkB hasM leM rfl rfl holeM rfl rfl leM leM ?_
       | refine AppW.rowS hasM leM rfl rfl holeM (by omega) leM ?_
       | refine AppW.arrS hasM leM rfl rfl rfl holeM (by first | omega | (simp; omega)) leM ?_
       | refine ⟨sideM, ?_⟩
       | fail)
  all_goals (try conv => whnf)
  all_goals first
    | (exfalso; omega)
    | (exfalso; grind)
    | exact EndX.mk ⟨_, _, _⟩ (by first | exact trivial | assumption) rfl entM
theorem movesB_w (t : TimesV) (l : List (List Value)) (p : PortV) (g n c j bv : Nat) (h1 : p.Ready = true) (h2 : p.Update = false) (h3 : ¬ p.Selected = p.Role) (h4 : ¬ (p.Selected = 1 ∨ p.Selected = 2)) (h5 : 0 ≤ p.Selected ∧ p.Selected ≤ 4) (w : World) (hx : l[j]? = some p.enc) (hw : St w (feet [.blk bv (moverE t g n c j) 126, .arr (.slice (some ⟨g, 0, none⟩) n c) 28 61 l]) [.blk bv (moverE t g n c j) 126, .arr (.slice (some ⟨g, 0, none⟩) n c) 28 61 l] w) :
    FnX Try.prog 91 [.pointer (some ⟨bv, 0, none⟩)] [.blk bv (moverE t g n c j) 126, .arr (.slice (some ⟨g, 0, none⟩) n c) 28 61 l] (fun s : MvA => True) (fun s => .slice (some ⟨s.gs, 0, none⟩) 1 1) (fun s => [.blk s.gs [.func (.func 101) #[] #[], .func (.func 102) #[] #[.pointer (some ⟨s.bp, 0, none⟩)]] 130, .blk s.bp [.pointer (some ⟨g, 0 + j * 61, none⟩)] 76, .blk s.bm [.pointer (some ⟨bv, 0, none⟩)] 124, .blk bv (moverE t g n c j) 126, .arr (.slice (some ⟨g, 0, none⟩) n c) 28 61 l]) w := by
  refine funcR_x tyOk wide Try.func91 ok_moves (Nat.le_of_ble_eq_true rfl) hw ?_
  repeat' first
    | (conv => whnf
       first
       | (refine condYes ?_ ?_; · (simp [h1, h2, h3, h4]; done))
       | (refine condNo ?_ ?_; · (simp [h1, h2, h3, h4]; done))
       | intro _
       | (first | refine selSplit (fun h => ?_) (fun h => ?_) | refine condSplit (fun h => ?_) (fun h => ?_)) <;> first | exact (clash (by assumption) h).elim | exact (clash h (by assumption)).elim | (simp only [decide_eq_true_eq, decide_eq_false_iff_not, Bool.not_eq_true', Bool.not_eq_false', Bool.not_true, Bool.not_false, Bool.or_eq_true, Bool.and_eq_true, Bool.or_eq_false_iff, Bool.and_eq_false_iff, beq_iff_eq, beq_eq_false_iff_ne, ne_eq] at h; first | (exfalso; omega) | skip) | skip
       | (first | refine drC (.quiet 0 (.quiet 1 (.quiet 2 (.quiet 3 (.quiet 4 (.quiet 5 (.quiet 6 (.quiet 7 (.quiet 8 (.quiet 9 (.quiet 10 (.quiet 11 (.quiet 12 (.quiet 13 (.quiet 14 (.quiet 15 (.quiet 16 (.quiet 17 (.quiet 18 (.quiet 19 (.quiet 20 (.quiet 21 (.quiet 22 (.quiet 23 .done)))))))))))))))))))))))) (SubL.refl _) ?_ | refine drM (.quiet 0 (.quiet 1 (.quiet 2 (.quiet 3 (.quiet 4 (.quiet 5 (.quiet 6 (.quiet 7 (.quiet 8 (.quiet 9 .done)))))))))) (SubL.refl _) ?_)
       | refine AltP.mk ?_ ?_
       | refine kpM ?_
       | refine SeqP.go ?_
       | refine cdM ?_
       | exact IsV.mk
       | apply GuardP.mk
       | refine Or.inl ⟨_, _, hasM, ?_⟩
       | refine Or.inl ⟨_, _, _, holeM, rfl, rfl, ?_⟩
       | refine lA ?_
       | refine lA0 ?_
       | refine lA1 ?_
       | refine lO ?_
       | refine lO0 ?_
       | refine lO1 ?_
       | refine lR ?_
       | refine lG ?_
       | refine lG0 ?_
       | refine tA ?_
       | refine tA0 ?_
       | refine tA1 ?_
       | refine BytW.ofBlk hasM rfl rfl ?_
       | refine AppW.noneB hasM leM rfl rfl rfl leM leM ?_
       | refine AppW.rowB hasM leM rfl rfl holeM leM leM ?_
       | refine AppW.blkB hasM leM rfl rfl holeM rfl rfl leM leM ?_
       | refine AppW.rowS hasM leM rfl rfl holeM (by omega) leM ?_
       | refine AppW.arrS hasM leM rfl rfl rfl holeM (by first | omega | (simp; omega)) leM ?_
       | refine ⟨sideM, ?_⟩
       | fail)
  all_goals (try conv => whnf)
  all_goals first
    | (exfalso; omega)
    | (exfalso; grind)
    | exact EndX.mk ⟨_, _, _⟩ (by first | exact trivial | assumption) rfl entM
theorem movesZ_w (t : TimesV) (l : List (List Value)) (p : PortV) (g n c j bv : Nat) (h1 : p.Ready = true) (h2 : p.Update = false) (h3 : p.Selected = p.Role) (h4 : p.Role = 0) (w : World) (hx : l[j]? = some p.enc) (hw : St w (feet [.blk bv (moverE t g n c j) 126, .arr (.slice (some ⟨g, 0, none⟩) n c) 28 61 l]) [.blk bv (moverE t g n c j) 126, .arr (.slice (some ⟨g, 0, none⟩) n c) 28 61 l] w) :
    FnX Try.prog 91 [.pointer (some ⟨bv, 0, none⟩)] [.blk bv (moverE t g n c j) 126, .arr (.slice (some ⟨g, 0, none⟩) n c) 28 61 l] (fun s : MvZ => True) (fun s => .slice (some ⟨s.gs, 0, none⟩) 1 1) (fun s => [.blk s.gs [.func (.func 131) #[] #[.pointer (some ⟨s.bp, 0, none⟩), .pointer (some ⟨s.bf, 0, none⟩)], .func (.func 132) #[] #[.pointer (some ⟨s.bf, 0, none⟩), .pointer (some ⟨s.bp, 0, none⟩)]] 130, .blk s.bf [.int .i64 t.Max] 3, .blk s.bp [.pointer (some ⟨g, 0 + j * 61, none⟩)] 76, .blk s.bm [.pointer (some ⟨bv, 0, none⟩)] 124, .blk bv (moverE t g n c j) 126, .arr (.slice (some ⟨g, 0, none⟩) n c) 28 61 l]) w := by
  refine funcR_x tyOk wide Try.func91 ok_moves (Nat.le_of_ble_eq_true rfl) hw ?_
  repeat' first
    | (conv => whnf
       first
       | (refine condYes ?_ ?_; · (simp [h1, h2, h3, h4]; done))
       | (refine condNo ?_ ?_; · (simp [h1, h2, h3, h4]; done))
       | intro _
       | (first | refine selSplit (fun h => ?_) (fun h => ?_) | refine condSplit (fun h => ?_) (fun h => ?_)) <;> first | exact (clash (by assumption) h).elim | exact (clash h (by assumption)).elim | (simp only [decide_eq_true_eq, decide_eq_false_iff_not, Bool.not_eq_true', Bool.not_eq_false', Bool.not_true, Bool.not_false, Bool.or_eq_true, Bool.and_eq_true, Bool.or_eq_false_iff, Bool.and_eq_false_iff, beq_iff_eq, beq_eq_false_iff_ne, ne_eq] at h; first | (exfalso; omega) | skip) | skip
       | (first | refine drC (.quiet 0 (.quiet 1 (.quiet 2 (.quiet 3 (.quiet 4 (.quiet 5 (.quiet 6 (.quiet 7 (.quiet 8 (.quiet 9 (.quiet 10 (.quiet 11 (.quiet 12 (.quiet 13 (.quiet 14 (.quiet 15 (.quiet 16 (.quiet 17 (.quiet 18 (.quiet 19 (.quiet 20 (.quiet 21 (.quiet 22 (.quiet 23 .done)))))))))))))))))))))))) (SubL.refl _) ?_ | refine drM (.quiet 0 (.quiet 1 (.quiet 2 (.quiet 3 (.quiet 4 (.quiet 5 (.quiet 6 (.quiet 7 (.quiet 8 (.quiet 9 .done)))))))))) (SubL.refl _) ?_)
       | refine AltP.mk ?_ ?_
       | refine kpM ?_
       | refine SeqP.go ?_
       | refine cdM ?_
       | exact IsV.mk
       | apply GuardP.mk
       | (refine callX takeM en_blocked (fun w hw => blockedZ_w t l p g n c j bv h4 w hx (hw.sub2 takeM)) ?_)
       | refine Or.inl ⟨_, _, hasM, ?_⟩
       | refine Or.inl ⟨_, _, _, holeM, rfl, rfl, ?_⟩
       | refine lA ?_
       | refine lA0 ?_
       | refine lA1 ?_
       | refine lO ?_
       | refine lO0 ?_
       | refine lO1 ?_
       | refine lR ?_
       | refine lG ?_
       | refine lG0 ?_
       | refine tA ?_
       | refine tA0 ?_
       | refine tA1 ?_
       | refine BytW.ofBlk hasM rfl rfl ?_
       | refine AppW.noneB hasM leM rfl rfl rfl leM leM ?_
       | refine AppW.rowB hasM leM rfl rfl holeM leM leM ?_
       | refine AppW.blkB hasM leM rfl rfl holeM rfl rfl leM leM ?_
       | refine AppW.rowS hasM leM rfl rfl holeM (by omega) leM ?_
       | refine AppW.arrS hasM leM rfl rfl rfl holeM (by first | omega | (simp; omega)) leM ?_
       | refine ⟨sideM, ?_⟩
       | fail)
  all_goals (try conv => whnf)
  all_goals first
    | (exfalso; omega)
    | (exfalso; grind)
    | exact EndX.mk ⟨_, _, _, _⟩ (by first | exact trivial | assumption) rfl entM
theorem movesL_w (t : TimesV) (l : List (List Value)) (p : PortV) (g n c j bv : Nat) (h1 : p.Ready = true) (h2 : p.Update = false) (h3 : p.Selected = p.Role) (h4 : p.Role = 3) (w : World) (hx : l[j]? = some p.enc) (hw : St w (feet [.blk bv (moverE t g n c j) 126, .arr (.slice (some ⟨g, 0, none⟩) n c) 28 61 l]) [.blk bv (moverE t g n c j) 126, .arr (.slice (some ⟨g, 0, none⟩) n c) 28 61 l] w) :
    FnX Try.prog 91 [.pointer (some ⟨bv, 0, none⟩)] [.blk bv (moverE t g n c j) 126, .arr (.slice (some ⟨g, 0, none⟩) n c) 28 61 l] (fun s : MvL => 3 ≤ s.q) (fun s => .slice (some ⟨s.gr, 0, none⟩) 3 s.q) (fun s => [.row (.slice (some ⟨s.gr, 0, none⟩) 3 s.q) 130 2 3 [.func (.func 133) #[] #[.pointer (some ⟨s.bp, 0, none⟩), .pointer (some ⟨s.b7, 0, none⟩)], .func (.func 138) #[.pointer (some ⟨bv, 0, none⟩)] #[], .func (.func 139) #[] #[.pointer (some ⟨s.pp, 0, none⟩), .pointer (some ⟨s.pm, 0, none⟩)], .func (.func 141) #[] #[.pointer (some ⟨s.pm, 0, none⟩), .pointer (some ⟨s.pp, 0, none⟩)], .func (.func 131) #[] #[.pointer (some ⟨s.bp, 0, none⟩), .pointer (some ⟨s.bf, 0, none⟩)], .func (.func 132) #[] #[.pointer (some ⟨s.bf, 0, none⟩), .pointer (some ⟨s.bp, 0, none⟩)]], .blk s.b7 (boxF 137 s.pp) 29, .blk s.bf [.int .i64 t.Delay] 3, .blk s.bp [.pointer (some ⟨g, 0 + j * 61, none⟩)] 76, .blk s.pp [.pointer (some ⟨g, 0 + j * 61, none⟩)] 76, .blk s.pm [.pointer (some ⟨bv, 0, none⟩)] 124, .blk s.bm [.pointer (some ⟨bv, 0, none⟩)] 124, .blk bv (moverE t g n c j) 126, .arr (.slice (some ⟨g, 0, none⟩) n c) 28 61 l]) w := by
  refine funcR_x tyOk wide Try.func91 ok_moves (Nat.le_of_ble_eq_true rfl) hw ?_
  repeat' first
    | (conv => whnf
       first
       | (refine condYes ?_ ?_; · (simp [h1, h2, h3, h4]; done))
       | (refine condNo ?_ ?_; · (simp [h1, h2, h3, h4]; done))
       | intro _
       | (first | refine selSplit (fun h => ?_) (fun h => ?_) | refine condSplit (fun h => ?_) (fun h => ?_)) <;> first | exact (clash (by assumption) h).elim | exact (clash h (by assumption)).elim | (simp only [decide_eq_true_eq, decide_eq_false_iff_not, Bool.not_eq_true', Bool.not_eq_false', Bool.not_true, Bool.not_false, Bool.or_eq_true, Bool.and_eq_true, Bool.or_eq_false_iff, Bool.and_eq_false_iff, beq_iff_eq, beq_eq_false_iff_ne, ne_eq] at h; first | (exfalso; omega) | skip) | skip
       | (first | refine drC (.quiet 0 (.quiet 1 (.quiet 2 (.quiet 3 (.quiet 4 (.quiet 5 (.quiet 6 (.quiet 7 (.quiet 8 (.quiet 9 (.quiet 10 (.quiet 11 (.quiet 12 (.quiet 13 (.quiet 14 (.quiet 15 (.quiet 16 (.quiet 17 (.quiet 18 (.quiet 19 (.quiet 20 (.quiet 21 (.quiet 22 (.quiet 23 .done)))))))))))))))))))))))) (SubL.refl _) ?_ | refine drM (.quiet 0 (.quiet 1 (.quiet 2 (.quiet 3 (.quiet 4 (.quiet 5 (.quiet 6 (.quiet 7 (.quiet 8 (.quiet 9 .done)))))))))) (SubL.refl _) ?_)
       | refine AltP.mk ?_ ?_
       | refine kpM ?_
       | refine SeqP.go ?_
       | refine cdM ?_
       | exact IsV.mk
       | apply GuardP.mk
       | (refine callX takeM en_blocked (fun w hw => blockedL_w t l p g n c j bv h4 w hx (hw.sub2 takeM)) ?_)
       | refine Or.inl ⟨_, _, hasM, ?_⟩
       | refine Or.inl ⟨_, _, _, holeM, rfl, rfl, ?_⟩
       | refine lA ?_
       | refine lA0 ?_
       | refine lA1 ?_
       | refine lO ?_
       | refine lO0 ?_
       | refine lO1 ?_
       | refine lR ?_
       | refine lG ?_
       | refine lG0 ?_
       | refine tA ?_
       | refine tA0 ?_
       | refine tA1 ?_
       | refine BytW.ofBlk hasM rfl rfl ?_
       | refine AppW.noneB hasM leM rfl rfl rfl leM leM ?_
       | refine AppW.rowB hasM leM rfl rfl holeM leM leM ?_
       | refine AppW.blkB hasM leM rfl rfl holeM rfl rfl leM leM ?_
       | refine AppW.rowS hasM leM rfl rfl holeM (by omega) leM ?_
       | refine AppW.arrS hasM leM rfl rfl rfl holeM (by first | omega | (simp; omega)) leM ?_
       | refine ⟨sideM, ?_⟩
       | fail)
  all_goals (try conv => whnf)
  all_goals first
    | (exfalso; omega)
    | (exfalso; grind)
    | exact EndX.mk ⟨_, _, _, _, _, _, _, _⟩ (by first | exact trivial | assumption) rfl entM
theorem movesK_w (t : TimesV) (l : List (List Value)) (p : PortV) (g n c j bv : Nat) (h1 : p.Ready = true) (h2 : p.Update = false) (h3 : p.Selected = p.Role) (h4 : p.Role = 4) (w : World) (hx : l[j]? = some p.enc) (hw : St w (feet [.blk bv (moverE t g n c j) 126, .arr (.slice (some ⟨g, 0, none⟩) n c) 28 61 l]) [.blk bv (moverE t g n c j) 126, .arr (.slice (some ⟨g, 0, none⟩) n c) 28 61 l] w) :
    FnX Try.prog 91 [.pointer (some ⟨bv, 0, none⟩)] [.blk bv (moverE t g n c j) 126, .arr (.slice (some ⟨g, 0, none⟩) n c) 28 61 l] (fun s : MvL => 4 ≤ s.q) (fun s => .slice (some ⟨s.gr, 0, none⟩) 4 s.q) (fun s => [.row (.slice (some ⟨s.gr, 0, none⟩) 4 s.q) 130 2 4 [.func (.func 133) #[] #[.pointer (some ⟨s.bp, 0, none⟩), .pointer (some ⟨s.b7, 0, none⟩)], .func (.func 138) #[.pointer (some ⟨bv, 0, none⟩)] #[], .func (.func 139) #[] #[.pointer (some ⟨s.pp, 0, none⟩), .pointer (some ⟨s.pm, 0, none⟩)], .func (.func 141) #[] #[.pointer (some ⟨s.pm, 0, none⟩), .pointer (some ⟨s.pp, 0, none⟩)], .func (.func 131) #[] #[.pointer (some ⟨s.bp, 0, none⟩), .pointer (some ⟨s.bf, 0, none⟩)], .func (.func 132) #[] #[.pointer (some ⟨s.bf, 0, none⟩), .pointer (some ⟨s.bp, 0, none⟩)], .func (.func 134) #[] #[.pointer (some ⟨s.bp, 0, none⟩), .pointer (some ⟨s.bm, 0, none⟩)], .func (.func 135) #[] #[.pointer (some ⟨s.bm, 0, none⟩), .pointer (some ⟨s.bp, 0, none⟩)]], .blk s.b7 (boxF 137 s.pp) 29, .blk s.bf [.int .i64 t.Delay] 3, .blk s.bp [.pointer (some ⟨g, 0 + j * 61, none⟩)] 76, .blk s.pp [.pointer (some ⟨g, 0 + j * 61, none⟩)] 76, .blk s.pm [.pointer (some ⟨bv, 0, none⟩)] 124, .blk s.bm [.pointer (some ⟨bv, 0, none⟩)] 124, .blk bv (moverE t g n c j) 126, .arr (.slice (some ⟨g, 0, none⟩) n c) 28 61 l]) w := by
  refine funcR_x tyOk wide Try.func91 ok_moves (Nat.le_of_ble_eq_true rfl) hw ?_
  repeat' first
    | (conv => whnf
       first
       | (refine condYes ?_ ?_; · (simp [h1, h2, h3, h4]; done))
       | (refine condNo ?_ ?_; · (simp [h1, h2, h3, h4]; done))
       | intro _
       | (first | refine selSplit (fun h => ?_) (fun h => ?_) | refine condSplit (fun h => ?_) (fun h => ?_)) <;> first | exact (clash (by assumption) h).elim | exact (clash h (by assumption)).elim | (simp only [decide_eq_true_eq, decide_eq_false_iff_not, Bool.not_eq_true', Bool.not_eq_false', Bool.not_true, Bool.not_false, Bool.or_eq_true, Bool.and_eq_true, Bool.or_eq_false_iff, Bool.and_eq_false_iff, beq_iff_eq, beq_eq_false_iff_ne, ne_eq] at h; first | (exfalso; omega) | skip) | skip
       | (first | refine drC (.quiet 0 (.quiet 1 (.quiet 2 (.quiet 3 (.quiet 4 (.quiet 5 (.quiet 6 (.quiet 7 (.quiet 8 (.quiet 9 (.quiet 10 (.quiet 11 (.quiet 12 (.quiet 13 (.quiet 14 (.quiet 15 (.quiet 16 (.quiet 17 (.quiet 18 (.quiet 19 (.quiet 20 (.quiet 21 (.quiet 22 (.quiet 23 .done)))))))))))))))))))))))) (SubL.refl _) ?_ | refine drM (.quiet 0 (.quiet 1 (.quiet 2 (.quiet 3 (.quiet 4 (.quiet 5 (.quiet 6 (.quiet 7 (.quiet 8 (.quiet 9 .done)))))))))) (SubL.refl _) ?_)
       | refine AltP.mk ?_ ?_
       | refine kpM ?_
       | refine SeqP.go ?_
       | refine cdM ?_
       | exact IsV.mk
       | apply GuardP.mk
       | (refine callX takeM en_blocked (fun w hw => blockedK_w t l p g n c j bv h4 w hx (hw.sub2 takeM)) ?_)
       | refine Or.inl ⟨_, _, hasM, ?_⟩
       | refine Or.inl ⟨_, _, _, holeM, rfl, rfl, ?_⟩
       | refine lA ?_
       | refine lA0 ?_
       | refine lA1 ?_
       | refine lO ?_
       | refine lO0 ?_
       | refine lO1 ?_
       | refine lR ?_
       | refine lG ?_
       | refine lG0 ?_
       | refine tA ?_
       | refine tA0 ?_
       | refine tA1 ?_
       | refine BytW.ofBlk hasM rfl rfl ?_
       | refine AppW.noneB hasM leM rfl rfl rfl leM leM ?_
       | refine AppW.rowB hasM leM rfl rfl holeM leM leM ?_
       | refine AppW.blkB hasM leM rfl rfl holeM rfl rfl leM leM ?_
       | refine AppW.rowS hasM leM rfl rfl holeM (by omega) leM ?_
       | refine AppW.arrS hasM leM rfl rfl rfl holeM (by first | omega | (simp; omega)) leM ?_
       | refine ⟨sideM, ?_⟩
       | fail)
  all_goals (try conv => whnf)
  all_goals first
    | (exfalso; omega)
    | (exfalso; grind)
    | exact EndX.mk ⟨_, _, _, _, _, _, _, _⟩ (by first | exact trivial | assumption) rfl entM
theorem movesR_w (t : TimesV) (l : List (List Value)) (p : PortV) (g n c j bv : Nat) (h1 : p.Ready = true) (h2 : p.Update = false) (h3 : p.Selected = p.Role) (h4 : p.Role = 1) (w : World) (hx : l[j]? = some p.enc) (hw : St w (feet [.blk bv (moverE t g n c j) 126, .arr (.slice (some ⟨g, 0, none⟩) n c) 28 61 l]) [.blk bv (moverE t g n c j) 126, .arr (.slice (some ⟨g, 0, none⟩) n c) 28 61 l] w) :
    FnX Try.prog 91 [.pointer (some ⟨bv, 0, none⟩)] [.blk bv (moverE t g n c j) 126, .arr (.slice (some ⟨g, 0, none⟩) n c) 28 61 l] (fun s : RootS => 8 ≤ s.q) (fun s => .slice (some ⟨s.gr, 0, none⟩) 8 s.q) (fun s => [.row (.slice (some ⟨s.gr, 0, none⟩) 8 s.q) 130 2 8 (propE s.pm s.pp bv ++ rootE s.bm s.bp ++ stepE s.sm s.sw s.st s.sp), .blk s.bp [.pointer (some ⟨g, 0 + j * 61, none⟩)] 76, .blk s.bm [.pointer (some ⟨bv, 0, none⟩)] 124, .blk s.pp [.pointer (some ⟨g, 0 + j * 61, none⟩)] 76, .blk s.pm [.pointer (some ⟨bv, 0, none⟩)] 124, .blk s.sp [.pointer (some ⟨g, 0 + j * 61, none⟩)] 76, .blk s.st [.func (.func 119) #[] #[]] 1, .blk s.sw (boxF2 117 s.bp s.bm) 29, .blk s.sm [.pointer (some ⟨bv, 0, none⟩)] 124, .blk bv (moverE t g n c j) 126, .arr (.slice (some ⟨g, 0, none⟩) n c) 28 61 l]) w := by
  refine funcR_x tyOk wide Try.func91 ok_moves (Nat.le_of_ble_eq_true rfl) hw ?_
  repeat' first
    | (conv => whnf
       first
       | (refine condYes ?_ ?_; · (simp [h1, h2, h3, h4]; done))
       | (refine condNo ?_ ?_; · (simp [h1, h2, h3, h4]; done))
       | intro _
       | (first | refine selSplit (fun h => ?_) (fun h => ?_) | refine condSplit (fun h => ?_) (fun h => ?_)) <;> first | exact (clash (by assumption) h).elim | exact (clash h (by assumption)).elim | (simp only [decide_eq_true_eq, decide_eq_false_iff_not, Bool.not_eq_true', Bool.not_eq_false', Bool.not_true, Bool.not_false, Bool.or_eq_true, Bool.and_eq_true, Bool.or_eq_false_iff, Bool.and_eq_false_iff, beq_iff_eq, beq_eq_false_iff_ne, ne_eq] at h; first | (exfalso; omega) | skip) | skip
       | (first | refine drC (.quiet 0 (.quiet 1 (.quiet 2 (.quiet 3 (.quiet 4 (.quiet 5 (.quiet 6 (.quiet 7 (.quiet 8 (.quiet 9 (.quiet 10 (.quiet 11 (.quiet 12 (.quiet 13 (.quiet 14 (.quiet 15 (.quiet 16 (.quiet 17 (.quiet 18 (.quiet 19 (.quiet 20 (.quiet 21 (.quiet 22 (.quiet 23 .done)))))))))))))))))))))))) (SubL.refl _) ?_ | refine drM (.quiet 0 (.quiet 1 (.quiet 2 (.quiet 3 (.quiet 4 (.quiet 5 (.quiet 6 (.quiet 7 (.quiet 8 (.quiet 9 .done)))))))))) (SubL.refl _) ?_)
       | refine AltP.mk ?_ ?_
       | refine kpM ?_
       | refine SeqP.go ?_
       | refine cdM ?_
       | exact IsV.mk
       | apply GuardP.mk
       | (refine callX takeM en_rooted (fun w hw => rooted_w t g n c j bv w (hw.sub2 takeM)) ?_)
       | refine Or.inl ⟨_, _, hasM, ?_⟩
       | refine Or.inl ⟨_, _, _, holeM, rfl, rfl, ?_⟩
       | refine lA ?_
       | refine lA0 ?_
       | refine lA1 ?_
       | refine lO ?_
       | refine lO0 ?_
       | refine lO1 ?_
       | refine lR ?_
       | refine lG ?_
       | refine lG0 ?_
       | refine tA ?_
       | refine tA0 ?_
       | refine tA1 ?_
       | refine BytW.ofBlk hasM rfl rfl ?_
       | refine AppW.noneB hasM leM rfl rfl rfl leM leM ?_
       | refine AppW.rowB hasM leM rfl rfl holeM leM leM ?_
       | refine AppW.blkB hasM leM rfl rfl holeM rfl rfl leM leM ?_
       | refine AppW.rowS hasM leM rfl rfl holeM (by omega) leM ?_
       | refine AppW.arrS hasM leM rfl rfl rfl holeM (by first | omega | (simp; omega)) leM ?_
       | refine ⟨sideM, ?_⟩
       | fail)
  all_goals (try conv => whnf)
  all_goals first
    | (exfalso; omega)
    | (exfalso; grind)
    | exact EndX.mk ⟨_, _, _, _, _, _, _, _, _, _⟩ (by first | exact trivial | assumption) rfl entM
theorem movesT_w (t : TimesV) (l : List (List Value)) (p : PortV) (g n c j bv : Nat) (h1 : p.Ready = true) (h2 : p.Update = false) (h3 : p.Selected = p.Role) (h4 : p.Role = 2) (w : World) (hx : l[j]? = some p.enc) (hw : St w (feet [.blk bv (moverE t g n c j) 126, .arr (.slice (some ⟨g, 0, none⟩) n c) 28 61 l]) [.blk bv (moverE t g n c j) 126, .arr (.slice (some ⟨g, 0, none⟩) n c) 28 61 l] w) :
    FnX Try.prog 91 [.pointer (some ⟨bv, 0, none⟩)] [.blk bv (moverE t g n c j) 126, .arr (.slice (some ⟨g, 0, none⟩) n c) 28 61 l] (fun s : ToldS => 6 ≤ s.q) (fun s => .slice (some ⟨s.gr, 0, none⟩) 6 s.q) (fun s => [.row (.slice (some ⟨s.gr, 0, none⟩) 6 s.q) 130 2 6 (toldE s.bm s.bp ++ stepE s.sm s.sw s.st s.sp), .blk s.bp [.pointer (some ⟨g, 0 + j * 61, none⟩)] 76, .blk s.bm [.pointer (some ⟨bv, 0, none⟩)] 124, .blk s.sp [.pointer (some ⟨g, 0 + j * 61, none⟩)] 76, .blk s.st (boxF 130 s.bp) 1, .blk s.sw (boxF 129 s.bp) 29, .blk s.sm [.pointer (some ⟨bv, 0, none⟩)] 124, .blk bv (moverE t g n c j) 126, .arr (.slice (some ⟨g, 0, none⟩) n c) 28 61 l]) w := by
  refine funcR_x tyOk wide Try.func91 ok_moves (Nat.le_of_ble_eq_true rfl) hw ?_
  repeat' first
    | (conv => whnf
       first
       | (refine condYes ?_ ?_; · (simp [h1, h2, h3, h4]; done))
       | (refine condNo ?_ ?_; · (simp [h1, h2, h3, h4]; done))
       | intro _
       | (first | refine selSplit (fun h => ?_) (fun h => ?_) | refine condSplit (fun h => ?_) (fun h => ?_)) <;> first | exact (clash (by assumption) h).elim | exact (clash h (by assumption)).elim | (simp only [decide_eq_true_eq, decide_eq_false_iff_not, Bool.not_eq_true', Bool.not_eq_false', Bool.not_true, Bool.not_false, Bool.or_eq_true, Bool.and_eq_true, Bool.or_eq_false_iff, Bool.and_eq_false_iff, beq_iff_eq, beq_eq_false_iff_ne, ne_eq] at h; first | (exfalso; omega) | skip) | skip
       | (first | refine drC (.quiet 0 (.quiet 1 (.quiet 2 (.quiet 3 (.quiet 4 (.quiet 5 (.quiet 6 (.quiet 7 (.quiet 8 (.quiet 9 (.quiet 10 (.quiet 11 (.quiet 12 (.quiet 13 (.quiet 14 (.quiet 15 (.quiet 16 (.quiet 17 (.quiet 18 (.quiet 19 (.quiet 20 (.quiet 21 (.quiet 22 (.quiet 23 .done)))))))))))))))))))))))) (SubL.refl _) ?_ | refine drM (.quiet 0 (.quiet 1 (.quiet 2 (.quiet 3 (.quiet 4 (.quiet 5 (.quiet 6 (.quiet 7 (.quiet 8 (.quiet 9 .done)))))))))) (SubL.refl _) ?_)
       | refine AltP.mk ?_ ?_
       | refine kpM ?_
       | refine SeqP.go ?_
       | refine cdM ?_
       | exact IsV.mk
       | apply GuardP.mk
       | (refine callX takeM en_told12 (fun w hw => told12_w t g n c j bv w (hw.sub2 takeM)) ?_)
       | refine Or.inl ⟨_, _, hasM, ?_⟩
       | refine Or.inl ⟨_, _, _, holeM, rfl, rfl, ?_⟩
       | refine lA ?_
       | refine lA0 ?_
       | refine lA1 ?_
       | refine lO ?_
       | refine lO0 ?_
       | refine lO1 ?_
       | refine lR ?_
       | refine lG ?_
       | refine lG0 ?_
       | refine tA ?_
       | refine tA0 ?_
       | refine tA1 ?_
       | refine BytW.ofBlk hasM rfl rfl ?_
       | refine AppW.noneB hasM leM rfl rfl rfl leM leM ?_
       | refine AppW.rowB hasM leM rfl rfl holeM leM leM ?_
       | refine AppW.blkB hasM leM rfl rfl holeM rfl rfl leM leM ?_
       | refine AppW.rowS hasM leM rfl rfl holeM (by omega) leM ?_
       | refine AppW.arrS hasM leM rfl rfl rfl holeM (by first | omega | (simp; omega)) leM ?_
       | refine ⟨sideM, ?_⟩
       | fail)
  all_goals (try conv => whnf)
  all_goals first
    | (exfalso; omega)
    | (exfalso; grind)
    | exact EndX.mk ⟨_, _, _, _, _, _, _, _⟩ (by first | exact trivial | assumption) rfl entM
theorem movesN1_w (t : TimesV) (l : List (List Value)) (p : PortV) (g n c j bv : Nat) (h1 : p.Ready = false ∨ p.Update = true) (w : World) (hx : l[j]? = some p.enc) (hw : St w (feet [.blk bv (moverE t g n c j) 126, .arr (.slice (some ⟨g, 0, none⟩) n c) 28 61 l]) [.blk bv (moverE t g n c j) 126, .arr (.slice (some ⟨g, 0, none⟩) n c) 28 61 l] w) :
    FnX Try.prog 91 [.pointer (some ⟨bv, 0, none⟩)] [.blk bv (moverE t g n c j) 126, .arr (.slice (some ⟨g, 0, none⟩) n c) 28 61 l] (fun _ : Unit => True) (fun _ => .slice none 0 0) (fun _ => [.blk bv (moverE t g n c j) 126, .arr (.slice (some ⟨g, 0, none⟩) n c) 28 61 l]) w := by
  refine funcR_x tyOk wide Try.func91 ok_moves (Nat.le_of_ble_eq_true rfl) hw ?_
  repeat' first
    | (conv => whnf
       first
       | (refine condYes ?_ ?_; · (simp [h1]; done))
       | (refine condNo ?_ ?_; · (simp [h1]; done))
       | intro _
       | (first | refine selSplit (fun h => ?_) (fun h => ?_) | refine condSplit (fun h => ?_) (fun h => ?_)) <;> first | exact (clash (by assumption) h).elim | exact (clash h (by assumption)).elim | (simp only [decide_eq_true_eq, decide_eq_false_iff_not, Bool.not_eq_true', Bool.not_eq_false', Bool.not_true, Bool.not_false, Bool.or_eq_true, Bool.and_eq_true, Bool.or_eq_false_iff, Bool.and_eq_false_iff, beq_iff_eq, beq_eq_false_iff_ne, ne_eq] at h; first | (exfalso; omega) | skip) | skip
       | (first | refine drC (.quiet 0 (.quiet 1 (.quiet 2 (.quiet 3 (.quiet 4 (.quiet 5 (.quiet 6 (.quiet 7 (.quiet 8 (.quiet 9 (.quiet 10 (.quiet 11 (.quiet 12 (.quiet 13 (.quiet 14 (.quiet 15 (.quiet 16 (.quiet 17 (.quiet 18 (.quiet 19 (.quiet 20 (.quiet 21 (.quiet 22 (.quiet 23 .done)))))))))))))))))))))))) (SubL.refl _) ?_ | refine drM (.quiet 0 (.quiet 1 (.quiet 2 (.quiet 3 (.quiet 4 (.quiet 5 (.quiet 6 (.quiet 7 (.quiet 8 (.quiet 9 .done)))))))))) (SubL.refl _) ?_)
       | refine AltP.mk ?_ ?_
       | refine kpM ?_
       | refine SeqP.go ?_
       | refine cdM ?_
       | exact IsV.mk
       | apply GuardP.mk
       | refine Or.inl ⟨_, _, hasM, ?_⟩
       | refine Or.inl ⟨_, _, _, holeM, rfl, rfl, ?_⟩
       | refine lA ?_
       | refine lA0 ?_
       | refine lA1 ?_
       | refine lO ?_
       | refine lO0 ?_
       | refine lO1 ?_
       | refine lR ?_
       | refine lG ?_
       | refine lG0 ?_
       | refine tA ?_
       | refine tA0 ?_
       | refine tA1 ?_
       | refine BytW.ofBlk hasM rfl rfl ?_
       | refine AppW.noneB hasM leM rfl rfl rfl leM leM ?_
       | refine AppW.rowB hasM leM rfl rfl holeM leM leM ?_
       | refine AppW.blkB hasM leM rfl rfl holeM rfl rfl leM leM ?_
       | refine AppW.rowS hasM leM rfl rfl holeM (by omega) leM ?_
       | refine AppW.arrS hasM leM rfl rfl rfl holeM (by first | omega | (simp; omega)) leM ?_
       | refine ⟨sideM, ?_⟩
       | fail)
  all_goals (try conv => whnf)
  all_goals first
    | (exfalso; omega)
    | (exfalso; grind)
    | exact EndX.mk () trivial rfl entM
theorem movesN2_w (t : TimesV) (l : List (List Value)) (p : PortV) (g n c j bv : Nat) (h1 : p.Ready = true) (h2 : p.Update = false) (h3 : ¬ p.Selected = p.Role) (h4 : ¬ (p.Selected = 1 ∨ p.Selected = 2)) (h5 : 0 ≤ p.Selected → ¬ p.Selected ≤ 4) (w : World) (hx : l[j]? = some p.enc) (hw : St w (feet [.blk bv (moverE t g n c j) 126, .arr (.slice (some ⟨g, 0, none⟩) n c) 28 61 l]) [.blk bv (moverE t g n c j) 126, .arr (.slice (some ⟨g, 0, none⟩) n c) 28 61 l] w) :
    FnX Try.prog 91 [.pointer (some ⟨bv, 0, none⟩)] [.blk bv (moverE t g n c j) 126, .arr (.slice (some ⟨g, 0, none⟩) n c) 28 61 l] (fun _ : Unit => True) (fun _ => .slice none 0 0) (fun _ => [.blk bv (moverE t g n c j) 126, .arr (.slice (some ⟨g, 0, none⟩) n c) 28 61 l]) w := by
  refine funcR_x tyOk wide Try.func91 ok_moves (Nat.le_of_ble_eq_true rfl) hw ?_
  repeat' first
    | (conv => whnf
       first
       | (refine condYes ?_ ?_; · (simp [h1, h2, h3, h4]; done))
       | (refine condNo ?_ ?_; · (simp [h1, h2, h3, h4]; done))
       | intro _
       | (first | refine selSplit (fun h => ?_) (fun h => ?_) | refine condSplit (fun h => ?_) (fun h => ?_)) <;> first | exact (clash (by assumption) h).elim | exact (clash h (by assumption)).elim | (simp only [decide_eq_true_eq, decide_eq_false_iff_not, Bool.not_eq_true', Bool.not_eq_false', Bool.not_true, Bool.not_false, Bool.or_eq_true, Bool.and_eq_true, Bool.or_eq_false_iff, Bool.and_eq_false_iff, beq_iff_eq, beq_eq_false_iff_ne, ne_eq] at h; first | (exfalso; omega) | skip) | skip
       | (first | refine drC (.quiet 0 (.quiet 1 (.quiet 2 (.quiet 3 (.quiet 4 (.quiet 5 (.quiet 6 (.quiet 7 (.quiet 8 (.quiet 9 (.quiet 10 (.quiet 11 (.quiet 12 (.quiet 13 (.quiet 14 (.quiet 15 (.quiet 16 (.quiet 17 (.quiet 18 (.quiet 19 (.quiet 20 (.quiet 21 (.quiet 22 (.quiet 23 .done)))))))))))))))))))))))) (SubL.refl _) ?_ | refine drM (.quiet 0 (.quiet 1 (.quiet 2 (.quiet 3 (.quiet 4 (.quiet 5 (.quiet 6 (.quiet 7 (.quiet 8 (.quiet 9 .done)))))))))) (SubL.refl _) ?_)
       | refine AltP.mk ?_ ?_
       | refine kpM ?_
       | refine SeqP.go ?_
       | refine cdM ?_
       | exact IsV.mk
       | apply GuardP.mk
       | refine Or.inl ⟨_, _, hasM, ?_⟩
       | refine Or.inl ⟨_, _, _, holeM, rfl, rfl, ?_⟩
       | refine lA ?_
       | refine lA0 ?_
       | refine lA1 ?_
       | refine lO ?_
       | refine lO0 ?_
       | refine lO1 ?_
       | refine lR ?_
       | refine lG ?_
       | refine lG0 ?_
       | refine tA ?_
       | refine tA0 ?_
       | refine tA1 ?_
       | refine BytW.ofBlk hasM rfl rfl ?_
       | refine AppW.noneB hasM leM rfl rfl rfl leM leM ?_
       | refine AppW.rowB hasM leM rfl rfl holeM leM leM ?_
       | refine AppW.blkB hasM leM rfl rfl holeM rfl rfl leM leM ?_
       | refine AppW.rowS hasM leM rfl rfl holeM (by omega) leM ?_
       | refine AppW.arrS hasM leM rfl rfl rfl holeM (by first | omega | (simp; omega)) leM ?_
       | refine ⟨sideM, ?_⟩
       | fail)
  all_goals (try conv => whnf)
  all_goals first
    | (exfalso; omega)
    | (exfalso; grind)
    | exact EndX.mk () trivial rfl entM
theorem movesN3_w (t : TimesV) (l : List (List Value)) (p : PortV) (g n c j bv : Nat) (h1 : p.Ready = true) (h2 : p.Update = false) (h3 : p.Selected = p.Role) (h4 : (¬ p.Role = 1 ∧ ¬ p.Role = 2) ∧ ¬ p.Role = 0 ∧ ¬ p.Role = 3 ∧ ¬ p.Role = 4) (w : World) (hx : l[j]? = some p.enc) (hw : St w (feet [.blk bv (moverE t g n c j) 126, .arr (.slice (some ⟨g, 0, none⟩) n c) 28 61 l]) [.blk bv (moverE t g n c j) 126, .arr (.slice (some ⟨g, 0, none⟩) n c) 28 61 l] w) :
    FnX Try.prog 91 [.pointer (some ⟨bv, 0, none⟩)] [.blk bv (moverE t g n c j) 126, .arr (.slice (some ⟨g, 0, none⟩) n c) 28 61 l] (fun _ : Unit => True) (fun _ => .slice none 0 0) (fun _ => [.blk bv (moverE t g n c j) 126, .arr (.slice (some ⟨g, 0, none⟩) n c) 28 61 l]) w := by
  refine funcR_x tyOk wide Try.func91 ok_moves (Nat.le_of_ble_eq_true rfl) hw ?_
  repeat' first
    | (conv => whnf
       first
       | (refine condYes ?_ ?_; · (simp [h1, h2, h3, h4]; done))
       | (refine condNo ?_ ?_; · (simp [h1, h2, h3, h4]; done))
       | intro _
       | (first | refine selSplit (fun h => ?_) (fun h => ?_) | refine condSplit (fun h => ?_) (fun h => ?_)) <;> first | exact (clash (by assumption) h).elim | exact (clash h (by assumption)).elim | (simp only [decide_eq_true_eq, decide_eq_false_iff_not, Bool.not_eq_true', Bool.not_eq_false', Bool.not_true, Bool.not_false, Bool.or_eq_true, Bool.and_eq_true, Bool.or_eq_false_iff, Bool.and_eq_false_iff, beq_iff_eq, beq_eq_false_iff_ne, ne_eq] at h; first | (exfalso; omega) | skip) | skip
       | (first | refine drC (.quiet 0 (.quiet 1 (.quiet 2 (.quiet 3 (.quiet 4 (.quiet 5 (.quiet 6 (.quiet 7 (.quiet 8 (.quiet 9 (.quiet 10 (.quiet 11 (.quiet 12 (.quiet 13 (.quiet 14 (.quiet 15 (.quiet 16 (.quiet 17 (.quiet 18 (.quiet 19 (.quiet 20 (.quiet 21 (.quiet 22 (.quiet 23 .done)))))))))))))))))))))))) (SubL.refl _) ?_ | refine drM (.quiet 0 (.quiet 1 (.quiet 2 (.quiet 3 (.quiet 4 (.quiet 5 (.quiet 6 (.quiet 7 (.quiet 8 (.quiet 9 .done)))))))))) (SubL.refl _) ?_)
       | refine AltP.mk ?_ ?_
       | refine kpM ?_
       | refine SeqP.go ?_
       | refine cdM ?_
       | exact IsV.mk
       | apply GuardP.mk
       | refine Or.inl ⟨_, _, hasM, ?_⟩
       | refine Or.inl ⟨_, _, _, holeM, rfl, rfl, ?_⟩
       | refine lA ?_
       | refine lA0 ?_
       | refine lA1 ?_
       | refine lO ?_
       | refine lO0 ?_
       | refine lO1 ?_
       | refine lR ?_
       | refine lG ?_
       | refine lG0 ?_
       | refine tA ?_
       | refine tA0 ?_
       | refine tA1 ?_
       | refine BytW.ofBlk hasM rfl rfl ?_
       | refine AppW.noneB hasM leM rfl rfl rfl leM leM ?_
       | refine AppW.rowB hasM leM rfl rfl holeM leM leM ?_
       | refine AppW.blkB hasM leM rfl rfl holeM rfl rfl leM leM ?_
       | refine AppW.rowS hasM leM rfl rfl holeM (by omega) leM ?_
       | refine AppW.arrS hasM leM rfl rfl rfl holeM (by first | omega | (simp; omega)) leM ?_
       | refine ⟨sideM, ?_⟩
       | fail)
  all_goals (try conv => whnf)
  all_goals first
    | (exfalso; omega)
    | (exfalso; grind)
    | exact EndX.mk () trivial rfl entM
end Go.Proofs.Ytmgoahmbdpoikaa.Am
