/- Package trans: rows of moves. -/
import Derived.Test.YtmgoahmbdpoikaaTrans3
set_option linter.unusedVariables false
set_option linter.unusedSimpArgs false
set_option maxRecDepth 100000
set_option maxHeartbeats 4000000
namespace Go.Proofs.Ytmgoahmbdpoikaa.Am
open Go Go.RowKit
theorem condYes {b : Bool} {A B : Prop} (h : b = true) (k : A) : condP b A B := by subst h; exact k
theorem condNo {b : Bool} {A B : Prop} (h : b = false) (k : B) : condP b A B := by subst h; exact k
theorem PuAt.to {P : Program} {f : FuncId} {a : List Value} {v v' : Value} {w : World} (h : PuAt P f a v w) (e : v = v') : PuAt P f a v' w := e ▸ h
def ptr (b : Nat) : Value := .pointer (some ⟨b, 0, none⟩)
def clo (f : Nat) (l : List Value) : Value := .func (.func f) #[] ⟨l⟩
def propE (bm bp bv : Nat) : List Value := [.func (.func 137) #[] #[.pointer (some ⟨bp, 0, none⟩)], .func (.func 138) #[.pointer (some ⟨bv, 0, none⟩)] #[], .func (.func 139) #[] #[.pointer (some ⟨bp, 0, none⟩), .pointer (some ⟨bm, 0, none⟩)], .func (.func 141) #[] #[.pointer (some ⟨bm, 0, none⟩), .pointer (some ⟨bp, 0, none⟩)]]
theorem ok_proposals : (match Try.f107.body with | some c => codeOk Try.f107.ntmps c | none => false) = true := by kernel_rfl
theorem en_proposals : ∃ fn, Try.prog.funcs[107]? = some fn ∧ (fn.name == "runtime.NumGoroutine") = false ∧ fn.body.isNone = false := ⟨_, Try.func107, by kernel_rfl, by kernel_rfl⟩
theorem proposals_w (t : TimesV) (g n c j bv : Nat) (w : World) (hw : St w (feet [.blk bv (moverE t g n c j) 126]) [.blk bv (moverE t g n c j) 126] w) :
    FnX Try.prog 107 [.pointer (some ⟨bv, 0, none⟩)] [.blk bv (moverE t g n c j) 126] (fun _ : Nat × Nat × Nat => True) (fun s => .slice (some ⟨s.2.2, 0, none⟩) 2 2)
      (fun s => [.blk s.2.2 (propE s.1 s.2.1 bv) 130, .blk s.2.1 [.pointer (some ⟨g, 0 + j * 61, none⟩)] 76, .blk s.1 [.pointer (some ⟨bv, 0, none⟩)] 124, .blk bv (moverE t g n c j) 126]) w := by
  refine funcR_x tyOk wide Try.func107 ok_proposals (Nat.le_of_ble_eq_true rfl) hw ?_
  repeat' first
    | (conv => whnf
       first
       | intro _
       | (first | refine selSplit (fun h => ?_) (fun h => ?_) | refine condSplit (fun h => ?_) (fun h => ?_)) <;> first | exact (clash (by assumption) h).elim | exact (clash h (by assumption)).elim | (simp only [decide_eq_true_eq, decide_eq_false_iff_not, Bool.not_eq_true', Bool.not_eq_false', Bool.not_true, Bool.not_false, Bool.or_eq_true, Bool.and_eq_true, Bool.or_eq_false_iff, Bool.and_eq_false_iff, beq_iff_eq, beq_eq_false_iff_ne, ne_eq] at h; first | (exfalso; omega) | skip) | skip
       | refine SeqP.go ?_
       | refine cdM ?_
       | exact IsV.mk
       | apply GuardP.mk
       | refine Or.inl ⟨_, _, hasM, ?_⟩
       | refine Or.inl ⟨_, _, _, holeM, rfl, rfl, ?_⟩
       | refine lA ?_
       | refine lA0 ?_
       | refine lA1 ?_
       | refine lO ?_
       | refine lO0 ?_
       | refine lO1 ?_
       | refine lR ?_
       | refine lG ?_
       | refine lG0 ?_
       | refine tA ?_
       | refine tA0 ?_
       | refine tA1 ?_
       | refine BytW.ofBlk hasM rfl rfl ?_
       | refine AppW.noneB hasM leM rfl rfl rfl leM leM ?_
       | refine AppW.rowB hasM leM rfl rfl holeM leM leM ?_
       | refine AppW.blkB hasM leM rfl rfl holeM rfl rfl leM leM ?_
       | refine AppW.rowS hasM leM rfl rfl holeM (by omega) leM ?_
       | refine AppW.arrS hasM leM rfl rfl rfl holeM (by first | omega | (simp; omega)) leM ?_
       | refine ⟨sideM, ?_⟩
       | fail)
  all_goals (try conv => whnf)
  all_goals exact EndX.mk (_, _, _) trivial rfl entM
def stepE (bm bw bt bp : Nat) : List Value := [.func (.func 143) #[] #[.pointer (some ⟨bp, 0, none⟩), .pointer (some ⟨bw, 0, none⟩)], .func (.func 144) #[] #[.pointer (some ⟨bm, 0, none⟩), .pointer (some ⟨bp, 0, none⟩)], .func (.func 145) #[] #[.pointer (some ⟨bp, 0, none⟩), .pointer (some ⟨bw, 0, none⟩)], .func (.func 146) #[] #[.pointer (some ⟨bp, 0, none⟩), .pointer (some ⟨bt, 0, none⟩)]]
theorem ok_steps : (match Try.f116.body with | some c => codeOk Try.f116.ntmps c | none => false) = true := by kernel_rfl
theorem en_steps : ∃ fn, Try.prog.funcs[116]? = some fn ∧ (fn.name == "runtime.NumGoroutine") = false ∧ fn.body.isNone = false := ⟨_, Try.func116, by kernel_rfl, by kernel_rfl⟩
theorem steps_w (t : TimesV) (g n c j bv fw ft : Nat) (cw ct : Array Value) (w : World) (hw : St w (feet [.blk bv (moverE t g n c j) 126]) [.blk bv (moverE t g n c j) 126] w) :
    FnX Try.prog 116 [.pointer (some ⟨bv, 0, none⟩), .func (.func fw) #[] cw, .func (.func ft) #[] ct] [.blk bv (moverE t g n c j) 126] (fun _ : Nat × Nat × Nat × Nat × Nat => True) (fun s => .slice (some ⟨s.2.2.2.2, 0, none⟩) 2 2)
      (fun s => [.blk s.2.2.2.2 (stepE s.1 s.2.1 s.2.2.1 s.2.2.2.1) 130, .blk s.2.2.2.1 [.pointer (some ⟨g, 0 + j * 61, none⟩)] 76, .blk s.2.2.1 [.func (.func ft) #[] ct] 1, .blk s.2.1 [.func (.func fw) #[] cw] 29, .blk s.1 [.pointer (some ⟨bv, 0, none⟩)] 124, .blk bv (moverE t g n c j) 126]) w := by
  refine funcR_x tyOk wide Try.func116 ok_steps (Nat.le_of_ble_eq_true rfl) hw ?_
  repeat' first
    | (conv => whnf
       first
       | intro _
       | (first | refine selSplit (fun h => ?_) (fun h => ?_) | refine condSplit (fun h => ?_) (fun h => ?_)) <;> first | exact (clash (by assumption) h).elim | exact (clash h (by assumption)).elim | (simp only [decide_eq_true_eq, decide_eq_false_iff_not, Bool.not_eq_true', Bool.not_eq_false', Bool.not_true, Bool.not_false, Bool.or_eq_true, Bool.and_eq_true, Bool.or_eq_false_iff, Bool.and_eq_false_iff, beq_iff_eq, beq_eq_false_iff_ne, ne_eq] at h; first | (exfalso; omega) | skip) | skip
       | refine SeqP.go ?_
       | refine cdM ?_
       | exact IsV.mk
       | apply GuardP.mk
       | refine Or.inl ⟨_, _, hasM, ?_⟩
       | refine Or.inl ⟨_, _, _, holeM, rfl, rfl, ?_⟩
       | refine lA ?_
       | refine lA0 ?_
       | refine lA1 ?_
       | refine lO ?_
       | refine lO0 ?_
       | refine lO1 ?_
       | refine lR ?_
       | refine lG ?_
       | refine lG0 ?_
       | refine tA ?_
       | refine tA0 ?_
       | refine tA1 ?_
       | refine BytW.ofBlk hasM rfl rfl ?_
       | refine AppW.noneB hasM leM rfl rfl rfl leM leM ?_
       | refine AppW.rowB hasM leM rfl rfl holeM leM leM ?_
       | refine AppW.blkB hasM leM rfl rfl holeM rfl rfl leM leM ?_
       | refine AppW.rowS hasM leM rfl rfl holeM (by omega) leM ?_
       | refine AppW.arrS hasM leM rfl rfl rfl holeM (by first | omega | (simp; omega)) leM ?_
       | refine ⟨sideM, ?_⟩
       | fail)
  all_goals (try conv => whnf)
  all_goals exact EndX.mk (_, _, _, _, _) trivial rfl entM
def rootE (bm bp : Nat) : List Value := [.func (.func 108) #[] #[.pointer (some ⟨bp, 0, none⟩)], .func (.func 109) #[] #[.pointer (some ⟨bp, 0, none⟩)], .func (.func 110) #[] #[.pointer (some ⟨bp, 0, none⟩)], .func (.func 111) #[] #[.pointer (some ⟨bm, 0, none⟩)],
  .func (.func 112) #[] #[.pointer (some ⟨bp, 0, none⟩), .pointer (some ⟨bm, 0, none⟩)], .func (.func 113) #[] #[.pointer (some ⟨bm, 0, none⟩), .pointer (some ⟨bp, 0, none⟩)], .func (.func 114) #[] #[.pointer (some ⟨bp, 0, none⟩)], .func (.func 115) #[] #[.pointer (some ⟨bp, 0, none⟩)]]
/-- The boxes of a root port's moves: its own, those of the proposals, those of the steps; the row. -/
structure RootS where
  bm : Nat
  bp : Nat
  pm : Nat
  pp : Nat
  sm : Nat
  sw : Nat
  st : Nat
  sp : Nat
  gr : Nat
  q : Nat
theorem ok_rooted : (match Try.f103.body with | some c => codeOk Try.f103.ntmps c | none => false) = true := by kernel_rfl
theorem en_rooted : ∃ fn, Try.prog.funcs[103]? = some fn ∧ (fn.name == "runtime.NumGoroutine") = false ∧ fn.body.isNone = false := ⟨_, Try.func103, by kernel_rfl, by kernel_rfl⟩
theorem rooted_w (t : TimesV) (g n c j bv : Nat) (w : World) (hw : St w (feet [.blk bv (moverE t g n c j) 126]) [.blk bv (moverE t g n c j) 126] w) :
    FnX Try.prog 103 [.pointer (some ⟨bv, 0, none⟩)] [.blk bv (moverE t g n c j) 126] (fun s : RootS => 8 ≤ s.q) (fun s => .slice (some ⟨s.gr, 0, none⟩) 8 s.q)
      (fun s => [.row (.slice (some ⟨s.gr, 0, none⟩) 8 s.q) 130 2 8 (propE s.pm s.pp bv ++ rootE s.bm s.bp ++ stepE s.sm s.sw s.st s.sp),
        .blk s.bp [.pointer (some ⟨g, 0 + j * 61, none⟩)] 76, .blk s.bm [.pointer (some ⟨bv, 0, none⟩)] 124, .blk s.pp [.pointer (some ⟨g, 0 + j * 61, none⟩)] 76, .blk s.pm [.pointer (some ⟨bv, 0, none⟩)] 124,
        .blk s.sp [.pointer (some ⟨g, 0 + j * 61, none⟩)] 76, .blk s.st [.func (.func 119) #[] #[]] 1, .blk s.sw (boxF2 117 s.bp s.bm) 29, .blk s.sm [.pointer (some ⟨bv, 0, none⟩)] 124, .blk bv (moverE t g n c j) 126]) w := by
  refine funcR_x tyOk wide Try.func103 ok_rooted (Nat.le_of_ble_eq_true rfl) hw ?_
  repeat' first
    | (simp only [putK, overK, Value.cells, fillK]; (conv => whnf); first | refine ⟨rfl, ?_⟩ | skip)
    | (conv => whnf
       first
       | intro _
       | (first | refine selSplit (fun h => ?_) (fun h => ?_) | refine condSplit (fun h => ?_) (fun h => ?_)) <;> first | exact (clash (by assumption) h).elim | exact (clash h (by assumption)).elim | (simp only [decide_eq_true_eq, decide_eq_false_iff_not, Bool.not_eq_true', Bool.not_eq_false', Bool.not_true, Bool.not_false, Bool.or_eq_true, Bool.and_eq_true, Bool.or_eq_false_iff, Bool.and_eq_false_iff, beq_iff_eq, beq_eq_false_iff_ne, ne_eq] at h; first | (exfalso; omega) | skip) | skip
       | refine SeqP.go ?_
       | refine cdM ?_
       | exact IsV.mk
       | apply GuardP.mk
       | (refine callX takeM en_proposals (fun w hw => proposals_w t g n c j bv w (hw.sub2 takeM)) ?_)
       | (refine callX takeM en_steps (fun w hw => steps_w t g n c j bv 117 119 _ _ w (hw.sub2 takeM)) ?_)
       | refine Or.inl ⟨_, _, hasM, ?_⟩
       | refine Or.inl ⟨_, _, _, holeM, rfl, rfl, ?_⟩
       | refine lA ?_
       | refine lA0 ?_
       | refine lA1 ?_
       | refine lO ?_
       | refine lO0 ?_
       | refine lO1 ?_
       | refine lR ?_
       | refine lG ?_
       | refine lG0 ?_
       | refine tA ?_
       | refine tA0 ?_
       | refine tA1 ?_
       | refine BytW.ofBlk hasM rfl rfl ?_
       | refine AppW.noneE hasM leM rfl leM rfl rfl leM leM ?_
       | refine AppW.rowE hasM leM rfl leM rfl holeM (by first | exact leM | omega) leM ?_
       | refine AppW.blkE hasM leM rfl leM rfl holeM rfl rfl leM leM ?_
       | refine AppW.noneB hasM leM rfl rfl rfl leM leM ?_
       | refine AppW.rowB hasM leM rfl rfl holeM leM leM ?_
       | refine AppW.blkB hasM leM rfl rfl holeM rfl rfl leM leM ?_
       | refine AppW.rowS hasM leM rfl rfl holeM (by omega) leM ?_
       | refine AppW.arrS hasM leM rfl rfl rfl holeM (by first | omega | (simp; omega)) leM ?_
       | refine ⟨sideM, ?_⟩
       | fail)
  all_goals (try conv => whnf)
  all_goals exact EndX.mk ⟨_, _, _, _, _, _, _, _, _, _⟩ (by assumption) rfl entM
theorem ok_told12 : (match Try.f104.body with | some c => codeOk Try.f104.ntmps c | none => false) = true := by kernel_rfl
theorem en_told12 : ∃ fn, Try.prog.funcs[104]? = some fn ∧ (fn.name == "runtime.NumGoroutine") = false ∧ fn.body.isNone = false := ⟨_, Try.func104, by kernel_rfl, by kernel_rfl⟩
def toldE (bm bp : Nat) : List Value := [.func (.func 120) #[] #[.pointer (some ⟨bp, 0, none⟩)], .func (.func 121) #[] #[.pointer (some ⟨bp, 0, none⟩)], .func (.func 122) #[] #[.pointer (some ⟨bp, 0, none⟩)], .func (.func 124) #[] #[.pointer (some ⟨bp, 0, none⟩)],
  .func (.func 125) #[] #[.pointer (some ⟨bp, 0, none⟩)], .func (.func 126) #[] #[.pointer (some ⟨bp, 0, none⟩)], .func (.func 127) #[] #[.pointer (some ⟨bp, 0, none⟩)], .func (.func 128) #[] #[.pointer (some ⟨bm, 0, none⟩), .pointer (some ⟨bp, 0, none⟩)]]
structure ToldS where
  bm : Nat
  bp : Nat
  sm : Nat
  sw : Nat
  st : Nat
  sp : Nat
  gr : Nat
  q : Nat
theorem told12_w (t : TimesV) (g n c j bv : Nat) (w : World) (hw : St w (feet [.blk bv (moverE t g n c j) 126]) [.blk bv (moverE t g n c j) 126] w) :
    FnX Try.prog 104 [.pointer (some ⟨bv, 0, none⟩)] [.blk bv (moverE t g n c j) 126] (fun s : ToldS => 6 ≤ s.q) (fun s => .slice (some ⟨s.gr, 0, none⟩) 6 s.q)
      (fun s => [.row (.slice (some ⟨s.gr, 0, none⟩) 6 s.q) 130 2 6 (toldE s.bm s.bp ++ stepE s.sm s.sw s.st s.sp),
        .blk s.bp [.pointer (some ⟨g, 0 + j * 61, none⟩)] 76, .blk s.bm [.pointer (some ⟨bv, 0, none⟩)] 124,
        .blk s.sp [.pointer (some ⟨g, 0 + j * 61, none⟩)] 76, .blk s.st (boxF 130 s.bp) 1, .blk s.sw (boxF 129 s.bp) 29, .blk s.sm [.pointer (some ⟨bv, 0, none⟩)] 124, .blk bv (moverE t g n c j) 126]) w := by
  refine funcR_x tyOk wide Try.func104 ok_told12 (Nat.le_of_ble_eq_true rfl) hw ?_
  repeat' first
    | (simp only [putK, overK, Value.cells, fillK]; (conv => whnf); first | refine ⟨rfl, ?_⟩ | skip)
    | (conv => whnf
       first
       | intro _
       | (first | refine selSplit (fun h => ?_) (fun h => ?_) | refine condSplit (fun h => ?_) (fun h => ?_)) <;> first | exact (clash (by assumption) h).elim | exact (clash h (by assumption)).elim | (simp only [decide_eq_true_eq, decide_eq_false_iff_not, Bool.not_eq_true', Bool.not_eq_false', Bool.not_true, Bool.not_false, Bool.or_eq_true, Bool.and_eq_true, Bool.or_eq_false_iff, Bool.and_eq_false_iff, beq_iff_eq, beq_eq_false_iff_ne, ne_eq] at h; first | (exfalso; omega) | skip) | skip
       | refine SeqP.go ?_
       | refine cdM ?_
       | exact IsV.mk
       | apply GuardP.mk
       | (refine callX takeM en_steps (fun w hw => steps_w t g n c j bv 129 130 _ _ w (hw.sub2 takeM)) ?_)
       | refine Or.inl ⟨_, _, hasM, ?_⟩
       | refine Or.inl ⟨_, _, _, holeM, rfl, rfl, ?_⟩
       | refine lA ?_
       | refine lA0 ?_
       | refine lA1 ?_
       | refine lO ?_
       | refine lO0 ?_
       | refine lO1 ?_
       | refine lR ?_
       | refine lG ?_
       | refine lG0 ?_
       | refine tA ?_
       | refine tA0 ?_
       | refine tA1 ?_
       | refine BytW.ofBlk hasM rfl rfl ?_
       | refine AppW.noneE hasM leM rfl leM rfl rfl leM leM ?_
       | refine AppW.rowE hasM leM rfl leM rfl holeM (by first | exact leM | omega) leM ?_
       | refine AppW.blkE hasM leM rfl leM rfl holeM rfl rfl leM leM ?_
       | refine AppW.noneB hasM leM rfl rfl rfl leM leM ?_
       | refine AppW.rowB hasM leM rfl rfl holeM leM leM ?_
       | refine AppW.blkB hasM leM rfl rfl holeM rfl rfl leM leM ?_
       | refine AppW.rowS hasM leM rfl rfl holeM (by omega) leM ?_
       | refine AppW.arrS hasM leM rfl rfl rfl holeM (by first | omega | (simp; omega)) leM ?_
       | refine ⟨sideM, ?_⟩
       | fail)
  all_goals (try conv => whnf)
  all_goals exact EndX.mk ⟨_, _, _, _, _, _, _, _⟩ (by assumption) rfl entM
end Go.Proofs.Ytmgoahmbdpoikaa.Am
