/- Package frame: what is a frame; tags. -/
import Derived.Test.YtgjdmlgdgbehoaaByt
import Derived.Laws.BitsLemmas
set_option linter.unusedVariables false
set_option linter.unusedSimpArgs false
set_option maxRecDepth 100000
set_option maxHeartbeats 4000000
namespace Go.Proofs.Ytgjdmlgdgbehoaa.Am
open Go Go.RowKit
theorem wraps_u8 (n : Int) (h₀ : 0 ≤ n) (h₁ : n < 2 ^ 8) : IntKind.u8.wrap n = n := by rw [wu8']; omega
theorem odd8 {x : Int} (h : 0 ≤ x ∧ x < 256) : bits .and .u8 x 1 = x % 2 := bits_mask .u8 8 (by decide) wraps_u8 1 (by decide) x h.1 h.2
def grpB (s : ByteArray) : Bool := decide (s.size = 6) && decide (byteAt s 0 % 2 = 1)
theorem ok_fGroup : (match Try.f74.body with | some c => codeOk Try.f74.ntmps c | none => false) = true := by kernel_rfl
theorem en_fGroup : ∃ fn, Try.prog.funcs[74]? = some fn ∧ (fn.name == "runtime.NumGoroutine") = false ∧ fn.body.isNone = false := ⟨_, Try.func74, by kernel_rfl, by kernel_rfl⟩
theorem fGroup_w (s : ByteArray) (w : World) : PuAt Try.prog 74 [.string s] (.bool (grpB s)) w := by
  refine funcR_pure tyOk wide Try.func74 ok_fGroup (Nat.le_of_ble_eq_true rfl) ?_
  have hb := byteAt_range s 0
  repeat' first
    | (conv => whnf
       first
       | intro _
       | (first | refine selSplit (fun h => ?_) (fun h => ?_) | refine condSplit (fun h => ?_) (fun h => ?_)) <;> first | exact (clash (by assumption) h).elim | exact (clash h (by assumption)).elim | (simp only [decide_eq_true_eq, decide_eq_false_iff_not, Bool.not_eq_true', Bool.not_eq_false', Bool.not_true, Bool.not_false, Bool.or_eq_true, Bool.and_eq_true, Bool.or_eq_false_iff, Bool.and_eq_false_iff, beq_iff_eq, beq_eq_false_iff_ne, ne_eq] at h; first | (exfalso; omega) | skip) | skip
       | refine SeqP.go ?_
       | refine CondR.split ?_
       | exact IsV.mk
       | apply GuardP.mk
       | (first | refine eqlW eqS50 rfl rfl rfl fitM fitM ?_ | refine neqW eqS50 rfl rfl rfl fitM fitM ?_)
       | refine Or.inl ⟨_, _, hasM, ?_⟩
       | refine Or.inl ⟨_, _, _, holeM, rfl, rfl, ?_⟩
       | refine lA ?_
       | refine lA0 ?_
       | refine lA1 ?_
       | refine lO ?_
       | refine lO0 ?_
       | refine lO1 ?_
       | refine lR ?_
       | refine lG ?_
       | refine lG0 ?_
       | refine tA ?_
       | refine tA0 ?_
       | refine tA1 ?_
       | refine BytW.ofBlk hasM rfl rfl ?_
       | refine AppW.noneB hasM leM rfl rfl rfl leM leM ?_
       | refine AppW.rowB hasM leM rfl rfl holeM leM leM ?_
       | refine AppW.blkB hasM leM rfl rfl holeM rfl rfl leM leM ?_
       | refine AppW.rowS hasM leM rfl rfl holeM (by omega) leM ?_
       | refine AppW.arrS hasM leM rfl rfl rfl holeM (by first | omega | (simp; omega)) leM ?_
       | refine ⟨sideM, ?_⟩
       | fail)
  all_goals (try conv => whnf)
  all_goals (refine v_bool ?_; (try simp only [byteAt_eq, Int.reduceToNat] at *))
  · rw [odd8 hb]; unfold grpB; grind
  · unfold grpB; grind
def fRightB (f : FrameV) : Bool :=
  decide (f.Dst.size = 6) && decide (f.Src.size = 6) && decide (byteAt f.Src 0 % 2 = 0) && (decide (0 ≤ f.Priority) && decide (f.Priority ≤ 7)) && (decide (0 ≤ f.Vlan) && decide (f.Vlan ≤ 4094)) && (f.Tagged || decide (f.Priority = 0) && decide (f.Vlan = 0)) &&
  (decide (0 ≤ f.Typ) && decide (f.Typ ≤ 65535)) && !decide (f.Typ = 33024) && decide (f.Payload.size ≤ 1500) && (decide (1536 ≤ f.Typ) || decide (f.Typ = f.Payload.size))
theorem ok_fRight : (match Try.f38.body with | some c => codeOk Try.f38.ntmps c | none => false) = true := by kernel_rfl
theorem en_fRight : ∃ fn, Try.prog.funcs[38]? = some fn ∧ (fn.name == "runtime.NumGoroutine") = false ∧ fn.body.isNone = false := ⟨_, Try.func38, by kernel_rfl, by kernel_rfl⟩
theorem fRight_w (f : FrameV) (w : World) : PuAt Try.prog 38 [.agg ⟨f.enc⟩] (.bool (fRightB f)) w := by
  refine funcR_pure tyOk wide Try.func38 ok_fRight (Nat.le_of_ble_eq_true rfl) ?_
  have hb := byteAt_range f.Src 0
  have hg : grpB f.Src = (decide (f.Src.size = 6) && !decide (byteAt f.Src 0 % 2 = 0)) := by unfold grpB; grind
  have hw : 0 ≤ f.Priority → f.Priority ≤ 7 → 0 ≤ f.Vlan → f.Vlan ≤ 4094 → IntKind.i64.wrap (f.Priority + f.Vlan) = f.Priority + f.Vlan := fun _ _ _ _ => w64 (by omega) (by omega)
  repeat' first
    | (conv => whnf
       first
       | intro _
       | (first | refine selSplit (fun h => ?_) (fun h => ?_) | refine condSplit (fun h => ?_) (fun h => ?_)) <;> first | exact (clash (by assumption) h).elim | exact (clash h (by assumption)).elim | (simp only [decide_eq_true_eq, decide_eq_false_iff_not, Bool.not_eq_true', Bool.not_eq_false', Bool.not_true, Bool.not_false, Bool.or_eq_true, Bool.and_eq_true, Bool.or_eq_false_iff, Bool.and_eq_false_iff, beq_iff_eq, beq_eq_false_iff_ne, ne_eq] at h; first | (exfalso; omega) | skip) | skip
       | refine SeqP.go ?_
       | refine cdM ?_
       | exact IsV.mk
       | apply GuardP.mk
       | ((first | apply callPure' en_fGroup | apply callQuiet' en_fGroup); · exact fun w _ => fGroup_w f.Src w)
       | (first | refine eqlW eqS50 rfl rfl rfl fitM fitM ?_ | refine neqW eqS50 rfl rfl rfl fitM fitM ?_)
       | refine Or.inl ⟨_, _, hasM, ?_⟩
       | refine Or.inl ⟨_, _, _, holeM, rfl, rfl, ?_⟩
       | refine lA ?_
       | refine lA0 ?_
       | refine lA1 ?_
       | refine lO ?_
       | refine lO0 ?_
       | refine lO1 ?_
       | refine lR ?_
       | refine lG ?_
       | refine lG0 ?_
       | refine tA ?_
       | refine tA0 ?_
       | refine tA1 ?_
       | refine BytW.ofBlk hasM rfl rfl ?_
       | refine AppW.noneB hasM leM rfl rfl rfl leM leM ?_
       | refine AppW.rowB hasM leM rfl rfl holeM leM leM ?_
       | refine AppW.blkB hasM leM rfl rfl holeM rfl rfl leM leM ?_
       | refine AppW.rowS hasM leM rfl rfl holeM (by omega) leM ?_
       | refine AppW.arrS hasM leM rfl rfl rfl holeM (by first | omega | (simp; omega)) leM ?_
       | refine ⟨sideM, ?_⟩
       | fail)
  all_goals (try conv => whnf)
  all_goals (refine v_bool ?_; rw [hg] at *; clear hg; unfold fRightB; grind)
theorem ok_rRight1 : (match Try.f68.body with | some c => codeOk Try.f68.ntmps c | none => false) = true := by kernel_rfl
theorem en_rRight1 : ∃ fn, Try.prog.funcs[68]? = some fn ∧ (fn.name == "runtime.NumGoroutine") = false ∧ fn.body.isNone = false := ⟨_, Try.func68, by kernel_rfl, by kernel_rfl⟩
theorem rRight1_w (f : FrameV) (w : World) : PuAt Try.prog 68 [.agg ⟨f.enc⟩] (.bool (fRightB f)) w := by
  refine funcR_pure tyOk wide Try.func68 ok_rRight1 (Nat.le_of_ble_eq_true rfl) ?_
  have hb := byteAt_range f.Src 0
  repeat' first
    | (conv => whnf
       first
       | intro _
       | (first | refine selSplit (fun h => ?_) (fun h => ?_) | refine condSplit (fun h => ?_) (fun h => ?_)) <;> first | exact (clash (by assumption) h).elim | exact (clash h (by assumption)).elim | (simp only [decide_eq_true_eq, decide_eq_false_iff_not, Bool.not_eq_true', Bool.not_eq_false', Bool.not_true, Bool.not_false, Bool.or_eq_true, Bool.and_eq_true, Bool.or_eq_false_iff, Bool.and_eq_false_iff, beq_iff_eq, beq_eq_false_iff_ne, ne_eq] at h; first | (exfalso; omega) | skip) | skip
       | refine SeqP.go ?_
       | refine CondR.split ?_
       | exact IsV.mk
       | apply GuardP.mk
       | (first | refine eqlW eqS50 rfl rfl rfl fitM fitM ?_ | refine neqW eqS50 rfl rfl rfl fitM fitM ?_)
       | refine Or.inl ⟨_, _, hasM, ?_⟩
       | refine Or.inl ⟨_, _, _, holeM, rfl, rfl, ?_⟩
       | refine lA ?_
       | refine lA0 ?_
       | refine lA1 ?_
       | refine lO ?_
       | refine lO0 ?_
       | refine lO1 ?_
       | refine lR ?_
       | refine lG ?_
       | refine lG0 ?_
       | refine tA ?_
       | refine tA0 ?_
       | refine tA1 ?_
       | refine BytW.ofBlk hasM rfl rfl ?_
       | refine AppW.noneB hasM leM rfl rfl rfl leM leM ?_
       | refine AppW.rowB hasM leM rfl rfl holeM leM leM ?_
       | refine AppW.blkB hasM leM rfl rfl holeM rfl rfl leM leM ?_
       | refine AppW.rowS hasM leM rfl rfl holeM (by omega) leM ?_
       | refine AppW.arrS hasM leM rfl rfl rfl holeM (by first | omega | (simp; omega)) leM ?_
       | refine ⟨sideM, ?_⟩
       | fail)
  all_goals (try conv => whnf)
  all_goals (refine v_bool ?_; (try simp only [byteAt_eq, Int.reduceToNat, Int.tmod_eq_emod_of_nonneg hb.1] at *); unfold fRightB; grind)
def fWithV (f : FrameV) (v : Int) : FrameV × Int := if fRightB f = false then (FrameV.zero, 2) else if v < 0 ∨ 4094 < v then (FrameV.zero, 1) else ({ f with Tagged := true, Vlan := v }, 0)
def fWithoutV (f : FrameV) : FrameV × Int := if fRightB f = false then (FrameV.zero, 2) else ({ f with Tagged := false, Priority := 0, Vlan := 0 }, 0)
theorem ok_fWith : (match Try.f70.body with | some c => codeOk Try.f70.ntmps c | none => false) = true := by kernel_rfl
theorem en_fWith : ∃ fn, Try.prog.funcs[70]? = some fn ∧ (fn.name == "runtime.NumGoroutine") = false ∧ fn.body.isNone = false := ⟨_, Try.func70, by kernel_rfl, by kernel_rfl⟩
theorem fWith_w (f : FrameV) (v : Int) (w : World) : PuAt Try.prog 70 [.agg ⟨f.enc⟩, .int .i64 v] (.tuple ⟨[.agg ⟨(fWithV f v).1.enc⟩, .int .i64 (fWithV f v).2]⟩) w := by
  refine funcR_pure tyOk wide Try.func70 ok_fWith (Nat.le_of_ble_eq_true rfl) ?_
  repeat' first
    | (conv => whnf
       first
       | intro _
       | (first | refine selSplit (fun h => ?_) (fun h => ?_) | refine condSplit (fun h => ?_) (fun h => ?_)) <;> first | exact (clash (by assumption) h).elim | exact (clash h (by assumption)).elim | (simp only [decide_eq_true_eq, decide_eq_false_iff_not, Bool.not_eq_true', Bool.not_eq_false', Bool.not_true, Bool.not_false, Bool.or_eq_true, Bool.and_eq_true, Bool.or_eq_false_iff, Bool.and_eq_false_iff, beq_iff_eq, beq_eq_false_iff_ne, ne_eq] at h; first | (exfalso; omega) | skip) | skip
       | refine SeqP.go ?_
       | refine cdM ?_
       | exact IsV.mk
       | apply GuardP.mk
       | ((first | apply callPure' en_fRight | apply callQuiet' en_fRight); · exact fun w _ => fRight_w f w)
       | (first | refine eqlW eqS50 rfl rfl rfl fitM fitM ?_ | refine neqW eqS50 rfl rfl rfl fitM fitM ?_)
       | refine Or.inl ⟨_, _, hasM, ?_⟩
       | refine Or.inl ⟨_, _, _, holeM, rfl, rfl, ?_⟩
       | refine lA ?_
       | refine lA0 ?_
       | refine lA1 ?_
       | refine lO ?_
       | refine lO0 ?_
       | refine lO1 ?_
       | refine lR ?_
       | refine lG ?_
       | refine lG0 ?_
       | refine tA ?_
       | refine tA0 ?_
       | refine tA1 ?_
       | refine BytW.ofBlk hasM rfl rfl ?_
       | refine AppW.noneB hasM leM rfl rfl rfl leM leM ?_
       | refine AppW.rowB hasM leM rfl rfl holeM leM leM ?_
       | refine AppW.blkB hasM leM rfl rfl holeM rfl rfl leM leM ?_
       | refine AppW.rowS hasM leM rfl rfl holeM (by omega) leM ?_
       | refine AppW.arrS hasM leM rfl rfl rfl holeM (by first | omega | (simp; omega)) leM ?_
       | refine ⟨sideM, ?_⟩
       | fail)
  all_goals (try conv => whnf)
  all_goals (unfold fWithV; (repeat (first | rw [if_pos (by first | assumption | grind | decide)] | rw [if_neg (by first | assumption | grind | decide)])); rfl)
theorem ok_fWithout : (match Try.f69.body with | some c => codeOk Try.f69.ntmps c | none => false) = true := by kernel_rfl
theorem en_fWithout : ∃ fn, Try.prog.funcs[69]? = some fn ∧ (fn.name == "runtime.NumGoroutine") = false ∧ fn.body.isNone = false := ⟨_, Try.func69, by kernel_rfl, by kernel_rfl⟩
theorem fWithout_w (f : FrameV) (w : World) : PuAt Try.prog 69 [.agg ⟨f.enc⟩] (.tuple ⟨[.agg ⟨(fWithoutV f).1.enc⟩, .int .i64 (fWithoutV f).2]⟩) w := by
  refine funcR_pure tyOk wide Try.func69 ok_fWithout (Nat.le_of_ble_eq_true rfl) ?_
  repeat' first
    | (conv => whnf
       first
       | intro _
       | (first | refine selSplit (fun h => ?_) (fun h => ?_) | refine condSplit (fun h => ?_) (fun h => ?_)) <;> first | exact (clash (by assumption) h).elim | exact (clash h (by assumption)).elim | (simp only [decide_eq_true_eq, decide_eq_false_iff_not, Bool.not_eq_true', Bool.not_eq_false', Bool.not_true, Bool.not_false, Bool.or_eq_true, Bool.and_eq_true, Bool.or_eq_false_iff, Bool.and_eq_false_iff, beq_iff_eq, beq_eq_false_iff_ne, ne_eq] at h; first | (exfalso; omega) | skip) | skip
       | refine SeqP.go ?_
       | refine cdM ?_
       | exact IsV.mk
       | apply GuardP.mk
       | ((first | apply callPure' en_fRight | apply callQuiet' en_fRight); · exact fun w _ => fRight_w f w)
       | (first | refine eqlW eqS50 rfl rfl rfl fitM fitM ?_ | refine neqW eqS50 rfl rfl rfl fitM fitM ?_)
       | refine Or.inl ⟨_, _, hasM, ?_⟩
       | refine Or.inl ⟨_, _, _, holeM, rfl, rfl, ?_⟩
       | refine lA ?_
       | refine lA0 ?_
       | refine lA1 ?_
       | refine lO ?_
       | refine lO0 ?_
       | refine lO1 ?_
       | refine lR ?_
       | refine lG ?_
       | refine lG0 ?_
       | refine tA ?_
       | refine tA0 ?_
       | refine tA1 ?_
       | refine BytW.ofBlk hasM rfl rfl ?_
       | refine AppW.noneB hasM leM rfl rfl rfl leM leM ?_
       | refine AppW.rowB hasM leM rfl rfl holeM leM leM ?_
       | refine AppW.blkB hasM leM rfl rfl holeM rfl rfl leM leM ?_
       | refine AppW.rowS hasM leM rfl rfl holeM (by omega) leM ?_
       | refine AppW.arrS hasM leM rfl rfl rfl holeM (by first | omega | (simp; omega)) leM ?_
       | refine ⟨sideM, ?_⟩
       | fail)
  all_goals (try conv => whnf)
  all_goals (unfold fWithoutV; (repeat (first | rw [if_pos (by first | assumption | grind | decide)] | rw [if_neg (by first | assumption | grind | decide)])); rfl)
end Go.Proofs.Ytgjdmlgdgbehoaa.Am
