/- Packages sync/atomic, sync: a number that is added to and loaded; the lock; sync.Once. -/
import Derived.Test.YtgjdmlgdgbehoaaStr
import Derived.Test.YtgjdmlgdgbehoaaAm20
set_option linter.unusedVariables false
set_option linter.unusedSimpArgs false
set_option maxRecDepth 100000
set_option maxHeartbeats 4000000
namespace Go.Proofs.Ytgjdmlgdgbehoaa.Am
open Go Go.RowKit
theorem ext_load64 : Ext Try.prog 108 (Extern.Atomic.loadT (.int .i64)) := ⟨⟨_, Try.func108, by kernel_rfl, by kernel_rfl, by kernel_rfl, by kernel_rfl⟩⟩
theorem ext_add64 : Ext Try.prog 103 (Extern.Atomic.update (Op.intArith .add) .i64 true) := ⟨⟨_, Try.func103, by kernel_rfl, by kernel_rfl, by kernel_rfl, by kernel_rfl⟩⟩
theorem ok_aLoad64 : (match Try.f84.body with | some c => codeOk Try.f84.ntmps c | none => false) = true := by kernel_rfl
theorem en_aLoad64 : ∃ fn, Try.prog.funcs[84]? = some fn ∧ (fn.name == "runtime.NumGoroutine") = false ∧ fn.body.isNone = false := ⟨_, Try.func84, by kernel_rfl, by kernel_rfl⟩
theorem aLoad64_w (b i : Nat) (n : Int) (w : World) (h : w.rangeAt b i [.int .i64 n]) : PuAt Try.prog 84 [.pointer (some ⟨b, i, none⟩)] (.int .i64 n) w := by
  refine funcR_pure tyOk wide Try.func84 ok_aLoad64 (Nat.le_of_ble_eq_true rfl) ?_
  repeat' first
    | (conv => whnf
       first
       | intro _
       | (first | refine selSplit (fun h => ?_) (fun h => ?_) | refine condSplit (fun h => ?_) (fun h => ?_)) <;> first | exact (clash (by assumption) h).elim | exact (clash h (by assumption)).elim | (simp only [decide_eq_true_eq, decide_eq_false_iff_not, Bool.not_eq_true', Bool.not_eq_false', Bool.not_true, Bool.not_false, Bool.or_eq_true, Bool.and_eq_true, Bool.or_eq_false_iff, Bool.and_eq_false_iff, beq_iff_eq, beq_eq_false_iff_ne, ne_eq] at h; first | (exfalso; omega) | skip) | skip
       | refine SeqP.go ?_
       | refine cdM ?_
       | exact IsV.mk
       | apply GuardP.mk
       | (refine atomLoadR ext_load64 (rg_old h (by simp)) ?_)
       | refine Or.inl ⟨_, _, hasM, ?_⟩
       | refine Or.inl ⟨_, _, _, holeM, rfl, rfl, ?_⟩
       | refine lA ?_
       | refine lA0 ?_
       | refine lA1 ?_
       | refine lO ?_
       | refine lO0 ?_
       | refine lO1 ?_
       | refine lR ?_
       | refine lG ?_
       | refine lG0 ?_
       | refine tA ?_
       | refine tA0 ?_
       | refine tA1 ?_
       | refine BytW.ofBlk hasM rfl rfl ?_
       | refine AppW.noneB hasM leM rfl rfl rfl leM leM ?_
       | refine AppW.rowB hasM leM rfl rfl holeM leM leM ?_
       | refine AppW.blkB hasM leM rfl rfl holeM rfl rfl leM leM ?_
       | refine AppW.rowS hasM leM rfl rfl holeM (by omega) leM ?_
       | refine AppW.arrS hasM leM rfl rfl rfl holeM (by first | omega | (simp; omega)) leM ?_
       | refine ⟨sideM, ?_⟩
       | fail)
  all_goals (try conv => whnf)
  all_goals rfl
theorem ok_aAdd64 : (match Try.f80.body with | some c => codeOk Try.f80.ntmps c | none => false) = true := by kernel_rfl
theorem en_aAdd64 : ∃ fn, Try.prog.funcs[80]? = some fn ∧ (fn.name == "runtime.NumGoroutine") = false ∧ fn.body.isNone = false := ⟨_, Try.func80, by kernel_rfl, by kernel_rfl⟩
theorem aAdd64_w (b i : Nat) (cs : List Value) (T : TypeId) (n y s : Int) (w : World) (hb : w.heap[b]? = some (.cells ⟨cs⟩ T (0, 0))) (hv : cs[i]? = some (.int .i64 n)) (hs : IntKind.i64.wrap (n + y) = s) : OneAt Try.prog 80 [.pointer (some ⟨b, i, none⟩), .int .i64 y] b cs T (.int .i64 s) (cs.set i (.int .i64 s)) w := by
  refine funcR_one tyOk wide Try.func80 ok_aAdd64 (Nat.le_of_ble_eq_true rfl) hb ?_
  have hr : ∀ w, (Op.intArith .add .i64 n y).run Try.prog w = .ok (.int .i64 s) w := fun w => by rw [← hs]; rfl
  repeat' first
    | (conv => whnf
       first
       | intro _
       | (first | refine selSplit (fun h => ?_) (fun h => ?_) | refine condSplit (fun h => ?_) (fun h => ?_)) <;> first | exact (clash (by assumption) h).elim | exact (clash h (by assumption)).elim | (simp only [decide_eq_true_eq, decide_eq_false_iff_not, Bool.not_eq_true', Bool.not_eq_false', Bool.not_true, Bool.not_false, Bool.or_eq_true, Bool.and_eq_true, Bool.or_eq_false_iff, Bool.and_eq_false_iff, beq_iff_eq, beq_eq_false_iff_ne, ne_eq] at h; first | (exfalso; omega) | skip) | skip
       | refine SeqP.go ?_
       | refine cdM ?_
       | exact IsV.mk
       | apply GuardP.mk
       | (refine atomAdd ext_add64 holeM hv hr ?_)
       | refine Or.inl ⟨_, _, hasM, ?_⟩
       | refine Or.inl ⟨_, _, _, holeM, rfl, rfl, ?_⟩
       | refine lA ?_
       | refine lA0 ?_
       | refine lA1 ?_
       | refine lO ?_
       | refine lO0 ?_
       | refine lO1 ?_
       | refine lR ?_
       | refine lG ?_
       | refine lG0 ?_
       | refine tA ?_
       | refine tA0 ?_
       | refine tA1 ?_
       | refine BytW.ofBlk hasM rfl rfl ?_
       | refine AppW.noneB hasM leM rfl rfl rfl leM leM ?_
       | refine AppW.rowB hasM leM rfl rfl holeM leM leM ?_
       | refine AppW.blkB hasM leM rfl rfl holeM rfl rfl leM leM ?_
       | refine AppW.rowS hasM leM rfl rfl holeM (by omega) leM ?_
       | refine AppW.arrS hasM leM rfl rfl rfl holeM (by first | omega | (simp; omega)) leM ?_
       | refine ⟨sideM, ?_⟩
       | fail)
  all_goals (try conv => whnf)
  all_goals exact keepM
theorem ext_cas32 : Ext Try.prog 169 (Extern.Atomic.casT (.int .i32)) := ⟨⟨_, Try.func169, by kernel_rfl, by kernel_rfl, by kernel_rfl, by kernel_rfl⟩⟩
theorem ext_add32 : Ext Try.prog 174 (Extern.Atomic.update (Op.intArith .add) .i32 true) := ⟨⟨_, Try.func174, by kernel_rfl, by kernel_rfl, by kernel_rfl, by kernel_rfl⟩⟩
theorem ext_loadu32 : Ext Try.prog 124 (Extern.Atomic.loadT (.int .u32)) := ⟨⟨_, Try.func124, by kernel_rfl, by kernel_rfl, by kernel_rfl, by kernel_rfl⟩⟩
theorem ext_storeu32 : Ext Try.prog 151 Extern.Atomic.storeT := ⟨⟨_, Try.func151, by kernel_rfl, by kernel_rfl, by kernel_rfl, by kernel_rfl⟩⟩
theorem ext_dis : Ext Try.prog 168 (fun _ => do mark .disable; pure Extern.Race.none_) := ⟨⟨_, Try.func168, by kernel_rfl, by kernel_rfl, by kernel_rfl, by kernel_rfl⟩⟩
theorem ext_ena : Ext Try.prog 170 (fun _ => do mark .enable; pure Extern.Race.none_) := ⟨⟨_, Try.func170, by kernel_rfl, by kernel_rfl, by kernel_rfl, by kernel_rfl⟩⟩
theorem ext_acq : Ext Try.prog 171 (Extern.Race.marked .acquire) := ⟨⟨_, Try.func171, by kernel_rfl, by kernel_rfl, by kernel_rfl, by kernel_rfl⟩⟩
theorem ext_rel : Ext Try.prog 173 (Extern.Race.marked .releaseMerge) := ⟨⟨_, Try.func173, by kernel_rfl, by kernel_rfl, by kernel_rfl, by kernel_rfl⟩⟩
theorem ok_imLock : (match Try.f149.body with | some c => codeOk Try.f149.ntmps c | none => false) = true := by kernel_rfl
theorem en_imLock : ∃ fn, Try.prog.funcs[149]? = some fn ∧ (fn.name == "runtime.NumGoroutine") = false ∧ fn.body.isNone = false := ⟨_, Try.func149, by kernel_rfl, by kernel_rfl⟩
theorem imLock_w (b i : Nat) (cs : List Value) (T : TypeId) (w : World) (hb : w.heap[b]? = some (.cells ⟨cs⟩ T (0, 0))) (hv : cs[i]? = some (.int .i32 0)) : OneAt Try.prog 149 [.pointer (some ⟨b, i, none⟩)] b cs T (.tuple ⟨[]⟩) (cs.set i (.int .i32 1)) w := by
  refine funcR_one tyOk wide Try.func149 ok_imLock (Nat.le_of_ble_eq_true rfl) hb ?_
  have h1 := getSet (v := .int .i32 1) hv
  repeat' first
    | (conv => whnf
       first
       | intro _
       | (first | refine selSplit (fun h => ?_) (fun h => ?_) | refine condSplit (fun h => ?_) (fun h => ?_)) <;> first | exact (clash (by assumption) h).elim | exact (clash h (by assumption)).elim | (simp only [decide_eq_true_eq, decide_eq_false_iff_not, Bool.not_eq_true', Bool.not_eq_false', Bool.not_true, Bool.not_false, Bool.or_eq_true, Bool.and_eq_true, Bool.or_eq_false_iff, Bool.and_eq_false_iff, beq_iff_eq, beq_eq_false_iff_ne, ne_eq] at h; first | (exfalso; omega) | skip) | skip
       | refine SeqP.go ?_
       | refine cdM ?_
       | exact IsV.mk
       | apply GuardP.mk
       | (refine atomCas ext_cas32 holeM hv ?_)
       | (refine mark0 ext_dis ?_)
       | (refine mark0 ext_ena ?_)
       | (refine mark1 ext_acq ?_)
       | (refine unsafeQ (t := 153) Has.here rfl (by kernel_rfl) Try.underlying246 (by kernel_rfl) rfl h1 ?_)
       | refine Or.inl ⟨_, _, hasM, ?_⟩
       | refine Or.inl ⟨_, _, _, holeM, rfl, rfl, ?_⟩
       | refine lA ?_
       | refine lA0 ?_
       | refine lA1 ?_
       | refine lO ?_
       | refine lO0 ?_
       | refine lO1 ?_
       | refine lR ?_
       | refine lG ?_
       | refine lG0 ?_
       | refine tA ?_
       | refine tA0 ?_
       | refine tA1 ?_
       | refine BytW.ofBlk hasM rfl rfl ?_
       | refine AppW.noneB hasM leM rfl rfl rfl leM leM ?_
       | refine AppW.rowB hasM leM rfl rfl holeM leM leM ?_
       | refine AppW.blkB hasM leM rfl rfl holeM rfl rfl leM leM ?_
       | refine AppW.rowS hasM leM rfl rfl holeM (by omega) leM ?_
       | refine AppW.arrS hasM leM rfl rfl rfl holeM (by first | omega | (simp; omega)) leM ?_
       | refine ⟨sideM, ?_⟩
       | fail)
  all_goals (try conv => whnf)
  all_goals exact keepM
theorem ok_mLock : (match Try.f125.body with | some c => codeOk Try.f125.ntmps c | none => false) = true := by kernel_rfl
theorem en_mLock : ∃ fn, Try.prog.funcs[125]? = some fn ∧ (fn.name == "runtime.NumGoroutine") = false ∧ fn.body.isNone = false := ⟨_, Try.func125, by kernel_rfl, by kernel_rfl⟩
theorem mLock_w (b i : Nat) (cs : List Value) (T : TypeId) (w : World) (hb : w.heap[b]? = some (.cells ⟨cs⟩ T (0, 0))) (hv : cs[i]? = some (.int .i32 0)) : OneAt Try.prog 125 [.pointer (some ⟨b, i, none⟩)] b cs T (.tuple ⟨[]⟩) (cs.set i (.int .i32 1)) w := by
  refine funcR_one tyOk wide Try.func125 ok_mLock (Nat.le_of_ble_eq_true rfl) hb ?_
  repeat' first
    | (conv => whnf
       first
       | intro _
       | (first | refine selSplit (fun h => ?_) (fun h => ?_) | refine condSplit (fun h => ?_) (fun h => ?_)) <;> first | exact (clash (by assumption) h).elim | exact (clash h (by assumption)).elim | (simp only [decide_eq_true_eq, decide_eq_false_iff_not, Bool.not_eq_true', Bool.not_eq_false', Bool.not_true, Bool.not_false, Bool.or_eq_true, Bool.and_eq_true, Bool.or_eq_false_iff, Bool.and_eq_false_iff, beq_iff_eq, beq_eq_false_iff_ne, ne_eq] at h; first | (exfalso; omega) | skip) | skip
       | refine SeqP.go ?_
       | refine cdM ?_
       | exact IsV.mk
       | apply GuardP.mk
       | (refine callOne holeM en_imLock (fun w hw => imLock_w b i cs T w (hw.ok (.blk b cs T) List.mem_cons_self) hv) ?_)
       | refine Or.inl ⟨_, _, hasM, ?_⟩
       | refine Or.inl ⟨_, _, _, holeM, rfl, rfl, ?_⟩
       | refine lA ?_
       | refine lA0 ?_
       | refine lA1 ?_
       | refine lO ?_
       | refine lO0 ?_
       | refine lO1 ?_
       | refine lR ?_
       | refine lG ?_
       | refine lG0 ?_
       | refine tA ?_
       | refine tA0 ?_
       | refine tA1 ?_
       | refine BytW.ofBlk hasM rfl rfl ?_
       | refine AppW.noneB hasM leM rfl rfl rfl leM leM ?_
       | refine AppW.rowB hasM leM rfl rfl holeM leM leM ?_
       | refine AppW.blkB hasM leM rfl rfl holeM rfl rfl leM leM ?_
       | refine AppW.rowS hasM leM rfl rfl holeM (by omega) leM ?_
       | refine AppW.arrS hasM leM rfl rfl rfl holeM (by first | omega | (simp; omega)) leM ?_
       | refine ⟨sideM, ?_⟩
       | fail)
  all_goals (try conv => whnf)
  all_goals exact keepM
theorem ok_imUnlock : (match Try.f150.body with | some c => codeOk Try.f150.ntmps c | none => false) = true := by kernel_rfl
theorem en_imUnlock : ∃ fn, Try.prog.funcs[150]? = some fn ∧ (fn.name == "runtime.NumGoroutine") = false ∧ fn.body.isNone = false := ⟨_, Try.func150, by kernel_rfl, by kernel_rfl⟩
theorem imUnlock_w (b i : Nat) (cs : List Value) (T : TypeId) (w : World) (hb : w.heap[b]? = some (.cells ⟨cs⟩ T (0, 0))) (hv : cs[i]? = some (.int .i32 1)) : OneAt Try.prog 150 [.pointer (some ⟨b, i, none⟩)] b cs T (.tuple ⟨[]⟩) (cs.set i (.int .i32 0)) w := by
  refine funcR_one tyOk wide Try.func150 ok_imUnlock (Nat.le_of_ble_eq_true rfl) hb ?_
  have hr : ∀ w, (Op.intArith .add .i32 1 (-1)).run Try.prog w = .ok (.int .i32 0) w := fun w => rfl
  repeat' first
    | (conv => whnf
       first
       | intro _
       | (first | refine selSplit (fun h => ?_) (fun h => ?_) | refine condSplit (fun h => ?_) (fun h => ?_)) <;> first | exact (clash (by assumption) h).elim | exact (clash h (by assumption)).elim | (simp only [decide_eq_true_eq, decide_eq_false_iff_not, Bool.not_eq_true', Bool.not_eq_false', Bool.not_true, Bool.not_false, Bool.or_eq_true, Bool.and_eq_true, Bool.or_eq_false_iff, Bool.and_eq_false_iff, beq_iff_eq, beq_eq_false_iff_ne, ne_eq] at h; first | (exfalso; omega) | skip) | skip
       | refine SeqP.go ?_
       | refine cdM ?_
       | exact IsV.mk
       | apply GuardP.mk
       | (refine atomAdd ext_add32 holeM hv hr ?_)
       | (refine mark0 ext_dis ?_)
       | (refine mark0 ext_ena ?_)
       | (refine mark1 ext_rel ?_)
       | (refine unsafeQ (t := 153) Has.here rfl (by kernel_rfl) Try.underlying246 (by kernel_rfl) rfl hv ?_)
       | (refine loadAt Has.here hv rfl ?_)
       | refine Or.inl ⟨_, _, hasM, ?_⟩
       | refine Or.inl ⟨_, _, _, holeM, rfl, rfl, ?_⟩
       | refine lA ?_
       | refine lA0 ?_
       | refine lA1 ?_
       | refine lO ?_
       | refine lO0 ?_
       | refine lO1 ?_
       | refine lR ?_
       | refine lG ?_
       | refine lG0 ?_
       | refine tA ?_
       | refine tA0 ?_
       | refine tA1 ?_
       | refine BytW.ofBlk hasM rfl rfl ?_
       | refine AppW.noneB hasM leM rfl rfl rfl leM leM ?_
       | refine AppW.rowB hasM leM rfl rfl holeM leM leM ?_
       | refine AppW.blkB hasM leM rfl rfl holeM rfl rfl leM leM ?_
       | refine AppW.rowS hasM leM rfl rfl holeM (by omega) leM ?_
       | refine AppW.arrS hasM leM rfl rfl rfl holeM (by first | omega | (simp; omega)) leM ?_
       | refine ⟨sideM, ?_⟩
       | fail)
  all_goals (try conv => whnf)
  all_goals exact keepM
theorem ok_mUnlock : (match Try.f126.body with | some c => codeOk Try.f126.ntmps c | none => false) = true := by kernel_rfl
theorem en_mUnlock : ∃ fn, Try.prog.funcs[126]? = some fn ∧ (fn.name == "runtime.NumGoroutine") = false ∧ fn.body.isNone = false := ⟨_, Try.func126, by kernel_rfl, by kernel_rfl⟩
theorem mUnlock_d (b i : Nat) (cs : List Value) (T : TypeId) (w : World) (hb : w.heap[b]? = some (.cells ⟨cs⟩ T (0, 0))) (hv : cs[i]? = some (.int .i32 1)) : FnD Try.prog 126 [.pointer (some ⟨b, i, none⟩)] [.blk b cs T] (fun _ : Unit => True) (fun _ => .tuple ⟨[]⟩) (fun _ => [.blk b (cs.set i (.int .i32 0)) T]) w := by
  refine funcR_d tyOk wide Try.func126 ok_mUnlock (Nat.le_of_ble_eq_true rfl) (St.blk0 hb) ?_
  repeat' first
    | (conv => whnf
       first
       | intro _
       | (first | refine selSplit (fun h => ?_) (fun h => ?_) | refine condSplit (fun h => ?_) (fun h => ?_)) <;> first | exact (clash (by assumption) h).elim | exact (clash h (by assumption)).elim | (simp only [decide_eq_true_eq, decide_eq_false_iff_not, Bool.not_eq_true', Bool.not_eq_false', Bool.not_true, Bool.not_false, Bool.or_eq_true, Bool.and_eq_true, Bool.or_eq_false_iff, Bool.and_eq_false_iff, beq_iff_eq, beq_eq_false_iff_ne, ne_eq] at h; first | (exfalso; omega) | skip) | skip
       | refine SeqP.go ?_
       | refine cdM ?_
       | exact IsV.mk
       | apply GuardP.mk
       | (refine callOne holeM en_imUnlock (fun w hw => imUnlock_w b i cs T w (hw.ok (.blk b cs T) List.mem_cons_self) hv) ?_)
       | refine Or.inl ⟨_, _, hasM, ?_⟩
       | refine Or.inl ⟨_, _, _, holeM, rfl, rfl, ?_⟩
       | refine lA ?_
       | refine lA0 ?_
       | refine lA1 ?_
       | refine lO ?_
       | refine lO0 ?_
       | refine lO1 ?_
       | refine lR ?_
       | refine lG ?_
       | refine lG0 ?_
       | refine tA ?_
       | refine tA0 ?_
       | refine tA1 ?_
       | refine BytW.ofBlk hasM rfl rfl ?_
       | refine AppW.noneB hasM leM rfl rfl rfl leM leM ?_
       | refine AppW.rowB hasM leM rfl rfl holeM leM leM ?_
       | refine AppW.blkB hasM leM rfl rfl holeM rfl rfl leM leM ?_
       | refine AppW.rowS hasM leM rfl rfl holeM (by omega) leM ?_
       | refine AppW.arrS hasM leM rfl rfl rfl holeM (by first | omega | (simp; omega)) leM ?_
       | refine ⟨sideM, ?_⟩
       | fail)
  all_goals (try conv => whnf)
  all_goals exact EndX.mk () trivial rfl (Ent.of keepM)
theorem ok_b32 : (match Try.f152.body with | some c => codeOk Try.f152.ntmps c | none => false) = true := by kernel_rfl
theorem en_b32 : ∃ fn, Try.prog.funcs[152]? = some fn ∧ (fn.name == "runtime.NumGoroutine") = false ∧ fn.body.isNone = false := ⟨_, Try.func152, by kernel_rfl, by kernel_rfl⟩
theorem b32_w (w : World) : PuAt Try.prog 152 [.bool true] (.int .u32 1) w := by
  refine funcR_pure tyOk wide Try.func152 ok_b32 (Nat.le_of_ble_eq_true rfl) ?_
  repeat' first
    | (conv => whnf
       first
       | intro _
       | (first | refine selSplit (fun h => ?_) (fun h => ?_) | refine condSplit (fun h => ?_) (fun h => ?_)) <;> first | exact (clash (by assumption) h).elim | exact (clash h (by assumption)).elim | (simp only [decide_eq_true_eq, decide_eq_false_iff_not, Bool.not_eq_true', Bool.not_eq_false', Bool.not_true, Bool.not_false, Bool.or_eq_true, Bool.and_eq_true, Bool.or_eq_false_iff, Bool.and_eq_false_iff, beq_iff_eq, beq_eq_false_iff_ne, ne_eq] at h; first | (exfalso; omega) | skip) | skip
       | refine SeqP.go ?_
       | refine cdM ?_
       | exact IsV.mk
       | apply GuardP.mk
       | refine Or.inl ⟨_, _, hasM, ?_⟩
       | refine Or.inl ⟨_, _, _, holeM, rfl, rfl, ?_⟩
       | refine lA ?_
       | refine lA0 ?_
       | refine lA1 ?_
       | refine lO ?_
       | refine lO0 ?_
       | refine lO1 ?_
       | refine lR ?_
       | refine lG ?_
       | refine lG0 ?_
       | refine tA ?_
       | refine tA0 ?_
       | refine tA1 ?_
       | refine BytW.ofBlk hasM rfl rfl ?_
       | refine AppW.noneB hasM leM rfl rfl rfl leM leM ?_
       | refine AppW.rowB hasM leM rfl rfl holeM leM leM ?_
       | refine AppW.blkB hasM leM rfl rfl holeM rfl rfl leM leM ?_
       | refine AppW.rowS hasM leM rfl rfl holeM (by omega) leM ?_
       | refine AppW.arrS hasM leM rfl rfl rfl holeM (by first | omega | (simp; omega)) leM ?_
       | refine ⟨sideM, ?_⟩
       | fail)
  all_goals (try conv => whnf)
  all_goals rfl
theorem ok_bStore : (match Try.f127.body with | some c => codeOk Try.f127.ntmps c | none => false) = true := by kernel_rfl
theorem en_bStore : ∃ fn, Try.prog.funcs[127]? = some fn ∧ (fn.name == "runtime.NumGoroutine") = false ∧ fn.body.isNone = false := ⟨_, Try.func127, by kernel_rfl, by kernel_rfl⟩
theorem bStore_d (b i : Nat) (cs : List Value) (T : TypeId) (v : Value) (w : World) (hb : w.heap[b]? = some (.cells ⟨cs⟩ T (0, 0))) (hv : cs[i]? = some v) : FnD Try.prog 127 [.pointer (some ⟨b, i, none⟩), .bool true] [.blk b cs T] (fun _ : Unit => True) (fun _ => .tuple ⟨[]⟩) (fun _ => [.blk b (cs.set i (.int .u32 1)) T]) w := by
  refine funcR_d tyOk wide Try.func127 ok_bStore (Nat.le_of_ble_eq_true rfl) (St.blk0 hb) ?_
  repeat' first
    | (conv => whnf
       first
       | intro _
       | (first | refine selSplit (fun h => ?_) (fun h => ?_) | refine condSplit (fun h => ?_) (fun h => ?_)) <;> first | exact (clash (by assumption) h).elim | exact (clash h (by assumption)).elim | (simp only [decide_eq_true_eq, decide_eq_false_iff_not, Bool.not_eq_true', Bool.not_eq_false', Bool.not_true, Bool.not_false, Bool.or_eq_true, Bool.and_eq_true, Bool.or_eq_false_iff, Bool.and_eq_false_iff, beq_iff_eq, beq_eq_false_iff_ne, ne_eq] at h; first | (exfalso; omega) | skip) | skip
       | (first | refine drM (.quiet 0 (.quiet 1 (.quiet 2 (.quiet 3 (.quiet 4 (.last 5 false .done)))))) (SubL.refl _) ?_)
       | refine AltP.mk ?_ ?_
       | refine kpM ?_
       | refine SeqP.go ?_
       | refine cdM ?_
       | exact IsV.mk
       | apply GuardP.mk
       | ((first | apply callPure' en_b32 | apply callQuiet' en_b32); · exact fun w _ => b32_w w)
       | (refine atomStore ext_storeu32 holeM hv ?_)
       | refine Or.inl ⟨_, _, hasM, ?_⟩
       | refine Or.inl ⟨_, _, _, holeM, rfl, rfl, ?_⟩
       | refine lA ?_
       | refine lA0 ?_
       | refine lA1 ?_
       | refine lO ?_
       | refine lO0 ?_
       | refine lO1 ?_
       | refine lR ?_
       | refine lG ?_
       | refine lG0 ?_
       | refine tA ?_
       | refine tA0 ?_
       | refine tA1 ?_
       | refine BytW.ofBlk hasM rfl rfl ?_
       | refine AppW.noneB hasM leM rfl rfl rfl leM leM ?_
       | refine AppW.rowB hasM leM rfl rfl holeM leM leM ?_
       | refine AppW.blkB hasM leM rfl rfl holeM rfl rfl leM leM ?_
       | refine AppW.rowS hasM leM rfl rfl holeM (by omega) leM ?_
       | refine AppW.arrS hasM leM rfl rfl rfl holeM (by first | omega | (simp; omega)) leM ?_
       | refine ⟨sideM, ?_⟩
       | fail)
  all_goals (try conv => whnf)
  all_goals exact EndX.mk () trivial rfl (Ent.of keepM)
theorem ok_bLoad : (match Try.f104.body with | some c => codeOk Try.f104.ntmps c | none => false) = true := by kernel_rfl
theorem en_bLoad : ∃ fn, Try.prog.funcs[104]? = some fn ∧ (fn.name == "runtime.NumGoroutine") = false ∧ fn.body.isNone = false := ⟨_, Try.func104, by kernel_rfl, by kernel_rfl⟩
theorem bLoad_w (b i : Nat) (n : Int) (w : World) (h : w.rangeAt b i [.int .u32 n]) : PuAt Try.prog 104 [.pointer (some ⟨b, i, none⟩)] (.bool (!decide (n = 0))) w := by
  refine funcR_pure tyOk wide Try.func104 ok_bLoad (Nat.le_of_ble_eq_true rfl) ?_
  repeat' first
    | (conv => whnf
       first
       | intro _
       | (first | refine selSplit (fun h => ?_) (fun h => ?_) | refine condSplit (fun h => ?_) (fun h => ?_)) <;> first | exact (clash (by assumption) h).elim | exact (clash h (by assumption)).elim | (simp only [decide_eq_true_eq, decide_eq_false_iff_not, Bool.not_eq_true', Bool.not_eq_false', Bool.not_true, Bool.not_false, Bool.or_eq_true, Bool.and_eq_true, Bool.or_eq_false_iff, Bool.and_eq_false_iff, beq_iff_eq, beq_eq_false_iff_ne, ne_eq] at h; first | (exfalso; omega) | skip) | skip
       | refine SeqP.go ?_
       | refine cdM ?_
       | exact IsV.mk
       | apply GuardP.mk
       | (refine atomLoadR ext_loadu32 (rg_old h (by simp)) ?_)
       | refine Or.inl ⟨_, _, hasM, ?_⟩
       | refine Or.inl ⟨_, _, _, holeM, rfl, rfl, ?_⟩
       | refine lA ?_
       | refine lA0 ?_
       | refine lA1 ?_
       | refine lO ?_
       | refine lO0 ?_
       | refine lO1 ?_
       | refine lR ?_
       | refine lG ?_
       | refine lG0 ?_
       | refine tA ?_
       | refine tA0 ?_
       | refine tA1 ?_
       | refine BytW.ofBlk hasM rfl rfl ?_
       | refine AppW.noneB hasM leM rfl rfl rfl leM leM ?_
       | refine AppW.rowB hasM leM rfl rfl holeM leM leM ?_
       | refine AppW.blkB hasM leM rfl rfl holeM rfl rfl leM leM ?_
       | refine AppW.rowS hasM leM rfl rfl holeM (by omega) leM ?_
       | refine AppW.arrS hasM leM rfl rfl rfl holeM (by first | omega | (simp; omega)) leM ?_
       | refine ⟨sideM, ?_⟩
       | fail)
  all_goals (try conv => whnf)
  all_goals first | rfl | skip
theorem en_doSlow : ∃ fn, Try.prog.funcs[105]? = some fn ∧ (fn.name == "runtime.NumGoroutine") = false ∧ fn.body.isNone = false := ⟨_, Try.func105, by kernel_rfl, by kernel_rfl⟩
theorem doSlow_w (b i : Nat) (cs cs2 : List Value) (T : TypeId) (Hb Hb' : List Res) (fid : Nat) (caps : List Value) (w : World) (hS : St w (feet (.blk b cs T :: Hb)) (.blk b cs T :: Hb) w) (h0 : cs[i]? = some (.int .u32 0)) (h1 : cs[i + 1]? = some (.int .i32 0)) (g0 : cs2[i]? = some (.int .u32 0)) (g1 : cs2[i + 1]? = some (.int .i32 1))
    (he : ∃ fn, Try.prog.funcs[fid]? = some fn ∧ (fn.name == "runtime.NumGoroutine") = false ∧ fn.body.isNone = false)
    (hf : ∀ w, St w (feet (.blk b (cs.set (i + 1) (.int .i32 1)) T :: Hb)) (.blk b (cs.set (i + 1) (.int .i32 1)) T :: Hb) w → FnX Try.prog fid caps (.blk b (cs.set (i + 1) (.int .i32 1)) T :: Hb) (fun _ : Unit => True) (fun _ => .tuple ⟨[]⟩) (fun _ => .blk b cs2 T :: Hb') w) :
    FnX Try.prog 105 [.pointer (some ⟨b, i, none⟩), .func (.func fid) #[] ⟨caps⟩] (.blk b cs T :: Hb) (fun _ : Unit => True) (fun _ => .tuple ⟨[]⟩) (fun _ => .blk b ((cs2.set i (.int .u32 1)).set (i + 1) (.int .i32 0)) T :: Hb') w := by
  refine funcD_x tyOk Try.func105 rfl (Nat.le_of_ble_eq_true rfl) hS ?_
  refine CodeD.seq (CodeD.plain tyOk wide (by kernel_rfl) ?_)
  repeat' first
    | (conv => whnf
       first
       | intro _
       | (first | refine selSplit (fun h => ?_) (fun h => ?_) | refine condSplit (fun h => ?_) (fun h => ?_)) <;> first | exact (clash (by assumption) h).elim | exact (clash h (by assumption)).elim | (simp only [decide_eq_true_eq, decide_eq_false_iff_not, Bool.not_eq_true', Bool.not_eq_false', Bool.not_true, Bool.not_false, Bool.or_eq_true, Bool.and_eq_true, Bool.or_eq_false_iff, Bool.and_eq_false_iff, beq_iff_eq, beq_eq_false_iff_ne, ne_eq] at h; first | (exfalso; omega) | skip) | skip
       | refine SeqP.go ?_
       | refine cdM ?_
       | exact IsV.mk
       | apply GuardP.mk
       | (refine callOne holeM en_mLock (fun w hw => mLock_w b (i + 1) cs T w (hw.ok (.blk b cs T) List.mem_cons_self) h1) ?_)
       | refine Or.inl ⟨_, _, hasM, ?_⟩
       | refine Or.inl ⟨_, _, _, holeM, rfl, rfl, ?_⟩
       | refine lA ?_
       | refine lA0 ?_
       | refine lA1 ?_
       | refine lO ?_
       | refine lO0 ?_
       | refine lO1 ?_
       | refine lR ?_
       | refine lG ?_
       | refine lG0 ?_
       | refine tA ?_
       | refine tA0 ?_
       | refine tA1 ?_
       | refine BytW.ofBlk hasM rfl rfl ?_
       | refine AppW.noneB hasM leM rfl rfl rfl leM leM ?_
       | refine AppW.rowB hasM leM rfl rfl holeM leM leM ?_
       | refine AppW.blkB hasM leM rfl rfl holeM rfl rfl leM leM ?_
       | refine AppW.rowS hasM leM rfl rfl holeM (by omega) leM ?_
       | refine AppW.arrS hasM leM rfl rfl rfl holeM (by first | omega | (simp; omega)) leM ?_
       | refine ⟨sideM, ?_⟩
       | fail)
  all_goals (try conv => whnf)
  refine CodeD.seq (CodeD.defer' rfl tyOk rfl rfl rfl rfl ?_)
  repeat' first
    | (conv => whnf
       first
       | intro _
       | (first | refine selSplit (fun h => ?_) (fun h => ?_) | refine condSplit (fun h => ?_) (fun h => ?_)) <;> first | exact (clash (by assumption) h).elim | exact (clash h (by assumption)).elim | (simp only [decide_eq_true_eq, decide_eq_false_iff_not, Bool.not_eq_true', Bool.not_eq_false', Bool.not_true, Bool.not_false, Bool.or_eq_true, Bool.and_eq_true, Bool.or_eq_false_iff, Bool.and_eq_false_iff, beq_iff_eq, beq_eq_false_iff_ne, ne_eq] at h; first | (exfalso; omega) | skip) | skip
       | refine SeqP.go ?_
       | refine cdM ?_
       | exact IsV.mk
       | apply GuardP.mk
       | refine Or.inl ⟨_, _, hasM, ?_⟩
       | refine Or.inl ⟨_, _, _, holeM, rfl, rfl, ?_⟩
       | refine lA ?_
       | refine lA0 ?_
       | refine lA1 ?_
       | refine lO ?_
       | refine lO0 ?_
       | refine lO1 ?_
       | refine lR ?_
       | refine lG ?_
       | refine lG0 ?_
       | refine tA ?_
       | refine tA0 ?_
       | refine tA1 ?_
       | refine BytW.ofBlk hasM rfl rfl ?_
       | refine AppW.noneB hasM leM rfl rfl rfl leM leM ?_
       | refine AppW.rowB hasM leM rfl rfl holeM leM leM ?_
       | refine AppW.blkB hasM leM rfl rfl holeM rfl rfl leM leM ?_
       | refine AppW.rowS hasM leM rfl rfl holeM (by omega) leM ?_
       | refine AppW.arrS hasM leM rfl rfl rfl holeM (by first | omega | (simp; omega)) leM ?_
       | refine ⟨sideM, ?_⟩
       | fail)
  all_goals (try conv => whnf)
  refine ⟨_, _, _, _, _, rfl, rfl, rfl, ?_⟩
  have k0 : (cs.set (i + 1) (.int .i32 1))[i]? = some (.int .u32 0) := getSetNe h0 (by omega)
  refine CodeD.seq (CodeD.plain tyOk wide (by kernel_rfl) ?_)
  repeat' first
    | (conv => whnf
       first
       | intro _
       | (first | refine selSplit (fun h => ?_) (fun h => ?_) | refine condSplit (fun h => ?_) (fun h => ?_)) <;> first | exact (clash (by assumption) h).elim | exact (clash h (by assumption)).elim | (simp only [decide_eq_true_eq, decide_eq_false_iff_not, Bool.not_eq_true', Bool.not_eq_false', Bool.not_true, Bool.not_false, Bool.or_eq_true, Bool.and_eq_true, Bool.or_eq_false_iff, Bool.and_eq_false_iff, beq_iff_eq, beq_eq_false_iff_ne, ne_eq] at h; first | (exfalso; omega) | skip) | skip
       | refine SeqP.go ?_
       | refine cdM ?_
       | exact IsV.mk
       | apply GuardP.mk
       | ((first | apply callPure' en_bLoad | apply callQuiet' en_bLoad); · exact fun w hw => bLoad_w b i 0 w (hw.at1 Has.here k0))
       | refine Or.inl ⟨_, _, hasM, ?_⟩
       | refine Or.inl ⟨_, _, _, holeM, rfl, rfl, ?_⟩
       | refine lA ?_
       | refine lA0 ?_
       | refine lA1 ?_
       | refine lO ?_
       | refine lO0 ?_
       | refine lO1 ?_
       | refine lR ?_
       | refine lG ?_
       | refine lG0 ?_
       | refine tA ?_
       | refine tA0 ?_
       | refine tA1 ?_
       | refine BytW.ofBlk hasM rfl rfl ?_
       | refine AppW.noneB hasM leM rfl rfl rfl leM leM ?_
       | refine AppW.rowB hasM leM rfl rfl holeM leM leM ?_
       | refine AppW.blkB hasM leM rfl rfl holeM rfl rfl leM leM ?_
       | refine AppW.rowS hasM leM rfl rfl holeM (by omega) leM ?_
       | refine AppW.arrS hasM leM rfl rfl rfl holeM (by first | omega | (simp; omega)) leM ?_
       | refine ⟨sideM, ?_⟩
       | fail)
  all_goals (try conv => whnf)
  refine CodeD.cond rfl (fun h => ?_) (fun h => by simp at h)
  refine CodeD.seq (CodeD.defer' rfl tyOk rfl rfl rfl rfl ?_)
  repeat' first
    | (conv => whnf
       first
       | intro _
       | (first | refine selSplit (fun h => ?_) (fun h => ?_) | refine condSplit (fun h => ?_) (fun h => ?_)) <;> first | exact (clash (by assumption) h).elim | exact (clash h (by assumption)).elim | (simp only [decide_eq_true_eq, decide_eq_false_iff_not, Bool.not_eq_true', Bool.not_eq_false', Bool.not_true, Bool.not_false, Bool.or_eq_true, Bool.and_eq_true, Bool.or_eq_false_iff, Bool.and_eq_false_iff, beq_iff_eq, beq_eq_false_iff_ne, ne_eq] at h; first | (exfalso; omega) | skip) | skip
       | refine SeqP.go ?_
       | refine cdM ?_
       | exact IsV.mk
       | apply GuardP.mk
       | refine Or.inl ⟨_, _, hasM, ?_⟩
       | refine Or.inl ⟨_, _, _, holeM, rfl, rfl, ?_⟩
       | refine lA ?_
       | refine lA0 ?_
       | refine lA1 ?_
       | refine lO ?_
       | refine lO0 ?_
       | refine lO1 ?_
       | refine lR ?_
       | refine lG ?_
       | refine lG0 ?_
       | refine tA ?_
       | refine tA0 ?_
       | refine tA1 ?_
       | refine BytW.ofBlk hasM rfl rfl ?_
       | refine AppW.noneB hasM leM rfl rfl rfl leM leM ?_
       | refine AppW.rowB hasM leM rfl rfl holeM leM leM ?_
       | refine AppW.blkB hasM leM rfl rfl holeM rfl rfl leM leM ?_
       | refine AppW.rowS hasM leM rfl rfl holeM (by omega) leM ?_
       | refine AppW.arrS hasM leM rfl rfl rfl holeM (by first | omega | (simp; omega)) leM ?_
       | refine ⟨sideM, ?_⟩
       | fail)
  all_goals (try conv => whnf)
  refine ⟨_, _, _, _, _, rfl, rfl, rfl, ?_⟩
  refine CodeD.plain tyOk wide (by kernel_rfl) ?_
  repeat' first
    | (conv => whnf
       first
       | intro _
       | (first | refine selSplit (fun h => ?_) (fun h => ?_) | refine condSplit (fun h => ?_) (fun h => ?_)) <;> first | exact (clash (by assumption) h).elim | exact (clash h (by assumption)).elim | (simp only [decide_eq_true_eq, decide_eq_false_iff_not, Bool.not_eq_true', Bool.not_eq_false', Bool.not_true, Bool.not_false, Bool.or_eq_true, Bool.and_eq_true, Bool.or_eq_false_iff, Bool.and_eq_false_iff, beq_iff_eq, beq_eq_false_iff_ne, ne_eq] at h; first | (exfalso; omega) | skip) | skip
       | refine SeqP.go ?_
       | refine cdM ?_
       | exact IsV.mk
       | apply GuardP.mk
       | (refine callX (Take.refl _) he (fun w hw => hf w hw.own0) ?_)
       | refine Or.inl ⟨_, _, hasM, ?_⟩
       | refine Or.inl ⟨_, _, _, holeM, rfl, rfl, ?_⟩
       | refine lA ?_
       | refine lA0 ?_
       | refine lA1 ?_
       | refine lO ?_
       | refine lO0 ?_
       | refine lO1 ?_
       | refine lR ?_
       | refine lG ?_
       | refine lG0 ?_
       | refine tA ?_
       | refine tA0 ?_
       | refine tA1 ?_
       | refine BytW.ofBlk hasM rfl rfl ?_
       | refine AppW.noneB hasM leM rfl rfl rfl leM leM ?_
       | refine AppW.rowB hasM leM rfl rfl holeM leM leM ?_
       | refine AppW.blkB hasM leM rfl rfl holeM rfl rfl leM leM ?_
       | refine AppW.rowS hasM leM rfl rfl holeM (by omega) leM ?_
       | refine AppW.arrS hasM leM rfl rfl rfl holeM (by first | omega | (simp; omega)) leM ?_
       | refine ⟨sideM, ?_⟩
       | fail)
  all_goals (try conv => whnf)
  rename_i u _
  refine LeaveP.next (args := [.pointer (some ⟨b, i, none⟩), .bool true]) (H0 := [.blk b cs2 T]) (.cons .here .nil) en_bStore rfl (fun w hw => bStore_d b i cs2 T (.int .u32 0) w (hw.ok (.blk b cs2 T) List.mem_cons_self) g0) (fun _ _ => ?_)
  refine LeaveP.next (args := [.pointer (some ⟨b, i + 1, none⟩)]) (H0 := [.blk b (cs2.set i (.int .u32 1)) T]) (.cons .here .nil) en_mUnlock rfl (fun w hw => mUnlock_d b (i + 1) (cs2.set i (.int .u32 1)) T w (hw.ok (.blk b (cs2.set i (.int .u32 1)) T) List.mem_cons_self) (getSetNe g1 (by omega))) (fun _ _ => ?_)
  refine LeaveP.end (EndX.mk () trivial rfl ?_)
  exact Ent.of (by simp)
theorem ok_onceDo : (match Try.f81.body with | some c => codeOk Try.f81.ntmps c | none => false) = true := by kernel_rfl
theorem en_onceDo : ∃ fn, Try.prog.funcs[81]? = some fn ∧ (fn.name == "runtime.NumGoroutine") = false ∧ fn.body.isNone = false := ⟨_, Try.func81, by kernel_rfl, by kernel_rfl⟩
theorem onceDone_w (b i : Nat) (fv : Value) (w : World) (h : w.rangeAt b i [.int .u32 1]) : PuAt Try.prog 81 [.pointer (some ⟨b, i, none⟩), fv] (.tuple ⟨[]⟩) w := by
  refine funcR_pure tyOk wide Try.func81 ok_onceDo (Nat.le_of_ble_eq_true rfl) ?_
  repeat' first
    | (conv => whnf
       first
       | intro _
       | (first | refine selSplit (fun h => ?_) (fun h => ?_) | refine condSplit (fun h => ?_) (fun h => ?_)) <;> first | exact (clash (by assumption) h).elim | exact (clash h (by assumption)).elim | (simp only [decide_eq_true_eq, decide_eq_false_iff_not, Bool.not_eq_true', Bool.not_eq_false', Bool.not_true, Bool.not_false, Bool.or_eq_true, Bool.and_eq_true, Bool.or_eq_false_iff, Bool.and_eq_false_iff, beq_iff_eq, beq_eq_false_iff_ne, ne_eq] at h; first | (exfalso; omega) | skip) | skip
       | refine SeqP.go ?_
       | refine cdM ?_
       | exact IsV.mk
       | apply GuardP.mk
       | ((first | apply callPure' en_bLoad | apply callQuiet' en_bLoad); · exact fun w hw => bLoad_w b i 1 w (rg_old h (by simp) _ w hw))
       | refine Or.inl ⟨_, _, hasM, ?_⟩
       | refine Or.inl ⟨_, _, _, holeM, rfl, rfl, ?_⟩
       | refine lA ?_
       | refine lA0 ?_
       | refine lA1 ?_
       | refine lO ?_
       | refine lO0 ?_
       | refine lO1 ?_
       | refine lR ?_
       | refine lG ?_
       | refine lG0 ?_
       | refine tA ?_
       | refine tA0 ?_
       | refine tA1 ?_
       | refine BytW.ofBlk hasM rfl rfl ?_
       | refine AppW.noneB hasM leM rfl rfl rfl leM leM ?_
       | refine AppW.rowB hasM leM rfl rfl holeM leM leM ?_
       | refine AppW.blkB hasM leM rfl rfl holeM rfl rfl leM leM ?_
       | refine AppW.rowS hasM leM rfl rfl holeM (by omega) leM ?_
       | refine AppW.arrS hasM leM rfl rfl rfl holeM (by first | omega | (simp; omega)) leM ?_
       | refine ⟨sideM, ?_⟩
       | fail)
  all_goals (try conv => whnf)
  all_goals rfl
theorem onceFirst_w (b i : Nat) (cs cs2 : List Value) (T : TypeId) (Hb Hb' : List Res) (fid : Nat) (caps : List Value) (w : World) (hS : St w (feet (.blk b cs T :: Hb)) (.blk b cs T :: Hb) w) (h0 : cs[i]? = some (.int .u32 0)) (h1 : cs[i + 1]? = some (.int .i32 0)) (g0 : cs2[i]? = some (.int .u32 0)) (g1 : cs2[i + 1]? = some (.int .i32 1))
    (he : ∃ fn, Try.prog.funcs[fid]? = some fn ∧ (fn.name == "runtime.NumGoroutine") = false ∧ fn.body.isNone = false)
    (hf : ∀ w, St w (feet (.blk b (cs.set (i + 1) (.int .i32 1)) T :: Hb)) (.blk b (cs.set (i + 1) (.int .i32 1)) T :: Hb) w → FnX Try.prog fid caps (.blk b (cs.set (i + 1) (.int .i32 1)) T :: Hb) (fun _ : Unit => True) (fun _ => .tuple ⟨[]⟩) (fun _ => .blk b cs2 T :: Hb') w) :
    FnX Try.prog 81 [.pointer (some ⟨b, i, none⟩), .func (.func fid) #[] ⟨caps⟩] (.blk b cs T :: Hb) (fun _ : Unit => True) (fun _ => .tuple ⟨[]⟩) (fun _ => .blk b ((cs2.set i (.int .u32 1)).set (i + 1) (.int .i32 0)) T :: Hb') w := by
  refine funcR_x tyOk wide Try.func81 ok_onceDo (Nat.le_of_ble_eq_true rfl) hS ?_
  repeat' first
    | (conv => whnf
       first
       | intro _
       | (first | refine selSplit (fun h => ?_) (fun h => ?_) | refine condSplit (fun h => ?_) (fun h => ?_)) <;> first | exact (clash (by assumption) h).elim | exact (clash h (by assumption)).elim | (simp only [decide_eq_true_eq, decide_eq_false_iff_not, Bool.not_eq_true', Bool.not_eq_false', Bool.not_true, Bool.not_false, Bool.or_eq_true, Bool.and_eq_true, Bool.or_eq_false_iff, Bool.and_eq_false_iff, beq_iff_eq, beq_eq_false_iff_ne, ne_eq] at h; first | (exfalso; omega) | skip) | skip
       | refine SeqP.go ?_
       | refine cdM ?_
       | exact IsV.mk
       | apply GuardP.mk
       | ((first | apply callPure' en_bLoad | apply callQuiet' en_bLoad); · exact fun w hw => bLoad_w b i 0 w (hw.at1 Has.here h0))
       | (refine callX (Take.refl _) en_doSlow (fun w hw => doSlow_w b i cs cs2 T Hb Hb' fid caps w hw.own0 h0 h1 g0 g1 he hf) ?_)
       | refine Or.inl ⟨_, _, hasM, ?_⟩
       | refine Or.inl ⟨_, _, _, holeM, rfl, rfl, ?_⟩
       | refine lA ?_
       | refine lA0 ?_
       | refine lA1 ?_
       | refine lO ?_
       | refine lO0 ?_
       | refine lO1 ?_
       | refine lR ?_
       | refine lG ?_
       | refine lG0 ?_
       | refine tA ?_
       | refine tA0 ?_
       | refine tA1 ?_
       | refine BytW.ofBlk hasM rfl rfl ?_
       | refine AppW.noneB hasM leM rfl rfl rfl leM leM ?_
       | refine AppW.rowB hasM leM rfl rfl holeM leM leM ?_
       | refine AppW.blkB hasM leM rfl rfl holeM rfl rfl leM leM ?_
       | refine AppW.rowS hasM leM rfl rfl holeM (by omega) leM ?_
       | refine AppW.arrS hasM leM rfl rfl rfl holeM (by first | omega | (simp; omega)) leM ?_
       | refine ⟨sideM, ?_⟩
       | fail)
  all_goals (try conv => whnf)
  all_goals first | exact EndX.mk () trivial rfl (Ent.of (by simp)) | (simp at h; done)
end Go.Proofs.Ytgjdmlgdgbehoaa.Am
