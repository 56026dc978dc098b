/- Package mismatch: a guard. -/
import Derived.Test.YtgjdmlgdgbehoaaSync
import Derived.Test.YtgjdmlgdgbehoaaVlan2
set_option linter.unusedVariables false
set_option linter.unusedSimpArgs false
set_option maxRecDepth 100000
set_option maxHeartbeats 4000000
namespace Go.Proofs.Ytgjdmlgdgbehoaa.Am
open Go Go.RowKit
structure GuardV where
  t : Bool
  n : Int
  A : Option Addr
  m : Nat
  c : Nat
  hold : Int
  now : Int
  mp : Nat
  heard : Int
  done : Int
  st : Int
  sema : Int
  recv : Int
  telld : Int
def GuardV.enc (g : GuardV) : List Value := [.bool g.t, .int .i64 g.n, .slice g.A g.m g.c, .int .i64 g.hold, .int .i64 g.now, .map (some g.mp), .int .i64 g.heard, .int .u32 g.done, .int .i32 g.st, .int .u32 g.sema, .int .i64 g.recv, .int .i64 g.telld]
def timeB (n : Int) : Bool := decide (0 ≤ n) && decide (n ≤ 1099511627776)
theorem ok_gHeard : (match Try.f50.body with | some c => codeOk Try.f50.ntmps c | none => false) = true := by kernel_rfl
theorem en_gHeard : ∃ fn, Try.prog.funcs[50]? = some fn ∧ (fn.name == "runtime.NumGoroutine") = false ∧ fn.body.isNone = false := ⟨_, Try.func50, by kernel_rfl, by kernel_rfl⟩
theorem gHeard_w (g : GuardV) (b : Nat) (w : World) (h : w.rangeAt b 0 g.enc) : PuAt Try.prog 50 [.pointer (some ⟨b, 0, none⟩)] (.int .i64 g.heard) w := by
  refine funcR_pure tyOk wide Try.func50 ok_gHeard (Nat.le_of_ble_eq_true rfl) ?_
  have hh : w.rangeAt b 6 [.int .i64 g.heard] := fun j v hv => by
    cases j with
    | zero => exact h 6 v (by simpa [GuardV.enc] using hv)
    | succ j => simp at hv
  repeat' first
    | (conv => whnf
       first
       | intro _
       | (first | refine selSplit (fun h => ?_) (fun h => ?_) | refine condSplit (fun h => ?_) (fun h => ?_)) <;> first | exact (clash (by assumption) h).elim | exact (clash h (by assumption)).elim | (simp only [decide_eq_true_eq, decide_eq_false_iff_not, Bool.not_eq_true', Bool.not_eq_false', Bool.not_true, Bool.not_false, Bool.or_eq_true, Bool.and_eq_true, Bool.or_eq_false_iff, Bool.and_eq_false_iff, beq_iff_eq, beq_eq_false_iff_ne, ne_eq] at h; first | (exfalso; omega) | skip) | skip
       | refine SeqP.go ?_
       | refine cdM ?_
       | exact IsV.mk
       | apply GuardP.mk
       | ((first | apply callPure' en_aLoad64 | apply callQuiet' en_aLoad64); · exact fun w hw => aLoad64_w b 6 g.heard w (rg_old hh (by simp) _ w hw))
       | refine Or.inl ⟨_, _, hasM, ?_⟩
       | refine Or.inl ⟨_, _, _, holeM, rfl, rfl, ?_⟩
       | refine lA ?_
       | refine lA0 ?_
       | refine lA1 ?_
       | refine lO ?_
       | refine lO0 ?_
       | refine lO1 ?_
       | refine lR ?_
       | refine lG ?_
       | refine lG0 ?_
       | refine tA ?_
       | refine tA0 ?_
       | refine tA1 ?_
       | refine BytW.ofBlk hasM rfl rfl ?_
       | refine AppW.noneB hasM leM rfl rfl rfl leM leM ?_
       | refine AppW.rowB hasM leM rfl rfl holeM leM leM ?_
       | refine AppW.blkB hasM leM rfl rfl holeM rfl rfl leM leM ?_
       | refine AppW.rowS hasM leM rfl rfl holeM (by omega) leM ?_
       | refine AppW.arrS hasM leM rfl rfl rfl holeM (by first | omega | (simp; omega)) leM ?_
       | refine ⟨sideM, ?_⟩
       | fail)
  all_goals (try conv => whnf)
  all_goals rfl
theorem ok_gFirst : (match Try.f49.body with | some c => codeOk Try.f49.ntmps c | none => false) = true := by kernel_rfl
theorem en_gFirst : ∃ fn, Try.prog.funcs[49]? = some fn ∧ (fn.name == "runtime.NumGoroutine") = false ∧ fn.body.isNone = false := ⟨_, Try.func49, by kernel_rfl, by kernel_rfl⟩
theorem gFirst_w (g : GuardV) (b : Nat) (w : World) (h : w.rangeAt b 0 g.enc) : PuAt Try.prog 49 [.pointer (some ⟨b, 0, none⟩)] (.tuple ⟨[.int .i64 g.recv, .int .i64 g.telld, .bool (decide (0 < g.recv))]⟩) w := by
  refine funcR_pure tyOk wide Try.func49 ok_gFirst (Nat.le_of_ble_eq_true rfl) ?_
  have hh := rg_old h (X := []) (by simp)
  repeat' first
    | (conv => whnf
       first
       | intro _
       | (first | refine selSplit (fun h => ?_) (fun h => ?_) | refine condSplit (fun h => ?_) (fun h => ?_)) <;> first | exact (clash (by assumption) h).elim | exact (clash h (by assumption)).elim | (simp only [decide_eq_true_eq, decide_eq_false_iff_not, Bool.not_eq_true', Bool.not_eq_false', Bool.not_true, Bool.not_false, Bool.or_eq_true, Bool.and_eq_true, Bool.or_eq_false_iff, Bool.and_eq_false_iff, beq_iff_eq, beq_eq_false_iff_ne, ne_eq] at h; first | (exfalso; omega) | skip) | skip
       | (first | refine drM (.quiet 0 (.quiet 1 (.quiet 2 (.quiet 3 (.quiet 4 (.quiet 5 (.quiet 6 (.quiet 7 (.quiet 8 (.quiet 9 (.quiet 10 (.quiet 11 (.quiet 12 (.quiet 13 (.quiet 14 (.quiet 15 .done)))))))))))))))) (SubL.refl _) ?_)
       | refine AltP.mk ?_ ?_
       | refine kpM ?_
       | refine SeqP.go ?_
       | refine cdM ?_
       | exact IsV.mk
       | apply GuardP.mk
       | refine Or.inl ⟨_, _, hasM, ?_⟩
       | refine Or.inl ⟨_, _, _, holeM, rfl, rfl, ?_⟩
       | refine lA ?_
       | refine lA0 ?_
       | refine lA1 ?_
       | refine lO ?_
       | refine lO0 ?_
       | refine lO1 ?_
       | refine lR ?_
       | refine lG ?_
       | refine lG0 ?_
       | refine tA ?_
       | refine tA0 ?_
       | refine tA1 ?_
       | refine BytW.ofBlk hasM rfl rfl ?_
       | refine AppW.noneB hasM leM rfl rfl rfl leM leM ?_
       | refine AppW.rowB hasM leM rfl rfl holeM leM leM ?_
       | refine AppW.blkB hasM leM rfl rfl holeM rfl rfl leM leM ?_
       | refine AppW.rowS hasM leM rfl rfl holeM (by omega) leM ?_
       | refine AppW.arrS hasM leM rfl rfl rfl holeM (by first | omega | (simp; omega)) leM ?_
       | refine ⟨sideM, ?_⟩
       | fail)
  all_goals (try conv => whnf)
  all_goals rfl
theorem ok_gVlan : (match Try.f78.body with | some c => codeOk Try.f78.ntmps c | none => false) = true := by kernel_rfl
theorem en_gVlan : ∃ fn, Try.prog.funcs[78]? = some fn ∧ (fn.name == "runtime.NumGoroutine") = false ∧ fn.body.isNone = false := ⟨_, Try.func78, by kernel_rfl, by kernel_rfl⟩
theorem gVlan_w (v : Int) (w : World) : PuAt Try.prog 78 [.int .i64 v] (.bool (vlanB v)) w := by
  refine funcR_pure tyOk wide Try.func78 ok_gVlan (Nat.le_of_ble_eq_true rfl) ?_
  repeat' first
    | (conv => whnf
       first
       | intro _
       | (first | refine selSplit (fun h => ?_) (fun h => ?_) | refine condSplit (fun h => ?_) (fun h => ?_)) <;> first | exact (clash (by assumption) h).elim | exact (clash h (by assumption)).elim | (simp only [decide_eq_true_eq, decide_eq_false_iff_not, Bool.not_eq_true', Bool.not_eq_false', Bool.not_true, Bool.not_false, Bool.or_eq_true, Bool.and_eq_true, Bool.or_eq_false_iff, Bool.and_eq_false_iff, beq_iff_eq, beq_eq_false_iff_ne, ne_eq] at h; first | (exfalso; omega) | skip) | skip
       | refine SeqP.go ?_
       | refine cdM ?_
       | exact IsV.mk
       | apply GuardP.mk
       | refine Or.inl ⟨_, _, hasM, ?_⟩
       | refine Or.inl ⟨_, _, _, holeM, rfl, rfl, ?_⟩
       | refine lA ?_
       | refine lA0 ?_
       | refine lA1 ?_
       | refine lO ?_
       | refine lO0 ?_
       | refine lO1 ?_
       | refine lR ?_
       | refine lG ?_
       | refine lG0 ?_
       | refine tA ?_
       | refine tA0 ?_
       | refine tA1 ?_
       | refine BytW.ofBlk hasM rfl rfl ?_
       | refine AppW.noneB hasM leM rfl rfl rfl leM leM ?_
       | refine AppW.rowB hasM leM rfl rfl holeM leM leM ?_
       | refine AppW.blkB hasM leM rfl rfl holeM rfl rfl leM leM ?_
       | refine AppW.rowS hasM leM rfl rfl holeM (by omega) leM ?_
       | refine AppW.arrS hasM leM rfl rfl rfl holeM (by first | omega | (simp; omega)) leM ?_
       | refine ⟨sideM, ?_⟩
       | fail)
  all_goals (try conv => whnf)
  all_goals first | rfl | skip
def GuardV.at (g : GuardV) (now : Int) : GuardV := if timeB now then { g with now := if now > g.now then now else g.now } else g
theorem ok_gGoes : (match Try.f79.body with | some c => codeOk Try.f79.ntmps c | none => false) = true := by kernel_rfl
theorem en_gGoes : ∃ fn, Try.prog.funcs[79]? = some fn ∧ (fn.name == "runtime.NumGoroutine") = false ∧ fn.body.isNone = false := ⟨_, Try.func79, by kernel_rfl, by kernel_rfl⟩
theorem gGoes_w (g : GuardV) (b : Nat) (T : TypeId) (now : Int) (w : World) (hb : w.heap[b]? = some (.cells ⟨g.enc⟩ T (0, 0))) : OneAt Try.prog 79 [.pointer (some ⟨b, 0, none⟩), .int .i64 now] b g.enc T (.bool (timeB now)) (g.at now).enc w := by
  refine funcR_one tyOk wide Try.func79 ok_gGoes (Nat.le_of_ble_eq_true rfl) hb ?_
  by_cases ht : timeB now = true
  · have hg : g.at now = { g with now := if now > g.now then now else g.now } := by unfold GuardV.at; rw [if_pos ht]
    rw [hg, ht]
    simp only [timeB, Bool.and_eq_true, decide_eq_true_eq] at ht
    repeat' first
      | (conv => whnf
         first
         | intro _
         | (first | refine selSplit (fun h => ?_) (fun h => ?_) | refine condSplit (fun h => ?_) (fun h => ?_)) <;> first | exact (clash (by assumption) h).elim | exact (clash h (by assumption)).elim | (simp only [decide_eq_true_eq, decide_eq_false_iff_not, Bool.not_eq_true', Bool.not_eq_false', Bool.not_true, Bool.not_false, Bool.or_eq_true, Bool.and_eq_true, Bool.or_eq_false_iff, Bool.and_eq_false_iff, beq_iff_eq, beq_eq_false_iff_ne, ne_eq] at h; first | (exfalso; omega) | skip) | skip
         | refine SeqP.go ?_
         | refine cdM ?_
         | exact IsV.mk
         | apply GuardP.mk
         | (refine maxQ rfl rfl rfl rfl rfl ?_)
         | refine Or.inl ⟨_, _, hasM, ?_⟩
         | refine Or.inl ⟨_, _, _, holeM, rfl, rfl, ?_⟩
         | refine lA ?_
         | refine lA0 ?_
         | refine lA1 ?_
         | refine lO ?_
         | refine lO0 ?_
         | refine lO1 ?_
         | refine lR ?_
         | refine lG ?_
         | refine lG0 ?_
         | refine tA ?_
         | refine tA0 ?_
         | refine tA1 ?_
         | refine BytW.ofBlk hasM rfl rfl ?_
         | refine AppW.noneB hasM leM rfl rfl rfl leM leM ?_
         | refine AppW.rowB hasM leM rfl rfl holeM leM leM ?_
         | refine AppW.blkB hasM leM rfl rfl holeM rfl rfl leM leM ?_
         | refine AppW.rowS hasM leM rfl rfl holeM (by omega) leM ?_
         | refine AppW.arrS hasM leM rfl rfl rfl holeM (by first | omega | (simp; omega)) leM ?_
         | refine ⟨sideM, ?_⟩
         | fail)
    all_goals (try conv => whnf)
    all_goals first | exact keepM | skip
  · have hg : g.at now = g := by unfold GuardV.at; rw [if_neg ht]
    rw [hg, Bool.eq_false_iff.2 ht]
    simp only [timeB, Bool.and_eq_true, decide_eq_true_eq] at ht
    repeat' first
      | (conv => whnf
         first
         | intro _
         | (first | refine selSplit (fun h => ?_) (fun h => ?_) | refine condSplit (fun h => ?_) (fun h => ?_)) <;> first | exact (clash (by assumption) h).elim | exact (clash h (by assumption)).elim | (simp only [decide_eq_true_eq, decide_eq_false_iff_not, Bool.not_eq_true', Bool.not_eq_false', Bool.not_true, Bool.not_false, Bool.or_eq_true, Bool.and_eq_true, Bool.or_eq_false_iff, Bool.and_eq_false_iff, beq_iff_eq, beq_eq_false_iff_ne, ne_eq] at h; first | (exfalso; omega) | skip) | skip
         | refine SeqP.go ?_
         | refine cdM ?_
         | exact IsV.mk
         | apply GuardP.mk
         | refine Or.inl ⟨_, _, hasM, ?_⟩
         | refine Or.inl ⟨_, _, _, holeM, rfl, rfl, ?_⟩
         | refine lA ?_
         | refine lA0 ?_
         | refine lA1 ?_
         | refine lO ?_
         | refine lO0 ?_
         | refine lO1 ?_
         | refine lR ?_
         | refine lG ?_
         | refine lG0 ?_
         | refine tA ?_
         | refine tA0 ?_
         | refine tA1 ?_
         | refine BytW.ofBlk hasM rfl rfl ?_
         | refine AppW.noneB hasM leM rfl rfl rfl leM leM ?_
         | refine AppW.rowB hasM leM rfl rfl holeM leM leM ?_
         | refine AppW.blkB hasM leM rfl rfl holeM rfl rfl leM leM ?_
         | refine AppW.rowS hasM leM rfl rfl holeM (by omega) leM ?_
         | refine AppW.arrS hasM leM rfl rfl rfl holeM (by first | omega | (simp; omega)) leM ?_
         | refine ⟨sideM, ?_⟩
         | fail)
    all_goals (try conv => whnf)
    all_goals first | exact keepM | skip
def mapE (M : List (Int × Int)) : List (Value × Value) := M.map fun p => (.int .i64 p.1, .int .i64 p.2)
theorem mapE_good (M : List (Int × Int)) : ∀ p ∈ mapE M, ∃ n, p.1 = .int .i64 n := by
  intro p hp
  obtain ⟨q, _, rfl⟩ := List.mem_map.1 hp
  exact ⟨_, rfl⟩
theorem ok_gBlocked : (match Try.f44.body with | some c => codeOk Try.f44.ntmps c | none => false) = true := by kernel_rfl
theorem en_gBlocked : ∃ fn, Try.prog.funcs[44]? = some fn ∧ (fn.name == "runtime.NumGoroutine") = false ∧ fn.body.isNone = false := ⟨_, Try.func44, by kernel_rfl, by kernel_rfl⟩
theorem gBlocked_w (g : GuardV) (b : Nat) (T : TypeId) (v now u : Int) (ok : Bool) (M : List (Int × Int)) (w : World) (hS : St w (feet [.blk b g.enc T, .map g.mp (mapE M)]) [.blk b g.enc T, .map g.mp (mapE M)] w) (hA : MAns (mapE M) (.int .i64 v) (.int .i64 0) (.int .i64 u) ok) :
    FnX Try.prog 44 [.pointer (some ⟨b, 0, none⟩), .int .i64 v, .int .i64 now] [.blk b g.enc T, .map g.mp (mapE M)] (fun _ : Unit => True) (fun _ => .bool (timeB now && ok && decide ((g.at now).now < u))) (fun _ => [.blk b (g.at now).enc T, .map g.mp (mapE M)]) w := by
  refine funcR_x tyOk wide Try.func44 ok_gBlocked (Nat.le_of_ble_eq_true rfl) hS ?_
  repeat' first
    | (conv => whnf
       first
       | intro _
       | (first | refine selSplit (fun h => ?_) (fun h => ?_) | refine condSplit (fun h => ?_) (fun h => ?_)) <;> first | exact (clash (by assumption) h).elim | exact (clash h (by assumption)).elim | (simp only [decide_eq_true_eq, decide_eq_false_iff_not, Bool.not_eq_true', Bool.not_eq_false', Bool.not_true, Bool.not_false, Bool.or_eq_true, Bool.and_eq_true, Bool.or_eq_false_iff, Bool.and_eq_false_iff, beq_iff_eq, beq_eq_false_iff_ne, ne_eq] at h; first | (exfalso; omega) | skip) | skip
       | refine SeqP.go ?_
       | refine cdM ?_
       | exact IsV.mk
       | apply GuardP.mk
       | (refine callOne holeM en_gGoes (fun w hw => gGoes_w g b T now w (hw.ok (.blk b g.enc T) List.mem_cons_self)) ?_)
       | (refine mapLook hasM rfl Try.underlying142 (KeyT.int Try.underlying3) (z := .int .i64 0) (by kernel_rfl) rfl rfl ⟨_, rfl⟩ (mapE_good _) hA ?_)
       | refine Or.inl ⟨_, _, hasM, ?_⟩
       | refine Or.inl ⟨_, _, _, holeM, rfl, rfl, ?_⟩
       | refine lA ?_
       | refine lA0 ?_
       | refine lA1 ?_
       | refine lO ?_
       | refine lO0 ?_
       | refine lO1 ?_
       | refine lR ?_
       | refine lG ?_
       | refine lG0 ?_
       | refine tA ?_
       | refine tA0 ?_
       | refine tA1 ?_
       | refine BytW.ofBlk hasM rfl rfl ?_
       | refine AppW.noneB hasM leM rfl rfl rfl leM leM ?_
       | refine AppW.rowB hasM leM rfl rfl holeM leM leM ?_
       | refine AppW.blkB hasM leM rfl rfl holeM rfl rfl leM leM ?_
       | refine AppW.rowS hasM leM rfl rfl holeM (by omega) leM ?_
       | refine AppW.arrS hasM leM rfl rfl rfl holeM (by first | omega | (simp; omega)) leM ?_
       | refine ⟨sideM, ?_⟩
       | fail)
  all_goals (try conv => whnf)
  all_goals exact EndX.mk () trivial rfl Ent.refl
theorem ints_one (l : List Int) : (ints l).flatten.all (·.oneCell') = true := by
  induction l with
  | nil => rfl
  | cons x l ih => unfold ints at ih ⊢; rw [List.map_cons, List.flatten_cons, List.all_append, ih]; rfl
theorem ok_iClone : (match Try.f75.body with | some c => codeOk Try.f75.ntmps c | none => false) = true := by kernel_rfl
theorem en_iClone : ∃ fn, Try.prog.funcs[75]? = some fn ∧ (fn.name == "runtime.NumGoroutine") = false ∧ fn.body.isNone = false := ⟨_, Try.func75, by kernel_rfl, by kernel_rfl⟩
theorem iClone_w (ps : List Int) (A : Option Addr) (c : Nat) (w : World) (h : SlAt w A 1 (ints ps)) (hb : ps.length ≤ 1000) : FnX Try.prog 75 [.slice A ps.length c] [] (fun s : Option Addr × Nat => IsRow (.slice s.1 ps.length s.2) ps.length) (fun s => .slice s.1 ps.length s.2) (fun s => [.arr (.slice s.1 ps.length s.2) 3 1 (ints ps)]) w := by
  refine funcR_x tyOk wide Try.func75 ok_iClone (Nat.le_of_ble_eq_true rfl) (St.start0 w) ?_
  cases A with
  | none =>
    obtain rfl : ps = [] := by
      cases ps with
      | nil => rfl
      | cons p ps => obtain ⟨b, o, e, _⟩ := h.at_ (by simp [ints]); cases e
    repeat' first
      | (conv => whnf
         first
         | intro _
         | (first | refine selSplit (fun h => ?_) (fun h => ?_) | refine condSplit (fun h => ?_) (fun h => ?_)) <;> first | exact (clash (by assumption) h).elim | exact (clash h (by assumption)).elim | (simp only [decide_eq_true_eq, decide_eq_false_iff_not, Bool.not_eq_true', Bool.not_eq_false', Bool.not_true, Bool.not_false, Bool.or_eq_true, Bool.and_eq_true, Bool.or_eq_false_iff, Bool.and_eq_false_iff, beq_iff_eq, beq_eq_false_iff_ne, ne_eq] at h; first | (exfalso; omega) | skip) | skip
         | refine SeqP.go ?_
         | refine cdM ?_
         | exact IsV.mk
         | apply GuardP.mk
         | refine Or.inl ⟨_, _, hasM, ?_⟩
         | refine Or.inl ⟨_, _, _, holeM, rfl, rfl, ?_⟩
         | refine lA ?_
         | refine lA0 ?_
         | refine lA1 ?_
         | refine lO ?_
         | refine lO0 ?_
         | refine lO1 ?_
         | refine lR ?_
         | refine lG ?_
         | refine lG0 ?_
         | refine tA ?_
         | refine tA0 ?_
         | refine tA1 ?_
         | refine BytW.ofBlk hasM rfl rfl ?_
         | refine AppW.noneB hasM leM rfl rfl rfl leM leM ?_
         | refine AppW.rowB hasM leM rfl rfl holeM leM leM ?_
         | refine AppW.blkB hasM leM rfl rfl holeM rfl rfl leM leM ?_
         | refine AppW.rowS hasM leM rfl rfl holeM (by omega) leM ?_
         | refine AppW.arrS hasM leM rfl rfl rfl holeM (by first | omega | (simp; omega)) leM ?_
         | refine ⟨sideM, ?_⟩
         | fail)
    all_goals (try conv => whnf)
    all_goals exact ⟨(none, 0), .inl ⟨rfl, rfl⟩, rfl, nilArr⟩
  | some a =>
    cases ps with
    | nil =>
      obtain ⟨b, o, _ | sp⟩ := a
      · have ho : Old w [] b o 1 [] := ⟨by simp, fun H w hw j v hv => by simp at hv⟩
        repeat' first
          | (conv => whnf
             first
             | intro _
             | (first | refine selSplit (fun h => ?_) (fun h => ?_) | refine condSplit (fun h => ?_) (fun h => ?_)) <;> first | exact (clash (by assumption) h).elim | exact (clash h (by assumption)).elim | (simp only [decide_eq_true_eq, decide_eq_false_iff_not, Bool.not_eq_true', Bool.not_eq_false', Bool.not_true, Bool.not_false, Bool.or_eq_true, Bool.and_eq_true, Bool.or_eq_false_iff, Bool.and_eq_false_iff, beq_iff_eq, beq_eq_false_iff_ne, ne_eq] at h; first | (exfalso; omega) | skip) | skip
             | refine SeqP.go ?_
             | refine cdM ?_
             | exact IsV.mk
             | apply GuardP.mk
             | (refine AppW.cloneS (l := []) ho (Nat.le_of_ble_eq_true rfl) rfl holeM rfl rfl (Nat.zero_le _) (Nat.le_of_ble_eq_true rfl) ?_)
             | refine Or.inl ⟨_, _, hasM, ?_⟩
             | refine Or.inl ⟨_, _, _, holeM, rfl, rfl, ?_⟩
             | refine lA ?_
             | refine lA0 ?_
             | refine lA1 ?_
             | refine lO ?_
             | refine lO0 ?_
             | refine lO1 ?_
             | refine lR ?_
             | refine lG ?_
             | refine lG0 ?_
             | refine tA ?_
             | refine tA0 ?_
             | refine tA1 ?_
             | refine BytW.ofBlk hasM rfl rfl ?_
             | refine AppW.noneB hasM leM rfl rfl rfl leM leM ?_
             | refine AppW.rowB hasM leM rfl rfl holeM leM leM ?_
             | refine AppW.blkB hasM leM rfl rfl holeM rfl rfl leM leM ?_
             | refine AppW.rowS hasM leM rfl rfl holeM (by omega) leM ?_
             | refine AppW.arrS hasM leM rfl rfl rfl holeM (by first | omega | (simp; omega)) leM ?_
             | refine ⟨sideM, ?_⟩
             | fail)
        all_goals (try conv => whnf)
        all_goals exact ⟨(_, _), by assumption, rfl, Ent.refl⟩
      · skip
        repeat' first
          | (conv => whnf
             first
             | intro _
             | (first | refine selSplit (fun h => ?_) (fun h => ?_) | refine condSplit (fun h => ?_) (fun h => ?_)) <;> first | exact (clash (by assumption) h).elim | exact (clash h (by assumption)).elim | (simp only [decide_eq_true_eq, decide_eq_false_iff_not, Bool.not_eq_true', Bool.not_eq_false', Bool.not_true, Bool.not_false, Bool.or_eq_true, Bool.and_eq_true, Bool.or_eq_false_iff, Bool.and_eq_false_iff, beq_iff_eq, beq_eq_false_iff_ne, ne_eq] at h; first | (exfalso; omega) | skip) | skip
             | refine SeqP.go ?_
             | refine cdM ?_
             | exact IsV.mk
             | apply GuardP.mk
             | (refine appNil rfl rfl rfl rfl Try.underlying29 Try.underlying29 (by kernel_rfl) rfl rfl (Nat.le_refl _) ?_)
             | refine Or.inl ⟨_, _, hasM, ?_⟩
             | refine Or.inl ⟨_, _, _, holeM, rfl, rfl, ?_⟩
             | refine lA ?_
             | refine lA0 ?_
             | refine lA1 ?_
             | refine lO ?_
             | refine lO0 ?_
             | refine lO1 ?_
             | refine lR ?_
             | refine lG ?_
             | refine lG0 ?_
             | refine tA ?_
             | refine tA0 ?_
             | refine tA1 ?_
             | refine BytW.ofBlk hasM rfl rfl ?_
             | refine AppW.noneB hasM leM rfl rfl rfl leM leM ?_
             | refine AppW.rowB hasM leM rfl rfl holeM leM leM ?_
             | refine AppW.blkB hasM leM rfl rfl holeM rfl rfl leM leM ?_
             | refine AppW.rowS hasM leM rfl rfl holeM (by omega) leM ?_
             | refine AppW.arrS hasM leM rfl rfl rfl holeM (by first | omega | (simp; omega)) leM ?_
             | refine ⟨sideM, ?_⟩
             | fail)
        all_goals (try conv => whnf)
        all_goals exact ⟨(_, _), .inr ⟨_, _, rfl, Nat.le_refl _⟩, rfl, blkArr0⟩
    | cons p ps =>
      obtain ⟨b, o, e, hr⟩ := h.at_ (by simp [ints])
      cases e
      have ho := h.old (X := []) (by simp [ints]) (by simp)
      have hone := ints_one (p :: ps)
      repeat' first
        | (conv => whnf
           first
           | intro _
           | (first | refine selSplit (fun h => ?_) (fun h => ?_) | refine condSplit (fun h => ?_) (fun h => ?_)) <;> first | exact (clash (by assumption) h).elim | exact (clash h (by assumption)).elim | (simp only [decide_eq_true_eq, decide_eq_false_iff_not, Bool.not_eq_true', Bool.not_eq_false', Bool.not_true, Bool.not_false, Bool.or_eq_true, Bool.and_eq_true, Bool.or_eq_false_iff, Bool.and_eq_false_iff, beq_iff_eq, beq_eq_false_iff_ne, ne_eq] at h; first | (exfalso; omega) | skip) | skip
           | refine SeqP.go ?_
           | refine cdM ?_
           | exact IsV.mk
           | apply GuardP.mk
           | (refine AppW.cloneS (l := ints (p :: ps)) ho (Nat.le_of_ble_eq_true rfl) hone holeM rfl (by rw [ints_len]) (by omega) (Nat.le_of_ble_eq_true rfl) ?_)
           | refine Or.inl ⟨_, _, hasM, ?_⟩
           | refine Or.inl ⟨_, _, _, holeM, rfl, rfl, ?_⟩
           | refine lA ?_
           | refine lA0 ?_
           | refine lA1 ?_
           | refine lO ?_
           | refine lO0 ?_
           | refine lO1 ?_
           | refine lR ?_
           | refine lG ?_
           | refine lG0 ?_
           | refine tA ?_
           | refine tA0 ?_
           | refine tA1 ?_
           | refine BytW.ofBlk hasM rfl rfl ?_
           | refine AppW.noneB hasM leM rfl rfl rfl leM leM ?_
           | refine AppW.rowB hasM leM rfl rfl holeM leM leM ?_
           | refine AppW.blkB hasM leM rfl rfl holeM rfl rfl leM leM ?_
           | refine AppW.rowS hasM leM rfl rfl holeM (by omega) leM ?_
           | refine AppW.arrS hasM leM rfl rfl rfl holeM (by first | omega | (simp; omega)) leM ?_
           | refine ⟨sideM, ?_⟩
           | fail)
      all_goals (try conv => whnf)
      all_goals exact ⟨(_, _), by assumption, rfl, Ent.refl⟩
theorem ok_gNew : (match Try.f40.body with | some c => codeOk Try.f40.ntmps c | none => false) = true := by kernel_rfl
theorem en_gNew : ∃ fn, Try.prog.funcs[40]? = some fn ∧ (fn.name == "runtime.NumGoroutine") = false ∧ fn.body.isNone = false := ⟨_, Try.func40, by kernel_rfl, by kernel_rfl⟩
theorem gNew_w (t : Bool) (n : Int) (l : List Int) (A : Option Addr) (c : Nat) (hello : Int) (w : World) (hs : SlAt w A 1 (ints l)) (hl : l.length ≤ 1000) (hr : vRightB t n l = true) (hh : 1 ≤ hello ∧ hello ≤ 10) :
    FnX Try.prog 40 [.agg ⟨[.bool t, .int .i64 n, .slice A l.length c]⟩, .int .i64 hello] [] (fun _ : Nat × Nat × Option Addr × Nat => True) (fun s => .tuple ⟨[.pointer (some ⟨s.1, 0, none⟩), .int .i64 0]⟩)
      (fun s => [.blk s.1 (GuardV.enc ⟨t, n, s.2.2.1, l.length, s.2.2.2, 3 * hello, 0, s.2.1, 0, 0, 0, 0, 0, 0⟩) 159, .map s.2.1 [], .arr (.slice s.2.2.1 l.length s.2.2.2) 3 1 (ints l)]) w := by
  refine funcR_x tyOk wide Try.func40 ok_gNew (Nat.le_of_ble_eq_true rfl) (St.start0 w) ?_
  have hR := fun w hw => vRight_w t n l A c w hw hl
  rw [hr] at hR
  have hw : IntKind.i64.wrap (3 * hello) = 3 * hello := w64 (by omega) (by omega)
  repeat' first
    | (conv => whnf
       first
       | intro _
       | (first | refine selSplit (fun h => ?_) (fun h => ?_) | refine condSplit (fun h => ?_) (fun h => ?_)) <;> first | exact (clash (by assumption) h).elim | exact (clash h (by assumption)).elim | (simp only [decide_eq_true_eq, decide_eq_false_iff_not, Bool.not_eq_true', Bool.not_eq_false', Bool.not_true, Bool.not_false, Bool.or_eq_true, Bool.and_eq_true, Bool.or_eq_false_iff, Bool.and_eq_false_iff, beq_iff_eq, beq_eq_false_iff_ne, ne_eq] at h; first | (exfalso; omega) | skip) | skip
       | refine SeqP.go ?_
       | refine cdM ?_
       | exact IsV.mk
       | apply GuardP.mk
       | ((first | apply callPure' en_vRight | apply callQuiet' en_vRight); · exact fun w hw => hR w (hs.later hw))
       | (refine callX takeM en_iClone (fun w hw => iClone_w l A c w (hs.later hw) hl) ?_)
       | (refine mapMake rfl (fun m => ?_))
       | refine Or.inl ⟨_, _, hasM, ?_⟩
       | refine Or.inl ⟨_, _, _, holeM, rfl, rfl, ?_⟩
       | refine lA ?_
       | refine lA0 ?_
       | refine lA1 ?_
       | refine lO ?_
       | refine lO0 ?_
       | refine lO1 ?_
       | refine lR ?_
       | refine lG ?_
       | refine lG0 ?_
       | refine tA ?_
       | refine tA0 ?_
       | refine tA1 ?_
       | refine BytW.ofBlk hasM rfl rfl ?_
       | refine AppW.noneB hasM leM rfl rfl rfl leM leM ?_
       | refine AppW.rowB hasM leM rfl rfl holeM leM leM ?_
       | refine AppW.blkB hasM leM rfl rfl holeM rfl rfl leM leM ?_
       | refine AppW.rowS hasM leM rfl rfl holeM (by omega) leM ?_
       | refine AppW.arrS hasM leM rfl rfl rfl holeM (by first | omega | (simp; omega)) leM ?_
       | refine ⟨sideM, ?_⟩
       | fail)
  all_goals (try conv => whnf)
  all_goals (try rw [hw]); exact EndX.mk (_, _, _, _) trivial rfl entM
theorem ok_gOnce : (match Try.f82.body with | some c => codeOk Try.f82.ntmps c | none => false) = true := by kernel_rfl
theorem en_gOnce : ∃ fn, Try.prog.funcs[82]? = some fn ∧ (fn.name == "runtime.NumGoroutine") = false ∧ fn.body.isNone = false := ⟨_, Try.func82, by kernel_rfl, by kernel_rfl⟩
theorem gOnce_w (g : GuardV) (b br bt bg : Nat) (T T1 T2 T3 : TypeId) (r t : Int) (w : World) (hS : St w (feet [.blk b g.enc T, .blk br [.int .i64 r] T1, .blk bt [.int .i64 t] T2, .blk bg [.pointer (some ⟨b, 0, none⟩)] T3]) [.blk b g.enc T, .blk br [.int .i64 r] T1, .blk bt [.int .i64 t] T2, .blk bg [.pointer (some ⟨b, 0, none⟩)] T3] w) :
    FnX Try.prog 82 [.pointer (some ⟨br, 0, none⟩), .pointer (some ⟨bt, 0, none⟩), .pointer (some ⟨bg, 0, none⟩)] [.blk b g.enc T, .blk br [.int .i64 r] T1, .blk bt [.int .i64 t] T2, .blk bg [.pointer (some ⟨b, 0, none⟩)] T3] (fun _ : Unit => True) (fun _ => .tuple ⟨[]⟩)
      (fun _ => [.blk b { g with recv := r, telld := t }.enc T, .blk br [.int .i64 r] T1, .blk bt [.int .i64 t] T2, .blk bg [.pointer (some ⟨b, 0, none⟩)] T3]) w := by
  refine funcR_x tyOk wide Try.func82 ok_gOnce (Nat.le_of_ble_eq_true rfl) hS ?_
  repeat' first
    | (conv => whnf
       first
       | intro _
       | (first | refine selSplit (fun h => ?_) (fun h => ?_) | refine condSplit (fun h => ?_) (fun h => ?_)) <;> first | exact (clash (by assumption) h).elim | exact (clash h (by assumption)).elim | (simp only [decide_eq_true_eq, decide_eq_false_iff_not, Bool.not_eq_true', Bool.not_eq_false', Bool.not_true, Bool.not_false, Bool.or_eq_true, Bool.and_eq_true, Bool.or_eq_false_iff, Bool.and_eq_false_iff, beq_iff_eq, beq_eq_false_iff_ne, ne_eq] at h; first | (exfalso; omega) | skip) | skip
       | (first | refine drM (.quiet 0 (.quiet 1 (.quiet 2 (.quiet 3 (.quiet 4 (.quiet 5 (.last 6 true (.last 7 false (.last 8 false (.last 9 false .done)))))))))) (SubL.of (List.Sublist.cons _ (List.Sublist.refl _))) ?_)
       | refine AltP.mk ?_ ?_
       | refine kpM ?_
       | refine SeqP.go ?_
       | refine cdM ?_
       | exact IsV.mk
       | apply GuardP.mk
       | refine Or.inl ⟨_, _, hasM, ?_⟩
       | refine Or.inl ⟨_, _, _, holeM, rfl, rfl, ?_⟩
       | refine lA ?_
       | refine lA0 ?_
       | refine lA1 ?_
       | refine lO ?_
       | refine lO0 ?_
       | refine lO1 ?_
       | refine lR ?_
       | refine lG ?_
       | refine lG0 ?_
       | refine tA ?_
       | refine tA0 ?_
       | refine tA1 ?_
       | refine BytW.ofBlk hasM rfl rfl ?_
       | refine AppW.noneB hasM leM rfl rfl rfl leM leM ?_
       | refine AppW.rowB hasM leM rfl rfl holeM leM leM ?_
       | refine AppW.blkB hasM leM rfl rfl holeM rfl rfl leM leM ?_
       | refine AppW.rowS hasM leM rfl rfl holeM (by omega) leM ?_
       | refine AppW.arrS hasM leM rfl rfl rfl holeM (by first | omega | (simp; omega)) leM ?_
       | refine ⟨sideM, ?_⟩
       | fail)
  all_goals (try conv => whnf)
  all_goals exact EndX.mk () trivial rfl Ent.refl
theorem gNew_no (t : Bool) (n : Int) (l : List Int) (A : Option Addr) (c : Nat) (hello : Int) (w : World) (hs : SlAt w A 1 (ints l)) (hl : l.length ≤ 1000) (hn : vRightB t n l = false ∨ ¬ (1 ≤ hello ∧ hello ≤ 10)) :
    PuAt Try.prog 40 [.agg ⟨[.bool t, .int .i64 n, .slice A l.length c]⟩, .int .i64 hello] (.tuple ⟨[.pointer none, .int .i64 (if vRightB t n l = false then 2 else 1)]⟩) w := by
  refine funcR_pure tyOk wide Try.func40 ok_gNew (Nat.le_of_ble_eq_true rfl) ?_
  have hR := fun w hw => vRight_w t n l A c w hw hl
  cases hr : vRightB t n l with
  | false =>
    rw [hr] at hR
    repeat' first
      | (conv => whnf
         first
         | intro _
         | (first | refine selSplit (fun h => ?_) (fun h => ?_) | refine condSplit (fun h => ?_) (fun h => ?_)) <;> first | exact (clash (by assumption) h).elim | exact (clash h (by assumption)).elim | (simp only [decide_eq_true_eq, decide_eq_false_iff_not, Bool.not_eq_true', Bool.not_eq_false', Bool.not_true, Bool.not_false, Bool.or_eq_true, Bool.and_eq_true, Bool.or_eq_false_iff, Bool.and_eq_false_iff, beq_iff_eq, beq_eq_false_iff_ne, ne_eq] at h; first | (exfalso; omega) | skip) | skip
         | refine SeqP.go ?_
         | refine cdM ?_
         | exact IsV.mk
         | apply GuardP.mk
         | ((first | apply callPure' en_vRight | apply callQuiet' en_vRight); · exact fun w hw => hR w (hs.later hw))
         | refine Or.inl ⟨_, _, hasM, ?_⟩
         | refine Or.inl ⟨_, _, _, holeM, rfl, rfl, ?_⟩
         | refine lA ?_
         | refine lA0 ?_
         | refine lA1 ?_
         | refine lO ?_
         | refine lO0 ?_
         | refine lO1 ?_
         | refine lR ?_
         | refine lG ?_
         | refine lG0 ?_
         | refine tA ?_
         | refine tA0 ?_
         | refine tA1 ?_
         | refine BytW.ofBlk hasM rfl rfl ?_
         | refine AppW.noneB hasM leM rfl rfl rfl leM leM ?_
         | refine AppW.rowB hasM leM rfl rfl holeM leM leM ?_
         | refine AppW.blkB hasM leM rfl rfl holeM rfl rfl leM leM ?_
         | refine AppW.rowS hasM leM rfl rfl holeM (by omega) leM ?_
         | refine AppW.arrS hasM leM rfl rfl rfl holeM (by first | omega | (simp; omega)) leM ?_
         | refine ⟨sideM, ?_⟩
         | fail)
    all_goals (try conv => whnf)
    all_goals first | rfl | skip
  | true =>
    rw [hr] at hR
    have hn' : hello < 1 ∨ 10 < hello := by rcases hn with h | h; · rw [hr] at h; cases h
                                            · omega
    repeat' first
      | (conv => whnf
         first
         | intro _
         | (first | refine selSplit (fun h => ?_) (fun h => ?_) | refine condSplit (fun h => ?_) (fun h => ?_)) <;> first | exact (clash (by assumption) h).elim | exact (clash h (by assumption)).elim | (simp only [decide_eq_true_eq, decide_eq_false_iff_not, Bool.not_eq_true', Bool.not_eq_false', Bool.not_true, Bool.not_false, Bool.or_eq_true, Bool.and_eq_true, Bool.or_eq_false_iff, Bool.and_eq_false_iff, beq_iff_eq, beq_eq_false_iff_ne, ne_eq] at h; first | (exfalso; omega) | skip) | skip
         | refine SeqP.go ?_
         | refine cdM ?_
         | exact IsV.mk
         | apply GuardP.mk
         | ((first | apply callPure' en_vRight | apply callQuiet' en_vRight); · exact fun w hw => hR w (hs.later hw))
         | refine Or.inl ⟨_, _, hasM, ?_⟩
         | refine Or.inl ⟨_, _, _, holeM, rfl, rfl, ?_⟩
         | refine lA ?_
         | refine lA0 ?_
         | refine lA1 ?_
         | refine lO ?_
         | refine lO0 ?_
         | refine lO1 ?_
         | refine lR ?_
         | refine lG ?_
         | refine lG0 ?_
         | refine tA ?_
         | refine tA0 ?_
         | refine tA1 ?_
         | refine BytW.ofBlk hasM rfl rfl ?_
         | refine AppW.noneB hasM leM rfl rfl rfl leM leM ?_
         | refine AppW.rowB hasM leM rfl rfl holeM leM leM ?_
         | refine AppW.blkB hasM leM rfl rfl holeM rfl rfl leM leM ?_
         | refine AppW.rowS hasM leM rfl rfl holeM (by omega) leM ?_
         | refine AppW.arrS hasM leM rfl rfl rfl holeM (by first | omega | (simp; omega)) leM ?_
         | refine ⟨sideM, ?_⟩
         | fail)
    all_goals (try conv => whnf)
    all_goals first | rfl | skip
end Go.Proofs.Ytgjdmlgdgbehoaa.Am
