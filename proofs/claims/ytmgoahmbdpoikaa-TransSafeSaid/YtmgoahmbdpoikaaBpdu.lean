/- Package bpdu. -/
import Derived.Test.YtmgoahmbdpoikaaByt
import Derived.Test.YtmgoahmbdpoikaaAm15
import Derived.Test.YtmgoahmbdpoikaaVec2
set_option linter.unusedVariables false
set_option linter.unusedSimpArgs false
set_option maxRecDepth 100000
set_option maxHeartbeats 4000000
namespace Go.Proofs.Ytmgoahmbdpoikaa.Am
open Go Go.RowKit
def sizeV (k : Int) : Int := if k = 1 then 35 else if k = 2 then 4 else if k = 3 then 36 else 0
theorem sizeAt (r : Int) (h0 : 0 ≤ r) (h5 : r < 4) : [Value.int .i64 0, .int .i64 35, .int .i64 4, .int .i64 36][r.toNat]? = some (.int .i64 (sizeV r)) := by
  rcases (show r = 0 ∨ r = 1 ∨ r = 2 ∨ r = 3 by omega) with rfl | rfl | rfl | rfl <;> rfl
def roleV (f : Int) : Int := bits .and .i64 (f.fdiv (2 ^ 2)) 3
theorem ok_bRole : (match Try.f20.body with | some c => codeOk Try.f20.ntmps c | none => false) = true := by kernel_rfl
theorem en_bRole : ∃ fn, Try.prog.funcs[20]? = some fn ∧ (fn.name == "runtime.NumGoroutine") = false ∧ fn.body.isNone = false := ⟨_, Try.func20, by kernel_rfl, by kernel_rfl⟩
theorem bRole_w (f : Int) (w : World) : PuAt Try.prog 20 [.int .i64 f] (.int .i64 (roleV f)) w := by
  refine funcR_pure tyOk wide Try.func20 ok_bRole (Nat.le_of_ble_eq_true rfl) ?_
  repeat' first
    | (conv => whnf
       first
       | intro _
       | (first | refine selSplit (fun h => ?_) (fun h => ?_) | refine condSplit (fun h => ?_) (fun h => ?_)) <;> first | exact (clash (by assumption) h).elim | exact (clash h (by assumption)).elim | (simp only [decide_eq_true_eq, decide_eq_false_iff_not, Bool.not_eq_true', Bool.not_eq_false', Bool.not_true, Bool.not_false, Bool.or_eq_true, Bool.and_eq_true, Bool.or_eq_false_iff, Bool.and_eq_false_iff, beq_iff_eq, beq_eq_false_iff_ne, ne_eq] at h; first | (exfalso; omega) | skip) | skip
       | refine SeqP.go ?_
       | refine cdM ?_
       | exact IsV.mk
       | apply GuardP.mk
       | (first | refine eqlW eqS40 rfl rfl rfl fitM fitM ?_ | refine neqW eqS40 rfl rfl rfl fitM fitM ?_)
       | refine Or.inl ⟨_, _, hasM, ?_⟩
       | refine Or.inl ⟨_, _, _, holeM, rfl, rfl, ?_⟩
       | refine lA ?_
       | refine lA0 ?_
       | refine lA1 ?_
       | refine lO ?_
       | refine lO0 ?_
       | refine lO1 ?_
       | refine lR ?_
       | refine lG ?_
       | refine lG0 ?_
       | refine tA ?_
       | refine tA0 ?_
       | refine tA1 ?_
       | refine BytW.ofBlk hasM rfl rfl ?_
       | refine AppW.noneB hasM leM rfl rfl rfl leM leM ?_
       | refine AppW.rowB hasM leM rfl rfl holeM leM leM ?_
       | refine AppW.blkB hasM leM rfl rfl holeM rfl rfl leM leM ?_
       | refine AppW.rowS hasM leM rfl rfl holeM (by omega) leM ?_
       | refine AppW.arrS hasM leM rfl rfl rfl holeM (by first | omega | (simp; omega)) leM ?_
       | refine ⟨sideM, ?_⟩
       | fail)
  all_goals (try conv => whnf)
  all_goals rfl
def kindV (v t : Int) : Int := if t = 128 then 2 else if t = 0 then 1 else if t = 2 ∧ 2 ≤ v then 3 else 0
def in16 (t : Int) : Bool := !(decide (t < 0) || decide (65535 < t))
def noticeV : BpduV := { BpduV.zero with Kind := 2 }
def bRightV (b : BpduV) : Bool :=
  if b.Kind = 2 then allEq b.enc noticeV.enc
  else (in16 b.Age && in16 b.Max && in16 b.Hello && in16 b.Delay) && ((decide (b.Kind = 1) || decide (b.Kind = 3)) && decide (0 ≤ b.Flags) && decide (b.Flags ≤ 255) && decide (b.Vector_Cost < 4294967296) && decide (b.Vector_Port ≤ 65535))
theorem ok_bRight : (match Try.f19.body with | some c => codeOk Try.f19.ntmps c | none => false) = true := by kernel_rfl
theorem en_bRight : ∃ fn, Try.prog.funcs[19]? = some fn ∧ (fn.name == "runtime.NumGoroutine") = false ∧ fn.body.isNone = false := ⟨_, Try.func19, by kernel_rfl, by kernel_rfl⟩
theorem bRight_w (b : BpduV) (w : World) : PuAt Try.prog 19 [.agg ⟨b.enc⟩] (.bool (bRightV b)) w := by
  refine funcR_pure tyOk wide Try.func19 ok_bRight (Nat.le_of_ble_eq_true rfl) ?_
  repeat' first
    | (conv => whnf
       first
       | intro _
       | (first | refine selSplit (fun h => ?_) (fun h => ?_) | refine condSplit (fun h => ?_) (fun h => ?_)) <;> first | exact (clash (by assumption) h).elim | exact (clash h (by assumption)).elim | (simp only [decide_eq_true_eq, decide_eq_false_iff_not, Bool.not_eq_true', Bool.not_eq_false', Bool.not_true, Bool.not_false, Bool.or_eq_true, Bool.and_eq_true, Bool.or_eq_false_iff, Bool.and_eq_false_iff, beq_iff_eq, beq_eq_false_iff_ne, ne_eq] at h; first | (exfalso; omega) | skip) | skip
       | refine SeqP.go ?_
       | refine cdM ?_
       | exact IsV.mk
       | apply GuardP.mk
       | (first | refine eqlW eqS40 rfl rfl rfl fitM fitM ?_ | refine neqW eqS40 rfl rfl rfl fitM fitM ?_)
       | refine Or.inl ⟨_, _, hasM, ?_⟩
       | refine Or.inl ⟨_, _, _, holeM, rfl, rfl, ?_⟩
       | refine lA ?_
       | refine lA0 ?_
       | refine lA1 ?_
       | refine lO ?_
       | refine lO0 ?_
       | refine lO1 ?_
       | refine lR ?_
       | refine lG ?_
       | refine lG0 ?_
       | refine tA ?_
       | refine tA0 ?_
       | refine tA1 ?_
       | refine BytW.ofBlk hasM rfl rfl ?_
       | refine AppW.noneB hasM leM rfl rfl rfl leM leM ?_
       | refine AppW.rowB hasM leM rfl rfl holeM leM leM ?_
       | refine AppW.blkB hasM leM rfl rfl holeM rfl rfl leM leM ?_
       | refine AppW.rowS hasM leM rfl rfl holeM (by omega) leM ?_
       | refine AppW.arrS hasM leM rfl rfl rfl holeM (by first | omega | (simp; omega)) leM ?_
       | refine ⟨sideM, ?_⟩
       | fail)
  all_goals (try conv => whnf)
  · refine v_bool ?_
    unfold bRightV
    rw [if_pos (by assumption)]
    rfl
  · rename_i b1 b2
    refine .mk Nat (fun k S H => (k ≤ 4 ∧ ((1 ≤ k → in16 b.Age = true) ∧ (2 ≤ k → in16 b.Max = true) ∧ (3 ≤ k → in16 b.Hello = true) ∧ (4 ≤ k → in16 b.Delay = true))) ∧ S = [(21, .int .i64 k), (20, .int .i64 4), (19, .slice (some ⟨b2, 0, none⟩) 4 4), (1, .pointer (some ⟨b1, 0, none⟩))] ∧ H = [.blk b2 [.int .i64 b.Age, .int .i64 b.Max, .int .i64 b.Hello, .int .i64 b.Delay] 3, .blk b1 b.enc 40]) (fun k => 4 - k) 0 _ _ ⟨⟨by omega, by omega, by omega, by omega, by omega⟩, rfl, rfl⟩ subM (Ent.of keepM) ?_
    rintro k S1 H1 ⟨⟨hk, hin⟩, rfl, rfl⟩
    rcases (show k = 0 ∨ k = 1 ∨ k = 2 ∨ k = 3 ∨ k = 4 by omega) with rfl | rfl | rfl | rfl | rfl
    all_goals
      repeat' first
        | (conv => whnf
           first
           | intro _
           | (first | refine selSplit (fun h => ?_) (fun h => ?_) | refine condSplit (fun h => ?_) (fun h => ?_)) <;> first | exact (clash (by assumption) h).elim | exact (clash h (by assumption)).elim | (simp only [decide_eq_true_eq, decide_eq_false_iff_not, Bool.not_eq_true', Bool.not_eq_false', Bool.not_true, Bool.not_false, Bool.or_eq_true, Bool.and_eq_true, Bool.or_eq_false_iff, Bool.and_eq_false_iff, beq_iff_eq, beq_eq_false_iff_ne, ne_eq] at h; first | (exfalso; omega) | skip) | skip
           | refine SeqP.go ?_
           | refine cdM ?_
           | exact IsV.mk
           | apply GuardP.mk
           | (first | refine eqlW eqS40 rfl rfl rfl fitM fitM ?_ | refine neqW eqS40 rfl rfl rfl fitM fitM ?_)
           | refine Or.inl ⟨_, _, hasM, ?_⟩
           | refine Or.inl ⟨_, _, _, holeM, rfl, rfl, ?_⟩
           | refine lA ?_
           | refine lA0 ?_
           | refine lA1 ?_
           | refine lO ?_
           | refine lO0 ?_
           | refine lO1 ?_
           | refine lR ?_
           | refine lG ?_
           | refine lG0 ?_
           | refine tA ?_
           | refine tA0 ?_
           | refine tA1 ?_
           | refine BytW.ofBlk hasM rfl rfl ?_
           | refine AppW.noneB hasM leM rfl rfl rfl leM leM ?_
           | refine AppW.rowB hasM leM rfl rfl holeM leM leM ?_
           | refine AppW.blkB hasM leM rfl rfl holeM rfl rfl leM leM ?_
           | refine AppW.rowS hasM leM rfl rfl holeM (by omega) leM ?_
           | refine AppW.arrS hasM leM rfl rfl rfl holeM (by first | omega | (simp; omega)) leM ?_
           | refine ⟨sideM, ?_⟩
           | fail)
      all_goals (try conv => whnf)
    all_goals first
      | exact .mk 1 _ _ (by omega) ⟨⟨by omega, by unfold in16 at *; grind⟩, rfl, rfl⟩ subM (Ent.of keepM)
      | exact .mk 2 _ _ (by omega) ⟨⟨by omega, by unfold in16 at *; grind⟩, rfl, rfl⟩ subM (Ent.of keepM)
      | exact .mk 3 _ _ (by omega) ⟨⟨by omega, by unfold in16 at *; grind⟩, rfl, rfl⟩ subM (Ent.of keepM)
      | exact .mk 4 _ _ (by omega) ⟨⟨by omega, by unfold in16 at *; grind⟩, rfl, rfl⟩ subM (Ent.of keepM)
      | (refine v_bool ?_; unfold bRightV; rw [if_neg (by assumption)]; (try unfold in16 at *); grind)
/-- A number's bytes. -/
def nb (v i : Int) : Int := IntKind.u8.wrap (v.fdiv (2 ^ min i.toNat IntKind.u64.bits))
def numL (v : Int) (size k : Nat) : List Int := (List.range k).map fun (j : Nat) => nb v (8 * ((size : Int) - 1 - (j : Int)))
theorem numL_succ (v : Int) (size k : Nat) : numL v size (k + 1) = numL v size k ++ [nb v (8 * ((size : Int) - 1 - k))] := by simp [numL, List.range_succ]
theorem numL_length (v : Int) (size k : Nat) : (numL v size k).length = k := by simp [numL]
def bHead (b : BpduV) : List Int := [0, 0, IntKind.u8.wrap (IntKind.i64.wrap (b.Kind - 1)), IntKind.u8.wrap (IntKind.i64.wrap (b.Kind - 1)), IntKind.u8.wrap b.Flags] ++ numL b.Vector_Root 8 8 ++ numL b.Vector_Cost 4 4 ++ numL b.Vector_Bridge 8 8 ++ numL b.Vector_Port 2 2
def bTail (b : BpduV) (k : Nat) : List Int := match k with
  | 0 => []
  | 1 => numL (IntKind.u64.wrap b.Age) 2 2
  | 2 => numL (IntKind.u64.wrap b.Age) 2 2 ++ numL (IntKind.u64.wrap b.Max) 2 2
  | 3 => numL (IntKind.u64.wrap b.Age) 2 2 ++ numL (IntKind.u64.wrap b.Max) 2 2 ++ numL (IntKind.u64.wrap b.Hello) 2 2
  | _ => numL (IntKind.u64.wrap b.Age) 2 2 ++ numL (IntKind.u64.wrap b.Max) 2 2 ++ numL (IntKind.u64.wrap b.Hello) 2 2 ++ numL (IntKind.u64.wrap b.Delay) 2 2
def bPrintL (b : BpduV) : List Int := bHead b ++ bTail b 4
theorem bPrintL_len (b : BpduV) : (bPrintL b).length = 35 := by simp [bPrintL, bHead, bTail, numL_length]
def bPrintV (b : BpduV) : ByteArray × Int :=
  if bRightV b = false then (⟨#[]⟩, 2) else if b.Kind = 2 then (⟨#[0, 0, 0, 128]⟩, 0) else if b.Kind = 3 then (mkS (bPrintL b ++ [0]), 0) else (mkS (bPrintL b), 0)
end Go.Proofs.Ytmgoahmbdpoikaa.Am
