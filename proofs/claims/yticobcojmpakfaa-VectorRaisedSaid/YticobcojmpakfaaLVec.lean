/- The laws of layer 5. -/
import Derived.Test.YticobcojmpakfaaVec2
set_option linter.unusedVariables false
set_option linter.unusedSimpArgs false
set_option maxRecDepth 100000
set_option maxHeartbeats 4000000
namespace Go.Proofs.Yticobcojmpakfaa.Am
open Go Go.RowKit
def raise (b x : Int) : Int := if 4294967295 < b then 4294967295 else if IntKind.u64.wrap (4294967295 - b) < x then 4294967295 else IntKind.u64.wrap (b + x)
theorem ok_Raise : (match Try.f56.body with | some c => codeOk Try.f56.ntmps c | none => false) = true := by kernel_rfl
theorem en_Raise : ∃ fn, Try.prog.funcs[56]? = some fn ∧ (fn.name == "runtime.NumGoroutine") = false ∧ fn.body.isNone = false := ⟨_, Try.func56, by kernel_rfl, by kernel_rfl⟩
theorem Raise_w (a b c d x : Int) (w : World) : PuAt Try.prog 56 [.agg ⟨[.int .u64 a, .int .u64 b, .int .u64 c, .int .u64 d]⟩, .int .u64 x] (.agg ⟨[.int .u64 a, .int .u64 (raise b x), .int .u64 c, .int .u64 d]⟩) w := by
  refine func_pure tyOk wide Try.func56 ok_Raise (Nat.le_of_ble_eq_true rfl) ?_
  repeat' first
    | (conv => whnf
       first
       | (first | refine eqlW eqS55 rfl rfl rfl (by repeat' first | exact trivial | apply And.intro | rfl) (by repeat' first | exact trivial | apply And.intro | rfl) ?_ | refine neqW eqS55 rfl rfl rfl (by repeat' first | exact trivial | apply And.intro | rfl) (by repeat' first | exact trivial | apply And.intro | rfl) ?_)
       | refine Or.inl ⟨_, _, (by repeat (first | exact List.mem_cons_self | apply List.mem_cons_of_mem)), ?_⟩
       | refine ⟨_, _, _, (by repeat (first | exact Hole.here | apply Hole.there)), rfl, rfl, ?_⟩
       | refine BytW.ofBlk (by repeat (first | exact List.mem_cons_self | apply List.mem_cons_of_mem)) rfl rfl ?_
       | refine AppW.noneB (by repeat (first | exact List.mem_cons_self | apply List.mem_cons_of_mem)) (Nat.le_of_ble_eq_true rfl) rfl rfl rfl (Nat.le_of_ble_eq_true rfl) (Nat.le_of_ble_eq_true rfl) ?_
       | refine AppW.rowB (by repeat (first | exact List.mem_cons_self | apply List.mem_cons_of_mem)) (Nat.le_of_ble_eq_true rfl) rfl rfl (by repeat (first | exact Hole.here | apply Hole.there)) (Nat.le_of_ble_eq_true rfl) (Nat.le_of_ble_eq_true rfl) ?_
       | refine AppW.blkB (by repeat (first | exact List.mem_cons_self | apply List.mem_cons_of_mem)) (Nat.le_of_ble_eq_true rfl) rfl rfl (by repeat (first | exact Hole.here | apply Hole.there)) rfl rfl (Nat.le_of_ble_eq_true rfl) (Nat.le_of_ble_eq_true rfl) ?_
       | refine ⟨(by first | rfl | omega | exact ⟨by omega, by omega⟩ | exact ⟨by omega, by omega, by omega⟩ | exact ⟨_, _, rfl⟩ | decide), ?_⟩
       | refine ⟨fun h => ?_, fun h => ?_⟩ <;> first | (exfalso; revert h; decide +kernel) | (simp only [decide_eq_true_eq, decide_eq_false_iff_not, Bool.not_eq_true', Bool.not_eq_false', Bool.not_true, Bool.not_false] at h; first | (exfalso; omega) | skip) | skip
       | fail
       | intro _)
  all_goals (try conv => whnf)
  all_goals unfold raise
  all_goals first
    | rw [if_pos (by assumption)]
    | rw [if_neg (by assumption), if_pos (by assumption)]
    | rw [if_neg (by assumption), if_neg (by assumption)]
theorem ok_awake05 : (match Try.f50.body with | some c => codeOk Try.f50.ntmps c | none => false) = true := by kernel_rfl
theorem en_awake05 : ∃ fn, Try.prog.funcs[50]? = some fn ∧ (fn.name == "runtime.NumGoroutine") = false ∧ fn.body.isNone = false := ⟨_, Try.func50, by kernel_rfl, by kernel_rfl⟩
theorem awake05_w (w : World) : PuAt Try.prog 50 [] (.bool true) w := by
  refine func_pure tyOk wide Try.func50 ok_awake05 (Nat.le_of_ble_eq_true rfl) ?_
  repeat' first
    | (conv => whnf
       first
       | (apply callPure' en_vBridge; · exact fun w _ => vBridge_w _ _ _ w)
       | (apply callQuiet' en_vBridge; · exact fun w _ => vBridge_w _ _ _ w)
       | (apply callPure' en_vPort; · exact fun w _ => vPort_w _ _ w)
       | (apply callQuiet' en_vPort; · exact fun w _ => vPort_w _ _ w)
       | (apply callPure' en_vSplit; · exact fun w _ => vSplit_w _ w)
       | (apply callQuiet' en_vSplit; · exact fun w _ => vSplit_w _ w)
       | (apply callPure' en_vCompare; · exact fun w _ => vCompare_w _ _ _ _ _ _ _ _ w)
       | (apply callQuiet' en_vCompare; · exact fun w _ => vCompare_w _ _ _ _ _ _ _ _ w)
       | (apply callPure' en_vSupersedes; · exact fun w _ => vSupersedes_w _ _ _ _ _ _ _ _ w)
       | (apply callQuiet' en_vSupersedes; · exact fun w _ => vSupersedes_w _ _ _ _ _ _ _ _ w)
       | (apply callPure' en_Raise; · exact fun w _ => Raise_w _ _ _ _ _ w)
       | (apply callQuiet' en_Raise; · exact fun w _ => Raise_w _ _ _ _ _ w)
       | (apply callPure' en_vBest; · exact fun w hw => vBest_w none 0 [] w (fun h => absurd rfl h) (by simp))
       | (apply callQuiet' en_vBest; · exact fun w hw => vBest_w none 0 [] w (fun h => absurd rfl h) (by simp))
       | (apply callPure' en_vBest; · exact fun w hw => vBest_w _ 3 [(1, 6, 0, 0), (1, 5, 0, 0), (1, 5, 0, 0)] w (fun _ => ⟨_, 0, rfl, hw.range (by repeat (first | exact List.mem_cons_self | apply List.mem_cons_of_mem))⟩) (by simp))
       | (apply callQuiet' en_vBest; · exact fun w hw => vBest_w _ 3 [(1, 6, 0, 0), (1, 5, 0, 0), (1, 5, 0, 0)] w (fun _ => ⟨_, 0, rfl, hw.range (by repeat (first | exact List.mem_cons_self | apply List.mem_cons_of_mem))⟩) (by simp))
       | (first | refine eqlW eqS55 rfl rfl rfl (by repeat' first | exact trivial | apply And.intro | rfl) (by repeat' first | exact trivial | apply And.intro | rfl) ?_ | refine neqW eqS55 rfl rfl rfl (by repeat' first | exact trivial | apply And.intro | rfl) (by repeat' first | exact trivial | apply And.intro | rfl) ?_)
       | refine Or.inl ⟨_, _, (by repeat (first | exact List.mem_cons_self | apply List.mem_cons_of_mem)), ?_⟩
       | refine ⟨_, _, _, (by repeat (first | exact Hole.here | apply Hole.there)), rfl, rfl, ?_⟩
       | refine BytW.ofBlk (by repeat (first | exact List.mem_cons_self | apply List.mem_cons_of_mem)) rfl rfl ?_
       | refine AppW.noneB (by repeat (first | exact List.mem_cons_self | apply List.mem_cons_of_mem)) (Nat.le_of_ble_eq_true rfl) rfl rfl rfl (Nat.le_of_ble_eq_true rfl) (Nat.le_of_ble_eq_true rfl) ?_
       | refine AppW.rowB (by repeat (first | exact List.mem_cons_self | apply List.mem_cons_of_mem)) (Nat.le_of_ble_eq_true rfl) rfl rfl (by repeat (first | exact Hole.here | apply Hole.there)) (Nat.le_of_ble_eq_true rfl) (Nat.le_of_ble_eq_true rfl) ?_
       | refine AppW.blkB (by repeat (first | exact List.mem_cons_self | apply List.mem_cons_of_mem)) (Nat.le_of_ble_eq_true rfl) rfl rfl (by repeat (first | exact Hole.here | apply Hole.there)) rfl rfl (Nat.le_of_ble_eq_true rfl) (Nat.le_of_ble_eq_true rfl) ?_
       | refine ⟨(by first | rfl | omega | exact ⟨by omega, by omega⟩ | exact ⟨by omega, by omega, by omega⟩ | exact ⟨_, _, rfl⟩ | decide), ?_⟩
       | refine ⟨fun h => ?_, fun h => ?_⟩ <;> first | (exfalso; revert h; decide +kernel) | (simp only [decide_eq_true_eq, decide_eq_false_iff_not, Bool.not_eq_true', Bool.not_eq_false', Bool.not_true, Bool.not_false] at h; first | (exfalso; omega) | skip) | skip
       | (first | refine .mk 51 (by decide +kernel) ?_)
       | intro _)
  all_goals exact v_bool (by decide)
end Go.Proofs.Yticobcojmpakfaa.Am
