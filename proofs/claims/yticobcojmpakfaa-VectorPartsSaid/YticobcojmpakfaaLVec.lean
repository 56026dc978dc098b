/- The laws of layer 5. -/
import Derived.Test.YticobcojmpakfaaVec2
set_option linter.unusedVariables false
set_option linter.unusedSimpArgs false
set_option maxRecDepth 100000
set_option maxHeartbeats 4000000
namespace Go.Proofs.Yticobcojmpakfaa.Am
open Go Go.RowKit
def raise (b x : Int) : Int := if 4294967295 < b ∨ IntKind.u64.wrap (4294967295 - b) < x then 4294967295 else IntKind.u64.wrap (b + x)
theorem ok_Raise : (match Try.f56.body with | some c => codeOk Try.f56.ntmps c | none => false) = true := by kernel_rfl
theorem en_Raise : ∃ fn, Try.prog.funcs[56]? = some fn ∧ (fn.name == "runtime.NumGoroutine") = false ∧ fn.body.isNone = false := ⟨_, Try.func56, by kernel_rfl, by kernel_rfl⟩
theorem Raise_w (a b c d x : Int) (w : World) : PuAt Try.prog 56 [.agg ⟨[.int .u64 a, .int .u64 b, .int .u64 c, .int .u64 d]⟩, .int .u64 x] (.agg ⟨[.int .u64 a, .int .u64 (raise b x), .int .u64 c, .int .u64 d]⟩) w := by
  refine funcR_pure tyOk wide Try.func56 ok_Raise (Nat.le_of_ble_eq_true rfl) ?_
  repeat' first
    | (conv => whnf
       first
       | intro _
       | (first | refine selSplit (fun h => ?_) (fun h => ?_) | refine condSplit (fun h => ?_) (fun h => ?_)) <;> first | exact (clash (by assumption) h).elim | exact (clash h (by assumption)).elim | (simp only [decide_eq_true_eq, decide_eq_false_iff_not, Bool.not_eq_true', Bool.not_eq_false', Bool.not_true, Bool.not_false, Bool.or_eq_true, Bool.and_eq_true, Bool.or_eq_false_iff, Bool.and_eq_false_iff, beq_iff_eq, beq_eq_false_iff_ne, ne_eq] at h; first | (exfalso; omega) | skip) | skip
       | refine SeqP.go ?_
       | refine CondR.mk (by decide +kernel) ?_
       | exact IsV.mk
       | apply GuardP.mk
       | (first | refine eqlW eqS55 rfl rfl rfl (by repeat' first | exact trivial | apply And.intro | rfl) (by repeat' first | exact trivial | apply And.intro | rfl) ?_ | refine neqW eqS55 rfl rfl rfl (by repeat' first | exact trivial | apply And.intro | rfl) (by repeat' first | exact trivial | apply And.intro | rfl) ?_)
       | refine Or.inl ⟨_, _, (memHas (by repeat (first | apply Has.here | apply Has.there))), ?_⟩
       | refine Or.inl ⟨_, _, _, (by repeat (first | apply Hole.here | apply Hole.there)), rfl, rfl, ?_⟩
       | (apply loadArr; (· apply memHas; (repeat (first | apply Has.here | apply Has.there))); (· rfl); (· (first | assumption | exact getSelf (by assumption) | exact mapGet (by omega) | (simp; done))))
       | (apply loadArr0; (· apply memHas; (repeat (first | apply Has.here | apply Has.there))); (· rfl); (· (first | assumption | exact getSelf (by assumption) | exact mapGet (by omega) | (simp; done))))
       | (apply loadArr1; (· apply memHas; (repeat (first | apply Has.here | apply Has.there))); (· rfl); (· (first | assumption | exact getSelf (by assumption) | exact mapGet (by omega) | (simp; done))))
       | (apply loadOld; (· assumption); (· rfl); (· (first | assumption | exact getSelf (by assumption) | exact mapGet (by omega) | (simp; done))))
       | (apply loadOld0; (· assumption); (· rfl); (· (first | assumption | exact getSelf (by assumption) | exact mapGet (by omega) | (simp; done))))
       | (apply loadOld1; (· assumption); (· rfl); (· (first | assumption | exact getSelf (by assumption) | exact mapGet (by omega) | (simp; done))))
       | (apply loadRg; (· assumption); (· rfl))
       | (apply loadRg0; (· assumption))
       | (apply Or.inr; apply storeArr; (· (repeat (first | apply Hole.here | apply Hole.there))); (· rfl); (· (first | assumption | exact getSelf (by assumption) | exact mapGet (by omega) | (simp; done))); (· rfl); (· rfl))
       | (apply Or.inr; apply storeArr0; (· (repeat (first | apply Hole.here | apply Hole.there))); (· rfl); (· (first | assumption | exact getSelf (by assumption) | exact mapGet (by omega) | (simp; done))); (· rfl); (· rfl))
       | (apply Or.inr; apply storeArr1; (· (repeat (first | apply Hole.here | apply Hole.there))); (· rfl); (· (first | assumption | exact getSelf (by assumption) | exact mapGet (by omega) | (simp; done))); (· rfl); (· rfl))
       | refine BytW.ofBlk (memHas (by repeat (first | apply Has.here | apply Has.there))) rfl rfl ?_
       | refine AppW.noneB (memHas (by repeat (first | apply Has.here | apply Has.there))) (Nat.le_of_ble_eq_true rfl) rfl rfl rfl (Nat.le_of_ble_eq_true rfl) (Nat.le_of_ble_eq_true rfl) ?_
       | refine AppW.rowB (memHas (by repeat (first | apply Has.here | apply Has.there))) (Nat.le_of_ble_eq_true rfl) rfl rfl (by repeat (first | apply Hole.here | apply Hole.there)) (Nat.le_of_ble_eq_true rfl) (Nat.le_of_ble_eq_true rfl) ?_
       | refine AppW.blkB (memHas (by repeat (first | apply Has.here | apply Has.there))) (Nat.le_of_ble_eq_true rfl) rfl rfl (by repeat (first | apply Hole.here | apply Hole.there)) rfl rfl (Nat.le_of_ble_eq_true rfl) (Nat.le_of_ble_eq_true rfl) ?_
       | refine AppW.rowS (memHas (by repeat (first | apply Has.here | apply Has.there))) (Nat.le_of_ble_eq_true rfl) rfl rfl (by repeat (first | apply Hole.here | apply Hole.there)) (by omega) (Nat.le_of_ble_eq_true rfl) ?_
       | refine AppW.arrS (memHas (by repeat (first | apply Has.here | apply Has.there))) (Nat.le_of_ble_eq_true rfl) rfl rfl rfl (by repeat (first | apply Hole.here | apply Hole.there)) (by first | omega | (simp; omega)) (Nat.le_of_ble_eq_true rfl) ?_
       | refine ⟨(by first | rfl | omega | exact ⟨by omega, by omega⟩ | exact ⟨by omega, by omega, by omega⟩ | exact ⟨_, _, rfl⟩ | decide), ?_⟩
       | fail)
  all_goals (try conv => whnf)
  all_goals (unfold raise; (repeat (first | rw [if_pos (by first | assumption | grind)] | rw [if_neg (by first | assumption | grind)])); rfl)
theorem ok_awake05 : (match Try.f50.body with | some c => codeOk Try.f50.ntmps c | none => false) = true := by kernel_rfl
theorem en_awake05 : ∃ fn, Try.prog.funcs[50]? = some fn ∧ (fn.name == "runtime.NumGoroutine") = false ∧ fn.body.isNone = false := ⟨_, Try.func50, by kernel_rfl, by kernel_rfl⟩
theorem awake05_w (w : World) : PuAt Try.prog 50 [] (.bool true) w := by
  refine funcR_pure tyOk wide Try.func50 ok_awake05 (Nat.le_of_ble_eq_true rfl) ?_
  repeat' first
    | (conv => whnf
       first
       | intro _
       | (first | refine selSplit (fun h => ?_) (fun h => ?_) | refine condSplit (fun h => ?_) (fun h => ?_)) <;> first | exact (clash (by assumption) h).elim | exact (clash h (by assumption)).elim | (simp only [decide_eq_true_eq, decide_eq_false_iff_not, Bool.not_eq_true', Bool.not_eq_false', Bool.not_true, Bool.not_false, Bool.or_eq_true, Bool.and_eq_true, Bool.or_eq_false_iff, Bool.and_eq_false_iff, beq_iff_eq, beq_eq_false_iff_ne, ne_eq] at h; first | (exfalso; omega) | skip) | skip
       | (first | refine DrawR.mk _ (.quiet 0 (.quiet 1 (.quiet 2 (.quiet 3 (.quiet 4 (.quiet 5 (.quiet 6 (.quiet 7 (.quiet 8 (.quiet 9 (.quiet 10 (.quiet 11 (.quiet 12 (.quiet 13 (.quiet 14 (.quiet 15 (.quiet 16 (.quiet 17 (.quiet 18 (.quiet 19 (.quiet 20 (.quiet 21 (.quiet 22 (.quiet 23 (.quiet 24 (.quiet 25 (.quiet 26 (.quiet 27 (.quiet 28 (.quiet 29 (.quiet 30 (.quiet 31 (.quiet 32 (.quiet 33 (.quiet 34 (.quiet 35 (.quiet 36 (.quiet 37 (.quiet 38 (.quiet 39 (.quiet 40 (.quiet 41 (.quiet 42 (.quiet 43 (.quiet 44 (.quiet 45 (.quiet 46 (.quiet 47 (.quiet 48 (.quiet 49 (.quiet 50 (.last 51 false (.last 52 false (.last 53 false (.last 54 false (.last 55 false (.last 56 false (.last 57 false (.last 58 false (.last 59 false .done)))))))))))))))))))))))))))))))))))))))))))))))))))))))))))) (by decide +kernel) (SubL.refl _) ?_)
       | refine AltP.mk ?_ ?_
       | refine KeepP.mk (SubL.of (by repeat (first | exact List.Sublist.refl _ | exact List.nil_sublist _ | apply List.Sublist.cons_cons | apply List.Sublist.cons))) ?_
       | refine SeqP.go ?_
       | refine CondR.split ?_
       | exact IsV.mk
       | apply GuardP.mk
       | (apply callPure' en_vBridge; · exact fun w _ => vBridge_w _ _ _ w)
       | (apply callQuiet' en_vBridge; · exact fun w _ => vBridge_w _ _ _ w)
       | (apply callPure' en_vPort; · exact fun w _ => vPort_w _ _ w)
       | (apply callQuiet' en_vPort; · exact fun w _ => vPort_w _ _ w)
       | (apply callPure' en_vSplit; · exact fun w _ => vSplit_w _ w)
       | (apply callQuiet' en_vSplit; · exact fun w _ => vSplit_w _ w)
       | (apply callPure' en_vCompare; · exact fun w _ => vCompare_w _ _ _ _ _ _ _ _ w)
       | (apply callQuiet' en_vCompare; · exact fun w _ => vCompare_w _ _ _ _ _ _ _ _ w)
       | (apply callPure' en_vSupersedes; · exact fun w _ => vSupersedes_w _ _ _ _ _ _ _ _ w)
       | (apply callQuiet' en_vSupersedes; · exact fun w _ => vSupersedes_w _ _ _ _ _ _ _ _ w)
       | (apply callPure' en_Raise; · exact fun w _ => Raise_w _ _ _ _ _ w)
       | (apply callQuiet' en_Raise; · exact fun w _ => Raise_w _ _ _ _ _ w)
       | (apply callPure' en_vBest; · exact fun w hw => vBest_w none 0 [] w (fun h => absurd rfl h) (by simp))
       | (apply callQuiet' en_vBest; · exact fun w hw => vBest_w none 0 [] w (fun h => absurd rfl h) (by simp))
       | (apply callPure' en_vBest; · exact fun w hw => vBest_w _ 3 [(1, 6, 0, 0), (1, 5, 0, 0), (1, 5, 0, 0)] w (fun _ => ⟨_, 0, rfl, hw.range (memHas (by repeat (first | apply Has.here | apply Has.there)))⟩) (by simp))
       | (apply callQuiet' en_vBest; · exact fun w hw => vBest_w _ 3 [(1, 6, 0, 0), (1, 5, 0, 0), (1, 5, 0, 0)] w (fun _ => ⟨_, 0, rfl, hw.range (memHas (by repeat (first | apply Has.here | apply Has.there)))⟩) (by simp))
       | (first | refine eqlW eqS55 rfl rfl rfl (by repeat' first | exact trivial | apply And.intro | rfl) (by repeat' first | exact trivial | apply And.intro | rfl) ?_ | refine neqW eqS55 rfl rfl rfl (by repeat' first | exact trivial | apply And.intro | rfl) (by repeat' first | exact trivial | apply And.intro | rfl) ?_)
       | refine Or.inl ⟨_, _, (memHas (by repeat (first | apply Has.here | apply Has.there))), ?_⟩
       | refine Or.inl ⟨_, _, _, (by repeat (first | apply Hole.here | apply Hole.there)), rfl, rfl, ?_⟩
       | (apply loadArr; (· apply memHas; (repeat (first | apply Has.here | apply Has.there))); (· rfl); (· (first | assumption | exact getSelf (by assumption) | exact mapGet (by omega) | (simp; done))))
       | (apply loadArr0; (· apply memHas; (repeat (first | apply Has.here | apply Has.there))); (· rfl); (· (first | assumption | exact getSelf (by assumption) | exact mapGet (by omega) | (simp; done))))
       | (apply loadArr1; (· apply memHas; (repeat (first | apply Has.here | apply Has.there))); (· rfl); (· (first | assumption | exact getSelf (by assumption) | exact mapGet (by omega) | (simp; done))))
       | (apply loadOld; (· assumption); (· rfl); (· (first | assumption | exact getSelf (by assumption) | exact mapGet (by omega) | (simp; done))))
       | (apply loadOld0; (· assumption); (· rfl); (· (first | assumption | exact getSelf (by assumption) | exact mapGet (by omega) | (simp; done))))
       | (apply loadOld1; (· assumption); (· rfl); (· (first | assumption | exact getSelf (by assumption) | exact mapGet (by omega) | (simp; done))))
       | (apply loadRg; (· assumption); (· rfl))
       | (apply loadRg0; (· assumption))
       | (apply Or.inr; apply storeArr; (· (repeat (first | apply Hole.here | apply Hole.there))); (· rfl); (· (first | assumption | exact getSelf (by assumption) | exact mapGet (by omega) | (simp; done))); (· rfl); (· rfl))
       | (apply Or.inr; apply storeArr0; (· (repeat (first | apply Hole.here | apply Hole.there))); (· rfl); (· (first | assumption | exact getSelf (by assumption) | exact mapGet (by omega) | (simp; done))); (· rfl); (· rfl))
       | (apply Or.inr; apply storeArr1; (· (repeat (first | apply Hole.here | apply Hole.there))); (· rfl); (· (first | assumption | exact getSelf (by assumption) | exact mapGet (by omega) | (simp; done))); (· rfl); (· rfl))
       | refine BytW.ofBlk (memHas (by repeat (first | apply Has.here | apply Has.there))) rfl rfl ?_
       | refine AppW.noneB (memHas (by repeat (first | apply Has.here | apply Has.there))) (Nat.le_of_ble_eq_true rfl) rfl rfl rfl (Nat.le_of_ble_eq_true rfl) (Nat.le_of_ble_eq_true rfl) ?_
       | refine AppW.rowB (memHas (by repeat (first | apply Has.here | apply Has.there))) (Nat.le_of_ble_eq_true rfl) rfl rfl (by repeat (first | apply Hole.here | apply Hole.there)) (Nat.le_of_ble_eq_true rfl) (Nat.le_of_ble_eq_true rfl) ?_
       | refine AppW.blkB (memHas (by repeat (first | apply Has.here | apply Has.there))) (Nat.le_of_ble_eq_true rfl) rfl rfl (by repeat (first | apply Hole.here | apply Hole.there)) rfl rfl (Nat.le_of_ble_eq_true rfl) (Nat.le_of_ble_eq_true rfl) ?_
       | refine AppW.rowS (memHas (by repeat (first | apply Has.here | apply Has.there))) (Nat.le_of_ble_eq_true rfl) rfl rfl (by repeat (first | apply Hole.here | apply Hole.there)) (by omega) (Nat.le_of_ble_eq_true rfl) ?_
       | refine AppW.arrS (memHas (by repeat (first | apply Has.here | apply Has.there))) (Nat.le_of_ble_eq_true rfl) rfl rfl rfl (by repeat (first | apply Hole.here | apply Hole.there)) (by first | omega | (simp; omega)) (Nat.le_of_ble_eq_true rfl) ?_
       | refine ⟨(by first | rfl | omega | exact ⟨by omega, by omega⟩ | exact ⟨by omega, by omega, by omega⟩ | exact ⟨_, _, rfl⟩ | decide), ?_⟩
       | fail)
  all_goals (try conv => whnf)
  all_goals exact v_bool (by decide)
end Go.Proofs.Yticobcojmpakfaa.Am
