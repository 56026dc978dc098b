/- The law InfoTells. -/
import Derived.Test.YtmgoahmbdpoikaaRef11b
set_option linter.unusedVariables false
set_option linter.unusedSimpArgs false
set_option maxRecDepth 100000
set_option maxHeartbeats 4000000
namespace Go.Proofs.Ytmgoahmbdpoikaa.Am
open Go Go.RowKit
theorem ok_InfoTells : (match Try.f7.body with | some c => codeOk Try.f7.ntmps c | none => false) = true := by kernel_rfl
theorem en_InfoTells : ∃ fn, Try.prog.funcs[7]? = some fn ∧ (fn.name == "runtime.NumGoroutine") = false ∧ fn.body.isNone = false := ⟨_, Try.func7, by kernel_rfl, by kernel_rfl⟩
theorem InfoTells_w (p : PortV) (b : BpduV) (on : Bool) (hp : okPV p) (hb : okBV b) (w : World) : PuAt Try.prog 7 [.agg ⟨p.enc⟩, .agg ⟨b.enc⟩, .bool on] (.bool true) w := by
  refine funcR_pure tyOk wide Try.func7 ok_InfoTells (Nat.le_of_ble_eq_true rfl) ?_
  repeat' first
    | (conv => whnf
       first
       | intro _
       | (first | refine selSplit (fun h => ?_) (fun h => ?_) | refine condSplit (fun h => ?_) (fun h => ?_)) <;> first | exact (clash (by assumption) h).elim | exact (clash h (by assumption)).elim | (simp only [decide_eq_true_eq, decide_eq_false_iff_not, Bool.not_eq_true', Bool.not_eq_false', Bool.not_true, Bool.not_false, Bool.or_eq_true, Bool.and_eq_true, Bool.or_eq_false_iff, Bool.and_eq_false_iff, beq_iff_eq, beq_eq_false_iff_ne, ne_eq] at h; first | (exfalso; omega) | skip) | skip
       | (first | refine DrawR.mkC _ (.quiet 0 (.quiet 1 (.quiet 2 (.quiet 3 (.quiet 4 (.quiet 5 (.quiet 6 (.quiet 7 (.quiet 8 (.quiet 9 (.quiet 10 (.quiet 11 (.quiet 12 (.quiet 13 (.quiet 14 (.quiet 15 (.quiet 16 (.quiet 17 (.quiet 18 (.quiet 19 (.quiet 20 (.quiet 21 (.quiet 22 (.quiet 23 (.quiet 24 (.quiet 25 (.quiet 26 (.quiet 27 (.quiet 28 (.quiet 29 (.quiet 30 (.quiet 31 (.quiet 32 (.quiet 33 (.quiet 34 .done))))))))))))))))))))))))))))))))))) (by decide +kernel) (by decide +kernel) (SubL.refl _) ?_)
       | refine AltP.mk ?_ ?_
       | refine KeepP.mk (SubL.of (by repeat (first | exact List.Sublist.refl _ | exact List.nil_sublist _ | apply List.Sublist.cons_cons | apply List.Sublist.cons))) ?_
       | refine SeqP.go ?_
       | refine CondR.mk (by decide +kernel) ?_
       | exact IsV.mk
       | apply GuardP.mk
       | (apply callPure' en_awake11; · exact fun w _ => awake11_w w)
       | (apply callQuiet' en_awake11; · exact fun w _ => awake11_w w)
       | (apply callPure' en_Of; · exact fun w _ => Of_w p w)
       | (apply callQuiet' en_Of; · exact fun w _ => Of_w p w)
       | (apply callPure' en_Power; · exact fun w _ => Power_w p on w)
       | (apply callQuiet' en_Power; · exact fun w _ => Power_w p on w)
       | (apply callPure' en_Power11; · exact fun w _ => Power11_w p on w)
       | (apply callQuiet' en_Power11; · exact fun w _ => Power11_w p on w)
       | (apply callPure' en_Of; · exact fun w _ => Of_w (powerV p on) w)
       | (apply callQuiet' en_Of; · exact fun w _ => Of_w (powerV p on) w)
       | (apply callPure' en_Hear; · exact fun w _ => Hear_w p b w)
       | (apply callQuiet' en_Hear; · exact fun w _ => Hear_w p b w)
       | (apply callPure' en_Hear11; · exact fun w _ => Hear11_w p b hp hb w)
       | (apply callQuiet' en_Hear11; · exact fun w _ => Hear11_w p b hp hb w)
       | (apply callPure' en_Of; · exact fun w _ => Of_w (hearV p b) w)
       | (apply callQuiet' en_Of; · exact fun w _ => Of_w (hearV p b) w)
       | (apply callPure' en_iAge; · exact fun w _ => iAge_w p w)
       | (apply callQuiet' en_iAge; · exact fun w _ => iAge_w p w)
       | (apply callPure' en_Age11; · exact fun w _ => Age11_w p w)
       | (apply callQuiet' en_Age11; · exact fun w _ => Age11_w p w)
       | (apply callPure' en_Of; · exact fun w _ => Of_w (ageV p) w)
       | (apply callQuiet' en_Of; · exact fun w _ => Of_w (ageV p) w)
       | (apply callPure' en_Settle; · exact fun w _ => Settle_w p w)
       | (apply callQuiet' en_Settle; · exact fun w _ => Settle_w p w)
       | (apply callPure' en_Settle11; · exact fun w _ => Settle11_w p w)
       | (apply callQuiet' en_Settle11; · exact fun w _ => Settle11_w p w)
       | (apply callPure' en_Of; · exact fun w _ => Of_w (settleV p) w)
       | (apply callQuiet' en_Of; · exact fun w _ => Of_w (settleV p) w)
       | (first | refine eqlW eqS28 rfl rfl rfl (by repeat' first | exact trivial | apply And.intro | rfl) (by repeat' first | exact trivial | apply And.intro | rfl) ?_ | refine neqW eqS28 rfl rfl rfl (by repeat' first | exact trivial | apply And.intro | rfl) (by repeat' first | exact trivial | apply And.intro | rfl) ?_ | refine eqlW eqS60 rfl rfl rfl (by repeat' first | exact trivial | apply And.intro | rfl) (by repeat' first | exact trivial | apply And.intro | rfl) ?_ | refine neqW eqS60 rfl rfl rfl (by repeat' first | exact trivial | apply And.intro | rfl) (by repeat' first | exact trivial | apply And.intro | rfl) ?_ | refine eqlW eqS24 rfl rfl rfl (by repeat' first | exact trivial | apply And.intro | rfl) (by repeat' first | exact trivial | apply And.intro | rfl) ?_ | refine neqW eqS24 rfl rfl rfl (by repeat' first | exact trivial | apply And.intro | rfl) (by repeat' first | exact trivial | apply And.intro | rfl) ?_)
       | refine Or.inl ⟨_, _, (memHas (by repeat (first | apply Has.here | apply Has.there))), ?_⟩
       | refine Or.inl ⟨_, _, _, (by repeat (first | apply Hole.here | apply Hole.there)), rfl, rfl, ?_⟩
       | (apply loadArr; (· apply memHas; (repeat (first | apply Has.here | apply Has.there))); (· rfl); (· (first | assumption | (apply getSelf; (repeat' first | assumption | apply getSelf); done) | exact mapGet (by omega) | exact rfl | (simp; done))))
       | (apply loadArr0; (· apply memHas; (repeat (first | apply Has.here | apply Has.there))); (· rfl); (· (first | assumption | (apply getSelf; (repeat' first | assumption | apply getSelf); done) | exact mapGet (by omega) | exact rfl | (simp; done))))
       | (apply loadArr1; (· apply memHas; (repeat (first | apply Has.here | apply Has.there))); (· rfl); (· (first | assumption | (apply getSelf; (repeat' first | assumption | apply getSelf); done) | exact mapGet (by omega) | exact rfl | (simp; done))))
       | (apply loadOld; (· assumption); (· rfl); (· (first | assumption | (apply getSelf; (repeat' first | assumption | apply getSelf); done) | exact mapGet (by omega) | exact rfl | (simp; done))))
       | (apply loadOld0; (· assumption); (· rfl); (· (first | assumption | (apply getSelf; (repeat' first | assumption | apply getSelf); done) | exact mapGet (by omega) | exact rfl | (simp; done))))
       | (apply loadOld1; (· assumption); (· rfl); (· (first | assumption | (apply getSelf; (repeat' first | assumption | apply getSelf); done) | exact mapGet (by omega) | exact rfl | (simp; done))))
       | (apply loadRowAt; (· apply memHas; (repeat (first | apply Has.here | apply Has.there))); (· rfl); (· first | assumption | exact rfl); (· rfl))
       | (apply loadRg; (· assumption); (· rfl))
       | (apply loadRg0; (· assumption))
       | (apply Or.inr; apply storeArr; (· (repeat (first | apply Hole.here | apply Hole.there))); (· rfl); (· (first | assumption | (apply getSelf; (repeat' first | assumption | apply getSelf); done) | exact mapGet (by omega) | exact rfl | (simp; done))); (· rfl); (· rfl))
       | (apply Or.inr; apply storeArr0; (· (repeat (first | apply Hole.here | apply Hole.there))); (· rfl); (· (first | assumption | (apply getSelf; (repeat' first | assumption | apply getSelf); done) | exact mapGet (by omega) | exact rfl | (simp; done))); (· rfl); (· rfl))
       | (apply Or.inr; apply storeArr1; (· (repeat (first | apply Hole.here | apply Hole.there))); (· rfl); (· (first | assumption | (apply getSelf; (repeat' first | assumption | apply getSelf); done) | exact mapGet (by omega) | exact rfl | (simp; done))); (· rfl); (· rfl))
       | refine BytW.ofBlk (memHas (by repeat (first | apply Has.here | apply Has.there))) rfl rfl ?_
       | refine AppW.noneB (memHas (by repeat (first | apply Has.here | apply Has.there))) (Nat.le_of_ble_eq_true rfl) rfl rfl rfl (Nat.le_of_ble_eq_true rfl) (Nat.le_of_ble_eq_true rfl) ?_
       | refine AppW.rowB (memHas (by repeat (first | apply Has.here | apply Has.there))) (Nat.le_of_ble_eq_true rfl) rfl rfl (by repeat (first | apply Hole.here | apply Hole.there)) (Nat.le_of_ble_eq_true rfl) (Nat.le_of_ble_eq_true rfl) ?_
       | refine AppW.blkB (memHas (by repeat (first | apply Has.here | apply Has.there))) (Nat.le_of_ble_eq_true rfl) rfl rfl (by repeat (first | apply Hole.here | apply Hole.there)) rfl rfl (Nat.le_of_ble_eq_true rfl) (Nat.le_of_ble_eq_true rfl) ?_
       | refine AppW.rowS (memHas (by repeat (first | apply Has.here | apply Has.there))) (Nat.le_of_ble_eq_true rfl) rfl rfl (by repeat (first | apply Hole.here | apply Hole.there)) (by omega) (Nat.le_of_ble_eq_true rfl) ?_
       | refine AppW.arrS (memHas (by repeat (first | apply Has.here | apply Has.there))) (Nat.le_of_ble_eq_true rfl) rfl rfl rfl (by repeat (first | apply Hole.here | apply Hole.there)) (by first | omega | (simp; omega)) (Nat.le_of_ble_eq_true rfl) ?_
       | refine ⟨(by first | rfl | omega | exact ⟨by omega, by omega⟩ | exact ⟨by omega, by omega, by omega⟩ | exact ⟨_, _, rfl⟩ | decide), ?_⟩
       | fail)
  all_goals (try conv => whnf)
  all_goals
    refine v_bool ?_
    rw [eqSelf, eqSelf, eqSelf, eqSelf]
    rfl
end Go.Proofs.Ytmgoahmbdpoikaa.Am
