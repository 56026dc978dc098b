/- The laws VectorRaised and VectorParts. -/
import Derived.Test.YticobcojmpakfaaLVec
set_option linter.unusedVariables false
set_option linter.unusedSimpArgs false
set_option maxRecDepth 100000
set_option maxHeartbeats 4000000
namespace Go.Proofs.Yticobcojmpakfaa.Am
open Go Go.RowKit
abbrev u64 (x : Int) : Prop := 0 ≤ x ∧ x < 18446744073709551616
theorem ok_VectorRaised : (match Try.f12.body with | some c => codeOk Try.f12.ntmps c | none => false) = true := by kernel_rfl
theorem en_VectorRaised : ∃ fn, Try.prog.funcs[12]? = some fn ∧ (fn.name == "runtime.NumGoroutine") = false ∧ fn.body.isNone = false := ⟨_, Try.func12, by kernel_rfl, by kernel_rfl⟩
theorem VectorRaised_w (a b c d a' b' c' d' x y : Int) (hb : u64 b) (hb' : u64 b') (hx : 0 ≤ x ∧ x < 4294967296) (hy : 0 ≤ y ∧ y < 4294967296) (w : World) : PuAt Try.prog 12 [.agg ⟨[.int .u64 a, .int .u64 b, .int .u64 c, .int .u64 d]⟩, .agg ⟨[.int .u64 a', .int .u64 b', .int .u64 c', .int .u64 d']⟩, .int .u32 x, .int .u32 y] (.bool true) w := by
  refine funcR_pure tyOk wide Try.func12 ok_VectorRaised (Nat.le_of_ble_eq_true rfl) ?_
  have hm0 : IntKind.u64.wrap (x.tmod 1073741824) = x % 1073741824 := by rw [Int.tmod_eq_emod_of_nonneg hx.1, wu64 (by omega) (by omega)]
  have hn0 : IntKind.u64.wrap (y.tmod 1073741824) = y % 1073741824 := by rw [Int.tmod_eq_emod_of_nonneg hy.1, wu64 (by omega) (by omega)]
  have rz : ∀ b m, 0 ≤ b → 0 ≤ m → b + m ≤ 4294967295 → raise b m = b + m := by
    intro b m h1 h2 h3
    unfold raise
    rw [wu64 (x := 4294967295 - b) (by omega) (by omega), if_neg (by omega), wu64 (by omega) (by omega)]
  by_cases hs : 1073741824 < b ∨ 1073741824 < b'
  · skip
    repeat' first
      | (conv => whnf
         first
         | intro _
         | (first | refine selSplit (fun h => ?_) (fun h => ?_) | refine condSplit (fun h => ?_) (fun h => ?_)) <;> first | exact (clash (by assumption) h).elim | exact (clash h (by assumption)).elim | (simp only [decide_eq_true_eq, decide_eq_false_iff_not, Bool.not_eq_true', Bool.not_eq_false', Bool.not_true, Bool.not_false, Bool.or_eq_true, Bool.and_eq_true, Bool.or_eq_false_iff, Bool.and_eq_false_iff, beq_iff_eq, beq_eq_false_iff_ne, ne_eq] at h; first | contradiction | skip) | skip
         | (first | refine DrawR.mkC _ (.quiet 0 (.quiet 1 (.quiet 2 (.quiet 3 (.quiet 4 (.quiet 5 (.quiet 6 (.quiet 7 (.quiet 8 (.quiet 9 (.quiet 10 (.quiet 11 (.quiet 12 (.quiet 13 (.quiet 14 (.quiet 15 (.quiet 16 (.quiet 17 (.quiet 18 (.quiet 19 (.quiet 20 (.quiet 21 (.quiet 22 (.quiet 23 (.quiet 24 (.quiet 25 (.quiet 26 (.quiet 27 (.quiet 28 (.quiet 29 (.quiet 30 (.quiet 31 (.quiet 32 (.quiet 33 (.quiet 34 (.quiet 35 (.quiet 36 .done))))))))))))))))))))))))))))))))))))) (by decide +kernel) (by decide +kernel) (SubL.refl _) ?_)
         | refine AltP.mk ?_ ?_
         | refine KeepP.mk (SubL.of (by repeat (first | exact List.Sublist.refl _ | exact List.nil_sublist _ | apply List.Sublist.cons_cons | apply List.Sublist.cons))) ?_
         | refine SeqP.go ?_
         | refine CondR.mk (by decide +kernel) ?_
         | exact IsV.mk
         | apply GuardP.mk
         | (apply callPure' en_awake05; · exact fun w _ => awake05_w w)
         | (apply callQuiet' en_awake05; · exact fun w _ => awake05_w w)
         | (first | refine eqlW eqS55 rfl rfl rfl (by repeat' first | exact trivial | apply And.intro | rfl) (by repeat' first | exact trivial | apply And.intro | rfl) ?_ | refine neqW eqS55 rfl rfl rfl (by repeat' first | exact trivial | apply And.intro | rfl) (by repeat' first | exact trivial | apply And.intro | rfl) ?_)
         | refine Or.inl ⟨_, _, (memHas (by repeat (first | apply Has.here | apply Has.there))), ?_⟩
         | refine Or.inl ⟨_, _, _, (by repeat (first | apply Hole.here | apply Hole.there)), rfl, rfl, ?_⟩
         | (apply loadArr; (· apply memHas; (repeat (first | apply Has.here | apply Has.there))); (· rfl); (· (first | assumption | exact getSelf (by assumption) | exact mapGet (by omega) | (simp; done))))
         | (apply loadArr0; (· apply memHas; (repeat (first | apply Has.here | apply Has.there))); (· rfl); (· (first | assumption | exact getSelf (by assumption) | exact mapGet (by omega) | (simp; done))))
         | (apply loadArr1; (· apply memHas; (repeat (first | apply Has.here | apply Has.there))); (· rfl); (· (first | assumption | exact getSelf (by assumption) | exact mapGet (by omega) | (simp; done))))
         | (apply loadOld; (· assumption); (· rfl); (· (first | assumption | exact getSelf (by assumption) | exact mapGet (by omega) | (simp; done))))
         | (apply loadOld0; (· assumption); (· rfl); (· (first | assumption | exact getSelf (by assumption) | exact mapGet (by omega) | (simp; done))))
         | (apply loadOld1; (· assumption); (· rfl); (· (first | assumption | exact getSelf (by assumption) | exact mapGet (by omega) | (simp; done))))
         | (apply loadRg; (· assumption); (· rfl))
         | (apply loadRg0; (· assumption))
         | (apply Or.inr; apply storeArr; (· (repeat (first | apply Hole.here | apply Hole.there))); (· rfl); (· (first | assumption | exact getSelf (by assumption) | exact mapGet (by omega) | (simp; done))); (· rfl); (· rfl))
         | (apply Or.inr; apply storeArr0; (· (repeat (first | apply Hole.here | apply Hole.there))); (· rfl); (· (first | assumption | exact getSelf (by assumption) | exact mapGet (by omega) | (simp; done))); (· rfl); (· rfl))
         | (apply Or.inr; apply storeArr1; (· (repeat (first | apply Hole.here | apply Hole.there))); (· rfl); (· (first | assumption | exact getSelf (by assumption) | exact mapGet (by omega) | (simp; done))); (· rfl); (· rfl))
         | refine BytW.ofBlk (memHas (by repeat (first | apply Has.here | apply Has.there))) rfl rfl ?_
         | refine AppW.noneB (memHas (by repeat (first | apply Has.here | apply Has.there))) (Nat.le_of_ble_eq_true rfl) rfl rfl rfl (Nat.le_of_ble_eq_true rfl) (Nat.le_of_ble_eq_true rfl) ?_
         | refine AppW.rowB (memHas (by repeat (first | apply Has.here | apply Has.there))) (Nat.le_of_ble_eq_true rfl) rfl rfl (by repeat (first | apply Hole.here | apply Hole.there)) (Nat.le_of_ble_eq_true rfl) (Nat.le_of_ble_eq_true rfl) ?_
         | refine AppW.blkB (memHas (by repeat (first | apply Has.here | apply Has.there))) (Nat.le_of_ble_eq_true rfl) rfl rfl (by repeat (first | apply Hole.here | apply Hole.there)) rfl rfl (Nat.le_of_ble_eq_true rfl) (Nat.le_of_ble_eq_true rfl) ?_
         | refine AppW.rowS (memHas (by repeat (first | apply Has.here | apply Has.there))) (Nat.le_of_ble_eq_true rfl) rfl rfl (by repeat (first | apply Hole.here | apply Hole.there)) (by omega) (Nat.le_of_ble_eq_true rfl) ?_
         | refine AppW.arrS (memHas (by repeat (first | apply Has.here | apply Has.there))) (Nat.le_of_ble_eq_true rfl) rfl rfl rfl (by repeat (first | apply Hole.here | apply Hole.there)) (by first | omega | (simp; omega)) (Nat.le_of_ble_eq_true rfl) ?_
         | refine ⟨(by first | rfl | omega | exact ⟨by omega, by omega⟩ | exact ⟨by omega, by omega, by omega⟩ | exact ⟨_, _, rfl⟩ | decide), ?_⟩
         | fail)
    all_goals (try conv => whnf)
    all_goals (try conv => whnf)
    all_goals first | rfl | (exfalso; omega) | skip
  · have e1 : raise (raise b (IntKind.u64.wrap (x.tmod 1073741824))) (IntKind.u64.wrap (y.tmod 1073741824)) = b + x % 1073741824 + y % 1073741824 := by
      rw [hm0, hn0, rz b _ hb.1 (by omega) (by omega), rz _ _ (by have := hb.1; omega) (by omega) (by omega)]
    have e2 : raise b (IntKind.u64.wrap (IntKind.u64.wrap (x.tmod 1073741824) + IntKind.u64.wrap (y.tmod 1073741824))) = b + x % 1073741824 + y % 1073741824 := by
      rw [hm0, hn0, wu64 (by omega) (by omega), rz b _ hb.1 (by omega) (by omega)]; omega
    have e3 : raise b 0 = b := by rw [rz b 0 hb.1 (by omega) (by omega)]; omega
    have e4 : raise b 1099511627776 = 4294967295 := by
      have := hb.1
      unfold raise
      rw [wu64 (x := 4294967295 - b) (by omega) (by omega), if_pos (by omega)]
    have e5 : cmpV a (raise b (IntKind.u64.wrap (x.tmod 1073741824))) c d a' (raise b' (IntKind.u64.wrap (x.tmod 1073741824))) c' d' = cmpV a b c d a' b' c' d' := by
      rw [hm0, rz b _ hb.1 (by omega) (by omega), rz b' _ hb'.1 (by omega) (by omega)]
      simp only [cmpV, cmpL]
      have h1 : (b + x % 1073741824 < b' + x % 1073741824) = (b < b') := by simp
      have h2 : (b' + x % 1073741824 < b + x % 1073741824) = (b' < b) := by simp
      simp only [h1, h2]
    repeat' first
      | (conv => whnf
         first
         | intro _
         | (first | refine selSplit (fun h => ?_) (fun h => ?_) | refine condSplit (fun h => ?_) (fun h => ?_)) <;> first | exact (clash (by assumption) h).elim | exact (clash h (by assumption)).elim | (simp only [decide_eq_true_eq, decide_eq_false_iff_not, Bool.not_eq_true', Bool.not_eq_false', Bool.not_true, Bool.not_false, Bool.or_eq_true, Bool.and_eq_true, Bool.or_eq_false_iff, Bool.and_eq_false_iff, beq_iff_eq, beq_eq_false_iff_ne, ne_eq] at h; first | contradiction | skip) | skip
         | (first | refine DrawR.mkC _ (.quiet 0 (.quiet 1 (.quiet 2 (.quiet 3 (.quiet 4 (.quiet 5 (.quiet 6 (.quiet 7 (.quiet 8 (.quiet 9 (.quiet 10 (.quiet 11 (.quiet 12 (.quiet 13 (.quiet 14 (.quiet 15 (.quiet 16 (.quiet 17 (.quiet 18 (.quiet 19 (.quiet 20 (.quiet 21 (.quiet 22 (.quiet 23 (.quiet 24 (.quiet 25 (.quiet 26 (.quiet 27 (.quiet 28 (.quiet 29 (.quiet 30 (.quiet 31 (.quiet 32 (.quiet 33 (.quiet 34 (.quiet 35 (.quiet 36 .done))))))))))))))))))))))))))))))))))))) (by decide +kernel) (by decide +kernel) (SubL.refl _) ?_)
         | refine AltP.mk ?_ ?_
         | refine KeepP.mk (SubL.of (by repeat (first | exact List.Sublist.refl _ | exact List.nil_sublist _ | apply List.Sublist.cons_cons | apply List.Sublist.cons))) ?_
         | refine SeqP.go ?_
         | refine CondR.mk (by decide +kernel) ?_
         | exact IsV.mk
         | apply GuardP.mk
         | (apply callPure' en_awake05; · exact fun w _ => awake05_w w)
         | (apply callQuiet' en_awake05; · exact fun w _ => awake05_w w)
         | (apply callPure' en_vCompare; · exact fun w _ => vCompare_w _ _ _ _ _ _ _ _ w)
         | (apply callQuiet' en_vCompare; · exact fun w _ => vCompare_w _ _ _ _ _ _ _ _ w)
         | (apply callPure' en_Raise; · exact fun w _ => Raise_w _ _ _ _ _ w)
         | (apply callQuiet' en_Raise; · exact fun w _ => Raise_w _ _ _ _ _ w)
         | (first | refine eqlW eqS55 rfl rfl rfl (by repeat' first | exact trivial | apply And.intro | rfl) (by repeat' first | exact trivial | apply And.intro | rfl) ?_ | refine neqW eqS55 rfl rfl rfl (by repeat' first | exact trivial | apply And.intro | rfl) (by repeat' first | exact trivial | apply And.intro | rfl) ?_)
         | refine Or.inl ⟨_, _, (memHas (by repeat (first | apply Has.here | apply Has.there))), ?_⟩
         | refine Or.inl ⟨_, _, _, (by repeat (first | apply Hole.here | apply Hole.there)), rfl, rfl, ?_⟩
         | (apply loadArr; (· apply memHas; (repeat (first | apply Has.here | apply Has.there))); (· rfl); (· (first | assumption | exact getSelf (by assumption) | exact mapGet (by omega) | (simp; done))))
         | (apply loadArr0; (· apply memHas; (repeat (first | apply Has.here | apply Has.there))); (· rfl); (· (first | assumption | exact getSelf (by assumption) | exact mapGet (by omega) | (simp; done))))
         | (apply loadArr1; (· apply memHas; (repeat (first | apply Has.here | apply Has.there))); (· rfl); (· (first | assumption | exact getSelf (by assumption) | exact mapGet (by omega) | (simp; done))))
         | (apply loadOld; (· assumption); (· rfl); (· (first | assumption | exact getSelf (by assumption) | exact mapGet (by omega) | (simp; done))))
         | (apply loadOld0; (· assumption); (· rfl); (· (first | assumption | exact getSelf (by assumption) | exact mapGet (by omega) | (simp; done))))
         | (apply loadOld1; (· assumption); (· rfl); (· (first | assumption | exact getSelf (by assumption) | exact mapGet (by omega) | (simp; done))))
         | (apply loadRg; (· assumption); (· rfl))
         | (apply loadRg0; (· assumption))
         | (apply Or.inr; apply storeArr; (· (repeat (first | apply Hole.here | apply Hole.there))); (· rfl); (· (first | assumption | exact getSelf (by assumption) | exact mapGet (by omega) | (simp; done))); (· rfl); (· rfl))
         | (apply Or.inr; apply storeArr0; (· (repeat (first | apply Hole.here | apply Hole.there))); (· rfl); (· (first | assumption | exact getSelf (by assumption) | exact mapGet (by omega) | (simp; done))); (· rfl); (· rfl))
         | (apply Or.inr; apply storeArr1; (· (repeat (first | apply Hole.here | apply Hole.there))); (· rfl); (· (first | assumption | exact getSelf (by assumption) | exact mapGet (by omega) | (simp; done))); (· rfl); (· rfl))
         | refine BytW.ofBlk (memHas (by repeat (first | apply Has.here | apply Has.there))) rfl rfl ?_
         | refine AppW.noneB (memHas (by repeat (first | apply Has.here | apply Has.there))) (Nat.le_of_ble_eq_true rfl) rfl rfl rfl (Nat.le_of_ble_eq_true rfl) (Nat.le_of_ble_eq_true rfl) ?_
         | refine AppW.rowB (memHas (by repeat (first | apply Has.here | apply Has.there))) (Nat.le_of_ble_eq_true rfl) rfl rfl (by repeat (first | apply Hole.here | apply Hole.there)) (Nat.le_of_ble_eq_true rfl) (Nat.le_of_ble_eq_true rfl) ?_
         | refine AppW.blkB (memHas (by repeat (first | apply Has.here | apply Has.there))) (Nat.le_of_ble_eq_true rfl) rfl rfl (by repeat (first | apply Hole.here | apply Hole.there)) rfl rfl (Nat.le_of_ble_eq_true rfl) (Nat.le_of_ble_eq_true rfl) ?_
         | refine AppW.rowS (memHas (by repeat (first | apply Has.here | apply Has.there))) (Nat.le_of_ble_eq_true rfl) rfl rfl (by repeat (first | apply Hole.here | apply Hole.there)) (by omega) (Nat.le_of_ble_eq_true rfl) ?_
         | refine AppW.arrS (memHas (by repeat (first | apply Has.here | apply Has.there))) (Nat.le_of_ble_eq_true rfl) rfl rfl rfl (by repeat (first | apply Hole.here | apply Hole.there)) (by first | omega | (simp; omega)) (Nat.le_of_ble_eq_true rfl) ?_
         | refine ⟨(by first | rfl | omega | exact ⟨by omega, by omega⟩ | exact ⟨by omega, by omega, by omega⟩ | exact ⟨_, _, rfl⟩ | decide), ?_⟩
         | fail)
    all_goals (try conv => whnf)
    all_goals (try conv => whnf)
    all_goals (refine v_bool ?_; simp_all [allEq, cellEq])
end Go.Proofs.Yticobcojmpakfaa.Am
