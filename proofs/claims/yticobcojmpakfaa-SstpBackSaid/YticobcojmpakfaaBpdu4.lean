/- Package treebridgeref03: Parse. -/
import Derived.Test.YticobcojmpakfaaBpdu3
set_option linter.unusedVariables false
set_option linter.unusedSimpArgs false
set_option maxRecDepth 100000
set_option maxHeartbeats 4000000
namespace Go.Proofs.Yticobcojmpakfaa.Am
open Go Go.RowKit
theorem len1 {s : ByteArray} (h : ¬ (s.size : Int) < sizeV 1) : 35 ≤ s.size := by simp [sizeV] at h; omega
theorem len3 {s : ByteArray} (h : ¬ (s.size : Int) < sizeV 3) : 35 ≤ s.size := by simp [sizeV] at h; omega
theorem wi8b (s : ByteArray) (i : Nat) : IntKind.i64.wrap (byteAt s i) = byteAt s i := by have := byteAt_range s i; exact w64 (by omega) (by omega)
theorem get_one (s : ByteArray) (h : 35 ≤ s.size) : getV s 4 1 = byteAt s 4 := by
  have := byteAt_range s 4
  rw [getV_snoc s 4 0 (by omega)]
  show (0 * 256 + byteAt s 4) % 18446744073709551616 = _
  omega
theorem rGet_l (s : ByteArray) (a n : Nat) (A N : Int) (hA : A = a) (hN : N = n) (hn : a + n ≤ 35) (hl : 35 ≤ s.size) (hs : s.size < 4611686018427387904) (w : World) : PuAt Try.prog 75 [.string s, .int .i64 A, .int .i64 N] (.int .u64 (getV s a n)) w := by
  subst hA hN
  exact rGet_w s a n (by omega) hs w
theorem lt4 {s : ByteArray} (h : 35 ≤ s.size) : (0 : Int) ≤ 4 ∧ Int.toNat 4 < s.size := ⟨by decide, by show 4 < s.size; omega⟩
theorem ok_rParse : (match Try.f44.body with | some c => codeOk Try.f44.ntmps c | none => false) = true := by kernel_rfl
theorem en_rParse : ∃ fn, Try.prog.funcs[44]? = some fn ∧ (fn.name == "runtime.NumGoroutine") = false ∧ fn.body.isNone = false := ⟨_, Try.func44, by kernel_rfl, by kernel_rfl⟩
theorem rParse_w (s : ByteArray) (w : World) (hs : s.size < 4611686018427387904) : PuAt Try.prog 44 [.string s] (.tuple ⟨[.agg ⟨(parseV s).1.enc⟩, .int .i64 (parseV s).2]⟩) w := by
  refine funcR_pure tyOk wide Try.func44 ok_rParse (Nat.le_of_ble_eq_true rfl) ?_
  repeat' first
    | (conv => whnf
       first
       | intro _
       | (first | refine selSplit (fun h => ?_) (fun h => ?_) | refine condSplit (fun h => ?_) (fun h => ?_)) <;> first | exact (clash (by assumption) h).elim | exact (clash h (by assumption)).elim | (simp only [decide_eq_true_eq, decide_eq_false_iff_not, Bool.not_eq_true', Bool.not_eq_false', Bool.not_true, Bool.not_false, Bool.or_eq_true, Bool.and_eq_true, Bool.or_eq_false_iff, Bool.and_eq_false_iff, beq_iff_eq, beq_eq_false_iff_ne, ne_eq] at h; first | (exfalso; omega) | skip) | skip
       | refine SeqP.go ?_
       | refine CondR.mk (by decide +kernel) ?_
       | exact IsV.mk
       | apply GuardP.mk
       | (apply callPure' en_rSize; · exact fun w _ => rSize_w _ w)
       | (apply callQuiet' en_rSize; · exact fun w _ => rSize_w _ w)
       | (apply callPure' en_rGet; · exact fun w _ => rGet_l s 5 8 5 8 rfl rfl (by decide) (by first | exact len1 (by assumption) | exact len3 (by assumption)) hs w)
       | (apply callQuiet' en_rGet; · exact fun w _ => rGet_l s 5 8 5 8 rfl rfl (by decide) (by first | exact len1 (by assumption) | exact len3 (by assumption)) hs w)
       | (apply callPure' en_rGet; · exact fun w _ => rGet_l s 13 4 13 4 rfl rfl (by decide) (by first | exact len1 (by assumption) | exact len3 (by assumption)) hs w)
       | (apply callQuiet' en_rGet; · exact fun w _ => rGet_l s 13 4 13 4 rfl rfl (by decide) (by first | exact len1 (by assumption) | exact len3 (by assumption)) hs w)
       | (apply callPure' en_rGet; · exact fun w _ => rGet_l s 17 8 17 8 rfl rfl (by decide) (by first | exact len1 (by assumption) | exact len3 (by assumption)) hs w)
       | (apply callQuiet' en_rGet; · exact fun w _ => rGet_l s 17 8 17 8 rfl rfl (by decide) (by first | exact len1 (by assumption) | exact len3 (by assumption)) hs w)
       | (apply callPure' en_rGet; · exact fun w _ => rGet_l s 25 2 25 2 rfl rfl (by decide) (by first | exact len1 (by assumption) | exact len3 (by assumption)) hs w)
       | (apply callQuiet' en_rGet; · exact fun w _ => rGet_l s 25 2 25 2 rfl rfl (by decide) (by first | exact len1 (by assumption) | exact len3 (by assumption)) hs w)
       | (apply callPure' en_rGet; · exact fun w _ => rGet_l s 27 2 27 2 rfl rfl (by decide) (by first | exact len1 (by assumption) | exact len3 (by assumption)) hs w)
       | (apply callQuiet' en_rGet; · exact fun w _ => rGet_l s 27 2 27 2 rfl rfl (by decide) (by first | exact len1 (by assumption) | exact len3 (by assumption)) hs w)
       | (apply callPure' en_rGet; · exact fun w _ => rGet_l s 29 2 29 2 rfl rfl (by decide) (by first | exact len1 (by assumption) | exact len3 (by assumption)) hs w)
       | (apply callQuiet' en_rGet; · exact fun w _ => rGet_l s 29 2 29 2 rfl rfl (by decide) (by first | exact len1 (by assumption) | exact len3 (by assumption)) hs w)
       | (apply callPure' en_rGet; · exact fun w _ => rGet_l s 31 2 31 2 rfl rfl (by decide) (by first | exact len1 (by assumption) | exact len3 (by assumption)) hs w)
       | (apply callQuiet' en_rGet; · exact fun w _ => rGet_l s 31 2 31 2 rfl rfl (by decide) (by first | exact len1 (by assumption) | exact len3 (by assumption)) hs w)
       | (apply callPure' en_rGet; · exact fun w _ => rGet_l s 33 2 33 2 rfl rfl (by decide) (by first | exact len1 (by assumption) | exact len3 (by assumption)) hs w)
       | (apply callQuiet' en_rGet; · exact fun w _ => rGet_l s 33 2 33 2 rfl rfl (by decide) (by first | exact len1 (by assumption) | exact len3 (by assumption)) hs w)
       | (refine Exists.intro (show (0 : Int) ≤ 4 ∧ Int.toNat 4 < s.size from by first | exact lt4 (len1 (by assumption)) | exact lt4 (len3 (by assumption))) ?_)
       | (first | refine eqlW eqS60 rfl rfl rfl (by repeat' first | exact trivial | apply And.intro | rfl) (by repeat' first | exact trivial | apply And.intro | rfl) ?_ | refine neqW eqS60 rfl rfl rfl (by repeat' first | exact trivial | apply And.intro | rfl) (by repeat' first | exact trivial | apply And.intro | rfl) ?_)
       | refine Or.inl ⟨_, _, (memHas (by repeat (first | apply Has.here | apply Has.there))), ?_⟩
       | refine Or.inl ⟨_, _, _, (by repeat (first | apply Hole.here | apply Hole.there)), rfl, rfl, ?_⟩
       | (apply loadArr; (· apply memHas; (repeat (first | apply Has.here | apply Has.there))); (· rfl); (· (first | assumption | (apply getSelf; (repeat' first | assumption | apply getSelf); done) | exact mapGet (by omega) | exact rfl | (simp; done))))
       | (apply loadArr0; (· apply memHas; (repeat (first | apply Has.here | apply Has.there))); (· rfl); (· (first | assumption | (apply getSelf; (repeat' first | assumption | apply getSelf); done) | exact mapGet (by omega) | exact rfl | (simp; done))))
       | (apply loadArr1; (· apply memHas; (repeat (first | apply Has.here | apply Has.there))); (· rfl); (· (first | assumption | (apply getSelf; (repeat' first | assumption | apply getSelf); done) | exact mapGet (by omega) | exact rfl | (simp; done))))
       | (apply loadOld; (· assumption); (· rfl); (· (first | assumption | (apply getSelf; (repeat' first | assumption | apply getSelf); done) | exact mapGet (by omega) | exact rfl | (simp; done))))
       | (apply loadOld0; (· assumption); (· rfl); (· (first | assumption | (apply getSelf; (repeat' first | assumption | apply getSelf); done) | exact mapGet (by omega) | exact rfl | (simp; done))))
       | (apply loadOld1; (· assumption); (· rfl); (· (first | assumption | (apply getSelf; (repeat' first | assumption | apply getSelf); done) | exact mapGet (by omega) | exact rfl | (simp; done))))
       | (apply loadRowAt; (· apply memHas; (repeat (first | apply Has.here | apply Has.there))); (· rfl); (· first | assumption | exact rfl); (· rfl))
       | (apply loadRg; (· assumption); (· rfl))
       | (apply loadRg0; (· assumption))
       | (apply Or.inr; apply storeArr; (· (repeat (first | apply Hole.here | apply Hole.there))); (· rfl); (· (first | assumption | (apply getSelf; (repeat' first | assumption | apply getSelf); done) | exact mapGet (by omega) | exact rfl | (simp; done))); (· rfl); (· rfl))
       | (apply Or.inr; apply storeArr0; (· (repeat (first | apply Hole.here | apply Hole.there))); (· rfl); (· (first | assumption | (apply getSelf; (repeat' first | assumption | apply getSelf); done) | exact mapGet (by omega) | exact rfl | (simp; done))); (· rfl); (· rfl))
       | (apply Or.inr; apply storeArr1; (· (repeat (first | apply Hole.here | apply Hole.there))); (· rfl); (· (first | assumption | (apply getSelf; (repeat' first | assumption | apply getSelf); done) | exact mapGet (by omega) | exact rfl | (simp; done))); (· rfl); (· rfl))
       | refine BytW.ofBlk (memHas (by repeat (first | apply Has.here | apply Has.there))) rfl rfl ?_
       | refine AppW.noneB (memHas (by repeat (first | apply Has.here | apply Has.there))) (Nat.le_of_ble_eq_true rfl) rfl rfl rfl (Nat.le_of_ble_eq_true rfl) (Nat.le_of_ble_eq_true rfl) ?_
       | refine AppW.rowB (memHas (by repeat (first | apply Has.here | apply Has.there))) (Nat.le_of_ble_eq_true rfl) rfl rfl (by repeat (first | apply Hole.here | apply Hole.there)) (Nat.le_of_ble_eq_true rfl) (Nat.le_of_ble_eq_true rfl) ?_
       | refine AppW.blkB (memHas (by repeat (first | apply Has.here | apply Has.there))) (Nat.le_of_ble_eq_true rfl) rfl rfl (by repeat (first | apply Hole.here | apply Hole.there)) rfl rfl (Nat.le_of_ble_eq_true rfl) (Nat.le_of_ble_eq_true rfl) ?_
       | refine AppW.rowS (memHas (by repeat (first | apply Has.here | apply Has.there))) (Nat.le_of_ble_eq_true rfl) rfl rfl (by repeat (first | apply Hole.here | apply Hole.there)) (by omega) (Nat.le_of_ble_eq_true rfl) ?_
       | refine AppW.arrS (memHas (by repeat (first | apply Has.here | apply Has.there))) (Nat.le_of_ble_eq_true rfl) rfl rfl rfl (by repeat (first | apply Hole.here | apply Hole.there)) (by first | omega | (simp; omega)) (Nat.le_of_ble_eq_true rfl) ?_
       | refine ⟨(by first | rfl | omega | exact ⟨by omega, by omega⟩ | exact ⟨by omega, by omega, by omega⟩ | exact ⟨_, _, rfl⟩ | decide), ?_⟩
       | fail)
  all_goals (try conv => whnf)
  all_goals (try simp only [byteAt_eq, Int.reduceToNat, gw, wi8b] at *)
  all_goals first
    | (unfold parseV; (repeat (first | rw [if_pos (by first | assumption | grind | decide)] | rw [if_neg (by first | assumption | grind | decide)])); rfl)
    | (have hk : kindV (byteAt s 2) (byteAt s 3) = 2 := by (unfold kindV; (repeat (first | rw [if_pos (by first | assumption | grind | decide)] | rw [if_neg (by first | assumption | grind | decide)])))
       unfold parseV; rw [hk]; (repeat (first | rw [if_pos (by first | assumption | grind | decide)] | rw [if_neg (by first | assumption | grind | decide)])); rfl)
    | (have hk : kindV (byteAt s 2) (byteAt s 3) = 1 := by (unfold kindV; (repeat (first | rw [if_pos (by first | assumption | grind | decide)] | rw [if_neg (by first | assumption | grind | decide)])))
       unfold parseV; rw [hk]; (repeat (first | rw [if_pos (by first | assumption | grind | decide)] | rw [if_neg (by first | assumption | grind | decide)])); rfl)
    | (have hk : kindV (byteAt s 2) (byteAt s 3) = 3 := by (unfold kindV; (repeat (first | rw [if_pos (by first | assumption | grind | decide)] | rw [if_neg (by first | assumption | grind | decide)])))
       unfold parseV; rw [hk]; (repeat (first | rw [if_pos (by first | assumption | grind | decide)] | rw [if_neg (by first | assumption | grind | decide)])); rfl)
    | (have hk : kindV (byteAt s 2) (byteAt s 3) = 0 := by (unfold kindV; (repeat (first | rw [if_pos (by first | assumption | grind | decide)] | rw [if_neg (by first | assumption | grind | decide)])))
       unfold parseV; rw [hk]; (repeat (first | rw [if_pos (by first | assumption | grind | decide)] | rw [if_neg (by first | assumption | grind | decide)])); rfl)
    | (have hk : kindV (byteAt s 2) (byteAt s 3) = 1 := by (unfold kindV; (repeat (first | rw [if_pos (by first | assumption | grind | decide)] | rw [if_neg (by first | assumption | grind | decide)])))
       have hl := len1 (by assumption)
       unfold parseV; rw [hk]; (repeat (first | rw [if_pos (by first | assumption | grind | decide)] | rw [if_neg (by first | assumption | grind | decide)])); simp only [bodyV, get_one s hl]; rfl)
    | (have hk : kindV (byteAt s 2) (byteAt s 3) = 3 := by (unfold kindV; (repeat (first | rw [if_pos (by first | assumption | grind | decide)] | rw [if_neg (by first | assumption | grind | decide)])))
       have hl := len3 (by assumption)
       unfold parseV; rw [hk]; (repeat (first | rw [if_pos (by first | assumption | grind | decide)] | rw [if_neg (by first | assumption | grind | decide)])); simp only [bodyV, get_one s hl]; rfl)
    | skip
end Go.Proofs.Yticobcojmpakfaa.Am
