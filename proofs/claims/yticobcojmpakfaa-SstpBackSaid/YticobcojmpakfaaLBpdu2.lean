/- The law BpduBack. -/
import Derived.Test.YticobcojmpakfaaBpdu6
import Derived.Test.YticobcojmpakfaaLBpdu
set_option linter.unusedVariables false
set_option linter.unusedSimpArgs false
set_option maxRecDepth 100000
set_option maxHeartbeats 4000000
namespace Go.Proofs.Yticobcojmpakfaa.Am
open Go Go.RowKit
theorem print_small (b : BpduV) : (bPrintV b).1.size ≤ 36 := by
  by_cases h : bRightV b = true
  · exact (print_size h).2.2
  · rw [print_wrong (by simpa using h)]; decide
theorem small_more (b : BpduV) (m : ByteArray) (h : m.size ≤ 500) : (bPrintV b).1.size + m.size ≤ 9223372036854775807 := by have := print_small b; omega
theorem nz {b : BpduV} (h : (bPrintV b).2 = 0) : ((bPrintV b).1.size : Int) ≠ 0 := by have := (print_size (print_no.1 h)).2.1; omega
theorem cut_lt {b : BpduV} {cut : Int} (h : (bPrintV b).2 = 0) (hc : ¬ cut < 0) : 0 ≤ cut.tmod ((bPrintV b).1.size : Int) ∧ cut.tmod ((bPrintV b).1.size : Int) < (bPrintV b).1.size := by
  have hn := (print_size (print_no.1 h)).2.1
  exact ⟨Int.tmod_nonneg _ (by omega), Int.tmod_lt_of_pos _ (by omega)⟩
theorem cut_ok {b : BpduV} {cut : Int} (h : (bPrintV b).2 = 0) (hc : ¬ cut < 0) : (0 : Int) ≤ 0 ∧ 0 ≤ cut.tmod ((bPrintV b).1.size : Int) ∧ cut.tmod ((bPrintV b).1.size : Int) ≤ (bPrintV b).1.size := by
  have := cut_lt h hc
  omega
theorem heard_no {s : ByteArray} (h0 : (parseV s).2 = 0) (h : (((bRightV (parseV s).1 = false ∨ ¬(bPrintV (parseV s).1).2 = 0) ∨ ¬(parseV (bPrintV (parseV s).1).1).2 = 0) ∨ allEq (parseV s).1.enc (parseV (bPrintV (parseV s).1).1).1.enc = false) ∨ ¬((bPrintV (parseV s).1).1.size : Int) = sizeV (parseV s).1.Kind) : False := by
  obtain ⟨r, o, ho⟩ := parse_ok s h0
  have e2 := parse_self r o ho
  rcases h with (((h | h) | h) | h) | h
  · rw [r] at h; cases h
  · exact h (print_no.2 r)
  · exact h (by rw [e2])
  · rw [e2] at h
    rw [(BpduV.eqEnc _ _).2 rfl] at h
    cases h
  · exact h (print_size r).1
theorem cut_no {b c : BpduV} (hb : okB b) (hc : okB c) {cut : Int} (h0 : (bPrintV b).2 = 0) (hcut : ¬ cut < 0) (h : ¬(parseV ((bPrintV b).1.extract 0 (cut.tmod ((bPrintV b).1.size : Int)).toNat)).2 = 3 ∨ (bPrintV c).2 = 0 ∧ ¬ decide ((bPrintV b).1 = (bPrintV c).1) = allEq b.enc c.enc) : False := by
  have hl := cut_lt h0 hcut
  have r := print_no.1 h0
  rcases h with h | ⟨k, h⟩
  · exact h (by rw [parse_cut r hb _ (by omega)])
  · refine h ?_
    by_cases e : b = c
    · subst e
      rw [(BpduV.eqEnc _ _).2 rfl]
      simp
    · have n1 : ¬ (bPrintV b).1 = (bPrintV c).1 := fun q => e (print_inj r hb (print_no.1 k) hc q)
      have n2 : allEq b.enc c.enc = false := by rw [Bool.eq_false_iff]; exact fun q => e ((BpduV.eqEnc _ _).1 q)
      rw [n2]
      simp [n1]
theorem back_ok {b : BpduV} (hb : okB b) (h0 : (bPrintV b).2 = 0) (more : ByteArray) (ho : ¬ b.Kind = 1 ∨ ¬ b.Max ≤ b.Age) : (decide ((parseV ((bPrintV b).1 ++ more)).2 = 0) && allEq (parseV ((bPrintV b).1 ++ more)).1.enc b.enc) = true := by
  rw [(parse_print (print_no.1 h0) hb more).2 (by unfold tooOld; omega), (BpduV.eqEnc _ _).2 rfl]
  rfl
theorem back_old {b : BpduV} (hb : okB b) (h0 : (bPrintV b).2 = 0) (more : ByteArray) (ho : b.Kind = 1 ∧ b.Max ≤ b.Age) : decide ((parseV ((bPrintV b).1 ++ more)).2 = 1) = true := by
  rw [(parse_print (print_no.1 h0) hb more).1 ho]
  rfl
theorem back_wrong {b : BpduV} (h0 : ¬ (bPrintV b).2 = 0) : (decide ((bPrintV b).1 = ⟨#[]⟩) && !bRightV b) = true := by
  have h : bRightV b = false := by
    rw [Bool.eq_false_iff]
    exact fun q => h0 (print_no.2 q)
  rw [print_wrong h, h]
  rfl
theorem ok_bpduBack : (match Try.f9.body with | some c => codeOk Try.f9.ntmps c | none => false) = true := by kernel_rfl
theorem en_bpduBack : ∃ fn, Try.prog.funcs[9]? = some fn ∧ (fn.name == "runtime.NumGoroutine") = false ∧ fn.body.isNone = false := ⟨_, Try.func9, by kernel_rfl, by kernel_rfl⟩
theorem bpduBack_w (b c : BpduV) (hb : okB b) (hc : okB c) (more s : ByteArray) (cut : Int) (w : World) : PuAt Try.prog 9 [.agg ⟨b.enc⟩, .agg ⟨c.enc⟩, .string more, .string s, .int .i64 cut] (.bool true) w := by
  refine funcR_pure tyOk wide Try.func9 ok_bpduBack (Nat.le_of_ble_eq_true rfl) ?_
  repeat' first
    | (conv => whnf
       first
       | intro _
       | (first | refine selSplit (fun h => ?_) (fun h => ?_) | refine condSplit (fun h => ?_) (fun h => ?_)) <;> first | exact (clash (by assumption) h).elim | exact (clash h (by assumption)).elim | (simp only [decide_eq_true_eq, decide_eq_false_iff_not, Bool.not_eq_true', Bool.not_eq_false', Bool.not_true, Bool.not_false, Bool.or_eq_true, Bool.and_eq_true, Bool.or_eq_false_iff, Bool.and_eq_false_iff, beq_iff_eq, beq_eq_false_iff_ne, ne_eq] at h; first | (exfalso; omega) | skip) | skip
       | refine SeqP.go ?_
       | refine CondR.mk (by decide +kernel) ?_
       | exact IsV.mk
       | apply GuardP.mk
       | (apply callPure' en_awake03; · exact fun w _ => awake03_w w)
       | (apply callQuiet' en_awake03; · exact fun w _ => awake03_w w)
       | (apply callPure' en_bPrint; · exact fun w _ => bPrint_w b w)
       | (apply callQuiet' en_bPrint; · exact fun w _ => bPrint_w b w)
       | (apply callPure' en_bPrint; · exact fun w _ => bPrint_w c w)
       | (apply callQuiet' en_bPrint; · exact fun w _ => bPrint_w c w)
       | (apply callPure' en_bPrint; · exact fun w _ => bPrint_w (parseV s).1 w)
       | (apply callQuiet' en_bPrint; · exact fun w _ => bPrint_w (parseV s).1 w)
       | (apply callPure' en_bParse; · exact fun w _ => bParse_w s w (by omega))
       | (apply callQuiet' en_bParse; · exact fun w _ => bParse_w s w (by omega))
       | (apply callPure' en_bParse; · exact fun w _ => bParse_w (bPrintV (parseV s).1).1 w (by have := print_small (parseV s).1; omega))
       | (apply callQuiet' en_bParse; · exact fun w _ => bParse_w (bPrintV (parseV s).1).1 w (by have := print_small (parseV s).1; omega))
       | (apply callPure' en_bRight; · exact fun w _ => bRight_w b w)
       | (apply callQuiet' en_bRight; · exact fun w _ => bRight_w b w)
       | (apply callPure' en_bRight; · exact fun w _ => bRight_w (parseV s).1 w)
       | (apply callQuiet' en_bRight; · exact fun w _ => bRight_w (parseV s).1 w)
       | (apply callPure' en_bSize; · exact fun w _ => bSize_w _ w)
       | (apply callQuiet' en_bSize; · exact fun w _ => bSize_w _ w)
       | (refine And.intro (small_more b more (by omega)) ?_)
       | (refine And.intro (nz (b := b) (by assumption)) ?_)
       | (apply callPure' en_bParse; · exact fun w _ => bParse_w ((bPrintV b).1 ++ more) w (by rw [ByteArray.size_append]; have := print_small b; omega))
       | (apply callQuiet' en_bParse; · exact fun w _ => bParse_w ((bPrintV b).1 ++ more) w (by rw [ByteArray.size_append]; have := print_small b; omega))
       | (refine And.intro (cut_ok (b := b) (cut := cut) (by assumption) (by omega)) ?_)
       | (apply callPure' en_bParse; · exact fun w _ => bParse_w ((bPrintV b).1.extract 0 (cut.tmod (bPrintV b).1.size).toNat) w (by rw [ByteArray.size_extract]; have := print_small b; omega))
       | (apply callQuiet' en_bParse; · exact fun w _ => bParse_w ((bPrintV b).1.extract 0 (cut.tmod (bPrintV b).1.size).toNat) w (by rw [ByteArray.size_extract]; have := print_small b; omega))
       | (first | refine eqlW eqS57 rfl rfl rfl (by repeat' first | exact trivial | apply And.intro | rfl) (by repeat' first | exact trivial | apply And.intro | rfl) ?_ | refine neqW eqS57 rfl rfl rfl (by repeat' first | exact trivial | apply And.intro | rfl) (by repeat' first | exact trivial | apply And.intro | rfl) ?_ | refine eqlW eqS60 rfl rfl rfl (by repeat' first | exact trivial | apply And.intro | rfl) (by repeat' first | exact trivial | apply And.intro | rfl) ?_ | refine neqW eqS60 rfl rfl rfl (by repeat' first | exact trivial | apply And.intro | rfl) (by repeat' first | exact trivial | apply And.intro | rfl) ?_)
       | refine Or.inl ⟨_, _, (memHas (by repeat (first | apply Has.here | apply Has.there))), ?_⟩
       | refine Or.inl ⟨_, _, _, (by repeat (first | apply Hole.here | apply Hole.there)), rfl, rfl, ?_⟩
       | (apply loadArr; (· apply memHas; (repeat (first | apply Has.here | apply Has.there))); (· rfl); (· (first | assumption | (apply getSelf; (repeat' first | assumption | apply getSelf); done) | exact mapGet (by omega) | exact rfl | (simp; done))))
       | (apply loadArr0; (· apply memHas; (repeat (first | apply Has.here | apply Has.there))); (· rfl); (· (first | assumption | (apply getSelf; (repeat' first | assumption | apply getSelf); done) | exact mapGet (by omega) | exact rfl | (simp; done))))
       | (apply loadArr1; (· apply memHas; (repeat (first | apply Has.here | apply Has.there))); (· rfl); (· (first | assumption | (apply getSelf; (repeat' first | assumption | apply getSelf); done) | exact mapGet (by omega) | exact rfl | (simp; done))))
       | (apply loadOld; (· assumption); (· rfl); (· (first | assumption | (apply getSelf; (repeat' first | assumption | apply getSelf); done) | exact mapGet (by omega) | exact rfl | (simp; done))))
       | (apply loadOld0; (· assumption); (· rfl); (· (first | assumption | (apply getSelf; (repeat' first | assumption | apply getSelf); done) | exact mapGet (by omega) | exact rfl | (simp; done))))
       | (apply loadOld1; (· assumption); (· rfl); (· (first | assumption | (apply getSelf; (repeat' first | assumption | apply getSelf); done) | exact mapGet (by omega) | exact rfl | (simp; done))))
       | (apply loadRowAt; (· apply memHas; (repeat (first | apply Has.here | apply Has.there))); (· rfl); (· first | assumption | exact rfl); (· rfl))
       | (apply loadRg; (· assumption); (· rfl))
       | (apply loadRg0; (· assumption))
       | (apply Or.inr; apply storeArr; (· (repeat (first | apply Hole.here | apply Hole.there))); (· rfl); (· (first | assumption | (apply getSelf; (repeat' first | assumption | apply getSelf); done) | exact mapGet (by omega) | exact rfl | (simp; done))); (· rfl); (· rfl))
       | (apply Or.inr; apply storeArr0; (· (repeat (first | apply Hole.here | apply Hole.there))); (· rfl); (· (first | assumption | (apply getSelf; (repeat' first | assumption | apply getSelf); done) | exact mapGet (by omega) | exact rfl | (simp; done))); (· rfl); (· rfl))
       | (apply Or.inr; apply storeArr1; (· (repeat (first | apply Hole.here | apply Hole.there))); (· rfl); (· (first | assumption | (apply getSelf; (repeat' first | assumption | apply getSelf); done) | exact mapGet (by omega) | exact rfl | (simp; done))); (· rfl); (· rfl))
       | refine BytW.ofBlk (memHas (by repeat (first | apply Has.here | apply Has.there))) rfl rfl ?_
       | refine AppW.noneB (memHas (by repeat (first | apply Has.here | apply Has.there))) (Nat.le_of_ble_eq_true rfl) rfl rfl rfl (Nat.le_of_ble_eq_true rfl) (Nat.le_of_ble_eq_true rfl) ?_
       | refine AppW.rowB (memHas (by repeat (first | apply Has.here | apply Has.there))) (Nat.le_of_ble_eq_true rfl) rfl rfl (by repeat (first | apply Hole.here | apply Hole.there)) (Nat.le_of_ble_eq_true rfl) (Nat.le_of_ble_eq_true rfl) ?_
       | refine AppW.blkB (memHas (by repeat (first | apply Has.here | apply Has.there))) (Nat.le_of_ble_eq_true rfl) rfl rfl (by repeat (first | apply Hole.here | apply Hole.there)) rfl rfl (Nat.le_of_ble_eq_true rfl) (Nat.le_of_ble_eq_true rfl) ?_
       | refine AppW.rowS (memHas (by repeat (first | apply Has.here | apply Has.there))) (Nat.le_of_ble_eq_true rfl) rfl rfl (by repeat (first | apply Hole.here | apply Hole.there)) (by omega) (Nat.le_of_ble_eq_true rfl) ?_
       | refine AppW.arrS (memHas (by repeat (first | apply Has.here | apply Has.there))) (Nat.le_of_ble_eq_true rfl) rfl rfl rfl (by repeat (first | apply Hole.here | apply Hole.there)) (by first | omega | (simp; omega)) (Nat.le_of_ble_eq_true rfl) ?_
       | refine ⟨(by first | rfl | omega | exact ⟨by omega, by omega⟩ | exact ⟨by omega, by omega, by omega⟩ | exact ⟨_, _, rfl⟩ | decide), ?_⟩
       | fail)
  all_goals (try conv => whnf)
  all_goals first
    | rfl
    | exact (heard_no (by assumption) (by assumption)).elim
    | exact (cut_no (b := b) (c := c) (cut := cut) hb hc (by assumption) (by omega) (by assumption)).elim
    | exact v_bool (back_wrong (by assumption))
    | exact v_bool (back_old hb (by assumption) more (by assumption))
    | exact v_bool (back_ok hb (by assumption) more (by assumption))
    | skip
end Go.Proofs.Yticobcojmpakfaa.Am
