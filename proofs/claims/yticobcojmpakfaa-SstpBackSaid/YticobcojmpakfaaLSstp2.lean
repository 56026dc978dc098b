/- The laws SstpTells and SstpBack. -/
import Derived.Test.YticobcojmpakfaaLSstp
set_option linter.unusedVariables false
set_option linter.unusedSimpArgs false
set_option maxRecDepth 100000
set_option maxHeartbeats 4000000
namespace Go.Proofs.Yticobcojmpakfaa.Am
open Go Go.RowKit
attribute [local irreducible] headOk behindV parseV bPrintV
def b4 : BpduV := ⟨3, 0, 0, 0, 0, 0, 0, 5120, 512, 3840⟩
theorem b4_right : bRightV b4 = true := by decide
theorem b4_ok : okB b4 := by unfold okB b4; decide
theorem b4_print : (sPrintV b4 258).2 = 0 := by
  unfold sPrintV
  rw [if_neg (by rw [print_no.2 b4_right]; decide), if_neg (by decide)]
theorem b4_size : (sPrintV b4 258).1.size = 43 := by
  obtain ⟨_, _, _, e⟩ := sPrint_ok b4_print
  have := (print_size b4_right).1
  rw [e, ByteArray.size_append, vtail_size]
  have k : sizeV b4.Kind = 36 := rfl
  omega
theorem b4_back : sParseV (sPrintV b4 258).1 = (b4, 258, 0) := by
  have := (sBack b4_ok b4_print ⟨#[]⟩).2 (by unfold tooOld b4; decide)
  rwa [app_empty] at this
theorem b4_tail : (sPrintV b4 258).1.extract 36 43 = ⟨#[0, 0, 0, 0, 2, 1, 2]⟩ := by
  obtain ⟨_, _, _, e⟩ := sPrint_ok b4_print
  have hz := (print_size b4_right).1
  have k : sizeV b4.Kind = 36 := rfl
  have h1 : (bPrintV b4).1.size = 36 := by omega
  have h := app_suf (bPrintV b4).1 (vtail 258)
  rw [← e, h1, b4_size] at h
  rw [h]
  decide
theorem kind4 : sParseV ⟨#[0, 0, 0, 128]⟩ = (BpduV.zero, 0, 9) := by
  have h := print_two (b := noticeV) (by decide) rfl
  have h2 := (parse_print (b := noticeV) (by decide) (by unfold okB noticeV BpduV.zero; decide) ⟨#[]⟩).2 (by unfold tooOld noticeV; decide)
  rw [app_empty, h] at h2
  unfold sParseV
  rw [show (⟨#[0, 0, 0, 128]⟩ : ByteArray) = mkS [0, 0, 0, 128] from by decide, h2, if_neg (show ¬ (0 : Int) ≠ 0 by decide), if_pos (by decide)]
theorem none4 : sPrintV b4 0 = (⟨#[]⟩, 1) := by
  unfold sPrintV
  rw [if_neg (by rw [print_no.2 b4_right]; decide), if_pos (by decide)]
attribute [local irreducible] sPrintV sParseV
theorem p4_w (w : World) : PuAt Try.prog 58 [.agg ⟨b4.enc⟩, .int .i64 258] (.tuple ⟨[.string (sPrintV b4 258).1, .int .i64 0]⟩) w := by
  have h := sPrint_w b4 258 w
  rw [b4_print] at h
  exact h
theorem q4_w (w : World) : PuAt Try.prog 60 [.string (sPrintV b4 258).1] (.tuple ⟨[.agg ⟨b4.enc⟩, .int .i64 258, .int .i64 0]⟩) w := by
  have h := sParse_w (sPrintV b4 258).1 w (by rw [b4_size]; decide)
  rw [b4_back] at h
  exact h
theorem k4_w (w : World) : PuAt Try.prog 60 [.string ⟨#[0, 0, 0, 128]⟩] (.tuple ⟨[.agg ⟨BpduV.zero.enc⟩, .int .i64 0, .int .i64 9]⟩) w := by
  have h := sParse_w ⟨#[0, 0, 0, 128]⟩ w (by decide)
  rw [kind4] at h
  exact h
theorem n4_w (w : World) : PuAt Try.prog 58 [.agg ⟨b4.enc⟩, .int .i64 0] (.tuple ⟨[.string ⟨#[]⟩, .int .i64 1]⟩) w := by
  have h := sPrint_w b4 0 w
  rw [none4] at h
  exact h
theorem from36 {t : ByteArray} (h : t.size = 43) : (0 : Int) ≤ 36 ∧ (36 : Int) ≤ (t.size : Int) ∧ (t.size : Int) ≤ t.size := by rw [h]; decide
theorem ok_awake04 : (match Try.f57.body with | some c => codeOk Try.f57.ntmps c | none => false) = true := by kernel_rfl
theorem en_awake04 : ∃ fn, Try.prog.funcs[57]? = some fn ∧ (fn.name == "runtime.NumGoroutine") = false ∧ fn.body.isNone = false := ⟨_, Try.func57, by kernel_rfl, by kernel_rfl⟩
theorem awake04_g (t : ByteArray) (ht : t.size = 43) (htail : t.extract 36 43 = ⟨#[0, 0, 0, 0, 2, 1, 2]⟩) (hp : ∀ w, PuAt Try.prog 58 [.agg ⟨b4.enc⟩, .int .i64 258] (.tuple ⟨[.string t, .int .i64 0]⟩) w) (hq : ∀ w, PuAt Try.prog 60 [.string t] (.tuple ⟨[.agg ⟨b4.enc⟩, .int .i64 258, .int .i64 0]⟩) w) (w : World) : PuAt Try.prog 57 [] (.bool true) w := by
  refine funcR_pure tyOk wide Try.func57 ok_awake04 (Nat.le_of_ble_eq_true rfl) ?_
  repeat' first
    | (simp only [putK, overK, Value.cells, fillK]; (conv => whnf); first | refine ⟨rfl, ?_⟩ | skip)
    | (conv => whnf
       first
       | intro _
       | (first | refine selSplit (fun h => ?_) (fun h => ?_) | refine condSplit (fun h => ?_) (fun h => ?_)) <;> first | exact (clash (by assumption) h).elim | exact (clash h (by assumption)).elim | (simp only [decide_eq_true_eq, decide_eq_false_iff_not, Bool.not_eq_true', Bool.not_eq_false', Bool.not_true, Bool.not_false, Bool.or_eq_true, Bool.and_eq_true, Bool.or_eq_false_iff, Bool.and_eq_false_iff, beq_iff_eq, beq_eq_false_iff_ne, ne_eq] at h; first | (exfalso; omega) | skip) | skip
       | refine SeqP.go ?_
       | refine CondR.mk (by decide +kernel) ?_
       | exact IsV.mk
       | apply GuardP.mk
       | (apply callPure' en_sPrint; · exact fun w _ => hp w)
       | (apply callQuiet' en_sPrint; · exact fun w _ => hp w)
       | (apply callPure' en_sParse; · exact fun w _ => hq w)
       | (apply callQuiet' en_sParse; · exact fun w _ => hq w)
       | (apply callPure' en_sPrint; · exact fun w _ => n4_w w)
       | (apply callQuiet' en_sPrint; · exact fun w _ => n4_w w)
       | (apply callPure' en_sParse; · exact fun w _ => k4_w w)
       | (apply callQuiet' en_sParse; · exact fun w _ => k4_w w)
       | (refine And.intro (from36 ht) ?_)
       | (first | refine eqlW eqS57 rfl rfl rfl (by repeat' first | exact trivial | apply And.intro | rfl) (by repeat' first | exact trivial | apply And.intro | rfl) ?_ | refine neqW eqS57 rfl rfl rfl (by repeat' first | exact trivial | apply And.intro | rfl) (by repeat' first | exact trivial | apply And.intro | rfl) ?_ | refine eqlW eqS60 rfl rfl rfl (by repeat' first | exact trivial | apply And.intro | rfl) (by repeat' first | exact trivial | apply And.intro | rfl) ?_ | refine neqW eqS60 rfl rfl rfl (by repeat' first | exact trivial | apply And.intro | rfl) (by repeat' first | exact trivial | apply And.intro | rfl) ?_)
       | refine Or.inl ⟨_, _, (memHas (by repeat (first | apply Has.here | apply Has.there))), ?_⟩
       | refine Or.inl ⟨_, _, _, (by repeat (first | apply Hole.here | apply Hole.there)), rfl, rfl, ?_⟩
       | (apply loadArr; (· apply memHas; (repeat (first | apply Has.here | apply Has.there))); (· rfl); (· (first | assumption | (apply getSelf; (repeat' first | assumption | apply getSelf); done) | exact mapGet (by omega) | exact rfl | (simp; done))))
       | (apply loadArr0; (· apply memHas; (repeat (first | apply Has.here | apply Has.there))); (· rfl); (· (first | assumption | (apply getSelf; (repeat' first | assumption | apply getSelf); done) | exact mapGet (by omega) | exact rfl | (simp; done))))
       | (apply loadArr1; (· apply memHas; (repeat (first | apply Has.here | apply Has.there))); (· rfl); (· (first | assumption | (apply getSelf; (repeat' first | assumption | apply getSelf); done) | exact mapGet (by omega) | exact rfl | (simp; done))))
       | (apply loadOld; (· assumption); (· rfl); (· (first | assumption | (apply getSelf; (repeat' first | assumption | apply getSelf); done) | exact mapGet (by omega) | exact rfl | (simp; done))))
       | (apply loadOld0; (· assumption); (· rfl); (· (first | assumption | (apply getSelf; (repeat' first | assumption | apply getSelf); done) | exact mapGet (by omega) | exact rfl | (simp; done))))
       | (apply loadOld1; (· assumption); (· rfl); (· (first | assumption | (apply getSelf; (repeat' first | assumption | apply getSelf); done) | exact mapGet (by omega) | exact rfl | (simp; done))))
       | (apply loadRowAt; (· apply memHas; (repeat (first | apply Has.here | apply Has.there))); (· rfl); (· first | assumption | exact rfl); (· rfl))
       | (apply loadRg; (· assumption); (· rfl))
       | (apply loadRg0; (· assumption))
       | (apply Or.inr; apply storeArr; (· (repeat (first | apply Hole.here | apply Hole.there))); (· rfl); (· (first | assumption | (apply getSelf; (repeat' first | assumption | apply getSelf); done) | exact mapGet (by omega) | exact rfl | (simp; done))); (· rfl); (· rfl))
       | (apply Or.inr; apply storeArr0; (· (repeat (first | apply Hole.here | apply Hole.there))); (· rfl); (· (first | assumption | (apply getSelf; (repeat' first | assumption | apply getSelf); done) | exact mapGet (by omega) | exact rfl | (simp; done))); (· rfl); (· rfl))
       | (apply Or.inr; apply storeArr1; (· (repeat (first | apply Hole.here | apply Hole.there))); (· rfl); (· (first | assumption | (apply getSelf; (repeat' first | assumption | apply getSelf); done) | exact mapGet (by omega) | exact rfl | (simp; done))); (· rfl); (· rfl))
       | refine BytW.ofBlk (memHas (by repeat (first | apply Has.here | apply Has.there))) rfl rfl ?_
       | refine AppW.noneB (memHas (by repeat (first | apply Has.here | apply Has.there))) (Nat.le_of_ble_eq_true rfl) rfl rfl rfl (Nat.le_of_ble_eq_true rfl) (Nat.le_of_ble_eq_true rfl) ?_
       | refine AppW.rowB (memHas (by repeat (first | apply Has.here | apply Has.there))) (Nat.le_of_ble_eq_true rfl) rfl rfl (by repeat (first | apply Hole.here | apply Hole.there)) (Nat.le_of_ble_eq_true rfl) (Nat.le_of_ble_eq_true rfl) ?_
       | refine AppW.blkB (memHas (by repeat (first | apply Has.here | apply Has.there))) (Nat.le_of_ble_eq_true rfl) rfl rfl (by repeat (first | apply Hole.here | apply Hole.there)) rfl rfl (Nat.le_of_ble_eq_true rfl) (Nat.le_of_ble_eq_true rfl) ?_
       | refine AppW.rowS (memHas (by repeat (first | apply Has.here | apply Has.there))) (Nat.le_of_ble_eq_true rfl) rfl rfl (by repeat (first | apply Hole.here | apply Hole.there)) (by omega) (Nat.le_of_ble_eq_true rfl) ?_
       | refine AppW.arrS (memHas (by repeat (first | apply Has.here | apply Has.there))) (Nat.le_of_ble_eq_true rfl) rfl rfl rfl (by repeat (first | apply Hole.here | apply Hole.there)) (by first | omega | (simp; omega)) (Nat.le_of_ble_eq_true rfl) ?_
       | refine ⟨(by first | rfl | omega | exact ⟨by omega, by omega⟩ | exact ⟨by omega, by omega, by omega⟩ | exact ⟨_, _, rfl⟩ | decide), ?_⟩
       | fail)
  all_goals (try conv => whnf)
  all_goals
    refine v_bool ?_
    have e : t.extract (Int.toNat 36) (t.size : Int).toNat = ⟨#[0, 0, 0, 0, 2, 1, 2]⟩ := by rw [ht]; exact htail
    rw [e, ht]
    decide
theorem awake04_w (w : World) : PuAt Try.prog 57 [] (.bool true) w := awake04_g _ b4_size b4_tail p4_w q4_w w
theorem ok_sstpTells : (match Try.f13.body with | some c => codeOk Try.f13.ntmps c | none => false) = true := by kernel_rfl
theorem en_sstpTells : ∃ fn, Try.prog.funcs[13]? = some fn ∧ (fn.name == "runtime.NumGoroutine") = false ∧ fn.body.isNone = false := ⟨_, Try.func13, by kernel_rfl, by kernel_rfl⟩
theorem sstpTells_w (b : BpduV) (hb : okB b) (v : Int) (s : ByteArray) (w : World) : PuAt Try.prog 13 [.agg ⟨b.enc⟩, .int .i64 v, .string s] (.bool true) w := by
  refine funcR_pure tyOk wide Try.func13 ok_sstpTells (Nat.le_of_ble_eq_true rfl) ?_
  repeat' first
    | (conv => whnf
       first
       | intro _
       | (first | refine selSplit (fun h => ?_) (fun h => ?_) | refine condSplit (fun h => ?_) (fun h => ?_)) <;> first | exact (clash (by assumption) h).elim | exact (clash h (by assumption)).elim | (simp only [decide_eq_true_eq, decide_eq_false_iff_not, Bool.not_eq_true', Bool.not_eq_false', Bool.not_true, Bool.not_false, Bool.or_eq_true, Bool.and_eq_true, Bool.or_eq_false_iff, Bool.and_eq_false_iff, beq_iff_eq, beq_eq_false_iff_ne, ne_eq] at h; first | (exfalso; omega) | skip) | skip
       | refine SeqP.go ?_
       | refine CondR.mk (by decide +kernel) ?_
       | exact IsV.mk
       | apply GuardP.mk
       | (apply callPure' en_awake04; · exact fun w _ => awake04_w w)
       | (apply callQuiet' en_awake04; · exact fun w _ => awake04_w w)
       | (apply callPure' en_sPrint; · exact fun w _ => sPrint_w b v w)
       | (apply callQuiet' en_sPrint; · exact fun w _ => sPrint_w b v w)
       | (apply callPure' en_rPrint4; · exact fun w _ => rPrint4_w b hb v w)
       | (apply callQuiet' en_rPrint4; · exact fun w _ => rPrint4_w b hb v w)
       | (apply callPure' en_sParse; · exact fun w _ => sParse_w s w (by omega))
       | (apply callQuiet' en_sParse; · exact fun w _ => sParse_w s w (by omega))
       | (apply callPure' en_rParse4; · exact fun w _ => rParse4_w s w (by omega))
       | (apply callQuiet' en_rParse4; · exact fun w _ => rParse4_w s w (by omega))
       | (first | refine eqlW eqS57 rfl rfl rfl (by repeat' first | exact trivial | apply And.intro | rfl) (by repeat' first | exact trivial | apply And.intro | rfl) ?_ | refine neqW eqS57 rfl rfl rfl (by repeat' first | exact trivial | apply And.intro | rfl) (by repeat' first | exact trivial | apply And.intro | rfl) ?_ | refine eqlW eqS60 rfl rfl rfl (by repeat' first | exact trivial | apply And.intro | rfl) (by repeat' first | exact trivial | apply And.intro | rfl) ?_ | refine neqW eqS60 rfl rfl rfl (by repeat' first | exact trivial | apply And.intro | rfl) (by repeat' first | exact trivial | apply And.intro | rfl) ?_)
       | refine Or.inl ⟨_, _, (memHas (by repeat (first | apply Has.here | apply Has.there))), ?_⟩
       | refine Or.inl ⟨_, _, _, (by repeat (first | apply Hole.here | apply Hole.there)), rfl, rfl, ?_⟩
       | (apply loadArr; (· apply memHas; (repeat (first | apply Has.here | apply Has.there))); (· rfl); (· (first | assumption | (apply getSelf; (repeat' first | assumption | apply getSelf); done) | exact mapGet (by omega) | exact rfl | (simp; done))))
       | (apply loadArr0; (· apply memHas; (repeat (first | apply Has.here | apply Has.there))); (· rfl); (· (first | assumption | (apply getSelf; (repeat' first | assumption | apply getSelf); done) | exact mapGet (by omega) | exact rfl | (simp; done))))
       | (apply loadArr1; (· apply memHas; (repeat (first | apply Has.here | apply Has.there))); (· rfl); (· (first | assumption | (apply getSelf; (repeat' first | assumption | apply getSelf); done) | exact mapGet (by omega) | exact rfl | (simp; done))))
       | (apply loadOld; (· assumption); (· rfl); (· (first | assumption | (apply getSelf; (repeat' first | assumption | apply getSelf); done) | exact mapGet (by omega) | exact rfl | (simp; done))))
       | (apply loadOld0; (· assumption); (· rfl); (· (first | assumption | (apply getSelf; (repeat' first | assumption | apply getSelf); done) | exact mapGet (by omega) | exact rfl | (simp; done))))
       | (apply loadOld1; (· assumption); (· rfl); (· (first | assumption | (apply getSelf; (repeat' first | assumption | apply getSelf); done) | exact mapGet (by omega) | exact rfl | (simp; done))))
       | (apply loadRowAt; (· apply memHas; (repeat (first | apply Has.here | apply Has.there))); (· rfl); (· first | assumption | exact rfl); (· rfl))
       | (apply loadRg; (· assumption); (· rfl))
       | (apply loadRg0; (· assumption))
       | (apply Or.inr; apply storeArr; (· (repeat (first | apply Hole.here | apply Hole.there))); (· rfl); (· (first | assumption | (apply getSelf; (repeat' first | assumption | apply getSelf); done) | exact mapGet (by omega) | exact rfl | (simp; done))); (· rfl); (· rfl))
       | (apply Or.inr; apply storeArr0; (· (repeat (first | apply Hole.here | apply Hole.there))); (· rfl); (· (first | assumption | (apply getSelf; (repeat' first | assumption | apply getSelf); done) | exact mapGet (by omega) | exact rfl | (simp; done))); (· rfl); (· rfl))
       | (apply Or.inr; apply storeArr1; (· (repeat (first | apply Hole.here | apply Hole.there))); (· rfl); (· (first | assumption | (apply getSelf; (repeat' first | assumption | apply getSelf); done) | exact mapGet (by omega) | exact rfl | (simp; done))); (· rfl); (· rfl))
       | refine BytW.ofBlk (memHas (by repeat (first | apply Has.here | apply Has.there))) rfl rfl ?_
       | refine AppW.noneB (memHas (by repeat (first | apply Has.here | apply Has.there))) (Nat.le_of_ble_eq_true rfl) rfl rfl rfl (Nat.le_of_ble_eq_true rfl) (Nat.le_of_ble_eq_true rfl) ?_
       | refine AppW.rowB (memHas (by repeat (first | apply Has.here | apply Has.there))) (Nat.le_of_ble_eq_true rfl) rfl rfl (by repeat (first | apply Hole.here | apply Hole.there)) (Nat.le_of_ble_eq_true rfl) (Nat.le_of_ble_eq_true rfl) ?_
       | refine AppW.blkB (memHas (by repeat (first | apply Has.here | apply Has.there))) (Nat.le_of_ble_eq_true rfl) rfl rfl (by repeat (first | apply Hole.here | apply Hole.there)) rfl rfl (Nat.le_of_ble_eq_true rfl) (Nat.le_of_ble_eq_true rfl) ?_
       | refine AppW.rowS (memHas (by repeat (first | apply Has.here | apply Has.there))) (Nat.le_of_ble_eq_true rfl) rfl rfl (by repeat (first | apply Hole.here | apply Hole.there)) (by omega) (Nat.le_of_ble_eq_true rfl) ?_
       | refine AppW.arrS (memHas (by repeat (first | apply Has.here | apply Has.there))) (Nat.le_of_ble_eq_true rfl) rfl rfl rfl (by repeat (first | apply Hole.here | apply Hole.there)) (by first | omega | (simp; omega)) (Nat.le_of_ble_eq_true rfl) ?_
       | refine ⟨(by first | rfl | omega | exact ⟨by omega, by omega⟩ | exact ⟨by omega, by omega, by omega⟩ | exact ⟨_, _, rfl⟩ | decide), ?_⟩
       | fail)
  all_goals (try conv => whnf)
  · rfl
  · refine v_bool ?_
    have ea : allEq (sParseV s).1.enc (sParseV s).1.enc = true := (BpduV.eqEnc _ _).2 rfl
    simp only [decide_true, Bool.true_and, Bool.and_true]
    exact ea
theorem sPrint_small (b : BpduV) (v : Int) : (sPrintV b v).1.size ≤ 43 := by
  by_cases h : (sPrintV b v).2 = 0
  · obtain ⟨_, _, _, e⟩ := sPrint_ok h
    have := print_small b
    rw [e, ByteArray.size_append, vtail_size]
    omega
  · rw [sPrint_no h]; decide
theorem small_more4 (b : BpduV) (v : Int) (m : ByteArray) (h : m.size ≤ 500) : (sPrintV b v).1.size + m.size ≤ 9223372036854775807 := by have := sPrint_small b v; omega
theorem nz4 {b : BpduV} {v : Int} (h : (sPrintV b v).2 = 0) : ((sPrintV b v).1.size : Int) ≠ 0 := by
  obtain ⟨_, _, _, e⟩ := sPrint_ok h
  rw [e, ByteArray.size_append, vtail_size]
  omega
theorem cut_lt4 {b : BpduV} {v cut : Int} (h : (sPrintV b v).2 = 0) (hc : ¬ cut < 0) : 0 ≤ cut.tmod ((sPrintV b v).1.size : Int) ∧ cut.tmod ((sPrintV b v).1.size : Int) < (sPrintV b v).1.size := by
  have hn := nz4 h
  exact ⟨Int.tmod_nonneg _ (by omega), Int.tmod_lt_of_pos _ (by omega)⟩
theorem cut_ok4 {b : BpduV} {v cut : Int} (h : (sPrintV b v).2 = 0) (hc : ¬ cut < 0) : (0 : Int) ≤ 0 ∧ 0 ≤ cut.tmod ((sPrintV b v).1.size : Int) ∧ cut.tmod ((sPrintV b v).1.size : Int) ≤ (sPrintV b v).1.size := by
  have := cut_lt4 h hc
  omega
theorem pre_ok4 {b : BpduV} {v : Int} (h : (sPrintV b v).2 = 0) : (0 : Int) ≤ 0 ∧ (0 : Int) ≤ ((bPrintV b).1.size : Int) ∧ ((bPrintV b).1.size : Int) ≤ (sPrintV b v).1.size := by
  obtain ⟨_, _, _, e⟩ := sPrint_ok h
  rw [e, ByteArray.size_append]
  omega
theorem pre_is4 {b : BpduV} {v : Int} (h : (sPrintV b v).2 = 0) : (sPrintV b v).1.extract 0 (bPrintV b).1.size = (bPrintV b).1 := by
  obtain ⟨_, _, _, e⟩ := sPrint_ok h
  rw [e, app_pre _ _ _ (Nat.le_refl _)]
  apply ba_ext
  rw [pre_list, List.take_of_length_le (by rw [len_list]; exact Nat.le_refl _)]
theorem ok_sstpBack : (match Try.f14.body with | some c => codeOk Try.f14.ntmps c | none => false) = true := by kernel_rfl
theorem en_sstpBack : ∃ fn, Try.prog.funcs[14]? = some fn ∧ (fn.name == "runtime.NumGoroutine") = false ∧ fn.body.isNone = false := ⟨_, Try.func14, by kernel_rfl, by kernel_rfl⟩
theorem sstpBack_w (b : BpduV) (hb : okB b) (v : Int) (more : ByteArray) (cut : Int) (w : World) : PuAt Try.prog 14 [.agg ⟨b.enc⟩, .int .i64 v, .string more, .int .i64 cut] (.bool true) w := by
  refine funcR_pure tyOk wide Try.func14 ok_sstpBack (Nat.le_of_ble_eq_true rfl) ?_
  repeat' first
    | (conv => whnf
       first
       | intro _
       | (first | refine selSplit (fun h => ?_) (fun h => ?_) | refine condSplit (fun h => ?_) (fun h => ?_)) <;> first | exact (clash (by assumption) h).elim | exact (clash h (by assumption)).elim | (simp only [decide_eq_true_eq, decide_eq_false_iff_not, Bool.not_eq_true', Bool.not_eq_false', Bool.not_true, Bool.not_false, Bool.or_eq_true, Bool.and_eq_true, Bool.or_eq_false_iff, Bool.and_eq_false_iff, beq_iff_eq, beq_eq_false_iff_ne, ne_eq] at h; first | (exfalso; omega) | skip) | skip
       | refine SeqP.go ?_
       | refine CondR.mk (by decide +kernel) ?_
       | exact IsV.mk
       | apply GuardP.mk
       | (apply callPure' en_awake04; · exact fun w _ => awake04_w w)
       | (apply callQuiet' en_awake04; · exact fun w _ => awake04_w w)
       | (apply callPure' en_sPrint; · exact fun w _ => sPrint_w b v w)
       | (apply callQuiet' en_sPrint; · exact fun w _ => sPrint_w b v w)
       | (apply callPure' en_bPrint; · exact fun w _ => bPrint_w b w)
       | (apply callQuiet' en_bPrint; · exact fun w _ => bPrint_w b w)
       | (refine And.intro (small_more4 b v more (by omega)) ?_)
       | (refine And.intro (nz4 (b := b) (v := v) (by assumption)) ?_)
       | (apply callPure' en_sParse; · exact fun w _ => sParse_w ((sPrintV b v).1 ++ more) w (by rw [ByteArray.size_append]; have := sPrint_small b v; omega))
       | (apply callQuiet' en_sParse; · exact fun w _ => sParse_w ((sPrintV b v).1 ++ more) w (by rw [ByteArray.size_append]; have := sPrint_small b v; omega))
       | (refine And.intro (cut_ok4 (b := b) (v := v) (cut := cut) (by assumption) (by omega)) ?_)
       | (apply callPure' en_sParse; · exact fun w _ => sParse_w ((sPrintV b v).1.extract 0 (cut.tmod (sPrintV b v).1.size).toNat) w (by rw [ByteArray.size_extract]; have := sPrint_small b v; omega))
       | (apply callQuiet' en_sParse; · exact fun w _ => sParse_w ((sPrintV b v).1.extract 0 (cut.tmod (sPrintV b v).1.size).toNat) w (by rw [ByteArray.size_extract]; have := sPrint_small b v; omega))
       | (refine And.intro (pre_ok4 (b := b) (v := v) (by assumption)) ?_)
       | (first | refine eqlW eqS57 rfl rfl rfl (by repeat' first | exact trivial | apply And.intro | rfl) (by repeat' first | exact trivial | apply And.intro | rfl) ?_ | refine neqW eqS57 rfl rfl rfl (by repeat' first | exact trivial | apply And.intro | rfl) (by repeat' first | exact trivial | apply And.intro | rfl) ?_ | refine eqlW eqS60 rfl rfl rfl (by repeat' first | exact trivial | apply And.intro | rfl) (by repeat' first | exact trivial | apply And.intro | rfl) ?_ | refine neqW eqS60 rfl rfl rfl (by repeat' first | exact trivial | apply And.intro | rfl) (by repeat' first | exact trivial | apply And.intro | rfl) ?_)
       | refine Or.inl ⟨_, _, (memHas (by repeat (first | apply Has.here | apply Has.there))), ?_⟩
       | refine Or.inl ⟨_, _, _, (by repeat (first | apply Hole.here | apply Hole.there)), rfl, rfl, ?_⟩
       | (apply loadArr; (· apply memHas; (repeat (first | apply Has.here | apply Has.there))); (· rfl); (· (first | assumption | (apply getSelf; (repeat' first | assumption | apply getSelf); done) | exact mapGet (by omega) | exact rfl | (simp; done))))
       | (apply loadArr0; (· apply memHas; (repeat (first | apply Has.here | apply Has.there))); (· rfl); (· (first | assumption | (apply getSelf; (repeat' first | assumption | apply getSelf); done) | exact mapGet (by omega) | exact rfl | (simp; done))))
       | (apply loadArr1; (· apply memHas; (repeat (first | apply Has.here | apply Has.there))); (· rfl); (· (first | assumption | (apply getSelf; (repeat' first | assumption | apply getSelf); done) | exact mapGet (by omega) | exact rfl | (simp; done))))
       | (apply loadOld; (· assumption); (· rfl); (· (first | assumption | (apply getSelf; (repeat' first | assumption | apply getSelf); done) | exact mapGet (by omega) | exact rfl | (simp; done))))
       | (apply loadOld0; (· assumption); (· rfl); (· (first | assumption | (apply getSelf; (repeat' first | assumption | apply getSelf); done) | exact mapGet (by omega) | exact rfl | (simp; done))))
       | (apply loadOld1; (· assumption); (· rfl); (· (first | assumption | (apply getSelf; (repeat' first | assumption | apply getSelf); done) | exact mapGet (by omega) | exact rfl | (simp; done))))
       | (apply loadRowAt; (· apply memHas; (repeat (first | apply Has.here | apply Has.there))); (· rfl); (· first | assumption | exact rfl); (· rfl))
       | (apply loadRg; (· assumption); (· rfl))
       | (apply loadRg0; (· assumption))
       | (apply Or.inr; apply storeArr; (· (repeat (first | apply Hole.here | apply Hole.there))); (· rfl); (· (first | assumption | (apply getSelf; (repeat' first | assumption | apply getSelf); done) | exact mapGet (by omega) | exact rfl | (simp; done))); (· rfl); (· rfl))
       | (apply Or.inr; apply storeArr0; (· (repeat (first | apply Hole.here | apply Hole.there))); (· rfl); (· (first | assumption | (apply getSelf; (repeat' first | assumption | apply getSelf); done) | exact mapGet (by omega) | exact rfl | (simp; done))); (· rfl); (· rfl))
       | (apply Or.inr; apply storeArr1; (· (repeat (first | apply Hole.here | apply Hole.there))); (· rfl); (· (first | assumption | (apply getSelf; (repeat' first | assumption | apply getSelf); done) | exact mapGet (by omega) | exact rfl | (simp; done))); (· rfl); (· rfl))
       | refine BytW.ofBlk (memHas (by repeat (first | apply Has.here | apply Has.there))) rfl rfl ?_
       | refine AppW.noneB (memHas (by repeat (first | apply Has.here | apply Has.there))) (Nat.le_of_ble_eq_true rfl) rfl rfl rfl (Nat.le_of_ble_eq_true rfl) (Nat.le_of_ble_eq_true rfl) ?_
       | refine AppW.rowB (memHas (by repeat (first | apply Has.here | apply Has.there))) (Nat.le_of_ble_eq_true rfl) rfl rfl (by repeat (first | apply Hole.here | apply Hole.there)) (Nat.le_of_ble_eq_true rfl) (Nat.le_of_ble_eq_true rfl) ?_
       | refine AppW.blkB (memHas (by repeat (first | apply Has.here | apply Has.there))) (Nat.le_of_ble_eq_true rfl) rfl rfl (by repeat (first | apply Hole.here | apply Hole.there)) rfl rfl (Nat.le_of_ble_eq_true rfl) (Nat.le_of_ble_eq_true rfl) ?_
       | refine AppW.rowS (memHas (by repeat (first | apply Has.here | apply Has.there))) (Nat.le_of_ble_eq_true rfl) rfl rfl (by repeat (first | apply Hole.here | apply Hole.there)) (by omega) (Nat.le_of_ble_eq_true rfl) ?_
       | refine AppW.arrS (memHas (by repeat (first | apply Has.here | apply Has.there))) (Nat.le_of_ble_eq_true rfl) rfl rfl rfl (by repeat (first | apply Hole.here | apply Hole.there)) (by first | omega | (simp; omega)) (Nat.le_of_ble_eq_true rfl) ?_
       | refine ⟨(by first | rfl | omega | exact ⟨by omega, by omega⟩ | exact ⟨by omega, by omega, by omega⟩ | exact ⟨_, _, rfl⟩ | decide), ?_⟩
       | fail)
  all_goals (try conv => whnf)
  · rfl
  · rw [sPrint_no (by assumption)]; rfl
  · exfalso
    have h0 : (sPrintV b v).2 = 0 := by assumption
    have hcut : ¬ cut < 0 := by omega
    have hl := cut_lt4 h0 hcut
    rcases h with (h | h) | h
    · exact h (print_no.2 (sPrint_ok h0).1)
    · exact h (pre_is4 h0)
    · exact (sCut hb h0 _ (by omega)).1 h
  · have h0 : (sPrintV b v).2 = 0 := by assumption
    refine v_bool ?_
    rw [(sBack hb h0 more).1 h]
    rfl
  · have h0 : (sPrintV b v).2 = 0 := by assumption
    have hcut : ¬ cut < 0 := by omega
    have hl := cut_lt4 h0 hcut
    have ho : ¬ tooOld b := by unfold tooOld; omega
    refine v_bool ?_
    rw [(sCut hb h0 _ (by omega)).2 ho, (sBack hb h0 more).2 ho]
    have ea : allEq b.enc b.enc = true := (BpduV.eqEnc _ _).2 rfl
    simp only [decide_true, Bool.true_and, Bool.and_true]
    exact ea
end Go.Proofs.Yticobcojmpakfaa.Am
