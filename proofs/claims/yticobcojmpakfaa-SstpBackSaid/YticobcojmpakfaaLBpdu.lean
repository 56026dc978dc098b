/- The law BpduTells. -/
import Derived.Test.YticobcojmpakfaaBpdu5
import Derived.Test.YticobcojmpakfaaOpa
set_option linter.unusedVariables false
set_option linter.unusedSimpArgs false
set_option maxRecDepth 100000
set_option maxHeartbeats 4000000
namespace Go.Proofs.Yticobcojmpakfaa.Am
open Go Go.RowKit
theorem nat_bit (n k : Nat) : n &&& 2 ^ k = 2 ^ k * (n / 2 ^ k % 2) := by
  apply Nat.eq_of_testBit_eq
  intro i
  rw [Nat.testBit_and, Nat.testBit_two_pow]
  rcases (show n / 2 ^ k % 2 = 0 ∨ n / 2 ^ k % 2 = 1 by omega) with e | e
  · rw [e, Nat.mul_zero, Nat.zero_testBit]
    by_cases h : k = i
    · subst h; rw [Nat.testBit_eq_decide_div_mod_eq, e]; rfl
    · simp [h]
  · rw [e, Nat.mul_one, Nat.testBit_two_pow]
    by_cases h : k = i
    · subst h; rw [Nat.testBit_eq_decide_div_mod_eq, e]; rfl
    · simp [h]
theorem andi (x : Int) (c : Nat) (hc : c < 4611686018427387904) : bits .and .i64 x c = (((x % 18446744073709551616).toNat &&& c : Nat) : Int) := by
  show IntKind.i64.wrap ((BitVec.ofInt 64 x &&& BitVec.ofInt 64 (c : Int)).toNat : Int) = _
  rw [BitVec.toNat_and, BitVec.toNat_ofInt, BitVec.ofInt_natCast, BitVec.toNat_ofNat, Nat.mod_eq_of_lt (by omega)]
  have h : (x % ((2 ^ 64 : Nat) : Int)).toNat &&& c ≤ c := Nat.and_le_right
  rw [w64 (by omega) (by omega)]
  rfl
theorem roleV_eq (f : Int) : roleV f = f / 4 % 4 := by
  unfold roleV
  rw [show (3 : Int) = ((3 : Nat) : Int) from rfl, andi _ 3 (by decide), show (3 : Nat) = 2 ^ 2 - 1 from rfl, Nat.and_two_pow_sub_one_eq_mod, Int.fdiv_eq_ediv_of_nonneg _ (by decide)]
  omega
theorem bit4 (f : Int) : bits .and .i64 f 4 = 4 * (f / 4 % 2) := by
  rw [show (4 : Int) = ((4 : Nat) : Int) from rfl, andi _ 4 (by decide), show (4 : Nat) = 2 ^ 2 from rfl, nat_bit]
  omega
theorem bit8 (f : Int) : bits .and .i64 f 8 = 8 * (f / 8 % 2) := by
  rw [show (8 : Int) = ((8 : Nat) : Int) from rfl, andi _ 8 (by decide), show (8 : Nat) = 2 ^ 3 from rfl, nat_bit]
  omega
/-! ### Awake -/
def b3 : BpduV := ⟨3, 60, 1, 2, 3, 4, 0, 5120, 512, 3840⟩
theorem b3_right : bRightV b3 = true := by decide
theorem b3_ok : okB b3 := by unfold okB b3; decide
def t3 : ByteArray := mkS (flat b3 2 ++ [0])
theorem t3_size : t3.size = 36 := by unfold t3; rw [mkS_size]; rfl
theorem t3_print : bPrintV b3 = (t3, 0) := by
  unfold bPrintV t3
  rw [if_neg (by decide), if_neg (by decide), if_pos (by decide), flat_eq b3_right (by decide), show b3.Kind - 1 = 2 from by decide]
theorem t3_parse : parseV (t3 ++ ⟨#[109, 111, 114, 101]⟩) = (b3, 0) := by
  obtain ⟨h0, h1, h2, h3⟩ := flat_back b3_right (by decide) b3_ok [0] ⟨#[109, 111, 114, 101]⟩
  have hs : (t3 ++ ⟨#[109, 111, 114, 101]⟩ : ByteArray).size = 40 := by rw [ByteArray.size_append, t3_size]; rfl
  have e : mkS (flat b3 (b3.Kind - 1) ++ [0]) = t3 := by unfold t3; rw [show b3.Kind - 1 = 2 from by decide]
  rw [e] at h0 h1 h2 h3
  rw [show b3.Kind = 3 from rfl] at h2 h3
  revert h0 h1 h2 h3 hs
  generalize (t3 ++ ⟨#[109, 111, 114, 101]⟩ : ByteArray) = s
  intro h0 h1 h2 h3 hs
  unfold parseV
  rw [h0, h1, h2, hs, if_neg (by decide), if_neg (by decide), if_neg (by decide), if_neg (by decide), if_neg (by decide), if_neg (by omega), h3]
theorem t7_parse : parseV ⟨#[0, 0, 0, 7]⟩ = (BpduV.zero, 9) := by
  unfold parseV
  rw [if_neg (by decide), if_neg (by decide), if_pos (by decide)]
theorem print3_w (w : World) : PuAt Try.prog 41 [.agg ⟨b3.enc⟩] (.tuple ⟨[.string t3, .int .i64 0]⟩) w := by
  have h := bPrint_w b3 w
  rw [t3_print] at h
  exact h
theorem print2_w (w : World) : PuAt Try.prog 41 [.agg ⟨noticeV.enc⟩] (.tuple ⟨[.string ⟨#[0, 0, 0, 128]⟩, .int .i64 0]⟩) w := by
  have h := bPrint_w noticeV w
  rw [show bPrintV noticeV = (⟨#[0, 0, 0, 128]⟩, 0) by (unfold bPrintV; rw [if_neg (by decide), if_pos (by decide)])] at h
  exact h
theorem parse3_w (w : World) : PuAt Try.prog 43 [.string (t3 ++ ⟨#[109, 111, 114, 101]⟩)] (.tuple ⟨[.agg ⟨b3.enc⟩, .int .i64 0]⟩) w := by
  have h := bParse_w (t3 ++ ⟨#[109, 111, 114, 101]⟩) w (by rw [ByteArray.size_append, t3_size]; decide)
  rw [t3_parse] at h
  exact h
theorem parse7_w (w : World) : PuAt Try.prog 43 [.string ⟨#[0, 0, 0, 7]⟩] (.tuple ⟨[.agg ⟨BpduV.zero.enc⟩, .int .i64 9]⟩) w := by
  have h := bParse_w ⟨#[0, 0, 0, 7]⟩ w (by decide)
  rw [t7_parse] at h
  exact h
theorem role60_w (w : World) : PuAt Try.prog 49 [.int .i64 60] (.int .i64 3) w := bRole_w 60 w
theorem right3_w (w : World) : PuAt Try.prog 45 [.agg ⟨b3.enc⟩] (.bool true) w := by
  have h := bRight_w b3 w
  rw [b3_right] at h
  exact h
theorem t3_more {t : ByteArray} (h : t.size = 36) : t.size + (⟨#[109, 111, 114, 101]⟩ : ByteArray).size ≤ 9223372036854775807 := by rw [h]; decide
theorem ok_awake03 : (match Try.f40.body with | some c => codeOk Try.f40.ntmps c | none => false) = true := by kernel_rfl
theorem en_awake03 : ∃ fn, Try.prog.funcs[40]? = some fn ∧ (fn.name == "runtime.NumGoroutine") = false ∧ fn.body.isNone = false := ⟨_, Try.func40, by kernel_rfl, by kernel_rfl⟩
theorem awake03_g (t : ByteArray) (ht : t.size = 36) (hp : ∀ w, PuAt Try.prog 41 [.agg ⟨b3.enc⟩] (.tuple ⟨[.string t, .int .i64 0]⟩) w) (hq : ∀ w, PuAt Try.prog 43 [.string (t ++ ⟨#[109, 111, 114, 101]⟩)] (.tuple ⟨[.agg ⟨b3.enc⟩, .int .i64 0]⟩) w) (w : World) : PuAt Try.prog 40 [] (.bool true) w := by
  refine funcR_pure tyOk wide Try.func40 ok_awake03 (Nat.le_of_ble_eq_true rfl) ?_
  repeat' first
    | (simp only [putK, overK, Value.cells, fillK]; (conv => whnf); first | refine ⟨rfl, ?_⟩ | skip)
    | (conv => whnf
       first
       | intro _
       | (first | refine selSplit (fun h => ?_) (fun h => ?_) | refine condSplit (fun h => ?_) (fun h => ?_)) <;> first | exact (clash (by assumption) h).elim | exact (clash h (by assumption)).elim | (simp only [decide_eq_true_eq, decide_eq_false_iff_not, Bool.not_eq_true', Bool.not_eq_false', Bool.not_true, Bool.not_false, Bool.or_eq_true, Bool.and_eq_true, Bool.or_eq_false_iff, Bool.and_eq_false_iff, beq_iff_eq, beq_eq_false_iff_ne, ne_eq] at h; first | (exfalso; omega) | skip) | skip
       | refine SeqP.go ?_
       | refine CondR.mk (by decide +kernel) ?_
       | exact IsV.mk
       | apply GuardP.mk
       | (apply callPure' en_bPrint; · exact fun w _ => hp w)
       | (apply callQuiet' en_bPrint; · exact fun w _ => hp w)
       | (apply callPure' en_bParse; · exact fun w _ => hq w)
       | (apply callQuiet' en_bParse; · exact fun w _ => hq w)
       | (apply callPure' en_bPrint; · exact fun w _ => print2_w w)
       | (apply callQuiet' en_bPrint; · exact fun w _ => print2_w w)
       | (apply callPure' en_bParse; · exact fun w _ => parse7_w w)
       | (apply callQuiet' en_bParse; · exact fun w _ => parse7_w w)
       | (apply callPure' en_bRole; · exact fun w _ => role60_w w)
       | (apply callQuiet' en_bRole; · exact fun w _ => role60_w w)
       | (apply callPure' en_bSize; · exact fun w _ => bSize_w _ w)
       | (apply callQuiet' en_bSize; · exact fun w _ => bSize_w _ w)
       | (apply callPure' en_bRight; · exact fun w _ => right3_w w)
       | (apply callQuiet' en_bRight; · exact fun w _ => right3_w w)
       | (refine And.intro (t3_more ht) ?_)
       | (first | refine eqlW eqS57 rfl rfl rfl (by repeat' first | exact trivial | apply And.intro | rfl) (by repeat' first | exact trivial | apply And.intro | rfl) ?_ | refine neqW eqS57 rfl rfl rfl (by repeat' first | exact trivial | apply And.intro | rfl) (by repeat' first | exact trivial | apply And.intro | rfl) ?_ | refine eqlW eqS60 rfl rfl rfl (by repeat' first | exact trivial | apply And.intro | rfl) (by repeat' first | exact trivial | apply And.intro | rfl) ?_ | refine neqW eqS60 rfl rfl rfl (by repeat' first | exact trivial | apply And.intro | rfl) (by repeat' first | exact trivial | apply And.intro | rfl) ?_)
       | refine Or.inl ⟨_, _, (memHas (by repeat (first | apply Has.here | apply Has.there))), ?_⟩
       | refine Or.inl ⟨_, _, _, (by repeat (first | apply Hole.here | apply Hole.there)), rfl, rfl, ?_⟩
       | (apply loadArr; (· apply memHas; (repeat (first | apply Has.here | apply Has.there))); (· rfl); (· (first | assumption | (apply getSelf; (repeat' first | assumption | apply getSelf); done) | exact mapGet (by omega) | exact rfl | (simp; done))))
       | (apply loadArr0; (· apply memHas; (repeat (first | apply Has.here | apply Has.there))); (· rfl); (· (first | assumption | (apply getSelf; (repeat' first | assumption | apply getSelf); done) | exact mapGet (by omega) | exact rfl | (simp; done))))
       | (apply loadArr1; (· apply memHas; (repeat (first | apply Has.here | apply Has.there))); (· rfl); (· (first | assumption | (apply getSelf; (repeat' first | assumption | apply getSelf); done) | exact mapGet (by omega) | exact rfl | (simp; done))))
       | (apply loadOld; (· assumption); (· rfl); (· (first | assumption | (apply getSelf; (repeat' first | assumption | apply getSelf); done) | exact mapGet (by omega) | exact rfl | (simp; done))))
       | (apply loadOld0; (· assumption); (· rfl); (· (first | assumption | (apply getSelf; (repeat' first | assumption | apply getSelf); done) | exact mapGet (by omega) | exact rfl | (simp; done))))
       | (apply loadOld1; (· assumption); (· rfl); (· (first | assumption | (apply getSelf; (repeat' first | assumption | apply getSelf); done) | exact mapGet (by omega) | exact rfl | (simp; done))))
       | (apply loadRowAt; (· apply memHas; (repeat (first | apply Has.here | apply Has.there))); (· rfl); (· first | assumption | exact rfl); (· rfl))
       | (apply loadRg; (· assumption); (· rfl))
       | (apply loadRg0; (· assumption))
       | (apply Or.inr; apply storeArr; (· (repeat (first | apply Hole.here | apply Hole.there))); (· rfl); (· (first | assumption | (apply getSelf; (repeat' first | assumption | apply getSelf); done) | exact mapGet (by omega) | exact rfl | (simp; done))); (· rfl); (· rfl))
       | (apply Or.inr; apply storeArr0; (· (repeat (first | apply Hole.here | apply Hole.there))); (· rfl); (· (first | assumption | (apply getSelf; (repeat' first | assumption | apply getSelf); done) | exact mapGet (by omega) | exact rfl | (simp; done))); (· rfl); (· rfl))
       | (apply Or.inr; apply storeArr1; (· (repeat (first | apply Hole.here | apply Hole.there))); (· rfl); (· (first | assumption | (apply getSelf; (repeat' first | assumption | apply getSelf); done) | exact mapGet (by omega) | exact rfl | (simp; done))); (· rfl); (· rfl))
       | refine BytW.ofBlk (memHas (by repeat (first | apply Has.here | apply Has.there))) rfl rfl ?_
       | refine AppW.noneB (memHas (by repeat (first | apply Has.here | apply Has.there))) (Nat.le_of_ble_eq_true rfl) rfl rfl rfl (Nat.le_of_ble_eq_true rfl) (Nat.le_of_ble_eq_true rfl) ?_
       | refine AppW.rowB (memHas (by repeat (first | apply Has.here | apply Has.there))) (Nat.le_of_ble_eq_true rfl) rfl rfl (by repeat (first | apply Hole.here | apply Hole.there)) (Nat.le_of_ble_eq_true rfl) (Nat.le_of_ble_eq_true rfl) ?_
       | refine AppW.blkB (memHas (by repeat (first | apply Has.here | apply Has.there))) (Nat.le_of_ble_eq_true rfl) rfl rfl (by repeat (first | apply Hole.here | apply Hole.there)) rfl rfl (Nat.le_of_ble_eq_true rfl) (Nat.le_of_ble_eq_true rfl) ?_
       | refine AppW.rowS (memHas (by repeat (first | apply Has.here | apply Has.there))) (Nat.le_of_ble_eq_true rfl) rfl rfl (by repeat (first | apply Hole.here | apply Hole.there)) (by omega) (Nat.le_of_ble_eq_true rfl) ?_
       | refine AppW.arrS (memHas (by repeat (first | apply Has.here | apply Has.there))) (Nat.le_of_ble_eq_true rfl) rfl rfl rfl (by repeat (first | apply Hole.here | apply Hole.there)) (by first | omega | (simp; omega)) (Nat.le_of_ble_eq_true rfl) ?_
       | refine ⟨(by first | rfl | omega | exact ⟨by omega, by omega⟩ | exact ⟨by omega, by omega, by omega⟩ | exact ⟨_, _, rfl⟩ | decide), ?_⟩
       | fail)
  all_goals (try conv => whnf)
  all_goals exact v_bool (by rw [ht]; decide +kernel)
theorem awake03_w (w : World) : PuAt Try.prog 40 [] (.bool true) w := awake03_g t3 t3_size print3_w parse3_w w
/-! ### The law -/
theorem ok_bpduTells : (match Try.f8.body with | some c => codeOk Try.f8.ntmps c | none => false) = true := by kernel_rfl
theorem en_bpduTells : ∃ fn, Try.prog.funcs[8]? = some fn ∧ (fn.name == "runtime.NumGoroutine") = false ∧ fn.body.isNone = false := ⟨_, Try.func8, by kernel_rfl, by kernel_rfl⟩
theorem bpduTells_w (b : BpduV) (hb : okB b) (s : ByteArray) (kind flags : Int) (w : World) : PuAt Try.prog 8 [.agg ⟨b.enc⟩, .string s, .int .i64 kind, .int .i64 flags] (.bool true) w := by
  refine funcR_pure tyOk wide Try.func8 ok_bpduTells (Nat.le_of_ble_eq_true rfl) ?_
  repeat' first
    | (conv => whnf
       first
       | intro _
       | (first | refine selSplit (fun h => ?_) (fun h => ?_) | refine condSplit (fun h => ?_) (fun h => ?_)) <;> first | exact (clash (by assumption) h).elim | exact (clash h (by assumption)).elim | (simp only [decide_eq_true_eq, decide_eq_false_iff_not, Bool.not_eq_true', Bool.not_eq_false', Bool.not_true, Bool.not_false, Bool.or_eq_true, Bool.and_eq_true, Bool.or_eq_false_iff, Bool.and_eq_false_iff, beq_iff_eq, beq_eq_false_iff_ne, ne_eq] at h; first | (exfalso; omega) | skip) | skip
       | (first | refine DrawR.mkC _ (.quiet 0 (.quiet 1 (.quiet 2 (.quiet 3 (.quiet 4 (.quiet 5 (.quiet 6 (.quiet 7 (.quiet 8 (.quiet 9 (.quiet 10 (.quiet 11 (.quiet 12 (.quiet 13 (.quiet 14 (.quiet 15 (.quiet 16 (.quiet 17 (.quiet 18 (.quiet 19 (.quiet 20 (.quiet 21 (.quiet 22 (.quiet 23 (.quiet 24 (.quiet 25 (.quiet 26 (.quiet 27 (.quiet 28 (.quiet 29 (.quiet 30 (.quiet 31 (.quiet 32 (.quiet 33 (.quiet 34 (.quiet 35 (.quiet 36 (.quiet 37 (.quiet 38 .done))))))))))))))))))))))))))))))))))))))) (by decide +kernel) (by decide +kernel) (SubL.refl _) ?_)
       | refine AltP.mk ?_ ?_
       | refine KeepP.mk (SubL.of (by repeat (first | exact List.Sublist.refl _ | exact List.nil_sublist _ | apply List.Sublist.cons_cons | apply List.Sublist.cons))) ?_
       | refine SeqP.go ?_
       | refine CondR.mk (by decide +kernel) ?_
       | exact IsV.mk
       | apply GuardP.mk
       | (apply callPure' en_awake03; · exact fun w _ => awake03_w w)
       | (apply callQuiet' en_awake03; · exact fun w _ => awake03_w w)
       | (apply callPure' en_bPrint; · exact fun w _ => bPrint_w b w)
       | (apply callQuiet' en_bPrint; · exact fun w _ => bPrint_w b w)
       | (apply callPure' en_rPrint; · exact fun w _ => rPrint_w b hb w)
       | (apply callQuiet' en_rPrint; · exact fun w _ => rPrint_w b hb w)
       | (apply callPure' en_bParse; · exact fun w _ => bParse_w s w (by omega))
       | (apply callQuiet' en_bParse; · exact fun w _ => bParse_w s w (by omega))
       | (apply callPure' en_rParse; · exact fun w _ => rParse_w s w (by omega))
       | (apply callQuiet' en_rParse; · exact fun w _ => rParse_w s w (by omega))
       | (apply callPure' en_bRight; · exact fun w _ => bRight_w b w)
       | (apply callQuiet' en_bRight; · exact fun w _ => bRight_w b w)
       | (apply callPure' en_rRight; · exact fun w _ => rRight_w b w)
       | (apply callQuiet' en_rRight; · exact fun w _ => rRight_w b w)
       | (apply callPure' en_bSize; · exact fun w _ => bSize_w _ w)
       | (apply callQuiet' en_bSize; · exact fun w _ => bSize_w _ w)
       | (apply callPure' en_rSize; · exact fun w _ => rSize_w _ w)
       | (apply callQuiet' en_rSize; · exact fun w _ => rSize_w _ w)
       | (apply callPure' en_bRole; · exact fun w _ => bRole_w _ w)
       | (apply callQuiet' en_bRole; · exact fun w _ => bRole_w _ w)
       | (first | refine eqlW eqS57 rfl rfl rfl (by repeat' first | exact trivial | apply And.intro | rfl) (by repeat' first | exact trivial | apply And.intro | rfl) ?_ | refine neqW eqS57 rfl rfl rfl (by repeat' first | exact trivial | apply And.intro | rfl) (by repeat' first | exact trivial | apply And.intro | rfl) ?_ | refine eqlW eqS60 rfl rfl rfl (by repeat' first | exact trivial | apply And.intro | rfl) (by repeat' first | exact trivial | apply And.intro | rfl) ?_ | refine neqW eqS60 rfl rfl rfl (by repeat' first | exact trivial | apply And.intro | rfl) (by repeat' first | exact trivial | apply And.intro | rfl) ?_)
       | refine Or.inl ⟨_, _, (memHas (by repeat (first | apply Has.here | apply Has.there))), ?_⟩
       | refine Or.inl ⟨_, _, _, (by repeat (first | apply Hole.here | apply Hole.there)), rfl, rfl, ?_⟩
       | (apply loadArr; (· apply memHas; (repeat (first | apply Has.here | apply Has.there))); (· rfl); (· (first | assumption | (apply getSelf; (repeat' first | assumption | apply getSelf); done) | exact mapGet (by omega) | exact rfl | (simp; done))))
       | (apply loadArr0; (· apply memHas; (repeat (first | apply Has.here | apply Has.there))); (· rfl); (· (first | assumption | (apply getSelf; (repeat' first | assumption | apply getSelf); done) | exact mapGet (by omega) | exact rfl | (simp; done))))
       | (apply loadArr1; (· apply memHas; (repeat (first | apply Has.here | apply Has.there))); (· rfl); (· (first | assumption | (apply getSelf; (repeat' first | assumption | apply getSelf); done) | exact mapGet (by omega) | exact rfl | (simp; done))))
       | (apply loadOld; (· assumption); (· rfl); (· (first | assumption | (apply getSelf; (repeat' first | assumption | apply getSelf); done) | exact mapGet (by omega) | exact rfl | (simp; done))))
       | (apply loadOld0; (· assumption); (· rfl); (· (first | assumption | (apply getSelf; (repeat' first | assumption | apply getSelf); done) | exact mapGet (by omega) | exact rfl | (simp; done))))
       | (apply loadOld1; (· assumption); (· rfl); (· (first | assumption | (apply getSelf; (repeat' first | assumption | apply getSelf); done) | exact mapGet (by omega) | exact rfl | (simp; done))))
       | (apply loadRowAt; (· apply memHas; (repeat (first | apply Has.here | apply Has.there))); (· rfl); (· first | assumption | exact rfl); (· rfl))
       | (apply loadRg; (· assumption); (· rfl))
       | (apply loadRg0; (· assumption))
       | (apply Or.inr; apply storeArr; (· (repeat (first | apply Hole.here | apply Hole.there))); (· rfl); (· (first | assumption | (apply getSelf; (repeat' first | assumption | apply getSelf); done) | exact mapGet (by omega) | exact rfl | (simp; done))); (· rfl); (· rfl))
       | (apply Or.inr; apply storeArr0; (· (repeat (first | apply Hole.here | apply Hole.there))); (· rfl); (· (first | assumption | (apply getSelf; (repeat' first | assumption | apply getSelf); done) | exact mapGet (by omega) | exact rfl | (simp; done))); (· rfl); (· rfl))
       | (apply Or.inr; apply storeArr1; (· (repeat (first | apply Hole.here | apply Hole.there))); (· rfl); (· (first | assumption | (apply getSelf; (repeat' first | assumption | apply getSelf); done) | exact mapGet (by omega) | exact rfl | (simp; done))); (· rfl); (· rfl))
       | refine BytW.ofBlk (memHas (by repeat (first | apply Has.here | apply Has.there))) rfl rfl ?_
       | refine AppW.noneB (memHas (by repeat (first | apply Has.here | apply Has.there))) (Nat.le_of_ble_eq_true rfl) rfl rfl rfl (Nat.le_of_ble_eq_true rfl) (Nat.le_of_ble_eq_true rfl) ?_
       | refine AppW.rowB (memHas (by repeat (first | apply Has.here | apply Has.there))) (Nat.le_of_ble_eq_true rfl) rfl rfl (by repeat (first | apply Hole.here | apply Hole.there)) (Nat.le_of_ble_eq_true rfl) (Nat.le_of_ble_eq_true rfl) ?_
       | refine AppW.blkB (memHas (by repeat (first | apply Has.here | apply Has.there))) (Nat.le_of_ble_eq_true rfl) rfl rfl (by repeat (first | apply Hole.here | apply Hole.there)) rfl rfl (Nat.le_of_ble_eq_true rfl) (Nat.le_of_ble_eq_true rfl) ?_
       | refine AppW.rowS (memHas (by repeat (first | apply Has.here | apply Has.there))) (Nat.le_of_ble_eq_true rfl) rfl rfl (by repeat (first | apply Hole.here | apply Hole.there)) (by omega) (Nat.le_of_ble_eq_true rfl) ?_
       | refine AppW.arrS (memHas (by repeat (first | apply Has.here | apply Has.there))) (Nat.le_of_ble_eq_true rfl) rfl rfl rfl (by repeat (first | apply Hole.here | apply Hole.there)) (by first | omega | (simp; omega)) (Nat.le_of_ble_eq_true rfl) ?_
       | refine ⟨(by first | rfl | omega | exact ⟨by omega, by omega⟩ | exact ⟨by omega, by omega, by omega⟩ | exact ⟨_, _, rfl⟩ | decide), ?_⟩
       | fail)
  all_goals (try conv => whnf)
  · rfl
  all_goals
    rename_i h4
    have e1 : IntKind.i64.wrap (1 + 2) = 3 := by decide
    have e2 : IntKind.i64.wrap (0 + 1) = 1 := by decide
    have e3 : IntKind.i64.wrap (0 + 2) = 2 := by decide
    have ea : allEq (parseV s).1.enc (parseV s).1.enc = true := (BpduV.eqEnc _ _).2 rfl
    have hr := roleV_eq flags
    rw [bit4] at h4
    rw [bit8] at h
    refine v_bool ?_
    simp only [e1, e2, e3]
    generalize roleV flags = r at *
    simp only [decide_true, beq_self_eq_true, Bool.true_and, Bool.and_true, Bool.and_eq_true, decide_eq_true_eq]
    exact ⟨ea, by omega⟩
end Go.Proofs.Yticobcojmpakfaa.Am
