/- Package treebridgeref03. -/
import Derived.Test.YtmgoahmbdpoikaaBpdu2
set_option linter.unusedVariables false
set_option linter.unusedSimpArgs false
set_option maxRecDepth 100000
set_option maxHeartbeats 4000000
namespace Go.Proofs.Ytmgoahmbdpoikaa.Am
open Go Go.RowKit
theorem ok_rIn : (match Try.f84.body with | some c => codeOk Try.f84.ntmps c | none => false) = true := by kernel_rfl
theorem en_rIn : ∃ fn, Try.prog.funcs[84]? = some fn ∧ (fn.name == "runtime.NumGoroutine") = false ∧ fn.body.isNone = false := ⟨_, Try.func84, by kernel_rfl, by kernel_rfl⟩
theorem rIn_w (n m : Int) (w : World) : PuAt Try.prog 84 [.int .i64 n, .int .i64 m] (.bool (decide (0 ≤ n) && decide (n ≤ m))) w := by
  refine funcR_pure tyOk wide Try.func84 ok_rIn (Nat.le_of_ble_eq_true rfl) ?_
  repeat' first
    | (conv => whnf
       first
       | intro _
       | (first | refine selSplit (fun h => ?_) (fun h => ?_) | refine condSplit (fun h => ?_) (fun h => ?_)) <;> first | exact (clash (by assumption) h).elim | exact (clash h (by assumption)).elim | (simp only [decide_eq_true_eq, decide_eq_false_iff_not, Bool.not_eq_true', Bool.not_eq_false', Bool.not_true, Bool.not_false, Bool.or_eq_true, Bool.and_eq_true, Bool.or_eq_false_iff, Bool.and_eq_false_iff, beq_iff_eq, beq_eq_false_iff_ne, ne_eq] at h; first | (exfalso; omega) | skip) | skip
       | refine SeqP.go ?_
       | refine CondR.mk (by decide +kernel) ?_
       | exact IsV.mk
       | apply GuardP.mk
       | (first | refine eqlW eqS66 rfl rfl rfl (by repeat' first | exact trivial | apply And.intro | rfl) (by repeat' first | exact trivial | apply And.intro | rfl) ?_ | refine neqW eqS66 rfl rfl rfl (by repeat' first | exact trivial | apply And.intro | rfl) (by repeat' first | exact trivial | apply And.intro | rfl) ?_)
       | refine Or.inl ⟨_, _, (memHas (by repeat (first | apply Has.here | apply Has.there))), ?_⟩
       | refine Or.inl ⟨_, _, _, (by repeat (first | apply Hole.here | apply Hole.there)), rfl, rfl, ?_⟩
       | (apply loadArr; (· apply memHas; (repeat (first | apply Has.here | apply Has.there))); (· rfl); (· (first | assumption | (apply getSelf; (repeat' first | assumption | apply getSelf); done) | exact mapGet (by omega) | exact rfl | (simp; done))))
       | (apply loadArr0; (· apply memHas; (repeat (first | apply Has.here | apply Has.there))); (· rfl); (· (first | assumption | (apply getSelf; (repeat' first | assumption | apply getSelf); done) | exact mapGet (by omega) | exact rfl | (simp; done))))
       | (apply loadArr1; (· apply memHas; (repeat (first | apply Has.here | apply Has.there))); (· rfl); (· (first | assumption | (apply getSelf; (repeat' first | assumption | apply getSelf); done) | exact mapGet (by omega) | exact rfl | (simp; done))))
       | (apply loadOld; (· assumption); (· rfl); (· (first | assumption | (apply getSelf; (repeat' first | assumption | apply getSelf); done) | exact mapGet (by omega) | exact rfl | (simp; done))))
       | (apply loadOld0; (· assumption); (· rfl); (· (first | assumption | (apply getSelf; (repeat' first | assumption | apply getSelf); done) | exact mapGet (by omega) | exact rfl | (simp; done))))
       | (apply loadOld1; (· assumption); (· rfl); (· (first | assumption | (apply getSelf; (repeat' first | assumption | apply getSelf); done) | exact mapGet (by omega) | exact rfl | (simp; done))))
       | (apply loadRowAt; (· apply memHas; (repeat (first | apply Has.here | apply Has.there))); (· rfl); (· first | assumption | exact rfl); (· rfl))
       | (apply loadRg; (· assumption); (· rfl))
       | (apply loadRg0; (· assumption))
       | (apply Or.inr; apply storeArr; (· (repeat (first | apply Hole.here | apply Hole.there))); (· rfl); (· (first | assumption | (apply getSelf; (repeat' first | assumption | apply getSelf); done) | exact mapGet (by omega) | exact rfl | (simp; done))); (· rfl); (· rfl))
       | (apply Or.inr; apply storeArr0; (· (repeat (first | apply Hole.here | apply Hole.there))); (· rfl); (· (first | assumption | (apply getSelf; (repeat' first | assumption | apply getSelf); done) | exact mapGet (by omega) | exact rfl | (simp; done))); (· rfl); (· rfl))
       | (apply Or.inr; apply storeArr1; (· (repeat (first | apply Hole.here | apply Hole.there))); (· rfl); (· (first | assumption | (apply getSelf; (repeat' first | assumption | apply getSelf); done) | exact mapGet (by omega) | exact rfl | (simp; done))); (· rfl); (· rfl))
       | refine BytW.ofBlk (memHas (by repeat (first | apply Has.here | apply Has.there))) rfl rfl ?_
       | refine AppW.noneB (memHas (by repeat (first | apply Has.here | apply Has.there))) (Nat.le_of_ble_eq_true rfl) rfl rfl rfl (Nat.le_of_ble_eq_true rfl) (Nat.le_of_ble_eq_true rfl) ?_
       | refine AppW.rowB (memHas (by repeat (first | apply Has.here | apply Has.there))) (Nat.le_of_ble_eq_true rfl) rfl rfl (by repeat (first | apply Hole.here | apply Hole.there)) (Nat.le_of_ble_eq_true rfl) (Nat.le_of_ble_eq_true rfl) ?_
       | refine AppW.blkB (memHas (by repeat (first | apply Has.here | apply Has.there))) (Nat.le_of_ble_eq_true rfl) rfl rfl (by repeat (first | apply Hole.here | apply Hole.there)) rfl rfl (Nat.le_of_ble_eq_true rfl) (Nat.le_of_ble_eq_true rfl) ?_
       | refine AppW.rowS (memHas (by repeat (first | apply Has.here | apply Has.there))) (Nat.le_of_ble_eq_true rfl) rfl rfl (by repeat (first | apply Hole.here | apply Hole.there)) (by omega) (Nat.le_of_ble_eq_true rfl) ?_
       | refine AppW.arrS (memHas (by repeat (first | apply Has.here | apply Has.there))) (Nat.le_of_ble_eq_true rfl) rfl rfl rfl (by repeat (first | apply Hole.here | apply Hole.there)) (by first | omega | (simp; omega)) (Nat.le_of_ble_eq_true rfl) ?_
       | refine ⟨(by first | rfl | omega | exact ⟨by omega, by omega⟩ | exact ⟨by omega, by omega, by omega⟩ | exact ⟨_, _, rfl⟩ | decide), ?_⟩
       | fail)
  all_goals (try conv => whnf)
  all_goals (refine v_bool ?_; grind)
theorem ok_rRight : (match Try.f66.body with | some c => codeOk Try.f66.ntmps c | none => false) = true := by kernel_rfl
theorem en_rRight : ∃ fn, Try.prog.funcs[66]? = some fn ∧ (fn.name == "runtime.NumGoroutine") = false ∧ fn.body.isNone = false := ⟨_, Try.func66, by kernel_rfl, by kernel_rfl⟩
theorem rRight_w (b : BpduV) (w : World) : PuAt Try.prog 66 [.agg ⟨b.enc⟩] (.bool (bRightV b)) w := by
  refine funcR_pure tyOk wide Try.func66 ok_rRight (Nat.le_of_ble_eq_true rfl) ?_
  repeat' first
    | (conv => whnf
       first
       | intro _
       | (first | refine selSplit (fun h => ?_) (fun h => ?_) | refine condSplit (fun h => ?_) (fun h => ?_)) <;> first | exact (clash (by assumption) h).elim | exact (clash h (by assumption)).elim | (simp only [decide_eq_true_eq, decide_eq_false_iff_not, Bool.not_eq_true', Bool.not_eq_false', Bool.not_true, Bool.not_false, Bool.or_eq_true, Bool.and_eq_true, Bool.or_eq_false_iff, Bool.and_eq_false_iff, beq_iff_eq, beq_eq_false_iff_ne, ne_eq] at h; first | (exfalso; omega) | skip) | skip
       | refine SeqP.go ?_
       | refine CondR.mk (by decide +kernel) ?_
       | exact IsV.mk
       | apply GuardP.mk
       | (apply callPure' en_rIn; · exact fun w _ => rIn_w _ _ w)
       | (apply callQuiet' en_rIn; · exact fun w _ => rIn_w _ _ w)
       | (first | refine eqlW eqS66 rfl rfl rfl (by repeat' first | exact trivial | apply And.intro | rfl) (by repeat' first | exact trivial | apply And.intro | rfl) ?_ | refine neqW eqS66 rfl rfl rfl (by repeat' first | exact trivial | apply And.intro | rfl) (by repeat' first | exact trivial | apply And.intro | rfl) ?_)
       | refine Or.inl ⟨_, _, (memHas (by repeat (first | apply Has.here | apply Has.there))), ?_⟩
       | refine Or.inl ⟨_, _, _, (by repeat (first | apply Hole.here | apply Hole.there)), rfl, rfl, ?_⟩
       | (apply loadArr; (· apply memHas; (repeat (first | apply Has.here | apply Has.there))); (· rfl); (· (first | assumption | (apply getSelf; (repeat' first | assumption | apply getSelf); done) | exact mapGet (by omega) | exact rfl | (simp; done))))
       | (apply loadArr0; (· apply memHas; (repeat (first | apply Has.here | apply Has.there))); (· rfl); (· (first | assumption | (apply getSelf; (repeat' first | assumption | apply getSelf); done) | exact mapGet (by omega) | exact rfl | (simp; done))))
       | (apply loadArr1; (· apply memHas; (repeat (first | apply Has.here | apply Has.there))); (· rfl); (· (first | assumption | (apply getSelf; (repeat' first | assumption | apply getSelf); done) | exact mapGet (by omega) | exact rfl | (simp; done))))
       | (apply loadOld; (· assumption); (· rfl); (· (first | assumption | (apply getSelf; (repeat' first | assumption | apply getSelf); done) | exact mapGet (by omega) | exact rfl | (simp; done))))
       | (apply loadOld0; (· assumption); (· rfl); (· (first | assumption | (apply getSelf; (repeat' first | assumption | apply getSelf); done) | exact mapGet (by omega) | exact rfl | (simp; done))))
       | (apply loadOld1; (· assumption); (· rfl); (· (first | assumption | (apply getSelf; (repeat' first | assumption | apply getSelf); done) | exact mapGet (by omega) | exact rfl | (simp; done))))
       | (apply loadRowAt; (· apply memHas; (repeat (first | apply Has.here | apply Has.there))); (· rfl); (· first | assumption | exact rfl); (· rfl))
       | (apply loadRg; (· assumption); (· rfl))
       | (apply loadRg0; (· assumption))
       | (apply Or.inr; apply storeArr; (· (repeat (first | apply Hole.here | apply Hole.there))); (· rfl); (· (first | assumption | (apply getSelf; (repeat' first | assumption | apply getSelf); done) | exact mapGet (by omega) | exact rfl | (simp; done))); (· rfl); (· rfl))
       | (apply Or.inr; apply storeArr0; (· (repeat (first | apply Hole.here | apply Hole.there))); (· rfl); (· (first | assumption | (apply getSelf; (repeat' first | assumption | apply getSelf); done) | exact mapGet (by omega) | exact rfl | (simp; done))); (· rfl); (· rfl))
       | (apply Or.inr; apply storeArr1; (· (repeat (first | apply Hole.here | apply Hole.there))); (· rfl); (· (first | assumption | (apply getSelf; (repeat' first | assumption | apply getSelf); done) | exact mapGet (by omega) | exact rfl | (simp; done))); (· rfl); (· rfl))
       | refine BytW.ofBlk (memHas (by repeat (first | apply Has.here | apply Has.there))) rfl rfl ?_
       | refine AppW.noneB (memHas (by repeat (first | apply Has.here | apply Has.there))) (Nat.le_of_ble_eq_true rfl) rfl rfl rfl (Nat.le_of_ble_eq_true rfl) (Nat.le_of_ble_eq_true rfl) ?_
       | refine AppW.rowB (memHas (by repeat (first | apply Has.here | apply Has.there))) (Nat.le_of_ble_eq_true rfl) rfl rfl (by repeat (first | apply Hole.here | apply Hole.there)) (Nat.le_of_ble_eq_true rfl) (Nat.le_of_ble_eq_true rfl) ?_
       | refine AppW.blkB (memHas (by repeat (first | apply Has.here | apply Has.there))) (Nat.le_of_ble_eq_true rfl) rfl rfl (by repeat (first | apply Hole.here | apply Hole.there)) rfl rfl (Nat.le_of_ble_eq_true rfl) (Nat.le_of_ble_eq_true rfl) ?_
       | refine AppW.rowS (memHas (by repeat (first | apply Has.here | apply Has.there))) (Nat.le_of_ble_eq_true rfl) rfl rfl (by repeat (first | apply Hole.here | apply Hole.there)) (by omega) (Nat.le_of_ble_eq_true rfl) ?_
       | refine AppW.arrS (memHas (by repeat (first | apply Has.here | apply Has.there))) (Nat.le_of_ble_eq_true rfl) rfl rfl rfl (by repeat (first | apply Hole.here | apply Hole.there)) (by first | omega | (simp; omega)) (Nat.le_of_ble_eq_true rfl) ?_
       | refine ⟨(by first | rfl | omega | exact ⟨by omega, by omega⟩ | exact ⟨by omega, by omega, by omega⟩ | exact ⟨_, _, rfl⟩ | decide), ?_⟩
       | fail)
  all_goals (try conv => whnf)
  · refine v_bool ?_
    unfold bRightV
    rw [if_pos (by assumption)]
    rfl
  · refine v_bool ?_
    unfold bRightV
    rw [if_neg (by assumption)]
    grind
  · refine v_bool ?_
    unfold bRightV
    rw [if_neg (by assumption)]
    simp only [in16]
    grind
theorem getV_snoc (s : ByteArray) (a k : Nat) (h : a + k < s.size) : getV s a (k + 1) = (getV s a k * 256 + byteAt s (a + k)) % 18446744073709551616 := by
  unfold getV
  rw [List.take_succ_eq_append_getElem (by simp; omega), beF_snoc, ← byteAt_eq s (a + k) h]
  simp only [List.getElem_drop]
  rfl
theorem getV_range (s : ByteArray) (a k : Nat) : 0 ≤ getV s a k ∧ getV s a k < 18446744073709551616 := beF_range 0 (by omega) _
theorem byteAt_range (s : ByteArray) (i : Nat) : 0 ≤ byteAt s i ∧ byteAt s i < 256 := by
  unfold byteAt
  split
  · rename_i h
    have := s[i].toNat_lt
    omega
  · omega
theorem mkS_append (a b : List Int) : mkS (a ++ b) = mkS a ++ mkS b := by
  apply ba_ext
  simp [mkS]
def digs (v : Int) : Nat → List Int
  | 0 => []
  | k + 1 => v / 256 ^ k % 256 :: digs v k
theorem digs_len (v : Int) (k : Nat) : (digs v k).length = k := by induction k with
  | zero => rfl
  | succ k ih => simp [digs, ih]
theorem mkS_size (l : List Int) : (mkS l).size = l.length := by simp [mkS, ByteArray.size]
theorem szb (x v : Int) (k : Nat) (h : k ≤ 8) : (mkS [x]).size + (mkS (digs v k)).size ≤ 9223372036854775807 := by
  rw [mkS_size, mkS_size, digs_len, List.length_singleton]; omega
theorem cat_one (x v : Int) (k : Nat) (h : x = v / 256 ^ k % 256) : mkS [x] ++ mkS (digs v k) = mkS (digs v (k + 1)) := by
  rw [← mkS_append, h]; rfl
theorem nb_dig (v : Int) (m : Nat) (hm : m ≤ 7) : nb v (8 * m) = v / 256 ^ m % 256 := by
  unfold nb
  have e : (2 : Int) ^ min (8 * (m : Int)).toNat IntKind.u64.bits = 256 ^ m := by
    have e1 : (8 * (m : Int)).toNat = 8 * m := by omega
    have e2 : IntKind.u64.bits = 64 := by decide
    rw [e1, e2, Nat.min_eq_left (by omega), Int.pow_mul]
    rfl
  rw [e, Int.fdiv_eq_ediv_of_nonneg _ (Int.pow_nonneg (by decide)), wu8']
theorem num_digs (v : Int) (n : Nat) (hn : n ≤ 8) : numL v n n = digs v n := by
  have key : ∀ k, k ≤ 8 → (List.range k).map (fun (j : Nat) => nb v (8 * ((k : Int) - 1 - (j : Int)))) = digs v k := by
    intro k
    induction k with
    | zero => intro _; rfl
    | succ k ih =>
      intro hk
      rw [List.range_succ_eq_map, List.map_cons, List.map_map, digs, ← ih (by omega)]
      congr 1
      · rw [show ((k + 1 : Nat) : Int) - 1 - ((0 : Nat) : Int) = (k : Int) by omega, nb_dig v k (by omega)]
      · apply List.map_congr_left
        intro j _
        simp only [Function.comp]
        congr 1
        push_cast
        omega
  exact key n hn
def okB (b : BpduV) : Prop := (0 ≤ b.Vector_Root ∧ b.Vector_Root < 18446744073709551616) ∧ (0 ≤ b.Vector_Cost ∧ b.Vector_Cost < 18446744073709551616) ∧ (0 ≤ b.Vector_Bridge ∧ b.Vector_Bridge < 18446744073709551616) ∧ (0 ≤ b.Vector_Port ∧ b.Vector_Port < 18446744073709551616)
theorem wr (x : Int) : 0 ≤ IntKind.u64.wrap x ∧ IntKind.u64.wrap x < 18446744073709551616 := by rw [wu64']; omega
theorem szA {s t : ByteArray} {a b : Nat} (h : s.size = a) (k : t.size = b) : (s ++ t).size = a + b := by rw [ByteArray.size_append, h, k]
theorem szC {s t : ByteArray} {a b : Nat} (h : s.size = a) (k : t.size = b) (hab : a + b ≤ 1000) : s.size + t.size ≤ 9223372036854775807 := by omega
theorem szD (v : Int) (k : Nat) : (mkS (digs v k)).size = k := by rw [mkS_size, digs_len]
theorem ref_cat (b : BpduV) (h : bRightV b = true) (h2 : ¬ b.Kind = 2) (k : Int) (hk : IntKind.u8.wrap (IntKind.i64.wrap (b.Kind - 1)) = k) :
    mkS [0, 0, k, k] ++ mkS (digs (IntKind.u64.wrap b.Flags) 1) ++ mkS (digs b.Vector_Root 8) ++ mkS (digs b.Vector_Cost 4) ++ mkS (digs b.Vector_Bridge 8) ++ mkS (digs b.Vector_Port 2) ++ mkS (digs (IntKind.u64.wrap b.Age) 2) ++ mkS (digs (IntKind.u64.wrap b.Max) 2) ++ mkS (digs (IntKind.u64.wrap b.Hello) 2) ++ mkS (digs (IntKind.u64.wrap b.Delay) 2) = mkS (bPrintL b) := by
  unfold bRightV at h
  rw [if_neg h2] at h
  simp only [Bool.and_eq_true, decide_eq_true_eq] at h
  have e : digs (IntKind.u64.wrap b.Flags) 1 = [IntKind.u8.wrap b.Flags] := by
    show [IntKind.u64.wrap b.Flags / 256 ^ 0 % 256] = _
    rw [wu64', wu8']
    congr 1
    omega
  simp only [bPrintL, bHead, bTail, hk, e, num_digs _ 8 (by decide), num_digs _ 4 (by decide), num_digs _ 2 (by decide), mkS_append, ByteArray.append_assoc]
  rw [show mkS [0, 0, k, k, IntKind.u8.wrap b.Flags] = mkS [0, 0, k, k] ++ mkS [IntKind.u8.wrap b.Flags] from mkS_append [0, 0, k, k] [IntKind.u8.wrap b.Flags], ByteArray.append_assoc]
end Go.Proofs.Ytmgoahmbdpoikaa.Am
