/- Package bpdu: what is heard. -/
import Derived.Test.YticobcojmpakfaaBpdu
set_option linter.unusedVariables false
set_option linter.unusedSimpArgs false
set_option maxRecDepth 100000
set_option maxHeartbeats 4000000
namespace Go.Proofs.Yticobcojmpakfaa.Am
open Go Go.RowKit
def byteAt (s : ByteArray) (i : Nat) : Int := if h : i < s.size then ((s[i]'h).toNat : Int) else 0
theorem byteAt_eq (s : ByteArray) (i : Nat) (h : i < s.size) : ((s[i]'h).toNat : Int) = byteAt s i := by unfold byteAt; rw [dif_pos h]
def suf (s : ByteArray) (k : Nat) : ByteArray := s.extract k s.size
theorem suf_size (s : ByteArray) (k : Nat) : (suf s k).size = s.size - k := by simp [suf, ByteArray.size_extract]
theorem suf_list (s : ByteArray) (k : Nat) : (suf s k).data.toList = s.data.toList.drop k := by
  simp [suf, ByteArray.data_extract, List.extract_eq_take_drop]
  rw [List.take_of_length_le]
  simp
theorem ba_ext {a b : ByteArray} (h : a.data.toList = b.data.toList) : a = b := by
  have h2 := Array.ext' h
  cases a; cases b
  exact congrArg ByteArray.mk h2
theorem suf_suf (s : ByteArray) (k j : Nat) : suf (suf s k) j = suf s (k + j) := by
  apply ba_ext
  rw [suf_list, suf_list, suf_list, List.drop_drop]
def getV (s : ByteArray) (at_ n : Nat) : Int := beF 0 ((s.data.toList.drop at_).take n)
theorem pre_list (s : ByteArray) (n : Nat) : (s.extract 0 n).data.toList = s.data.toList.take n := by
  simp [ByteArray.data_extract, List.extract_eq_take_drop]
theorem ok_take : (match Try.f74.body with | some c => codeOk Try.f74.ntmps c | none => false) = true := by kernel_rfl
theorem en_take : ∃ fn, Try.prog.funcs[74]? = some fn ∧ (fn.name == "runtime.NumGoroutine") = false ∧ fn.body.isNone = false := ⟨_, Try.func74, by kernel_rfl, by kernel_rfl⟩
theorem take_w (s : ByteArray) (n bs : Nat) (w : World) (hn : n ≤ s.size) (hn2 : n < 4611686018427387904) (hw : St w (feet [.blk bs [.string s] 9]) [.blk bs [.string s] 9] w) :
    FnX Try.prog 74 [.int .i64 n, .pointer (some ⟨bs, 0, none⟩)] [.blk bs [.string s] 9] (fun _ : Unit => True) (fun _ => .int .u64 (getV s 0 n)) (fun _ => [.blk bs [.string (suf s n)] 9]) w := by
  refine funcR_x tyOk wide Try.func74 ok_take (Nat.le_of_ble_eq_true rfl) hw ?_
  repeat' first
    | (conv => whnf
       first
       | intro _
       | (first | refine selSplit (fun h => ?_) (fun h => ?_) | refine condSplit (fun h => ?_) (fun h => ?_)) <;> first | exact (clash (by assumption) h).elim | exact (clash h (by assumption)).elim | (simp only [decide_eq_true_eq, decide_eq_false_iff_not, Bool.not_eq_true', Bool.not_eq_false', Bool.not_true, Bool.not_false, Bool.or_eq_true, Bool.and_eq_true, Bool.or_eq_false_iff, Bool.and_eq_false_iff, beq_iff_eq, beq_eq_false_iff_ne, ne_eq] at h; first | (exfalso; omega) | skip) | skip
       | refine SeqP.go ?_
       | refine CondR.mk (by decide +kernel) ?_
       | exact IsV.mk
       | apply GuardP.mk
       | (first | refine eqlW eqS57 rfl rfl rfl (by repeat' first | exact trivial | apply And.intro | rfl) (by repeat' first | exact trivial | apply And.intro | rfl) ?_ | refine neqW eqS57 rfl rfl rfl (by repeat' first | exact trivial | apply And.intro | rfl) (by repeat' first | exact trivial | apply And.intro | rfl) ?_)
       | refine Or.inl ⟨_, _, (memHas (by repeat (first | apply Has.here | apply Has.there))), ?_⟩
       | refine Or.inl ⟨_, _, _, (by repeat (first | apply Hole.here | apply Hole.there)), rfl, rfl, ?_⟩
       | (apply loadArr; (· apply memHas; (repeat (first | apply Has.here | apply Has.there))); (· rfl); (· (first | assumption | (apply getSelf; (repeat' first | assumption | apply getSelf); done) | exact mapGet (by omega) | exact rfl | (simp; done))))
       | (apply loadArr0; (· apply memHas; (repeat (first | apply Has.here | apply Has.there))); (· rfl); (· (first | assumption | (apply getSelf; (repeat' first | assumption | apply getSelf); done) | exact mapGet (by omega) | exact rfl | (simp; done))))
       | (apply loadArr1; (· apply memHas; (repeat (first | apply Has.here | apply Has.there))); (· rfl); (· (first | assumption | (apply getSelf; (repeat' first | assumption | apply getSelf); done) | exact mapGet (by omega) | exact rfl | (simp; done))))
       | (apply loadOld; (· assumption); (· rfl); (· (first | assumption | (apply getSelf; (repeat' first | assumption | apply getSelf); done) | exact mapGet (by omega) | exact rfl | (simp; done))))
       | (apply loadOld0; (· assumption); (· rfl); (· (first | assumption | (apply getSelf; (repeat' first | assumption | apply getSelf); done) | exact mapGet (by omega) | exact rfl | (simp; done))))
       | (apply loadOld1; (· assumption); (· rfl); (· (first | assumption | (apply getSelf; (repeat' first | assumption | apply getSelf); done) | exact mapGet (by omega) | exact rfl | (simp; done))))
       | (apply loadRowAt; (· apply memHas; (repeat (first | apply Has.here | apply Has.there))); (· rfl); (· first | assumption | exact rfl); (· rfl))
       | (apply loadRg; (· assumption); (· rfl))
       | (apply loadRg0; (· assumption))
       | (apply Or.inr; apply storeArr; (· (repeat (first | apply Hole.here | apply Hole.there))); (· rfl); (· (first | assumption | (apply getSelf; (repeat' first | assumption | apply getSelf); done) | exact mapGet (by omega) | exact rfl | (simp; done))); (· rfl); (· rfl))
       | (apply Or.inr; apply storeArr0; (· (repeat (first | apply Hole.here | apply Hole.there))); (· rfl); (· (first | assumption | (apply getSelf; (repeat' first | assumption | apply getSelf); done) | exact mapGet (by omega) | exact rfl | (simp; done))); (· rfl); (· rfl))
       | (apply Or.inr; apply storeArr1; (· (repeat (first | apply Hole.here | apply Hole.there))); (· rfl); (· (first | assumption | (apply getSelf; (repeat' first | assumption | apply getSelf); done) | exact mapGet (by omega) | exact rfl | (simp; done))); (· rfl); (· rfl))
       | refine BytW.ofBlk (memHas (by repeat (first | apply Has.here | apply Has.there))) rfl rfl ?_
       | refine AppW.noneB (memHas (by repeat (first | apply Has.here | apply Has.there))) (Nat.le_of_ble_eq_true rfl) rfl rfl rfl (Nat.le_of_ble_eq_true rfl) (Nat.le_of_ble_eq_true rfl) ?_
       | refine AppW.rowB (memHas (by repeat (first | apply Has.here | apply Has.there))) (Nat.le_of_ble_eq_true rfl) rfl rfl (by repeat (first | apply Hole.here | apply Hole.there)) (Nat.le_of_ble_eq_true rfl) (Nat.le_of_ble_eq_true rfl) ?_
       | refine AppW.blkB (memHas (by repeat (first | apply Has.here | apply Has.there))) (Nat.le_of_ble_eq_true rfl) rfl rfl (by repeat (first | apply Hole.here | apply Hole.there)) rfl rfl (Nat.le_of_ble_eq_true rfl) (Nat.le_of_ble_eq_true rfl) ?_
       | refine AppW.rowS (memHas (by repeat (first | apply Has.here | apply Has.there))) (Nat.le_of_ble_eq_true rfl) rfl rfl (by repeat (first | apply Hole.here | apply Hole.there)) (by omega) (Nat.le_of_ble_eq_true rfl) ?_
       | refine AppW.arrS (memHas (by repeat (first | apply Has.here | apply Has.there))) (Nat.le_of_ble_eq_true rfl) rfl rfl rfl (by repeat (first | apply Hole.here | apply Hole.there)) (by first | omega | (simp; omega)) (Nat.le_of_ble_eq_true rfl) ?_
       | refine ⟨(by first | rfl | omega | exact ⟨by omega, by omega⟩ | exact ⟨by omega, by omega, by omega⟩ | exact ⟨_, _, rfl⟩ | decide), ?_⟩
       | fail)
  all_goals (try conv => whnf)
  rename_i b q
  have hsz : (s.extract 0 n).size = n := by rw [ByteArray.size_extract]; omega
  have hL : (s.extract 0 n).data.toList = s.data.toList.take n := pre_list s n
  refine .mk Nat (fun k S H => k ≤ n ∧ S = [(11, .int .i64 k), (10, .int .i64 n), (9, .slice (some ⟨b, 0, none⟩) n q), (3, .int .u64 (beF 0 ((s.extract 0 n).data.toList.take k))), (0, .int .i64 n), (1, .pointer (some ⟨bs, 0, none⟩))] ∧ H = [.byt b (s.extract 0 n) q 5, .blk bs [.string s] 9]) (fun k => n - k) 0 _ _ ⟨by omega, rfl, rfl⟩ ⟨rfl, eq_int (congrArg Int.ofNat hsz), congrArg (fun x => some (Value.slice (some ⟨b, 0, none⟩) x q)) hsz, rfl, rfl, rfl, trivial⟩ (Ent.take (by repeat' first | apply Take.nil | apply Take.cons | apply Pick.here | apply Pick.there)) ?_
  rintro k S1 H1 ⟨hk, rfl, rfl⟩
  have hr := beF_range 0 (by omega) ((s.extract 0 n).data.toList.take k)
  by_cases hk2 : k < n
  · have hlt : k < (s.extract 0 n).size := by omega
    have hb := (s.extract 0 n)[k].toNat_lt
    repeat' first
      | (conv => whnf
         first
         | intro _
         | (first | refine selSplit (fun h => ?_) (fun h => ?_) | refine condSplit (fun h => ?_) (fun h => ?_)) <;> first | exact (clash (by assumption) h).elim | exact (clash h (by assumption)).elim | (simp only [decide_eq_true_eq, decide_eq_false_iff_not, Bool.not_eq_true', Bool.not_eq_false', Bool.not_true, Bool.not_false, Bool.or_eq_true, Bool.and_eq_true, Bool.or_eq_false_iff, Bool.and_eq_false_iff, beq_iff_eq, beq_eq_false_iff_ne, ne_eq] at h; first | (exfalso; omega) | skip) | skip
         | refine SeqP.go ?_
         | refine CondR.mk (by decide +kernel) ?_
         | exact IsV.mk
         | apply GuardP.mk
         | (refine Or.inr ⟨[_], Rd.byt (i := k) (memHas (by repeat (first | apply Has.here | apply Has.there))) hlt, rfl, ?_⟩)
         | (first | refine eqlW eqS57 rfl rfl rfl (by repeat' first | exact trivial | apply And.intro | rfl) (by repeat' first | exact trivial | apply And.intro | rfl) ?_ | refine neqW eqS57 rfl rfl rfl (by repeat' first | exact trivial | apply And.intro | rfl) (by repeat' first | exact trivial | apply And.intro | rfl) ?_)
         | refine Or.inl ⟨_, _, (memHas (by repeat (first | apply Has.here | apply Has.there))), ?_⟩
         | refine Or.inl ⟨_, _, _, (by repeat (first | apply Hole.here | apply Hole.there)), rfl, rfl, ?_⟩
         | (apply loadArr; (· apply memHas; (repeat (first | apply Has.here | apply Has.there))); (· rfl); (· (first | assumption | (apply getSelf; (repeat' first | assumption | apply getSelf); done) | exact mapGet (by omega) | exact rfl | (simp; done))))
         | (apply loadArr0; (· apply memHas; (repeat (first | apply Has.here | apply Has.there))); (· rfl); (· (first | assumption | (apply getSelf; (repeat' first | assumption | apply getSelf); done) | exact mapGet (by omega) | exact rfl | (simp; done))))
         | (apply loadArr1; (· apply memHas; (repeat (first | apply Has.here | apply Has.there))); (· rfl); (· (first | assumption | (apply getSelf; (repeat' first | assumption | apply getSelf); done) | exact mapGet (by omega) | exact rfl | (simp; done))))
         | (apply loadOld; (· assumption); (· rfl); (· (first | assumption | (apply getSelf; (repeat' first | assumption | apply getSelf); done) | exact mapGet (by omega) | exact rfl | (simp; done))))
         | (apply loadOld0; (· assumption); (· rfl); (· (first | assumption | (apply getSelf; (repeat' first | assumption | apply getSelf); done) | exact mapGet (by omega) | exact rfl | (simp; done))))
         | (apply loadOld1; (· assumption); (· rfl); (· (first | assumption | (apply getSelf; (repeat' first | assumption | apply getSelf); done) | exact mapGet (by omega) | exact rfl | (simp; done))))
         | (apply loadRowAt; (· apply memHas; (repeat (first | apply Has.here | apply Has.there))); (· rfl); (· first | assumption | exact rfl); (· rfl))
         | (apply loadRg; (· assumption); (· rfl))
         | (apply loadRg0; (· assumption))
         | (apply Or.inr; apply storeArr; (· (repeat (first | apply Hole.here | apply Hole.there))); (· rfl); (· (first | assumption | (apply getSelf; (repeat' first | assumption | apply getSelf); done) | exact mapGet (by omega) | exact rfl | (simp; done))); (· rfl); (· rfl))
         | (apply Or.inr; apply storeArr0; (· (repeat (first | apply Hole.here | apply Hole.there))); (· rfl); (· (first | assumption | (apply getSelf; (repeat' first | assumption | apply getSelf); done) | exact mapGet (by omega) | exact rfl | (simp; done))); (· rfl); (· rfl))
         | (apply Or.inr; apply storeArr1; (· (repeat (first | apply Hole.here | apply Hole.there))); (· rfl); (· (first | assumption | (apply getSelf; (repeat' first | assumption | apply getSelf); done) | exact mapGet (by omega) | exact rfl | (simp; done))); (· rfl); (· rfl))
         | refine BytW.ofBlk (memHas (by repeat (first | apply Has.here | apply Has.there))) rfl rfl ?_
         | refine AppW.noneB (memHas (by repeat (first | apply Has.here | apply Has.there))) (Nat.le_of_ble_eq_true rfl) rfl rfl rfl (Nat.le_of_ble_eq_true rfl) (Nat.le_of_ble_eq_true rfl) ?_
         | refine AppW.rowB (memHas (by repeat (first | apply Has.here | apply Has.there))) (Nat.le_of_ble_eq_true rfl) rfl rfl (by repeat (first | apply Hole.here | apply Hole.there)) (Nat.le_of_ble_eq_true rfl) (Nat.le_of_ble_eq_true rfl) ?_
         | refine AppW.blkB (memHas (by repeat (first | apply Has.here | apply Has.there))) (Nat.le_of_ble_eq_true rfl) rfl rfl (by repeat (first | apply Hole.here | apply Hole.there)) rfl rfl (Nat.le_of_ble_eq_true rfl) (Nat.le_of_ble_eq_true rfl) ?_
         | refine AppW.rowS (memHas (by repeat (first | apply Has.here | apply Has.there))) (Nat.le_of_ble_eq_true rfl) rfl rfl (by repeat (first | apply Hole.here | apply Hole.there)) (by omega) (Nat.le_of_ble_eq_true rfl) ?_
         | refine AppW.arrS (memHas (by repeat (first | apply Has.here | apply Has.there))) (Nat.le_of_ble_eq_true rfl) rfl rfl rfl (by repeat (first | apply Hole.here | apply Hole.there)) (by first | omega | (simp; omega)) (Nat.le_of_ble_eq_true rfl) ?_
         | refine ⟨(by first | rfl | omega | exact ⟨by omega, by omega⟩ | exact ⟨by omega, by omega, by omega⟩ | exact ⟨_, _, rfl⟩ | decide), ?_⟩
         | fail)
    all_goals (try conv => whnf)
    all_goals refine .mk (k + 1) _ _ (by omega) ⟨by omega, rfl, rfl⟩ ⟨eq_int (by rw [w64 (by omega) (by omega)]; omega), rfl, rfl, eq_int (by rw [shl8 _ _ hr (by omega), take_snoc _ k hlt, beF_snoc]), rfl, rfl, trivial⟩ (Ent.take (by repeat' first | apply Take.nil | apply Take.cons | apply Pick.here | apply Pick.there))
  · have hkn : k = n := by omega
    repeat' first
      | (conv => whnf
         first
         | intro _
         | (first | refine selSplit (fun h => ?_) (fun h => ?_) | refine condSplit (fun h => ?_) (fun h => ?_)) <;> first | exact (clash (by assumption) h).elim | exact (clash h (by assumption)).elim | (simp only [decide_eq_true_eq, decide_eq_false_iff_not, Bool.not_eq_true', Bool.not_eq_false', Bool.not_true, Bool.not_false, Bool.or_eq_true, Bool.and_eq_true, Bool.or_eq_false_iff, Bool.and_eq_false_iff, beq_iff_eq, beq_eq_false_iff_ne, ne_eq] at h; first | (exfalso; omega) | skip) | skip
         | refine SeqP.go ?_
         | refine CondR.mk (by decide +kernel) ?_
         | exact IsV.mk
         | apply GuardP.mk
         | (first | refine eqlW eqS57 rfl rfl rfl (by repeat' first | exact trivial | apply And.intro | rfl) (by repeat' first | exact trivial | apply And.intro | rfl) ?_ | refine neqW eqS57 rfl rfl rfl (by repeat' first | exact trivial | apply And.intro | rfl) (by repeat' first | exact trivial | apply And.intro | rfl) ?_)
         | refine Or.inl ⟨_, _, (memHas (by repeat (first | apply Has.here | apply Has.there))), ?_⟩
         | refine Or.inl ⟨_, _, _, (by repeat (first | apply Hole.here | apply Hole.there)), rfl, rfl, ?_⟩
         | (apply loadArr; (· apply memHas; (repeat (first | apply Has.here | apply Has.there))); (· rfl); (· (first | assumption | (apply getSelf; (repeat' first | assumption | apply getSelf); done) | exact mapGet (by omega) | exact rfl | (simp; done))))
         | (apply loadArr0; (· apply memHas; (repeat (first | apply Has.here | apply Has.there))); (· rfl); (· (first | assumption | (apply getSelf; (repeat' first | assumption | apply getSelf); done) | exact mapGet (by omega) | exact rfl | (simp; done))))
         | (apply loadArr1; (· apply memHas; (repeat (first | apply Has.here | apply Has.there))); (· rfl); (· (first | assumption | (apply getSelf; (repeat' first | assumption | apply getSelf); done) | exact mapGet (by omega) | exact rfl | (simp; done))))
         | (apply loadOld; (· assumption); (· rfl); (· (first | assumption | (apply getSelf; (repeat' first | assumption | apply getSelf); done) | exact mapGet (by omega) | exact rfl | (simp; done))))
         | (apply loadOld0; (· assumption); (· rfl); (· (first | assumption | (apply getSelf; (repeat' first | assumption | apply getSelf); done) | exact mapGet (by omega) | exact rfl | (simp; done))))
         | (apply loadOld1; (· assumption); (· rfl); (· (first | assumption | (apply getSelf; (repeat' first | assumption | apply getSelf); done) | exact mapGet (by omega) | exact rfl | (simp; done))))
         | (apply loadRowAt; (· apply memHas; (repeat (first | apply Has.here | apply Has.there))); (· rfl); (· first | assumption | exact rfl); (· rfl))
         | (apply loadRg; (· assumption); (· rfl))
         | (apply loadRg0; (· assumption))
         | (apply Or.inr; apply storeArr; (· (repeat (first | apply Hole.here | apply Hole.there))); (· rfl); (· (first | assumption | (apply getSelf; (repeat' first | assumption | apply getSelf); done) | exact mapGet (by omega) | exact rfl | (simp; done))); (· rfl); (· rfl))
         | (apply Or.inr; apply storeArr0; (· (repeat (first | apply Hole.here | apply Hole.there))); (· rfl); (· (first | assumption | (apply getSelf; (repeat' first | assumption | apply getSelf); done) | exact mapGet (by omega) | exact rfl | (simp; done))); (· rfl); (· rfl))
         | (apply Or.inr; apply storeArr1; (· (repeat (first | apply Hole.here | apply Hole.there))); (· rfl); (· (first | assumption | (apply getSelf; (repeat' first | assumption | apply getSelf); done) | exact mapGet (by omega) | exact rfl | (simp; done))); (· rfl); (· rfl))
         | refine BytW.ofBlk (memHas (by repeat (first | apply Has.here | apply Has.there))) rfl rfl ?_
         | refine AppW.noneB (memHas (by repeat (first | apply Has.here | apply Has.there))) (Nat.le_of_ble_eq_true rfl) rfl rfl rfl (Nat.le_of_ble_eq_true rfl) (Nat.le_of_ble_eq_true rfl) ?_
         | refine AppW.rowB (memHas (by repeat (first | apply Has.here | apply Has.there))) (Nat.le_of_ble_eq_true rfl) rfl rfl (by repeat (first | apply Hole.here | apply Hole.there)) (Nat.le_of_ble_eq_true rfl) (Nat.le_of_ble_eq_true rfl) ?_
         | refine AppW.blkB (memHas (by repeat (first | apply Has.here | apply Has.there))) (Nat.le_of_ble_eq_true rfl) rfl rfl (by repeat (first | apply Hole.here | apply Hole.there)) rfl rfl (Nat.le_of_ble_eq_true rfl) (Nat.le_of_ble_eq_true rfl) ?_
         | refine AppW.rowS (memHas (by repeat (first | apply Has.here | apply Has.there))) (Nat.le_of_ble_eq_true rfl) rfl rfl (by repeat (first | apply Hole.here | apply Hole.there)) (by omega) (Nat.le_of_ble_eq_true rfl) ?_
         | refine AppW.arrS (memHas (by repeat (first | apply Has.here | apply Has.there))) (Nat.le_of_ble_eq_true rfl) rfl rfl rfl (by repeat (first | apply Hole.here | apply Hole.there)) (by first | omega | (simp; omega)) (Nat.le_of_ble_eq_true rfl) ?_
         | refine ⟨(by first | rfl | omega | exact ⟨by omega, by omega⟩ | exact ⟨by omega, by omega, by omega⟩ | exact ⟨_, _, rfl⟩ | decide), ?_⟩
         | fail)
    all_goals (try conv => whnf)
    subst hkn
    refine .mk () trivial ?_ (Ent.take (by repeat' first | apply Take.nil | apply Take.cons | apply Pick.here | apply Pick.there))
    unfold getV
    rw [hL, List.take_take, Nat.min_self]
    rfl
theorem take_k (s : ByteArray) (k n bs : Nat) (w : World) (hn : k + n ≤ s.size) (hs : s.size < 4611686018427387904) (hw : St w (feet [.blk bs [.string (suf s k)] 9]) [.blk bs [.string (suf s k)] 9] w) :
    FnX Try.prog 74 [.int .i64 n, .pointer (some ⟨bs, 0, none⟩)] [.blk bs [.string (suf s k)] 9] (fun _ : Unit => True) (fun _ => .int .u64 (getV s k n)) (fun _ => [.blk bs [.string (suf s (k + n))] 9]) w := by
  have h := take_w (suf s k) n bs w (by rw [suf_size]; omega) (by omega) hw
  have e : getV (suf s k) 0 n = getV s k n := by unfold getV; rw [suf_list, List.drop_zero]
  rw [e, suf_suf] at h
  exact h
theorem getV_two (s : ByteArray) (k n : Nat) (hn : n ≤ 2) : 0 ≤ getV s k n ∧ getV s k n < 65536 := by
  unfold getV
  generalize s.data.toList.drop k = l
  match n, l, hn with
  | 0, _, _ => simp only [List.take_zero, beF, List.foldl_nil]; omega
  | 1, [], _ => simp only [List.take_nil, beF, List.foldl_nil]; omega
  | 1, a :: _, _ => have := a.toNat_lt; simp only [List.take_succ_cons, List.take_zero, beF, List.foldl_cons, List.foldl_nil]; omega
  | 2, [], _ => simp only [List.take_nil, beF, List.foldl_nil]; omega
  | 2, [a], _ => have := a.toNat_lt; simp only [List.take_succ_cons, List.take_nil, beF, List.foldl_cons, List.foldl_nil]; omega
  | 2, a :: b :: _, _ => have := a.toNat_lt; have := b.toNat_lt; simp only [List.take_succ_cons, List.take_zero, beF, List.foldl_cons, List.foldl_nil]; omega
theorem parse_len {s : ByteArray} {a b : Int} (h : ¬ (s.size : Int) < sizeV (kindV a b)) (h0 : ¬ kindV a b = 0) (h2 : ¬ kindV a b = 2) : 35 ≤ s.size := by
  unfold sizeV kindV at *
  grind
theorem gw (s : ByteArray) (k : Nat) : IntKind.i64.wrap (getV s k 2) = getV s k 2 := by have := getV_two s k 2 (by omega); exact w64 (by omega) (by omega)
theorem gw1 (s : ByteArray) (k : Nat) : IntKind.i64.wrap (getV s k 1) = getV s k 1 := by have := getV_two s k 1 (by omega); exact w64 (by omega) (by omega)
abbrev gi (s : ByteArray) (k : Nat) : Int := IntKind.i64.wrap (getV s k 2)
def partV (s : ByteArray) (k : Int) : Nat → BpduV
  | 0 => ⟨k, IntKind.i64.wrap (getV s 4 1), getV s 5 8, getV s 13 4, getV s 17 8, getV s 25 2, 0, 0, 0, 0⟩
  | 1 => ⟨k, IntKind.i64.wrap (getV s 4 1), getV s 5 8, getV s 13 4, getV s 17 8, getV s 25 2, gi s 27, 0, 0, 0⟩
  | 2 => ⟨k, IntKind.i64.wrap (getV s 4 1), getV s 5 8, getV s 13 4, getV s 17 8, getV s 25 2, gi s 27, gi s 29, 0, 0⟩
  | 3 => ⟨k, IntKind.i64.wrap (getV s 4 1), getV s 5 8, getV s 13 4, getV s 17 8, getV s 25 2, gi s 27, gi s 29, gi s 31, 0⟩
  | _ => ⟨k, IntKind.i64.wrap (getV s 4 1), getV s 5 8, getV s 13 4, getV s 17 8, getV s 25 2, gi s 27, gi s 29, gi s 31, gi s 33⟩
def bodyV (s : ByteArray) (k : Int) : BpduV := ⟨k, getV s 4 1, getV s 5 8, getV s 13 4, getV s 17 8, getV s 25 2, getV s 27 2, getV s 29 2, getV s 31 2, getV s 33 2⟩
def parseV (s : ByteArray) : BpduV × Int :=
  if s.size < 4 then (BpduV.zero, 3) else if byteAt s 0 ≠ 0 ∨ byteAt s 1 ≠ 0 then (BpduV.zero, 2)
  else if kindV (byteAt s 2) (byteAt s 3) = 0 then (BpduV.zero, 9)
  else if (s.size : Int) < sizeV (kindV (byteAt s 2) (byteAt s 3)) then (BpduV.zero, 3)
  else if kindV (byteAt s 2) (byteAt s 3) = 2 then ({ BpduV.zero with Kind := 2 }, 0)
  else if kindV (byteAt s 2) (byteAt s 3) = 1 ∧ getV s 29 2 ≤ getV s 27 2 then (BpduV.zero, 1)
  else (bodyV s (kindV (byteAt s 2) (byteAt s 3)), 0)
theorem ok_bParse : (match Try.f43.body with | some c => codeOk Try.f43.ntmps c | none => false) = true := by kernel_rfl
theorem en_bParse : ∃ fn, Try.prog.funcs[43]? = some fn ∧ (fn.name == "runtime.NumGoroutine") = false ∧ fn.body.isNone = false := ⟨_, Try.func43, by kernel_rfl, by kernel_rfl⟩
theorem bParse_w (s : ByteArray) (w : World) (hs : s.size < 4611686018427387904) : PuAt Try.prog 43 [.string s] (.tuple ⟨[.agg ⟨(parseV s).1.enc⟩, .int .i64 (parseV s).2]⟩) w := by
  refine funcR_pure tyOk wide Try.func43 ok_bParse (Nat.le_of_ble_eq_true rfl) ?_
  repeat' first
    | (conv => whnf
       first
       | intro _
       | (first | refine selSplit (fun h => ?_) (fun h => ?_) | refine condSplit (fun h => ?_) (fun h => ?_)) <;> first | exact (clash (by assumption) h).elim | exact (clash h (by assumption)).elim | (simp only [decide_eq_true_eq, decide_eq_false_iff_not, Bool.not_eq_true', Bool.not_eq_false', Bool.not_true, Bool.not_false, Bool.or_eq_true, Bool.and_eq_true, Bool.or_eq_false_iff, Bool.and_eq_false_iff, beq_iff_eq, beq_eq_false_iff_ne, ne_eq] at h; first | (exfalso; omega) | skip) | skip
       | (first | refine DrawR.mk _ (.quiet 0 (.quiet 1 (.quiet 2 (.quiet 3 (.quiet 4 (.quiet 5 (.alloc 6 (.last 7 false .done)))))))) (by decide +kernel) (SubL.refl _) ?_ | refine DrawR.mk _ (.quiet 0 (.quiet 1 (.quiet 2 (.quiet 3 (.quiet 4 (.quiet 5 (.quiet 6 .done))))))) (by decide +kernel) (SubL.refl _) ?_)
       | refine AltP.mk ?_ ?_
       | refine KeepP.mk (SubL.of (by repeat (first | exact List.Sublist.refl _ | exact List.nil_sublist _ | apply List.Sublist.cons_cons | apply List.Sublist.cons))) ?_
       | refine SeqP.go ?_
       | refine CondR.mk (by decide +kernel) ?_
       | exact IsV.mk
       | apply GuardP.mk
       | (apply callPure' en_bKind; · exact fun w _ => bKind_w _ _ w)
       | (apply callQuiet' en_bKind; · exact fun w _ => bKind_w _ _ w)
       | (apply callPure' en_bSize; · exact fun w _ => bSize_w _ w)
       | (apply callQuiet' en_bSize; · exact fun w _ => bSize_w _ w)
       | (refine callX (by repeat' first | apply Take.nil | apply Take.cons | apply Pick.here | apply Pick.there) en_take (fun w hw => take_k s 4 1 _ w (by have := parse_len (by assumption) (by assumption) (by assumption); omega) hs (hw.sub2 (by repeat' first | apply Take.nil | apply Take.cons | apply Pick.here | apply Pick.there))) ?_)
       | (refine callX (by repeat' first | apply Take.nil | apply Take.cons | apply Pick.here | apply Pick.there) en_take (fun w hw => take_k s 5 8 _ w (by have := parse_len (by assumption) (by assumption) (by assumption); omega) hs (hw.sub2 (by repeat' first | apply Take.nil | apply Take.cons | apply Pick.here | apply Pick.there))) ?_)
       | (refine callX (by repeat' first | apply Take.nil | apply Take.cons | apply Pick.here | apply Pick.there) en_take (fun w hw => take_k s 13 4 _ w (by have := parse_len (by assumption) (by assumption) (by assumption); omega) hs (hw.sub2 (by repeat' first | apply Take.nil | apply Take.cons | apply Pick.here | apply Pick.there))) ?_)
       | (refine callX (by repeat' first | apply Take.nil | apply Take.cons | apply Pick.here | apply Pick.there) en_take (fun w hw => take_k s 17 8 _ w (by have := parse_len (by assumption) (by assumption) (by assumption); omega) hs (hw.sub2 (by repeat' first | apply Take.nil | apply Take.cons | apply Pick.here | apply Pick.there))) ?_)
       | (refine callX (by repeat' first | apply Take.nil | apply Take.cons | apply Pick.here | apply Pick.there) en_take (fun w hw => take_k s 25 2 _ w (by have := parse_len (by assumption) (by assumption) (by assumption); omega) hs (hw.sub2 (by repeat' first | apply Take.nil | apply Take.cons | apply Pick.here | apply Pick.there))) ?_)
       | (first | refine eqlW eqS57 rfl rfl rfl (by repeat' first | exact trivial | apply And.intro | rfl) (by repeat' first | exact trivial | apply And.intro | rfl) ?_ | refine neqW eqS57 rfl rfl rfl (by repeat' first | exact trivial | apply And.intro | rfl) (by repeat' first | exact trivial | apply And.intro | rfl) ?_)
       | refine Or.inl ⟨_, _, (memHas (by repeat (first | apply Has.here | apply Has.there))), ?_⟩
       | refine Or.inl ⟨_, _, _, (by repeat (first | apply Hole.here | apply Hole.there)), rfl, rfl, ?_⟩
       | (apply loadArr; (· apply memHas; (repeat (first | apply Has.here | apply Has.there))); (· rfl); (· (first | assumption | (apply getSelf; (repeat' first | assumption | apply getSelf); done) | exact mapGet (by omega) | exact rfl | (simp; done))))
       | (apply loadArr0; (· apply memHas; (repeat (first | apply Has.here | apply Has.there))); (· rfl); (· (first | assumption | (apply getSelf; (repeat' first | assumption | apply getSelf); done) | exact mapGet (by omega) | exact rfl | (simp; done))))
       | (apply loadArr1; (· apply memHas; (repeat (first | apply Has.here | apply Has.there))); (· rfl); (· (first | assumption | (apply getSelf; (repeat' first | assumption | apply getSelf); done) | exact mapGet (by omega) | exact rfl | (simp; done))))
       | (apply loadOld; (· assumption); (· rfl); (· (first | assumption | (apply getSelf; (repeat' first | assumption | apply getSelf); done) | exact mapGet (by omega) | exact rfl | (simp; done))))
       | (apply loadOld0; (· assumption); (· rfl); (· (first | assumption | (apply getSelf; (repeat' first | assumption | apply getSelf); done) | exact mapGet (by omega) | exact rfl | (simp; done))))
       | (apply loadOld1; (· assumption); (· rfl); (· (first | assumption | (apply getSelf; (repeat' first | assumption | apply getSelf); done) | exact mapGet (by omega) | exact rfl | (simp; done))))
       | (apply loadRowAt; (· apply memHas; (repeat (first | apply Has.here | apply Has.there))); (· rfl); (· first | assumption | exact rfl); (· rfl))
       | (apply loadRg; (· assumption); (· rfl))
       | (apply loadRg0; (· assumption))
       | (apply Or.inr; apply storeArr; (· (repeat (first | apply Hole.here | apply Hole.there))); (· rfl); (· (first | assumption | (apply getSelf; (repeat' first | assumption | apply getSelf); done) | exact mapGet (by omega) | exact rfl | (simp; done))); (· rfl); (· rfl))
       | (apply Or.inr; apply storeArr0; (· (repeat (first | apply Hole.here | apply Hole.there))); (· rfl); (· (first | assumption | (apply getSelf; (repeat' first | assumption | apply getSelf); done) | exact mapGet (by omega) | exact rfl | (simp; done))); (· rfl); (· rfl))
       | (apply Or.inr; apply storeArr1; (· (repeat (first | apply Hole.here | apply Hole.there))); (· rfl); (· (first | assumption | (apply getSelf; (repeat' first | assumption | apply getSelf); done) | exact mapGet (by omega) | exact rfl | (simp; done))); (· rfl); (· rfl))
       | refine BytW.ofBlk (memHas (by repeat (first | apply Has.here | apply Has.there))) rfl rfl ?_
       | refine AppW.noneB (memHas (by repeat (first | apply Has.here | apply Has.there))) (Nat.le_of_ble_eq_true rfl) rfl rfl rfl (Nat.le_of_ble_eq_true rfl) (Nat.le_of_ble_eq_true rfl) ?_
       | refine AppW.rowB (memHas (by repeat (first | apply Has.here | apply Has.there))) (Nat.le_of_ble_eq_true rfl) rfl rfl (by repeat (first | apply Hole.here | apply Hole.there)) (Nat.le_of_ble_eq_true rfl) (Nat.le_of_ble_eq_true rfl) ?_
       | refine AppW.blkB (memHas (by repeat (first | apply Has.here | apply Has.there))) (Nat.le_of_ble_eq_true rfl) rfl rfl (by repeat (first | apply Hole.here | apply Hole.there)) rfl rfl (Nat.le_of_ble_eq_true rfl) (Nat.le_of_ble_eq_true rfl) ?_
       | refine AppW.rowS (memHas (by repeat (first | apply Has.here | apply Has.there))) (Nat.le_of_ble_eq_true rfl) rfl rfl (by repeat (first | apply Hole.here | apply Hole.there)) (by omega) (Nat.le_of_ble_eq_true rfl) ?_
       | refine AppW.arrS (memHas (by repeat (first | apply Has.here | apply Has.there))) (Nat.le_of_ble_eq_true rfl) rfl rfl rfl (by repeat (first | apply Hole.here | apply Hole.there)) (by first | omega | (simp; omega)) (Nat.le_of_ble_eq_true rfl) ?_
       | refine ⟨(by first | rfl | omega | exact ⟨by omega, by omega⟩ | exact ⟨by omega, by omega, by omega⟩ | exact ⟨_, _, rfl⟩ | decide), ?_⟩
       | fail)
  all_goals (try conv => whnf)
  all_goals (try simp only [byteAt_eq, Int.reduceToNat] at *)
  · unfold parseV
    (repeat (first | rw [if_pos (by first | assumption | grind | decide)] | rw [if_neg (by first | assumption | grind | decide)]))
    rfl
  · unfold parseV
    (repeat (first | rw [if_pos (by first | assumption | grind | decide)] | rw [if_neg (by first | assumption | grind | decide)]))
    rfl
  · unfold parseV
    (repeat (first | rw [if_pos (by first | assumption | grind | decide)] | rw [if_neg (by first | assumption | grind | decide)]))
    rfl
  · unfold parseV
    (repeat (first | rw [if_pos (by first | assumption | grind | decide)] | rw [if_neg (by first | assumption | grind | decide)]))
    rfl
  · unfold parseV
    (repeat (first | rw [if_pos (by first | assumption | grind | decide)] | rw [if_neg (by first | assumption | grind | decide)]))
    rw [show kindV (byteAt s 2) (byteAt s 3) = 2 from by assumption]
    rfl
  · rename_i bs br hb bb _ _ _ _ _ _ _ _ _ _ ba _ hk0 _
    have hl : 35 ≤ s.size := parse_len (by assumption) (by assumption) (by assumption)
    generalize hkd : kindV (byteAt s 2) (byteAt s 3) = kd at *
    refine .mk Nat (fun k S H => k ≤ 4 ∧ S = [(69, .int .i64 k), (68, .int .i64 4), (67, .slice (some ⟨ba, 0, none⟩) 4 4), (5, .func (.func 74) #[] #[.pointer (some ⟨bs, 0, none⟩)]), (4, .pointer (some ⟨bb, 0, none⟩)), (2, .pointer (some ⟨br, 0, none⟩)), (1, .pointer (some ⟨bs, 0, none⟩))] ∧ H = [.blk ba [.pointer (some ⟨bb, 6, none⟩), .pointer (some ⟨bb, 7, none⟩), .pointer (some ⟨bb, 8, none⟩), .pointer (some ⟨bb, 9, none⟩)] 114, .blk bs [.string (suf s (27 + 2 * k))] 9, .blk bb (partV s kd k).enc 57, .blk br BpduV.zero.enc 57]) (fun k => 4 - k) 0 _ _ ⟨by omega, rfl, rfl⟩ (by repeat' first | exact trivial | apply And.intro | rfl | (refine eq_int ?_; first | omega | (rw [w64 (by omega) (by omega)]; omega))) (Ent.take (by repeat' first | apply Take.nil | apply Take.cons | apply Pick.here | apply Pick.there)) ?_
    rintro k S1 H1 ⟨hk, rfl, rfl⟩
    rcases (show k = 0 ∨ k = 1 ∨ k = 2 ∨ k = 3 ∨ k = 4 by omega) with rfl | rfl | rfl | rfl | rfl
    all_goals
      repeat' first
        | (conv => whnf
           first
           | intro _
           | (first | refine selSplit (fun h => ?_) (fun h => ?_) | refine condSplit (fun h => ?_) (fun h => ?_)) <;> first | exact (clash (by assumption) h).elim | exact (clash h (by assumption)).elim | (simp only [decide_eq_true_eq, decide_eq_false_iff_not, Bool.not_eq_true', Bool.not_eq_false', Bool.not_true, Bool.not_false, Bool.or_eq_true, Bool.and_eq_true, Bool.or_eq_false_iff, Bool.and_eq_false_iff, beq_iff_eq, beq_eq_false_iff_ne, ne_eq] at h; first | (exfalso; omega) | skip) | skip
           | (first | refine DrawR.mk _ (.quiet 0 (.quiet 1 (.quiet 2 (.quiet 3 (.quiet 4 (.quiet 5 (.alloc 6 (.last 7 false .done)))))))) (by decide +kernel) (SubL.refl _) ?_ | refine DrawR.mk _ (.quiet 0 (.quiet 1 (.quiet 2 (.quiet 3 (.quiet 4 (.quiet 5 (.quiet 6 .done))))))) (by decide +kernel) (SubL.refl _) ?_)
           | refine AltP.mk ?_ ?_
           | refine KeepP.mk (SubL.of (by repeat (first | exact List.Sublist.refl _ | exact List.nil_sublist _ | apply List.Sublist.cons_cons | apply List.Sublist.cons))) ?_
           | refine SeqP.go ?_
           | refine CondR.mk (by decide +kernel) ?_
           | exact IsV.mk
           | apply GuardP.mk
           | (refine callX (by repeat' first | apply Take.nil | apply Take.cons | apply Pick.here | apply Pick.there) en_take (fun w hw => take_k s (27 + 2 * 0) 2 _ w (by omega) hs (hw.sub2 (by repeat' first | apply Take.nil | apply Take.cons | apply Pick.here | apply Pick.there))) ?_)
           | (refine callX (by repeat' first | apply Take.nil | apply Take.cons | apply Pick.here | apply Pick.there) en_take (fun w hw => take_k s (27 + 2 * 1) 2 _ w (by omega) hs (hw.sub2 (by repeat' first | apply Take.nil | apply Take.cons | apply Pick.here | apply Pick.there))) ?_)
           | (refine callX (by repeat' first | apply Take.nil | apply Take.cons | apply Pick.here | apply Pick.there) en_take (fun w hw => take_k s (27 + 2 * 2) 2 _ w (by omega) hs (hw.sub2 (by repeat' first | apply Take.nil | apply Take.cons | apply Pick.here | apply Pick.there))) ?_)
           | (refine callX (by repeat' first | apply Take.nil | apply Take.cons | apply Pick.here | apply Pick.there) en_take (fun w hw => take_k s (27 + 2 * 3) 2 _ w (by omega) hs (hw.sub2 (by repeat' first | apply Take.nil | apply Take.cons | apply Pick.here | apply Pick.there))) ?_)
           | (first | refine eqlW eqS57 rfl rfl rfl (by repeat' first | exact trivial | apply And.intro | rfl) (by repeat' first | exact trivial | apply And.intro | rfl) ?_ | refine neqW eqS57 rfl rfl rfl (by repeat' first | exact trivial | apply And.intro | rfl) (by repeat' first | exact trivial | apply And.intro | rfl) ?_)
           | refine Or.inl ⟨_, _, (memHas (by repeat (first | apply Has.here | apply Has.there))), ?_⟩
           | refine Or.inl ⟨_, _, _, (by repeat (first | apply Hole.here | apply Hole.there)), rfl, rfl, ?_⟩
           | (apply loadArr; (· apply memHas; (repeat (first | apply Has.here | apply Has.there))); (· rfl); (· (first | assumption | (apply getSelf; (repeat' first | assumption | apply getSelf); done) | exact mapGet (by omega) | exact rfl | (simp; done))))
           | (apply loadArr0; (· apply memHas; (repeat (first | apply Has.here | apply Has.there))); (· rfl); (· (first | assumption | (apply getSelf; (repeat' first | assumption | apply getSelf); done) | exact mapGet (by omega) | exact rfl | (simp; done))))
           | (apply loadArr1; (· apply memHas; (repeat (first | apply Has.here | apply Has.there))); (· rfl); (· (first | assumption | (apply getSelf; (repeat' first | assumption | apply getSelf); done) | exact mapGet (by omega) | exact rfl | (simp; done))))
           | (apply loadOld; (· assumption); (· rfl); (· (first | assumption | (apply getSelf; (repeat' first | assumption | apply getSelf); done) | exact mapGet (by omega) | exact rfl | (simp; done))))
           | (apply loadOld0; (· assumption); (· rfl); (· (first | assumption | (apply getSelf; (repeat' first | assumption | apply getSelf); done) | exact mapGet (by omega) | exact rfl | (simp; done))))
           | (apply loadOld1; (· assumption); (· rfl); (· (first | assumption | (apply getSelf; (repeat' first | assumption | apply getSelf); done) | exact mapGet (by omega) | exact rfl | (simp; done))))
           | (apply loadRowAt; (· apply memHas; (repeat (first | apply Has.here | apply Has.there))); (· rfl); (· first | assumption | exact rfl); (· rfl))
           | (apply loadRg; (· assumption); (· rfl))
           | (apply loadRg0; (· assumption))
           | (apply Or.inr; apply storeArr; (· (repeat (first | apply Hole.here | apply Hole.there))); (· rfl); (· (first | assumption | (apply getSelf; (repeat' first | assumption | apply getSelf); done) | exact mapGet (by omega) | exact rfl | (simp; done))); (· rfl); (· rfl))
           | (apply Or.inr; apply storeArr0; (· (repeat (first | apply Hole.here | apply Hole.there))); (· rfl); (· (first | assumption | (apply getSelf; (repeat' first | assumption | apply getSelf); done) | exact mapGet (by omega) | exact rfl | (simp; done))); (· rfl); (· rfl))
           | (apply Or.inr; apply storeArr1; (· (repeat (first | apply Hole.here | apply Hole.there))); (· rfl); (· (first | assumption | (apply getSelf; (repeat' first | assumption | apply getSelf); done) | exact mapGet (by omega) | exact rfl | (simp; done))); (· rfl); (· rfl))
           | refine BytW.ofBlk (memHas (by repeat (first | apply Has.here | apply Has.there))) rfl rfl ?_
           | refine AppW.noneB (memHas (by repeat (first | apply Has.here | apply Has.there))) (Nat.le_of_ble_eq_true rfl) rfl rfl rfl (Nat.le_of_ble_eq_true rfl) (Nat.le_of_ble_eq_true rfl) ?_
           | refine AppW.rowB (memHas (by repeat (first | apply Has.here | apply Has.there))) (Nat.le_of_ble_eq_true rfl) rfl rfl (by repeat (first | apply Hole.here | apply Hole.there)) (Nat.le_of_ble_eq_true rfl) (Nat.le_of_ble_eq_true rfl) ?_
           | refine AppW.blkB (memHas (by repeat (first | apply Has.here | apply Has.there))) (Nat.le_of_ble_eq_true rfl) rfl rfl (by repeat (first | apply Hole.here | apply Hole.there)) rfl rfl (Nat.le_of_ble_eq_true rfl) (Nat.le_of_ble_eq_true rfl) ?_
           | refine AppW.rowS (memHas (by repeat (first | apply Has.here | apply Has.there))) (Nat.le_of_ble_eq_true rfl) rfl rfl (by repeat (first | apply Hole.here | apply Hole.there)) (by omega) (Nat.le_of_ble_eq_true rfl) ?_
           | refine AppW.arrS (memHas (by repeat (first | apply Has.here | apply Has.there))) (Nat.le_of_ble_eq_true rfl) rfl rfl rfl (by repeat (first | apply Hole.here | apply Hole.there)) (by first | omega | (simp; omega)) (Nat.le_of_ble_eq_true rfl) ?_
           | refine ⟨(by first | rfl | omega | exact ⟨by omega, by omega⟩ | exact ⟨by omega, by omega, by omega⟩ | exact ⟨_, _, rfl⟩ | decide), ?_⟩
           | fail)
      all_goals (try conv => whnf)
    all_goals first
      | exact .mk 1 _ _ (by exact (by decide : 4 - 1 < 4 - 0)) ⟨by omega, rfl, rfl⟩ (by repeat' first | exact trivial | apply And.intro | rfl | (refine eq_int ?_; first | omega | (rw [w64 (by omega) (by omega)]; omega))) (Ent.take (by repeat' first | apply Take.nil | apply Take.cons | apply Pick.here | apply Pick.there))
      | exact .mk 2 _ _ (by exact (by decide : 4 - 2 < 4 - 1)) ⟨by omega, rfl, rfl⟩ (by repeat' first | exact trivial | apply And.intro | rfl | (refine eq_int ?_; first | omega | (rw [w64 (by omega) (by omega)]; omega))) (Ent.take (by repeat' first | apply Take.nil | apply Take.cons | apply Pick.here | apply Pick.there))
      | exact .mk 3 _ _ (by exact (by decide : 4 - 3 < 4 - 2)) ⟨by omega, rfl, rfl⟩ (by repeat' first | exact trivial | apply And.intro | rfl | (refine eq_int ?_; first | omega | (rw [w64 (by omega) (by omega)]; omega))) (Ent.take (by repeat' first | apply Take.nil | apply Take.cons | apply Pick.here | apply Pick.there))
      | exact .mk 4 _ _ (by exact (by decide : 4 - 4 < 4 - 3)) ⟨by omega, rfl, rfl⟩ (by repeat' first | exact trivial | apply And.intro | rfl | (refine eq_int ?_; first | omega | (rw [w64 (by omega) (by omega)]; omega))) (Ent.take (by repeat' first | apply Take.nil | apply Take.cons | apply Pick.here | apply Pick.there))
      | skip
    all_goals (simp only [partV, gi, gw, gw1] at *)
    · unfold parseV
      rw [hkd]
      (repeat (first | rw [if_pos (by first | assumption | grind | decide)] | rw [if_neg (by first | assumption | grind | decide)]))
      rfl
    · unfold parseV
      rw [hkd]
      (repeat (first | rw [if_pos (by first | assumption | grind | decide)] | rw [if_neg (by first | assumption | grind | decide)]))
      simp only [bodyV, gw1, gw]
      rfl
end Go.Proofs.Yticobcojmpakfaa.Am
