/- Package vector: identifiers, the best of a row. -/
import Derived.Test.YticobcojmpakfaaVec
set_option linter.unusedVariables false
set_option linter.unusedSimpArgs false
set_option maxRecDepth 100000
namespace Go.Proofs.Yticobcojmpakfaa.Am
open Go Go.RowKit
theorem ok_vPort : (match Try.f77.body with | some c => codeOk Try.f77.ntmps c | none => false) = true := by kernel_rfl
theorem en_vPort : ∃ fn, Try.prog.funcs[77]? = some fn ∧ (fn.name == "runtime.NumGoroutine") = false ∧ fn.body.isNone = false := ⟨_, Try.func77, by kernel_rfl, by kernel_rfl⟩
def vPort (p n : Int) : Int × Int := if p < 0 ∨ 15 < p ∨ n < 1 ∨ 4095 < n then (0, 1) else (p * 4096 + n, 0)
theorem id_num (p n : Int) (h1 : 0 ≤ p) (h2 : p ≤ 15) (h3 : 0 ≤ n) (h4 : n ≤ 4095) : IntKind.u64.wrap (bits .or .i64 (IntKind.i64.wrap (p * 2 ^ min (Int.toNat 12) IntKind.i64.bits)) n) = p * 4096 + n := by
  have e : (p * 2 ^ min (Int.toNat 12) IntKind.i64.bits : Int) = p * 4096 := by
    have : min (Int.toNat 12) IntKind.i64.bits = 12 := by decide
    rw [this]; rfl
  rw [e, w64 (by omega) (by omega), or64 12 _ _ (by omega) (by omega) (by omega) (by omega) (by omega) (by omega), wu64 (by omega) (by omega)]
theorem vPort_w (p n : Int) (w : World) : PuAt Try.prog 77 [.int .i64 p, .int .i64 n] (.tuple ⟨[.int .u64 (vPort p n).1, .int .i64 (vPort p n).2]⟩) w := by
  refine funcR_pure tyOk wide Try.func77 ok_vPort (Nat.le_of_ble_eq_true rfl) ?_
  repeat' first
    | (conv => whnf
       first
       | intro _
       | (first | refine selSplit (fun h => ?_) (fun h => ?_) | refine condSplit (fun h => ?_) (fun h => ?_)) <;> first | exact (clash (by assumption) h).elim | exact (clash h (by assumption)).elim | (simp only [decide_eq_true_eq, decide_eq_false_iff_not, Bool.not_eq_true', Bool.not_eq_false', Bool.not_true, Bool.not_false, Bool.or_eq_true, Bool.and_eq_true, Bool.or_eq_false_iff, Bool.and_eq_false_iff, beq_iff_eq, beq_eq_false_iff_ne, ne_eq] at h; first | (exfalso; omega) | skip) | skip
       | refine SeqP.go ?_
       | refine CondR.mk (by decide +kernel) ?_
       | exact IsV.mk
       | apply GuardP.mk
       | refine Or.inl ⟨_, _, (memHas (by repeat (first | apply Has.here | apply Has.there))), ?_⟩
       | refine Or.inl ⟨_, _, _, (by repeat (first | apply Hole.here | apply Hole.there)), rfl, rfl, ?_⟩
       | (apply loadArr; (· apply memHas; (repeat (first | apply Has.here | apply Has.there))); (· rfl); (· (first | assumption | (apply getSelf; (repeat' first | assumption | apply getSelf); done) | exact mapGet (by omega) | exact rfl | (simp; done))))
       | (apply loadArr0; (· apply memHas; (repeat (first | apply Has.here | apply Has.there))); (· rfl); (· (first | assumption | (apply getSelf; (repeat' first | assumption | apply getSelf); done) | exact mapGet (by omega) | exact rfl | (simp; done))))
       | (apply loadArr1; (· apply memHas; (repeat (first | apply Has.here | apply Has.there))); (· rfl); (· (first | assumption | (apply getSelf; (repeat' first | assumption | apply getSelf); done) | exact mapGet (by omega) | exact rfl | (simp; done))))
       | (apply loadOld; (· assumption); (· rfl); (· (first | assumption | (apply getSelf; (repeat' first | assumption | apply getSelf); done) | exact mapGet (by omega) | exact rfl | (simp; done))))
       | (apply loadOld0; (· assumption); (· rfl); (· (first | assumption | (apply getSelf; (repeat' first | assumption | apply getSelf); done) | exact mapGet (by omega) | exact rfl | (simp; done))))
       | (apply loadOld1; (· assumption); (· rfl); (· (first | assumption | (apply getSelf; (repeat' first | assumption | apply getSelf); done) | exact mapGet (by omega) | exact rfl | (simp; done))))
       | (apply loadRg; (· assumption); (· rfl))
       | (apply loadRg0; (· assumption))
       | (apply Or.inr; apply storeArr; (· (repeat (first | apply Hole.here | apply Hole.there))); (· rfl); (· (first | assumption | (apply getSelf; (repeat' first | assumption | apply getSelf); done) | exact mapGet (by omega) | exact rfl | (simp; done))); (· rfl); (· rfl))
       | (apply Or.inr; apply storeArr0; (· (repeat (first | apply Hole.here | apply Hole.there))); (· rfl); (· (first | assumption | (apply getSelf; (repeat' first | assumption | apply getSelf); done) | exact mapGet (by omega) | exact rfl | (simp; done))); (· rfl); (· rfl))
       | (apply Or.inr; apply storeArr1; (· (repeat (first | apply Hole.here | apply Hole.there))); (· rfl); (· (first | assumption | (apply getSelf; (repeat' first | assumption | apply getSelf); done) | exact mapGet (by omega) | exact rfl | (simp; done))); (· rfl); (· rfl))
       | refine BytW.ofBlk (memHas (by repeat (first | apply Has.here | apply Has.there))) rfl rfl ?_
       | refine AppW.noneB (memHas (by repeat (first | apply Has.here | apply Has.there))) (Nat.le_of_ble_eq_true rfl) rfl rfl rfl (Nat.le_of_ble_eq_true rfl) (Nat.le_of_ble_eq_true rfl) ?_
       | refine AppW.rowB (memHas (by repeat (first | apply Has.here | apply Has.there))) (Nat.le_of_ble_eq_true rfl) rfl rfl (by repeat (first | apply Hole.here | apply Hole.there)) (Nat.le_of_ble_eq_true rfl) (Nat.le_of_ble_eq_true rfl) ?_
       | refine AppW.blkB (memHas (by repeat (first | apply Has.here | apply Has.there))) (Nat.le_of_ble_eq_true rfl) rfl rfl (by repeat (first | apply Hole.here | apply Hole.there)) rfl rfl (Nat.le_of_ble_eq_true rfl) (Nat.le_of_ble_eq_true rfl) ?_
       | refine AppW.rowS (memHas (by repeat (first | apply Has.here | apply Has.there))) (Nat.le_of_ble_eq_true rfl) rfl rfl (by repeat (first | apply Hole.here | apply Hole.there)) (by omega) (Nat.le_of_ble_eq_true rfl) ?_
       | refine AppW.arrS (memHas (by repeat (first | apply Has.here | apply Has.there))) (Nat.le_of_ble_eq_true rfl) rfl rfl rfl (by repeat (first | apply Hole.here | apply Hole.there)) (by first | omega | (simp; omega)) (Nat.le_of_ble_eq_true rfl) ?_
       | refine ⟨(by first | rfl | omega | exact ⟨by omega, by omega⟩ | exact ⟨by omega, by omega, by omega⟩ | exact ⟨_, _, rfl⟩ | decide), ?_⟩
       | fail)
  all_goals (try conv => whnf)
  all_goals (try conv => whnf)
  all_goals unfold vPort
  all_goals first
    | (rw [if_pos (by omega)]; rfl)
    | (rw [if_neg (by omega), id_num p n (by omega) (by omega) (by omega) (by omega)]; rfl)
/-- A number with bytes behind it, the greatest first. -/
def beF (v : Int) (l : List UInt8) : Int := l.foldl (fun v c => (v * 256 + (c.toNat : Int)) % 18446744073709551616) v
theorem beF_snoc (v : Int) (l : List UInt8) (c : UInt8) : beF v (l ++ [c]) = (beF v l * 256 + (c.toNat : Int)) % 18446744073709551616 := by simp [beF, List.foldl_append]
theorem beF_range (v : Int) (hv : 0 ≤ v ∧ v < 18446744073709551616) (l : List UInt8) : 0 ≤ beF v l ∧ beF v l < 18446744073709551616 := by
  rcases List.eq_nil_or_concat l with h | ⟨l', c, h⟩
  · subst h; simpa [beF] using hv
  · subst h; rw [List.concat_eq_append, beF_snoc]; omega
theorem take_snoc (s : ByteArray) (k : Nat) (h : k < s.size) : s.data.toList.take (k + 1) = s.data.toList.take k ++ [s[k]] := by
  rw [List.take_succ_eq_append_getElem (by simpa using h)]; rfl
theorem shl8 (v c : Int) (hv : 0 ≤ v ∧ v < 18446744073709551616) (hc : 0 ≤ c ∧ c ≤ 255) : bits .or .u64 (IntKind.u64.wrap (v * 2 ^ min (Int.toNat 8) IntKind.u64.bits)) (IntKind.u64.wrap c) = (v * 256 + c) % 18446744073709551616 := by
  have e : (v * 2 ^ min (Int.toNat 8) IntKind.u64.bits : Int) = v * 256 := by
    have : min (Int.toNat 8) IntKind.u64.bits = 8 := by decide
    rw [this]; rfl
  rw [e, wu64', wu64 (x := c) (by omega) (by omega), or64u 8 _ _ (by omega) (by omega) (by omega) (by omega) (by omega) (by omega)]
  omega
theorem ok_vBridge : (match Try.f52.body with | some c => codeOk Try.f52.ntmps c | none => false) = true := by kernel_rfl
theorem en_vBridge : ∃ fn, Try.prog.funcs[52]? = some fn ∧ (fn.name == "runtime.NumGoroutine") = false ∧ fn.body.isNone = false := ⟨_, Try.func52, by kernel_rfl, by kernel_rfl⟩
def vBridge (p n : Int) (s : ByteArray) : Int × Int := if p < 0 ∨ 15 < p ∨ n < 0 ∨ 4095 < n then (0, 1) else if s.size ≠ 6 then (0, 2) else (beF (p * 4096 + n) s.data.toList, 0)
theorem vBridge_w (p n : Int) (s : ByteArray) (w : World) : PuAt Try.prog 52 [.int .i64 p, .int .i64 n, .string s] (.tuple ⟨[.int .u64 (vBridge p n s).1, .int .i64 (vBridge p n s).2]⟩) w := by
  refine funcR_pure tyOk wide Try.func52 ok_vBridge (Nat.le_of_ble_eq_true rfl) ?_
  repeat' first
    | (conv => whnf
       first
       | intro _
       | (first | refine selSplit (fun h => ?_) (fun h => ?_) | refine condSplit (fun h => ?_) (fun h => ?_)) <;> first | exact (clash (by assumption) h).elim | exact (clash h (by assumption)).elim | (simp only [decide_eq_true_eq, decide_eq_false_iff_not, Bool.not_eq_true', Bool.not_eq_false', Bool.not_true, Bool.not_false, Bool.or_eq_true, Bool.and_eq_true, Bool.or_eq_false_iff, Bool.and_eq_false_iff, beq_iff_eq, beq_eq_false_iff_ne, ne_eq] at h; first | (exfalso; omega) | skip) | skip
       | refine SeqP.go ?_
       | refine CondR.mk (by decide +kernel) ?_
       | exact IsV.mk
       | apply GuardP.mk
       | refine Or.inl ⟨_, _, (memHas (by repeat (first | apply Has.here | apply Has.there))), ?_⟩
       | refine Or.inl ⟨_, _, _, (by repeat (first | apply Hole.here | apply Hole.there)), rfl, rfl, ?_⟩
       | (apply loadArr; (· apply memHas; (repeat (first | apply Has.here | apply Has.there))); (· rfl); (· (first | assumption | (apply getSelf; (repeat' first | assumption | apply getSelf); done) | exact mapGet (by omega) | exact rfl | (simp; done))))
       | (apply loadArr0; (· apply memHas; (repeat (first | apply Has.here | apply Has.there))); (· rfl); (· (first | assumption | (apply getSelf; (repeat' first | assumption | apply getSelf); done) | exact mapGet (by omega) | exact rfl | (simp; done))))
       | (apply loadArr1; (· apply memHas; (repeat (first | apply Has.here | apply Has.there))); (· rfl); (· (first | assumption | (apply getSelf; (repeat' first | assumption | apply getSelf); done) | exact mapGet (by omega) | exact rfl | (simp; done))))
       | (apply loadOld; (· assumption); (· rfl); (· (first | assumption | (apply getSelf; (repeat' first | assumption | apply getSelf); done) | exact mapGet (by omega) | exact rfl | (simp; done))))
       | (apply loadOld0; (· assumption); (· rfl); (· (first | assumption | (apply getSelf; (repeat' first | assumption | apply getSelf); done) | exact mapGet (by omega) | exact rfl | (simp; done))))
       | (apply loadOld1; (· assumption); (· rfl); (· (first | assumption | (apply getSelf; (repeat' first | assumption | apply getSelf); done) | exact mapGet (by omega) | exact rfl | (simp; done))))
       | (apply loadRg; (· assumption); (· rfl))
       | (apply loadRg0; (· assumption))
       | (apply Or.inr; apply storeArr; (· (repeat (first | apply Hole.here | apply Hole.there))); (· rfl); (· (first | assumption | (apply getSelf; (repeat' first | assumption | apply getSelf); done) | exact mapGet (by omega) | exact rfl | (simp; done))); (· rfl); (· rfl))
       | (apply Or.inr; apply storeArr0; (· (repeat (first | apply Hole.here | apply Hole.there))); (· rfl); (· (first | assumption | (apply getSelf; (repeat' first | assumption | apply getSelf); done) | exact mapGet (by omega) | exact rfl | (simp; done))); (· rfl); (· rfl))
       | (apply Or.inr; apply storeArr1; (· (repeat (first | apply Hole.here | apply Hole.there))); (· rfl); (· (first | assumption | (apply getSelf; (repeat' first | assumption | apply getSelf); done) | exact mapGet (by omega) | exact rfl | (simp; done))); (· rfl); (· rfl))
       | refine BytW.ofBlk (memHas (by repeat (first | apply Has.here | apply Has.there))) rfl rfl ?_
       | refine AppW.noneB (memHas (by repeat (first | apply Has.here | apply Has.there))) (Nat.le_of_ble_eq_true rfl) rfl rfl rfl (Nat.le_of_ble_eq_true rfl) (Nat.le_of_ble_eq_true rfl) ?_
       | refine AppW.rowB (memHas (by repeat (first | apply Has.here | apply Has.there))) (Nat.le_of_ble_eq_true rfl) rfl rfl (by repeat (first | apply Hole.here | apply Hole.there)) (Nat.le_of_ble_eq_true rfl) (Nat.le_of_ble_eq_true rfl) ?_
       | refine AppW.blkB (memHas (by repeat (first | apply Has.here | apply Has.there))) (Nat.le_of_ble_eq_true rfl) rfl rfl (by repeat (first | apply Hole.here | apply Hole.there)) rfl rfl (Nat.le_of_ble_eq_true rfl) (Nat.le_of_ble_eq_true rfl) ?_
       | refine AppW.rowS (memHas (by repeat (first | apply Has.here | apply Has.there))) (Nat.le_of_ble_eq_true rfl) rfl rfl (by repeat (first | apply Hole.here | apply Hole.there)) (by omega) (Nat.le_of_ble_eq_true rfl) ?_
       | refine AppW.arrS (memHas (by repeat (first | apply Has.here | apply Has.there))) (Nat.le_of_ble_eq_true rfl) rfl rfl rfl (by repeat (first | apply Hole.here | apply Hole.there)) (by first | omega | (simp; omega)) (Nat.le_of_ble_eq_true rfl) ?_
       | refine ⟨(by first | rfl | omega | exact ⟨by omega, by omega⟩ | exact ⟨by omega, by omega, by omega⟩ | exact ⟨_, _, rfl⟩ | decide), ?_⟩
       | fail)
  all_goals (try conv => whnf)
  all_goals (try conv => whnf)
  all_goals first
    | (unfold vBridge; rw [if_pos (by omega)]; rfl)
    | (unfold vBridge; rw [if_neg (by omega), if_pos (by omega)]; rfl)
    | skip
  rename_i b q
  have hsz : s.size = 6 := by omega
  refine .mk Nat (fun k S H => k ≤ s.size ∧ S = [(38, .int .i64 k), (37, .int .i64 s.size), (36, .slice (some ⟨b, 0, none⟩) s.size q), (8, .int .u64 (beF (p * 4096 + n) (s.data.toList.take k)))] ∧ H = [.byt b s q 5]) (fun k => s.size - k) 0 _ _ ⟨by omega, rfl, rfl⟩ (by
    refine ⟨rfl, rfl, rfl, eq_int ?_, trivial⟩
    rw [id_num p n (by omega) (by omega) (by omega) (by omega)]; rfl) (Ent.of (by repeat (first | exact List.Sublist.refl _ | exact List.nil_sublist _ | apply List.Sublist.cons_cons | apply List.Sublist.cons))) ?_
  rintro k S1 H1 ⟨hk, rfl, rfl⟩
  have hr := beF_range (p * 4096 + n) (by omega) (s.data.toList.take k)
  repeat' first
    | (conv => whnf
       first
       | intro _
       | (first | refine selSplit (fun h => ?_) (fun h => ?_) | refine condSplit (fun h => ?_) (fun h => ?_)) <;> first | exact (clash (by assumption) h).elim | exact (clash h (by assumption)).elim | (simp only [decide_eq_true_eq, decide_eq_false_iff_not, Bool.not_eq_true', Bool.not_eq_false', Bool.not_true, Bool.not_false, Bool.or_eq_true, Bool.and_eq_true, Bool.or_eq_false_iff, Bool.and_eq_false_iff, beq_iff_eq, beq_eq_false_iff_ne, ne_eq] at h; first | (exfalso; omega) | skip) | skip
       | refine SeqP.go ?_
       | refine CondR.mk (by decide +kernel) ?_
       | exact IsV.mk
       | apply GuardP.mk
       | (refine Or.inr ⟨[_], Rd.byt (i := k) (memHas (by repeat (first | apply Has.here | apply Has.there))) (by omega), rfl, ?_⟩)
       | refine Or.inl ⟨_, _, (memHas (by repeat (first | apply Has.here | apply Has.there))), ?_⟩
       | refine Or.inl ⟨_, _, _, (by repeat (first | apply Hole.here | apply Hole.there)), rfl, rfl, ?_⟩
       | (apply loadArr; (· apply memHas; (repeat (first | apply Has.here | apply Has.there))); (· rfl); (· (first | assumption | (apply getSelf; (repeat' first | assumption | apply getSelf); done) | exact mapGet (by omega) | exact rfl | (simp; done))))
       | (apply loadArr0; (· apply memHas; (repeat (first | apply Has.here | apply Has.there))); (· rfl); (· (first | assumption | (apply getSelf; (repeat' first | assumption | apply getSelf); done) | exact mapGet (by omega) | exact rfl | (simp; done))))
       | (apply loadArr1; (· apply memHas; (repeat (first | apply Has.here | apply Has.there))); (· rfl); (· (first | assumption | (apply getSelf; (repeat' first | assumption | apply getSelf); done) | exact mapGet (by omega) | exact rfl | (simp; done))))
       | (apply loadOld; (· assumption); (· rfl); (· (first | assumption | (apply getSelf; (repeat' first | assumption | apply getSelf); done) | exact mapGet (by omega) | exact rfl | (simp; done))))
       | (apply loadOld0; (· assumption); (· rfl); (· (first | assumption | (apply getSelf; (repeat' first | assumption | apply getSelf); done) | exact mapGet (by omega) | exact rfl | (simp; done))))
       | (apply loadOld1; (· assumption); (· rfl); (· (first | assumption | (apply getSelf; (repeat' first | assumption | apply getSelf); done) | exact mapGet (by omega) | exact rfl | (simp; done))))
       | (apply loadRg; (· assumption); (· rfl))
       | (apply loadRg0; (· assumption))
       | (apply Or.inr; apply storeArr; (· (repeat (first | apply Hole.here | apply Hole.there))); (· rfl); (· (first | assumption | (apply getSelf; (repeat' first | assumption | apply getSelf); done) | exact mapGet (by omega) | exact rfl | (simp; done))); (· rfl); (· rfl))
       | (apply Or.inr; apply storeArr0; (· (repeat (first | apply Hole.here | apply Hole.there))); (· rfl); (· (first | assumption | (apply getSelf; (repeat' first | assumption | apply getSelf); done) | exact mapGet (by omega) | exact rfl | (simp; done))); (· rfl); (· rfl))
       | (apply Or.inr; apply storeArr1; (· (repeat (first | apply Hole.here | apply Hole.there))); (· rfl); (· (first | assumption | (apply getSelf; (repeat' first | assumption | apply getSelf); done) | exact mapGet (by omega) | exact rfl | (simp; done))); (· rfl); (· rfl))
       | refine BytW.ofBlk (memHas (by repeat (first | apply Has.here | apply Has.there))) rfl rfl ?_
       | refine AppW.noneB (memHas (by repeat (first | apply Has.here | apply Has.there))) (Nat.le_of_ble_eq_true rfl) rfl rfl rfl (Nat.le_of_ble_eq_true rfl) (Nat.le_of_ble_eq_true rfl) ?_
       | refine AppW.rowB (memHas (by repeat (first | apply Has.here | apply Has.there))) (Nat.le_of_ble_eq_true rfl) rfl rfl (by repeat (first | apply Hole.here | apply Hole.there)) (Nat.le_of_ble_eq_true rfl) (Nat.le_of_ble_eq_true rfl) ?_
       | refine AppW.blkB (memHas (by repeat (first | apply Has.here | apply Has.there))) (Nat.le_of_ble_eq_true rfl) rfl rfl (by repeat (first | apply Hole.here | apply Hole.there)) rfl rfl (Nat.le_of_ble_eq_true rfl) (Nat.le_of_ble_eq_true rfl) ?_
       | refine AppW.rowS (memHas (by repeat (first | apply Has.here | apply Has.there))) (Nat.le_of_ble_eq_true rfl) rfl rfl (by repeat (first | apply Hole.here | apply Hole.there)) (by omega) (Nat.le_of_ble_eq_true rfl) ?_
       | refine AppW.arrS (memHas (by repeat (first | apply Has.here | apply Has.there))) (Nat.le_of_ble_eq_true rfl) rfl rfl rfl (by repeat (first | apply Hole.here | apply Hole.there)) (by first | omega | (simp; omega)) (Nat.le_of_ble_eq_true rfl) ?_
       | refine ⟨(by first | rfl | omega | exact ⟨by omega, by omega⟩ | exact ⟨by omega, by omega, by omega⟩ | exact ⟨_, _, rfl⟩ | decide), ?_⟩
       | fail)
  all_goals (try conv => whnf)
  all_goals (try conv => whnf)
  · have hlt : k < s.size := by omega
    refine .mk (k + 1) _ _ (by omega) ⟨by omega, rfl, rfl⟩ (by
      refine ⟨eq_int (by rw [w64 (by omega) (by omega)]; omega), rfl, rfl, eq_int ?_, trivial⟩
      have hb := s[k].toNat_lt
      rw [shl8 _ _ hr (by omega), take_snoc s k hlt, beF_snoc]) (Ent.of (by repeat (first | exact List.Sublist.refl _ | exact List.nil_sublist _ | apply List.Sublist.cons_cons | apply List.Sublist.cons)))
  · have hkn : k = s.size := by omega
    unfold vBridge
    rw [if_neg (by omega), if_neg (by omega), hkn, List.take_of_length_le (by simp)]; rfl
/-! ### The best of a row -/
abbrev V4 := Int × Int × Int × Int
def encV (x : V4) : List Value := [.int .u64 x.1, .int .u64 x.2.1, .int .u64 x.2.2.1, .int .u64 x.2.2.2]
theorem encV_len (x : V4) : (encV x).length = 4 := rfl
def cmp4 (x y : V4) : Int := cmpV x.1 x.2.1 x.2.2.1 x.2.2.2 y.1 y.2.1 y.2.2.1 y.2.2.2
def minV (m : V4) (l : List V4) : V4 := l.foldl (fun m v => if cmp4 v m < 0 then v else m) m
theorem minV_snoc (m : V4) (l : List V4) (v : V4) : minV m (l ++ [v]) = if cmp4 v (minV m l) < 0 then v else minV m l := by unfold minV; rw [List.foldl_append]; rfl
theorem ok_vMin : (match Try.f81.body with | some c => codeOk Try.f81.ntmps c | none => false) = true := by kernel_rfl
theorem en_vMin : ∃ fn, Try.prog.funcs[81]? = some fn ∧ (fn.name == "runtime.NumGoroutine") = false ∧ fn.body.isNone = false := ⟨_, Try.func81, by kernel_rfl, by kernel_rfl⟩
theorem vMin_w (b o c : Nat) (x : V4) (l : List V4) (w : World) (h : w.rangeAt b o ((x :: l).flatMap encV)) (hl : l.length < 4611686018427387904) :
    PuAt Try.prog 81 [.slice (some ⟨b, o, none⟩) (x :: l).length c, .func (.func 53) #[] #[]] (.agg ⟨encV (minV x l)⟩) w := by
  refine funcR_pure tyOk wide Try.func81 ok_vMin (Nat.le_of_ble_eq_true rfl) ?_
  have r : ∀ H, Rd w [] H b o ((x :: l).flatMap encV) := fun H => Rd.old h (by simp)
  have hlen : (((x :: l).length : Nat) : Int) = (l.length : Int) + 1 := by simp
  repeat' first
    | (conv => whnf
       first
       | intro _
       | (first | refine selSplit (fun h => ?_) (fun h => ?_) | refine condSplit (fun h => ?_) (fun h => ?_)) <;> first | exact (clash (by assumption) h).elim | exact (clash h (by assumption)).elim | (simp only [decide_eq_true_eq, decide_eq_false_iff_not, Bool.not_eq_true', Bool.not_eq_false', Bool.not_true, Bool.not_false, Bool.or_eq_true, Bool.and_eq_true, Bool.or_eq_false_iff, Bool.and_eq_false_iff, beq_iff_eq, beq_eq_false_iff_ne, ne_eq] at h; first | (exfalso; omega) | skip) | skip
       | (first | refine DrawR.mk _ (.quiet 0 (.quiet 1 (.quiet 2 (.quiet 3 (.quiet 4 (.quiet 5 (.quiet 6 (.quiet 7 .done)))))))) (by decide +kernel) (SubL.refl _) ?_)
       | refine AltP.mk ?_ ?_
       | refine KeepP.mk (SubL.of (by repeat (first | exact List.Sublist.refl _ | exact List.nil_sublist _ | apply List.Sublist.cons_cons | apply List.Sublist.cons))) ?_
       | refine SeqP.go ?_
       | refine CondR.mk (by decide +kernel) ?_
       | exact IsV.mk
       | apply GuardP.mk
       | (refine Or.inr ⟨encV x, Rd.at ((r _).row encV_len (i := 0) (by simp)) (by simp [td55]), rfl, ?_⟩)
       | refine Or.inl ⟨_, _, (memHas (by repeat (first | apply Has.here | apply Has.there))), ?_⟩
       | refine Or.inl ⟨_, _, _, (by repeat (first | apply Hole.here | apply Hole.there)), rfl, rfl, ?_⟩
       | (apply loadArr; (· apply memHas; (repeat (first | apply Has.here | apply Has.there))); (· rfl); (· (first | assumption | (apply getSelf; (repeat' first | assumption | apply getSelf); done) | exact mapGet (by omega) | exact rfl | (simp; done))))
       | (apply loadArr0; (· apply memHas; (repeat (first | apply Has.here | apply Has.there))); (· rfl); (· (first | assumption | (apply getSelf; (repeat' first | assumption | apply getSelf); done) | exact mapGet (by omega) | exact rfl | (simp; done))))
       | (apply loadArr1; (· apply memHas; (repeat (first | apply Has.here | apply Has.there))); (· rfl); (· (first | assumption | (apply getSelf; (repeat' first | assumption | apply getSelf); done) | exact mapGet (by omega) | exact rfl | (simp; done))))
       | (apply loadOld; (· assumption); (· rfl); (· (first | assumption | (apply getSelf; (repeat' first | assumption | apply getSelf); done) | exact mapGet (by omega) | exact rfl | (simp; done))))
       | (apply loadOld0; (· assumption); (· rfl); (· (first | assumption | (apply getSelf; (repeat' first | assumption | apply getSelf); done) | exact mapGet (by omega) | exact rfl | (simp; done))))
       | (apply loadOld1; (· assumption); (· rfl); (· (first | assumption | (apply getSelf; (repeat' first | assumption | apply getSelf); done) | exact mapGet (by omega) | exact rfl | (simp; done))))
       | (apply loadRg; (· assumption); (· rfl))
       | (apply loadRg0; (· assumption))
       | (apply Or.inr; apply storeArr; (· (repeat (first | apply Hole.here | apply Hole.there))); (· rfl); (· (first | assumption | (apply getSelf; (repeat' first | assumption | apply getSelf); done) | exact mapGet (by omega) | exact rfl | (simp; done))); (· rfl); (· rfl))
       | (apply Or.inr; apply storeArr0; (· (repeat (first | apply Hole.here | apply Hole.there))); (· rfl); (· (first | assumption | (apply getSelf; (repeat' first | assumption | apply getSelf); done) | exact mapGet (by omega) | exact rfl | (simp; done))); (· rfl); (· rfl))
       | (apply Or.inr; apply storeArr1; (· (repeat (first | apply Hole.here | apply Hole.there))); (· rfl); (· (first | assumption | (apply getSelf; (repeat' first | assumption | apply getSelf); done) | exact mapGet (by omega) | exact rfl | (simp; done))); (· rfl); (· rfl))
       | refine BytW.ofBlk (memHas (by repeat (first | apply Has.here | apply Has.there))) rfl rfl ?_
       | refine AppW.noneB (memHas (by repeat (first | apply Has.here | apply Has.there))) (Nat.le_of_ble_eq_true rfl) rfl rfl rfl (Nat.le_of_ble_eq_true rfl) (Nat.le_of_ble_eq_true rfl) ?_
       | refine AppW.rowB (memHas (by repeat (first | apply Has.here | apply Has.there))) (Nat.le_of_ble_eq_true rfl) rfl rfl (by repeat (first | apply Hole.here | apply Hole.there)) (Nat.le_of_ble_eq_true rfl) (Nat.le_of_ble_eq_true rfl) ?_
       | refine AppW.blkB (memHas (by repeat (first | apply Has.here | apply Has.there))) (Nat.le_of_ble_eq_true rfl) rfl rfl (by repeat (first | apply Hole.here | apply Hole.there)) rfl rfl (Nat.le_of_ble_eq_true rfl) (Nat.le_of_ble_eq_true rfl) ?_
       | refine AppW.rowS (memHas (by repeat (first | apply Has.here | apply Has.there))) (Nat.le_of_ble_eq_true rfl) rfl rfl (by repeat (first | apply Hole.here | apply Hole.there)) (by omega) (Nat.le_of_ble_eq_true rfl) ?_
       | refine AppW.arrS (memHas (by repeat (first | apply Has.here | apply Has.there))) (Nat.le_of_ble_eq_true rfl) rfl rfl rfl (by repeat (first | apply Hole.here | apply Hole.there)) (by first | omega | (simp; omega)) (Nat.le_of_ble_eq_true rfl) ?_
       | refine ⟨(by first | rfl | omega | exact ⟨by omega, by omega⟩ | exact ⟨by omega, by omega, by omega⟩ | exact ⟨_, _, rfl⟩ | decide), ?_⟩
       | fail)
  all_goals (try conv => whnf)
  all_goals first | (exfalso; omega) | skip
  rename_i b1 b2
  refine .mk Nat (fun k S H => k ≤ l.length ∧ S = [(6, .int .i64 (k + 1 : Nat)), (0, .slice (some ⟨b, o, none⟩) (x :: l).length c), (1, .func (.func 53) #[] #[]), (5, .pointer (some ⟨b2, 0, none⟩)), (4, .pointer (some ⟨b1, 0, none⟩))] ∧ H = [.blk b2 (encV (minV x (l.take k))) 55, .blk b1 td55.zero 55]) (fun k => l.length - k) 0 _ _ ⟨by omega, rfl, rfl⟩ (by repeat' first | exact trivial | apply And.intro | rfl | (refine eq_int ?_; first | omega | (rw [w64 (by omega) (by omega)]; omega))) (Ent.of (by repeat (first | exact List.Sublist.refl _ | exact List.nil_sublist _ | apply List.Sublist.cons_cons | apply List.Sublist.cons))) ?_
  rintro k S1 H1 ⟨hk, rfl, rfl⟩
  by_cases hk2 : k < l.length
  · have hi : k + 1 < (x :: l).length := by simp; omega
    repeat' first
      | (conv => whnf
         first
         | intro _
         | (first | refine selSplit (fun h => ?_) (fun h => ?_) | refine condSplit (fun h => ?_) (fun h => ?_)) <;> first | exact (clash (by assumption) h).elim | exact (clash h (by assumption)).elim | (simp only [decide_eq_true_eq, decide_eq_false_iff_not, Bool.not_eq_true', Bool.not_eq_false', Bool.not_true, Bool.not_false, Bool.or_eq_true, Bool.and_eq_true, Bool.or_eq_false_iff, Bool.and_eq_false_iff, beq_iff_eq, beq_eq_false_iff_ne, ne_eq] at h; first | (exfalso; omega) | skip) | skip
         | (first | refine DrawR.mk _ (.quiet 0 (.quiet 1 (.quiet 2 (.quiet 3 (.quiet 4 (.quiet 5 (.quiet 6 (.quiet 7 .done)))))))) (by decide +kernel) (SubL.refl _) ?_)
         | refine AltP.mk ?_ ?_
         | refine KeepP.mk (SubL.of (by repeat (first | exact List.Sublist.refl _ | exact List.nil_sublist _ | apply List.Sublist.cons_cons | apply List.Sublist.cons))) ?_
         | refine SeqP.go ?_
         | refine CondR.mk (by decide +kernel) ?_
         | exact IsV.mk
         | apply GuardP.mk
         | (refine Or.inr ⟨encV (x :: l)[k + 1], Rd.at ((r _).row encV_len (i := k + 1) hi) (by simp [td55]), rfl, ?_⟩)
         | (apply callPure' en_vCompare; · exact fun w _ => vCompare_w _ _ _ _ _ _ _ _ w)
         | (apply callQuiet' en_vCompare; · exact fun w _ => vCompare_w _ _ _ _ _ _ _ _ w)
         | refine Or.inl ⟨_, _, (memHas (by repeat (first | apply Has.here | apply Has.there))), ?_⟩
         | refine Or.inl ⟨_, _, _, (by repeat (first | apply Hole.here | apply Hole.there)), rfl, rfl, ?_⟩
         | (apply loadArr; (· apply memHas; (repeat (first | apply Has.here | apply Has.there))); (· rfl); (· (first | assumption | (apply getSelf; (repeat' first | assumption | apply getSelf); done) | exact mapGet (by omega) | exact rfl | (simp; done))))
         | (apply loadArr0; (· apply memHas; (repeat (first | apply Has.here | apply Has.there))); (· rfl); (· (first | assumption | (apply getSelf; (repeat' first | assumption | apply getSelf); done) | exact mapGet (by omega) | exact rfl | (simp; done))))
         | (apply loadArr1; (· apply memHas; (repeat (first | apply Has.here | apply Has.there))); (· rfl); (· (first | assumption | (apply getSelf; (repeat' first | assumption | apply getSelf); done) | exact mapGet (by omega) | exact rfl | (simp; done))))
         | (apply loadOld; (· assumption); (· rfl); (· (first | assumption | (apply getSelf; (repeat' first | assumption | apply getSelf); done) | exact mapGet (by omega) | exact rfl | (simp; done))))
         | (apply loadOld0; (· assumption); (· rfl); (· (first | assumption | (apply getSelf; (repeat' first | assumption | apply getSelf); done) | exact mapGet (by omega) | exact rfl | (simp; done))))
         | (apply loadOld1; (· assumption); (· rfl); (· (first | assumption | (apply getSelf; (repeat' first | assumption | apply getSelf); done) | exact mapGet (by omega) | exact rfl | (simp; done))))
         | (apply loadRg; (· assumption); (· rfl))
         | (apply loadRg0; (· assumption))
         | (apply Or.inr; apply storeArr; (· (repeat (first | apply Hole.here | apply Hole.there))); (· rfl); (· (first | assumption | (apply getSelf; (repeat' first | assumption | apply getSelf); done) | exact mapGet (by omega) | exact rfl | (simp; done))); (· rfl); (· rfl))
         | (apply Or.inr; apply storeArr0; (· (repeat (first | apply Hole.here | apply Hole.there))); (· rfl); (· (first | assumption | (apply getSelf; (repeat' first | assumption | apply getSelf); done) | exact mapGet (by omega) | exact rfl | (simp; done))); (· rfl); (· rfl))
         | (apply Or.inr; apply storeArr1; (· (repeat (first | apply Hole.here | apply Hole.there))); (· rfl); (· (first | assumption | (apply getSelf; (repeat' first | assumption | apply getSelf); done) | exact mapGet (by omega) | exact rfl | (simp; done))); (· rfl); (· rfl))
         | refine BytW.ofBlk (memHas (by repeat (first | apply Has.here | apply Has.there))) rfl rfl ?_
         | refine AppW.noneB (memHas (by repeat (first | apply Has.here | apply Has.there))) (Nat.le_of_ble_eq_true rfl) rfl rfl rfl (Nat.le_of_ble_eq_true rfl) (Nat.le_of_ble_eq_true rfl) ?_
         | refine AppW.rowB (memHas (by repeat (first | apply Has.here | apply Has.there))) (Nat.le_of_ble_eq_true rfl) rfl rfl (by repeat (first | apply Hole.here | apply Hole.there)) (Nat.le_of_ble_eq_true rfl) (Nat.le_of_ble_eq_true rfl) ?_
         | refine AppW.blkB (memHas (by repeat (first | apply Has.here | apply Has.there))) (Nat.le_of_ble_eq_true rfl) rfl rfl (by repeat (first | apply Hole.here | apply Hole.there)) rfl rfl (Nat.le_of_ble_eq_true rfl) (Nat.le_of_ble_eq_true rfl) ?_
         | refine AppW.rowS (memHas (by repeat (first | apply Has.here | apply Has.there))) (Nat.le_of_ble_eq_true rfl) rfl rfl (by repeat (first | apply Hole.here | apply Hole.there)) (by omega) (Nat.le_of_ble_eq_true rfl) ?_
         | refine AppW.arrS (memHas (by repeat (first | apply Has.here | apply Has.there))) (Nat.le_of_ble_eq_true rfl) rfl rfl rfl (by repeat (first | apply Hole.here | apply Hole.there)) (by first | omega | (simp; omega)) (Nat.le_of_ble_eq_true rfl) ?_
         | refine ⟨(by first | rfl | omega | exact ⟨by omega, by omega⟩ | exact ⟨by omega, by omega, by omega⟩ | exact ⟨_, _, rfl⟩ | decide), ?_⟩
         | fail)
    all_goals (try conv => whnf)
    all_goals (try conv => whnf)
    all_goals
      rename_i h
      refine .mk (k + 1) _ _ (by omega) ⟨by omega, rfl, rfl⟩ ⟨eq_int (by rw [w64 (by omega) (by omega)]; omega), rfl, rfl, rfl, rfl, trivial⟩ ?_
      rw [List.take_succ_eq_append_getElem hk2, minV_snoc]
      first
        | (have h' : cmp4 l[k] (minV x (l.take k)) < 0 := h
           rw [if_pos h']; exact Ent.refl)
        | (have h' : ¬ cmp4 l[k] (minV x (l.take k)) < 0 := h
           rw [if_neg h']; exact Ent.refl)
  · skip
    repeat' first
      | (conv => whnf
         first
         | intro _
         | (first | refine selSplit (fun h => ?_) (fun h => ?_) | refine condSplit (fun h => ?_) (fun h => ?_)) <;> first | exact (clash (by assumption) h).elim | exact (clash h (by assumption)).elim | (simp only [decide_eq_true_eq, decide_eq_false_iff_not, Bool.not_eq_true', Bool.not_eq_false', Bool.not_true, Bool.not_false, Bool.or_eq_true, Bool.and_eq_true, Bool.or_eq_false_iff, Bool.and_eq_false_iff, beq_iff_eq, beq_eq_false_iff_ne, ne_eq] at h; first | (exfalso; omega) | skip) | skip
         | (first | refine DrawR.mk _ (.quiet 0 (.quiet 1 (.quiet 2 (.quiet 3 (.quiet 4 (.quiet 5 (.quiet 6 (.quiet 7 .done)))))))) (by decide +kernel) (SubL.refl _) ?_)
         | refine AltP.mk ?_ ?_
         | refine KeepP.mk (SubL.of (by repeat (first | exact List.Sublist.refl _ | exact List.nil_sublist _ | apply List.Sublist.cons_cons | apply List.Sublist.cons))) ?_
         | refine SeqP.go ?_
         | refine CondR.mk (by decide +kernel) ?_
         | exact IsV.mk
         | apply GuardP.mk
         | refine Or.inl ⟨_, _, (memHas (by repeat (first | apply Has.here | apply Has.there))), ?_⟩
         | refine Or.inl ⟨_, _, _, (by repeat (first | apply Hole.here | apply Hole.there)), rfl, rfl, ?_⟩
         | (apply loadArr; (· apply memHas; (repeat (first | apply Has.here | apply Has.there))); (· rfl); (· (first | assumption | (apply getSelf; (repeat' first | assumption | apply getSelf); done) | exact mapGet (by omega) | exact rfl | (simp; done))))
         | (apply loadArr0; (· apply memHas; (repeat (first | apply Has.here | apply Has.there))); (· rfl); (· (first | assumption | (apply getSelf; (repeat' first | assumption | apply getSelf); done) | exact mapGet (by omega) | exact rfl | (simp; done))))
         | (apply loadArr1; (· apply memHas; (repeat (first | apply Has.here | apply Has.there))); (· rfl); (· (first | assumption | (apply getSelf; (repeat' first | assumption | apply getSelf); done) | exact mapGet (by omega) | exact rfl | (simp; done))))
         | (apply loadOld; (· assumption); (· rfl); (· (first | assumption | (apply getSelf; (repeat' first | assumption | apply getSelf); done) | exact mapGet (by omega) | exact rfl | (simp; done))))
         | (apply loadOld0; (· assumption); (· rfl); (· (first | assumption | (apply getSelf; (repeat' first | assumption | apply getSelf); done) | exact mapGet (by omega) | exact rfl | (simp; done))))
         | (apply loadOld1; (· assumption); (· rfl); (· (first | assumption | (apply getSelf; (repeat' first | assumption | apply getSelf); done) | exact mapGet (by omega) | exact rfl | (simp; done))))
         | (apply loadRg; (· assumption); (· rfl))
         | (apply loadRg0; (· assumption))
         | (apply Or.inr; apply storeArr; (· (repeat (first | apply Hole.here | apply Hole.there))); (· rfl); (· (first | assumption | (apply getSelf; (repeat' first | assumption | apply getSelf); done) | exact mapGet (by omega) | exact rfl | (simp; done))); (· rfl); (· rfl))
         | (apply Or.inr; apply storeArr0; (· (repeat (first | apply Hole.here | apply Hole.there))); (· rfl); (· (first | assumption | (apply getSelf; (repeat' first | assumption | apply getSelf); done) | exact mapGet (by omega) | exact rfl | (simp; done))); (· rfl); (· rfl))
         | (apply Or.inr; apply storeArr1; (· (repeat (first | apply Hole.here | apply Hole.there))); (· rfl); (· (first | assumption | (apply getSelf; (repeat' first | assumption | apply getSelf); done) | exact mapGet (by omega) | exact rfl | (simp; done))); (· rfl); (· rfl))
         | refine BytW.ofBlk (memHas (by repeat (first | apply Has.here | apply Has.there))) rfl rfl ?_
         | refine AppW.noneB (memHas (by repeat (first | apply Has.here | apply Has.there))) (Nat.le_of_ble_eq_true rfl) rfl rfl rfl (Nat.le_of_ble_eq_true rfl) (Nat.le_of_ble_eq_true rfl) ?_
         | refine AppW.rowB (memHas (by repeat (first | apply Has.here | apply Has.there))) (Nat.le_of_ble_eq_true rfl) rfl rfl (by repeat (first | apply Hole.here | apply Hole.there)) (Nat.le_of_ble_eq_true rfl) (Nat.le_of_ble_eq_true rfl) ?_
         | refine AppW.blkB (memHas (by repeat (first | apply Has.here | apply Has.there))) (Nat.le_of_ble_eq_true rfl) rfl rfl (by repeat (first | apply Hole.here | apply Hole.there)) rfl rfl (Nat.le_of_ble_eq_true rfl) (Nat.le_of_ble_eq_true rfl) ?_
         | refine AppW.rowS (memHas (by repeat (first | apply Has.here | apply Has.there))) (Nat.le_of_ble_eq_true rfl) rfl rfl (by repeat (first | apply Hole.here | apply Hole.there)) (by omega) (Nat.le_of_ble_eq_true rfl) ?_
         | refine AppW.arrS (memHas (by repeat (first | apply Has.here | apply Has.there))) (Nat.le_of_ble_eq_true rfl) rfl rfl rfl (by repeat (first | apply Hole.here | apply Hole.there)) (by first | omega | (simp; omega)) (Nat.le_of_ble_eq_true rfl) ?_
         | refine ⟨(by first | rfl | omega | exact ⟨by omega, by omega⟩ | exact ⟨by omega, by omega, by omega⟩ | exact ⟨_, _, rfl⟩ | decide), ?_⟩
         | fail)
    all_goals (try conv => whnf)
    all_goals (try conv => whnf)
    all_goals first | (exfalso; omega) | skip
    rw [List.take_of_length_le (by omega)]
    rfl
theorem ok_cmpi : (match Try.f84.body with | some c => codeOk Try.f84.ntmps c | none => false) = true := by kernel_rfl
theorem en_cmpi : ∃ fn, Try.prog.funcs[84]? = some fn ∧ (fn.name == "runtime.NumGoroutine") = false ∧ fn.body.isNone = false := ⟨_, Try.func84, by kernel_rfl, by kernel_rfl⟩
theorem ok_isNaNi : (match Try.f91.body with | some c => codeOk Try.f91.ntmps c | none => false) = true := by kernel_rfl
theorem en_isNaNi : ∃ fn, Try.prog.funcs[91]? = some fn ∧ (fn.name == "runtime.NumGoroutine") = false ∧ fn.body.isNone = false := ⟨_, Try.func91, by kernel_rfl, by kernel_rfl⟩
theorem isNaNi_w (a : Int) (w : World) : PuAt Try.prog 91 [.int .i64 a] (.bool false) w := by
  refine funcR_pure tyOk wide Try.func91 ok_isNaNi (Nat.le_of_ble_eq_true rfl) ?_
  repeat' first
    | (conv => whnf
       first
       | intro _
       | (first | refine selSplit (fun h => ?_) (fun h => ?_) | refine condSplit (fun h => ?_) (fun h => ?_)) <;> first | exact (clash (by assumption) h).elim | exact (clash h (by assumption)).elim | (simp only [decide_eq_true_eq, decide_eq_false_iff_not, Bool.not_eq_true', Bool.not_eq_false', Bool.not_true, Bool.not_false, Bool.or_eq_true, Bool.and_eq_true, Bool.or_eq_false_iff, Bool.and_eq_false_iff, beq_iff_eq, beq_eq_false_iff_ne, ne_eq] at h; first | (exfalso; omega) | skip) | skip
       | refine SeqP.go ?_
       | refine CondR.mk (by decide +kernel) ?_
       | exact IsV.mk
       | apply GuardP.mk
       | refine Or.inl ⟨_, _, (memHas (by repeat (first | apply Has.here | apply Has.there))), ?_⟩
       | refine Or.inl ⟨_, _, _, (by repeat (first | apply Hole.here | apply Hole.there)), rfl, rfl, ?_⟩
       | (apply loadArr; (· apply memHas; (repeat (first | apply Has.here | apply Has.there))); (· rfl); (· (first | assumption | (apply getSelf; (repeat' first | assumption | apply getSelf); done) | exact mapGet (by omega) | exact rfl | (simp; done))))
       | (apply loadArr0; (· apply memHas; (repeat (first | apply Has.here | apply Has.there))); (· rfl); (· (first | assumption | (apply getSelf; (repeat' first | assumption | apply getSelf); done) | exact mapGet (by omega) | exact rfl | (simp; done))))
       | (apply loadArr1; (· apply memHas; (repeat (first | apply Has.here | apply Has.there))); (· rfl); (· (first | assumption | (apply getSelf; (repeat' first | assumption | apply getSelf); done) | exact mapGet (by omega) | exact rfl | (simp; done))))
       | (apply loadOld; (· assumption); (· rfl); (· (first | assumption | (apply getSelf; (repeat' first | assumption | apply getSelf); done) | exact mapGet (by omega) | exact rfl | (simp; done))))
       | (apply loadOld0; (· assumption); (· rfl); (· (first | assumption | (apply getSelf; (repeat' first | assumption | apply getSelf); done) | exact mapGet (by omega) | exact rfl | (simp; done))))
       | (apply loadOld1; (· assumption); (· rfl); (· (first | assumption | (apply getSelf; (repeat' first | assumption | apply getSelf); done) | exact mapGet (by omega) | exact rfl | (simp; done))))
       | (apply loadRg; (· assumption); (· rfl))
       | (apply loadRg0; (· assumption))
       | (apply Or.inr; apply storeArr; (· (repeat (first | apply Hole.here | apply Hole.there))); (· rfl); (· (first | assumption | (apply getSelf; (repeat' first | assumption | apply getSelf); done) | exact mapGet (by omega) | exact rfl | (simp; done))); (· rfl); (· rfl))
       | (apply Or.inr; apply storeArr0; (· (repeat (first | apply Hole.here | apply Hole.there))); (· rfl); (· (first | assumption | (apply getSelf; (repeat' first | assumption | apply getSelf); done) | exact mapGet (by omega) | exact rfl | (simp; done))); (· rfl); (· rfl))
       | (apply Or.inr; apply storeArr1; (· (repeat (first | apply Hole.here | apply Hole.there))); (· rfl); (· (first | assumption | (apply getSelf; (repeat' first | assumption | apply getSelf); done) | exact mapGet (by omega) | exact rfl | (simp; done))); (· rfl); (· rfl))
       | refine BytW.ofBlk (memHas (by repeat (first | apply Has.here | apply Has.there))) rfl rfl ?_
       | refine AppW.noneB (memHas (by repeat (first | apply Has.here | apply Has.there))) (Nat.le_of_ble_eq_true rfl) rfl rfl rfl (Nat.le_of_ble_eq_true rfl) (Nat.le_of_ble_eq_true rfl) ?_
       | refine AppW.rowB (memHas (by repeat (first | apply Has.here | apply Has.there))) (Nat.le_of_ble_eq_true rfl) rfl rfl (by repeat (first | apply Hole.here | apply Hole.there)) (Nat.le_of_ble_eq_true rfl) (Nat.le_of_ble_eq_true rfl) ?_
       | refine AppW.blkB (memHas (by repeat (first | apply Has.here | apply Has.there))) (Nat.le_of_ble_eq_true rfl) rfl rfl (by repeat (first | apply Hole.here | apply Hole.there)) rfl rfl (Nat.le_of_ble_eq_true rfl) (Nat.le_of_ble_eq_true rfl) ?_
       | refine AppW.rowS (memHas (by repeat (first | apply Has.here | apply Has.there))) (Nat.le_of_ble_eq_true rfl) rfl rfl (by repeat (first | apply Hole.here | apply Hole.there)) (by omega) (Nat.le_of_ble_eq_true rfl) ?_
       | refine AppW.arrS (memHas (by repeat (first | apply Has.here | apply Has.there))) (Nat.le_of_ble_eq_true rfl) rfl rfl rfl (by repeat (first | apply Hole.here | apply Hole.there)) (by first | omega | (simp; omega)) (Nat.le_of_ble_eq_true rfl) ?_
       | refine ⟨(by first | rfl | omega | exact ⟨by omega, by omega⟩ | exact ⟨by omega, by omega, by omega⟩ | exact ⟨_, _, rfl⟩ | decide), ?_⟩
       | fail)
  all_goals (try conv => whnf)
  all_goals exact v_bool (by simp)
theorem cmpi_w (a b : Int) (w : World) : PuAt Try.prog 84 [.int .i64 a, .int .i64 b] (.int .i64 (cmpI a b)) w := by
  refine funcR_pure tyOk wide Try.func84 ok_cmpi (Nat.le_of_ble_eq_true rfl) ?_
  repeat' first
    | (conv => whnf
       first
       | intro _
       | (first | refine selSplit (fun h => ?_) (fun h => ?_) | refine condSplit (fun h => ?_) (fun h => ?_)) <;> first | exact (clash (by assumption) h).elim | exact (clash h (by assumption)).elim | (simp only [decide_eq_true_eq, decide_eq_false_iff_not, Bool.not_eq_true', Bool.not_eq_false', Bool.not_true, Bool.not_false, Bool.or_eq_true, Bool.and_eq_true, Bool.or_eq_false_iff, Bool.and_eq_false_iff, beq_iff_eq, beq_eq_false_iff_ne, ne_eq] at h; first | (exfalso; omega) | skip) | skip
       | refine SeqP.go ?_
       | refine CondR.mk (by decide +kernel) ?_
       | exact IsV.mk
       | apply GuardP.mk
       | (apply callPure' en_isNaNi; · exact fun w _ => isNaNi_w _ w)
       | (apply callQuiet' en_isNaNi; · exact fun w _ => isNaNi_w _ w)
       | refine Or.inl ⟨_, _, (memHas (by repeat (first | apply Has.here | apply Has.there))), ?_⟩
       | refine Or.inl ⟨_, _, _, (by repeat (first | apply Hole.here | apply Hole.there)), rfl, rfl, ?_⟩
       | (apply loadArr; (· apply memHas; (repeat (first | apply Has.here | apply Has.there))); (· rfl); (· (first | assumption | (apply getSelf; (repeat' first | assumption | apply getSelf); done) | exact mapGet (by omega) | exact rfl | (simp; done))))
       | (apply loadArr0; (· apply memHas; (repeat (first | apply Has.here | apply Has.there))); (· rfl); (· (first | assumption | (apply getSelf; (repeat' first | assumption | apply getSelf); done) | exact mapGet (by omega) | exact rfl | (simp; done))))
       | (apply loadArr1; (· apply memHas; (repeat (first | apply Has.here | apply Has.there))); (· rfl); (· (first | assumption | (apply getSelf; (repeat' first | assumption | apply getSelf); done) | exact mapGet (by omega) | exact rfl | (simp; done))))
       | (apply loadOld; (· assumption); (· rfl); (· (first | assumption | (apply getSelf; (repeat' first | assumption | apply getSelf); done) | exact mapGet (by omega) | exact rfl | (simp; done))))
       | (apply loadOld0; (· assumption); (· rfl); (· (first | assumption | (apply getSelf; (repeat' first | assumption | apply getSelf); done) | exact mapGet (by omega) | exact rfl | (simp; done))))
       | (apply loadOld1; (· assumption); (· rfl); (· (first | assumption | (apply getSelf; (repeat' first | assumption | apply getSelf); done) | exact mapGet (by omega) | exact rfl | (simp; done))))
       | (apply loadRg; (· assumption); (· rfl))
       | (apply loadRg0; (· assumption))
       | (apply Or.inr; apply storeArr; (· (repeat (first | apply Hole.here | apply Hole.there))); (· rfl); (· (first | assumption | (apply getSelf; (repeat' first | assumption | apply getSelf); done) | exact mapGet (by omega) | exact rfl | (simp; done))); (· rfl); (· rfl))
       | (apply Or.inr; apply storeArr0; (· (repeat (first | apply Hole.here | apply Hole.there))); (· rfl); (· (first | assumption | (apply getSelf; (repeat' first | assumption | apply getSelf); done) | exact mapGet (by omega) | exact rfl | (simp; done))); (· rfl); (· rfl))
       | (apply Or.inr; apply storeArr1; (· (repeat (first | apply Hole.here | apply Hole.there))); (· rfl); (· (first | assumption | (apply getSelf; (repeat' first | assumption | apply getSelf); done) | exact mapGet (by omega) | exact rfl | (simp; done))); (· rfl); (· rfl))
       | refine BytW.ofBlk (memHas (by repeat (first | apply Has.here | apply Has.there))) rfl rfl ?_
       | refine AppW.noneB (memHas (by repeat (first | apply Has.here | apply Has.there))) (Nat.le_of_ble_eq_true rfl) rfl rfl rfl (Nat.le_of_ble_eq_true rfl) (Nat.le_of_ble_eq_true rfl) ?_
       | refine AppW.rowB (memHas (by repeat (first | apply Has.here | apply Has.there))) (Nat.le_of_ble_eq_true rfl) rfl rfl (by repeat (first | apply Hole.here | apply Hole.there)) (Nat.le_of_ble_eq_true rfl) (Nat.le_of_ble_eq_true rfl) ?_
       | refine AppW.blkB (memHas (by repeat (first | apply Has.here | apply Has.there))) (Nat.le_of_ble_eq_true rfl) rfl rfl (by repeat (first | apply Hole.here | apply Hole.there)) rfl rfl (Nat.le_of_ble_eq_true rfl) (Nat.le_of_ble_eq_true rfl) ?_
       | refine AppW.rowS (memHas (by repeat (first | apply Has.here | apply Has.there))) (Nat.le_of_ble_eq_true rfl) rfl rfl (by repeat (first | apply Hole.here | apply Hole.there)) (by omega) (Nat.le_of_ble_eq_true rfl) ?_
       | refine AppW.arrS (memHas (by repeat (first | apply Has.here | apply Has.there))) (Nat.le_of_ble_eq_true rfl) rfl rfl rfl (by repeat (first | apply Hole.here | apply Hole.there)) (by first | omega | (simp; omega)) (Nat.le_of_ble_eq_true rfl) ?_
       | refine ⟨(by first | rfl | omega | exact ⟨by omega, by omega⟩ | exact ⟨by omega, by omega, by omega⟩ | exact ⟨_, _, rfl⟩ | decide), ?_⟩
       | fail)
  all_goals (try conv => whnf)
  all_goals (refine v_int ?_; unfold cmpI; first | rw [if_pos (by assumption)] | rw [if_neg (by assumption), if_pos (by assumption)] | rw [if_neg (by assumption), if_neg (by assumption)])
theorem ok_bestIs : (match Try.f83.body with | some c => codeOk Try.f83.ntmps c | none => false) = true := by kernel_rfl
theorem en_bestIs : ∃ fn, Try.prog.funcs[83]? = some fn ∧ (fn.name == "runtime.NumGoroutine") = false ∧ fn.body.isNone = false := ⟨_, Try.func83, by kernel_rfl, by kernel_rfl⟩
theorem bestIs_w (x y : V4) (g : Nat) (w : World) (h : w.heap[g]? = some (.cells ⟨encV y⟩ 55 (0, 0))) : PuAt Try.prog 83 [.agg ⟨encV x⟩, .pointer (some ⟨g, 0, none⟩)] (.bool (decide (cmpI (cmp4 x y) 0 = 0))) w := by
  refine funcR_pure tyOk wide Try.func83 ok_bestIs (Nat.le_of_ble_eq_true rfl) ?_
  have r : ∀ H, Rd w [] H g 0 (encV y) := fun H => Rd.old (fun j v hv => by rw [Nat.zero_add, cell_of_row w g j _ _ _ h]; simpa using hv) (by simp)
  repeat' first
    | (conv => whnf
       first
       | intro _
       | (first | refine selSplit (fun h => ?_) (fun h => ?_) | refine condSplit (fun h => ?_) (fun h => ?_)) <;> first | exact (clash (by assumption) h).elim | exact (clash h (by assumption)).elim | (simp only [decide_eq_true_eq, decide_eq_false_iff_not, Bool.not_eq_true', Bool.not_eq_false', Bool.not_true, Bool.not_false, Bool.or_eq_true, Bool.and_eq_true, Bool.or_eq_false_iff, Bool.and_eq_false_iff, beq_iff_eq, beq_eq_false_iff_ne, ne_eq] at h; first | (exfalso; omega) | skip) | skip
       | refine SeqP.go ?_
       | refine CondR.mk (by decide +kernel) ?_
       | exact IsV.mk
       | apply GuardP.mk
       | (refine Or.inr ⟨encV y, r _, rfl, ?_⟩)
       | (apply callPure' en_vCompare; · exact fun w _ => vCompare_w _ _ _ _ _ _ _ _ w)
       | (apply callQuiet' en_vCompare; · exact fun w _ => vCompare_w _ _ _ _ _ _ _ _ w)
       | (apply callPure' en_cmpi; · exact fun w _ => cmpi_w _ _ w)
       | (apply callQuiet' en_cmpi; · exact fun w _ => cmpi_w _ _ w)
       | refine Or.inl ⟨_, _, (memHas (by repeat (first | apply Has.here | apply Has.there))), ?_⟩
       | refine Or.inl ⟨_, _, _, (by repeat (first | apply Hole.here | apply Hole.there)), rfl, rfl, ?_⟩
       | (apply loadArr; (· apply memHas; (repeat (first | apply Has.here | apply Has.there))); (· rfl); (· (first | assumption | (apply getSelf; (repeat' first | assumption | apply getSelf); done) | exact mapGet (by omega) | exact rfl | (simp; done))))
       | (apply loadArr0; (· apply memHas; (repeat (first | apply Has.here | apply Has.there))); (· rfl); (· (first | assumption | (apply getSelf; (repeat' first | assumption | apply getSelf); done) | exact mapGet (by omega) | exact rfl | (simp; done))))
       | (apply loadArr1; (· apply memHas; (repeat (first | apply Has.here | apply Has.there))); (· rfl); (· (first | assumption | (apply getSelf; (repeat' first | assumption | apply getSelf); done) | exact mapGet (by omega) | exact rfl | (simp; done))))
       | (apply loadOld; (· assumption); (· rfl); (· (first | assumption | (apply getSelf; (repeat' first | assumption | apply getSelf); done) | exact mapGet (by omega) | exact rfl | (simp; done))))
       | (apply loadOld0; (· assumption); (· rfl); (· (first | assumption | (apply getSelf; (repeat' first | assumption | apply getSelf); done) | exact mapGet (by omega) | exact rfl | (simp; done))))
       | (apply loadOld1; (· assumption); (· rfl); (· (first | assumption | (apply getSelf; (repeat' first | assumption | apply getSelf); done) | exact mapGet (by omega) | exact rfl | (simp; done))))
       | (apply loadRg; (· assumption); (· rfl))
       | (apply loadRg0; (· assumption))
       | (apply Or.inr; apply storeArr; (· (repeat (first | apply Hole.here | apply Hole.there))); (· rfl); (· (first | assumption | (apply getSelf; (repeat' first | assumption | apply getSelf); done) | exact mapGet (by omega) | exact rfl | (simp; done))); (· rfl); (· rfl))
       | (apply Or.inr; apply storeArr0; (· (repeat (first | apply Hole.here | apply Hole.there))); (· rfl); (· (first | assumption | (apply getSelf; (repeat' first | assumption | apply getSelf); done) | exact mapGet (by omega) | exact rfl | (simp; done))); (· rfl); (· rfl))
       | (apply Or.inr; apply storeArr1; (· (repeat (first | apply Hole.here | apply Hole.there))); (· rfl); (· (first | assumption | (apply getSelf; (repeat' first | assumption | apply getSelf); done) | exact mapGet (by omega) | exact rfl | (simp; done))); (· rfl); (· rfl))
       | refine BytW.ofBlk (memHas (by repeat (first | apply Has.here | apply Has.there))) rfl rfl ?_
       | refine AppW.noneB (memHas (by repeat (first | apply Has.here | apply Has.there))) (Nat.le_of_ble_eq_true rfl) rfl rfl rfl (Nat.le_of_ble_eq_true rfl) (Nat.le_of_ble_eq_true rfl) ?_
       | refine AppW.rowB (memHas (by repeat (first | apply Has.here | apply Has.there))) (Nat.le_of_ble_eq_true rfl) rfl rfl (by repeat (first | apply Hole.here | apply Hole.there)) (Nat.le_of_ble_eq_true rfl) (Nat.le_of_ble_eq_true rfl) ?_
       | refine AppW.blkB (memHas (by repeat (first | apply Has.here | apply Has.there))) (Nat.le_of_ble_eq_true rfl) rfl rfl (by repeat (first | apply Hole.here | apply Hole.there)) rfl rfl (Nat.le_of_ble_eq_true rfl) (Nat.le_of_ble_eq_true rfl) ?_
       | refine AppW.rowS (memHas (by repeat (first | apply Has.here | apply Has.there))) (Nat.le_of_ble_eq_true rfl) rfl rfl (by repeat (first | apply Hole.here | apply Hole.there)) (by omega) (Nat.le_of_ble_eq_true rfl) ?_
       | refine AppW.arrS (memHas (by repeat (first | apply Has.here | apply Has.there))) (Nat.le_of_ble_eq_true rfl) rfl rfl rfl (by repeat (first | apply Hole.here | apply Hole.there)) (by first | omega | (simp; omega)) (Nat.le_of_ble_eq_true rfl) ?_
       | refine ⟨(by first | rfl | omega | exact ⟨by omega, by omega⟩ | exact ⟨by omega, by omega, by omega⟩ | exact ⟨_, _, rfl⟩ | decide), ?_⟩
       | fail)
  all_goals (try conv => whnf)
  all_goals rfl
/-- The first place of which something is so. -/
def firstOf (p : V4 → Bool) : List V4 → Nat → Int
  | [], _ => -1
  | x :: r, k => if p x then (k : Int) else firstOf p r (k + 1)
theorem firstOf_drop (p : V4 → Bool) (l : List V4) (k : Nat) (h : k < l.length) : firstOf p (l.drop k) k = if p l[k] then (k : Int) else firstOf p (l.drop (k + 1)) (k + 1) := by
  rw [List.drop_eq_getElem_cons h]; rfl
theorem ok_vIndex : (match Try.f82.body with | some c => codeOk Try.f82.ntmps c | none => false) = true := by kernel_rfl
theorem en_vIndex : ∃ fn, Try.prog.funcs[82]? = some fn ∧ (fn.name == "runtime.NumGoroutine") = false ∧ fn.body.isNone = false := ⟨_, Try.func82, by kernel_rfl, by kernel_rfl⟩
theorem vIndex_w (b o c g : Nat) (y : V4) (l : List V4) (w : World) (h : w.rangeAt b o (l.flatMap encV)) (hg : w.heap[g]? = some (.cells ⟨encV y⟩ 55 (0, 0))) (hl : l.length < 4611686018427387904) :
    PuAt Try.prog 82 [.slice (some ⟨b, o, none⟩) l.length c, .func (.func 83) #[] #[.pointer (some ⟨g, 0, none⟩)]] (.int .i64 (firstOf (fun x => decide (cmpI (cmp4 x y) 0 = 0)) l 0)) w := by
  refine funcR_pure tyOk wide Try.func82 ok_vIndex (Nat.le_of_ble_eq_true rfl) ?_
  have r : ∀ H, Rd w [] H b o (l.flatMap encV) := fun H => Rd.old h (by simp)
  have hgl : g < w.heap.size := (Array.getElem?_eq_some_iff.1 hg).1
  have gg : ∀ {H w1}, St w [] H w1 → w1.heap[g]? = some (.cells ⟨encV y⟩ 55 (0, 0)) := fun hw => (hw.frame g hgl (by simp)).trans hg
  repeat' first
    | (conv => whnf
       first
       | intro _
       | (first | refine selSplit (fun h => ?_) (fun h => ?_) | refine condSplit (fun h => ?_) (fun h => ?_)) <;> first | exact (clash (by assumption) h).elim | exact (clash h (by assumption)).elim | (simp only [decide_eq_true_eq, decide_eq_false_iff_not, Bool.not_eq_true', Bool.not_eq_false', Bool.not_true, Bool.not_false, Bool.or_eq_true, Bool.and_eq_true, Bool.or_eq_false_iff, Bool.and_eq_false_iff, beq_iff_eq, beq_eq_false_iff_ne, ne_eq] at h; first | (exfalso; omega) | skip) | skip
       | refine SeqP.go ?_
       | refine CondR.mk (by decide +kernel) ?_
       | exact IsV.mk
       | apply GuardP.mk
       | refine Or.inl ⟨_, _, (memHas (by repeat (first | apply Has.here | apply Has.there))), ?_⟩
       | refine Or.inl ⟨_, _, _, (by repeat (first | apply Hole.here | apply Hole.there)), rfl, rfl, ?_⟩
       | (apply loadArr; (· apply memHas; (repeat (first | apply Has.here | apply Has.there))); (· rfl); (· (first | assumption | (apply getSelf; (repeat' first | assumption | apply getSelf); done) | exact mapGet (by omega) | exact rfl | (simp; done))))
       | (apply loadArr0; (· apply memHas; (repeat (first | apply Has.here | apply Has.there))); (· rfl); (· (first | assumption | (apply getSelf; (repeat' first | assumption | apply getSelf); done) | exact mapGet (by omega) | exact rfl | (simp; done))))
       | (apply loadArr1; (· apply memHas; (repeat (first | apply Has.here | apply Has.there))); (· rfl); (· (first | assumption | (apply getSelf; (repeat' first | assumption | apply getSelf); done) | exact mapGet (by omega) | exact rfl | (simp; done))))
       | (apply loadOld; (· assumption); (· rfl); (· (first | assumption | (apply getSelf; (repeat' first | assumption | apply getSelf); done) | exact mapGet (by omega) | exact rfl | (simp; done))))
       | (apply loadOld0; (· assumption); (· rfl); (· (first | assumption | (apply getSelf; (repeat' first | assumption | apply getSelf); done) | exact mapGet (by omega) | exact rfl | (simp; done))))
       | (apply loadOld1; (· assumption); (· rfl); (· (first | assumption | (apply getSelf; (repeat' first | assumption | apply getSelf); done) | exact mapGet (by omega) | exact rfl | (simp; done))))
       | (apply loadRg; (· assumption); (· rfl))
       | (apply loadRg0; (· assumption))
       | (apply Or.inr; apply storeArr; (· (repeat (first | apply Hole.here | apply Hole.there))); (· rfl); (· (first | assumption | (apply getSelf; (repeat' first | assumption | apply getSelf); done) | exact mapGet (by omega) | exact rfl | (simp; done))); (· rfl); (· rfl))
       | (apply Or.inr; apply storeArr0; (· (repeat (first | apply Hole.here | apply Hole.there))); (· rfl); (· (first | assumption | (apply getSelf; (repeat' first | assumption | apply getSelf); done) | exact mapGet (by omega) | exact rfl | (simp; done))); (· rfl); (· rfl))
       | (apply Or.inr; apply storeArr1; (· (repeat (first | apply Hole.here | apply Hole.there))); (· rfl); (· (first | assumption | (apply getSelf; (repeat' first | assumption | apply getSelf); done) | exact mapGet (by omega) | exact rfl | (simp; done))); (· rfl); (· rfl))
       | refine BytW.ofBlk (memHas (by repeat (first | apply Has.here | apply Has.there))) rfl rfl ?_
       | refine AppW.noneB (memHas (by repeat (first | apply Has.here | apply Has.there))) (Nat.le_of_ble_eq_true rfl) rfl rfl rfl (Nat.le_of_ble_eq_true rfl) (Nat.le_of_ble_eq_true rfl) ?_
       | refine AppW.rowB (memHas (by repeat (first | apply Has.here | apply Has.there))) (Nat.le_of_ble_eq_true rfl) rfl rfl (by repeat (first | apply Hole.here | apply Hole.there)) (Nat.le_of_ble_eq_true rfl) (Nat.le_of_ble_eq_true rfl) ?_
       | refine AppW.blkB (memHas (by repeat (first | apply Has.here | apply Has.there))) (Nat.le_of_ble_eq_true rfl) rfl rfl (by repeat (first | apply Hole.here | apply Hole.there)) rfl rfl (Nat.le_of_ble_eq_true rfl) (Nat.le_of_ble_eq_true rfl) ?_
       | refine AppW.rowS (memHas (by repeat (first | apply Has.here | apply Has.there))) (Nat.le_of_ble_eq_true rfl) rfl rfl (by repeat (first | apply Hole.here | apply Hole.there)) (by omega) (Nat.le_of_ble_eq_true rfl) ?_
       | refine AppW.arrS (memHas (by repeat (first | apply Has.here | apply Has.there))) (Nat.le_of_ble_eq_true rfl) rfl rfl rfl (by repeat (first | apply Hole.here | apply Hole.there)) (by first | omega | (simp; omega)) (Nat.le_of_ble_eq_true rfl) ?_
       | refine ⟨(by first | rfl | omega | exact ⟨by omega, by omega⟩ | exact ⟨by omega, by omega, by omega⟩ | exact ⟨_, _, rfl⟩ | decide), ?_⟩
       | fail)
  all_goals (try conv => whnf)
  refine .mk Nat (fun k S H => (k ≤ l.length ∧ firstOf (fun x => decide (cmpI (cmp4 x y) 0 = 0)) l 0 = firstOf (fun x => decide (cmpI (cmp4 x y) 0 = 0)) (l.drop k) k) ∧ S = [(8, .int .i64 k), (7, .int .i64 l.length), (0, .slice (some ⟨b, o, none⟩) l.length c), (1, .func (.func 83) #[] #[.pointer (some ⟨g, 0, none⟩)])] ∧ H = []) (fun k => l.length - k) 0 _ _ ⟨⟨by omega, rfl⟩, rfl, rfl⟩ (by repeat' first | exact trivial | apply And.intro | rfl | (refine eq_int ?_; first | omega | (rw [w64 (by omega) (by omega)]; omega))) (Ent.of (by repeat (first | exact List.Sublist.refl _ | exact List.nil_sublist _ | apply List.Sublist.cons_cons | apply List.Sublist.cons))) ?_
  rintro k S1 H1 ⟨⟨hk, he⟩, rfl, rfl⟩
  by_cases hi : k < l.length
  · have hd := firstOf_drop (fun x => decide (cmpI (cmp4 x y) 0 = 0)) l k hi
    repeat' first
      | (conv => whnf
         first
         | intro _
         | (first | refine selSplit (fun h => ?_) (fun h => ?_) | refine condSplit (fun h => ?_) (fun h => ?_)) <;> first | exact (clash (by assumption) h).elim | exact (clash h (by assumption)).elim | (simp only [decide_eq_true_eq, decide_eq_false_iff_not, Bool.not_eq_true', Bool.not_eq_false', Bool.not_true, Bool.not_false, Bool.or_eq_true, Bool.and_eq_true, Bool.or_eq_false_iff, Bool.and_eq_false_iff, beq_iff_eq, beq_eq_false_iff_ne, ne_eq] at h; first | (exfalso; omega) | skip) | skip
         | refine SeqP.go ?_
         | refine CondR.mk (by decide +kernel) ?_
         | exact IsV.mk
         | apply GuardP.mk
         | (refine Or.inr ⟨encV l[k], Rd.at ((r _).row encV_len (i := k) hi) (by simp [td55]), rfl, ?_⟩)
         | (apply callPure' en_bestIs; · exact fun w hw => bestIs_w _ y g w (gg hw))
         | (apply callQuiet' en_bestIs; · exact fun w hw => bestIs_w _ y g w (gg hw))
         | refine Or.inl ⟨_, _, (memHas (by repeat (first | apply Has.here | apply Has.there))), ?_⟩
         | refine Or.inl ⟨_, _, _, (by repeat (first | apply Hole.here | apply Hole.there)), rfl, rfl, ?_⟩
         | (apply loadArr; (· apply memHas; (repeat (first | apply Has.here | apply Has.there))); (· rfl); (· (first | assumption | (apply getSelf; (repeat' first | assumption | apply getSelf); done) | exact mapGet (by omega) | exact rfl | (simp; done))))
         | (apply loadArr0; (· apply memHas; (repeat (first | apply Has.here | apply Has.there))); (· rfl); (· (first | assumption | (apply getSelf; (repeat' first | assumption | apply getSelf); done) | exact mapGet (by omega) | exact rfl | (simp; done))))
         | (apply loadArr1; (· apply memHas; (repeat (first | apply Has.here | apply Has.there))); (· rfl); (· (first | assumption | (apply getSelf; (repeat' first | assumption | apply getSelf); done) | exact mapGet (by omega) | exact rfl | (simp; done))))
         | (apply loadOld; (· assumption); (· rfl); (· (first | assumption | (apply getSelf; (repeat' first | assumption | apply getSelf); done) | exact mapGet (by omega) | exact rfl | (simp; done))))
         | (apply loadOld0; (· assumption); (· rfl); (· (first | assumption | (apply getSelf; (repeat' first | assumption | apply getSelf); done) | exact mapGet (by omega) | exact rfl | (simp; done))))
         | (apply loadOld1; (· assumption); (· rfl); (· (first | assumption | (apply getSelf; (repeat' first | assumption | apply getSelf); done) | exact mapGet (by omega) | exact rfl | (simp; done))))
         | (apply loadRg; (· assumption); (· rfl))
         | (apply loadRg0; (· assumption))
         | (apply Or.inr; apply storeArr; (· (repeat (first | apply Hole.here | apply Hole.there))); (· rfl); (· (first | assumption | (apply getSelf; (repeat' first | assumption | apply getSelf); done) | exact mapGet (by omega) | exact rfl | (simp; done))); (· rfl); (· rfl))
         | (apply Or.inr; apply storeArr0; (· (repeat (first | apply Hole.here | apply Hole.there))); (· rfl); (· (first | assumption | (apply getSelf; (repeat' first | assumption | apply getSelf); done) | exact mapGet (by omega) | exact rfl | (simp; done))); (· rfl); (· rfl))
         | (apply Or.inr; apply storeArr1; (· (repeat (first | apply Hole.here | apply Hole.there))); (· rfl); (· (first | assumption | (apply getSelf; (repeat' first | assumption | apply getSelf); done) | exact mapGet (by omega) | exact rfl | (simp; done))); (· rfl); (· rfl))
         | refine BytW.ofBlk (memHas (by repeat (first | apply Has.here | apply Has.there))) rfl rfl ?_
         | refine AppW.noneB (memHas (by repeat (first | apply Has.here | apply Has.there))) (Nat.le_of_ble_eq_true rfl) rfl rfl rfl (Nat.le_of_ble_eq_true rfl) (Nat.le_of_ble_eq_true rfl) ?_
         | refine AppW.rowB (memHas (by repeat (first | apply Has.here | apply Has.there))) (Nat.le_of_ble_eq_true rfl) rfl rfl (by repeat (first | apply Hole.here | apply Hole.there)) (Nat.le_of_ble_eq_true rfl) (Nat.le_of_ble_eq_true rfl) ?_
         | refine AppW.blkB (memHas (by repeat (first | apply Has.here | apply Has.there))) (Nat.le_of_ble_eq_true rfl) rfl rfl (by repeat (first | apply Hole.here | apply Hole.there)) rfl rfl (Nat.le_of_ble_eq_true rfl) (Nat.le_of_ble_eq_true rfl) ?_
         | refine AppW.rowS (memHas (by repeat (first | apply Has.here | apply Has.there))) (Nat.le_of_ble_eq_true rfl) rfl rfl (by repeat (first | apply Hole.here | apply Hole.there)) (by omega) (Nat.le_of_ble_eq_true rfl) ?_
         | refine AppW.arrS (memHas (by repeat (first | apply Has.here | apply Has.there))) (Nat.le_of_ble_eq_true rfl) rfl rfl rfl (by repeat (first | apply Hole.here | apply Hole.there)) (by first | omega | (simp; omega)) (Nat.le_of_ble_eq_true rfl) ?_
         | refine ⟨(by first | rfl | omega | exact ⟨by omega, by omega⟩ | exact ⟨by omega, by omega, by omega⟩ | exact ⟨_, _, rfl⟩ | decide), ?_⟩
         | fail)
    all_goals (try conv => whnf)
    all_goals (try conv => whnf)
    · rename_i h
      refine v_int ?_
      rw [he, hd, if_pos (by simpa using h)]
    · rename_i h
      refine .mk (k + 1) _ _ (by omega) ⟨⟨by omega, ?_⟩, rfl, rfl⟩ (by repeat' first | exact trivial | apply And.intro | rfl | (refine eq_int ?_; first | omega | (rw [w64 (by omega) (by omega)]; omega))) (Ent.of (by repeat (first | exact List.Sublist.refl _ | exact List.nil_sublist _ | apply List.Sublist.cons_cons | apply List.Sublist.cons)))
      rw [he, hd, if_neg (by simpa using h)]
  · skip
    repeat' first
      | (conv => whnf
         first
         | intro _
         | (first | refine selSplit (fun h => ?_) (fun h => ?_) | refine condSplit (fun h => ?_) (fun h => ?_)) <;> first | exact (clash (by assumption) h).elim | exact (clash h (by assumption)).elim | (simp only [decide_eq_true_eq, decide_eq_false_iff_not, Bool.not_eq_true', Bool.not_eq_false', Bool.not_true, Bool.not_false, Bool.or_eq_true, Bool.and_eq_true, Bool.or_eq_false_iff, Bool.and_eq_false_iff, beq_iff_eq, beq_eq_false_iff_ne, ne_eq] at h; first | (exfalso; omega) | skip) | skip
         | refine SeqP.go ?_
         | refine CondR.mk (by decide +kernel) ?_
         | exact IsV.mk
         | apply GuardP.mk
         | refine Or.inl ⟨_, _, (memHas (by repeat (first | apply Has.here | apply Has.there))), ?_⟩
         | refine Or.inl ⟨_, _, _, (by repeat (first | apply Hole.here | apply Hole.there)), rfl, rfl, ?_⟩
         | (apply loadArr; (· apply memHas; (repeat (first | apply Has.here | apply Has.there))); (· rfl); (· (first | assumption | (apply getSelf; (repeat' first | assumption | apply getSelf); done) | exact mapGet (by omega) | exact rfl | (simp; done))))
         | (apply loadArr0; (· apply memHas; (repeat (first | apply Has.here | apply Has.there))); (· rfl); (· (first | assumption | (apply getSelf; (repeat' first | assumption | apply getSelf); done) | exact mapGet (by omega) | exact rfl | (simp; done))))
         | (apply loadArr1; (· apply memHas; (repeat (first | apply Has.here | apply Has.there))); (· rfl); (· (first | assumption | (apply getSelf; (repeat' first | assumption | apply getSelf); done) | exact mapGet (by omega) | exact rfl | (simp; done))))
         | (apply loadOld; (· assumption); (· rfl); (· (first | assumption | (apply getSelf; (repeat' first | assumption | apply getSelf); done) | exact mapGet (by omega) | exact rfl | (simp; done))))
         | (apply loadOld0; (· assumption); (· rfl); (· (first | assumption | (apply getSelf; (repeat' first | assumption | apply getSelf); done) | exact mapGet (by omega) | exact rfl | (simp; done))))
         | (apply loadOld1; (· assumption); (· rfl); (· (first | assumption | (apply getSelf; (repeat' first | assumption | apply getSelf); done) | exact mapGet (by omega) | exact rfl | (simp; done))))
         | (apply loadRg; (· assumption); (· rfl))
         | (apply loadRg0; (· assumption))
         | (apply Or.inr; apply storeArr; (· (repeat (first | apply Hole.here | apply Hole.there))); (· rfl); (· (first | assumption | (apply getSelf; (repeat' first | assumption | apply getSelf); done) | exact mapGet (by omega) | exact rfl | (simp; done))); (· rfl); (· rfl))
         | (apply Or.inr; apply storeArr0; (· (repeat (first | apply Hole.here | apply Hole.there))); (· rfl); (· (first | assumption | (apply getSelf; (repeat' first | assumption | apply getSelf); done) | exact mapGet (by omega) | exact rfl | (simp; done))); (· rfl); (· rfl))
         | (apply Or.inr; apply storeArr1; (· (repeat (first | apply Hole.here | apply Hole.there))); (· rfl); (· (first | assumption | (apply getSelf; (repeat' first | assumption | apply getSelf); done) | exact mapGet (by omega) | exact rfl | (simp; done))); (· rfl); (· rfl))
         | refine BytW.ofBlk (memHas (by repeat (first | apply Has.here | apply Has.there))) rfl rfl ?_
         | refine AppW.noneB (memHas (by repeat (first | apply Has.here | apply Has.there))) (Nat.le_of_ble_eq_true rfl) rfl rfl rfl (Nat.le_of_ble_eq_true rfl) (Nat.le_of_ble_eq_true rfl) ?_
         | refine AppW.rowB (memHas (by repeat (first | apply Has.here | apply Has.there))) (Nat.le_of_ble_eq_true rfl) rfl rfl (by repeat (first | apply Hole.here | apply Hole.there)) (Nat.le_of_ble_eq_true rfl) (Nat.le_of_ble_eq_true rfl) ?_
         | refine AppW.blkB (memHas (by repeat (first | apply Has.here | apply Has.there))) (Nat.le_of_ble_eq_true rfl) rfl rfl (by repeat (first | apply Hole.here | apply Hole.there)) rfl rfl (Nat.le_of_ble_eq_true rfl) (Nat.le_of_ble_eq_true rfl) ?_
         | refine AppW.rowS (memHas (by repeat (first | apply Has.here | apply Has.there))) (Nat.le_of_ble_eq_true rfl) rfl rfl (by repeat (first | apply Hole.here | apply Hole.there)) (by omega) (Nat.le_of_ble_eq_true rfl) ?_
         | refine AppW.arrS (memHas (by repeat (first | apply Has.here | apply Has.there))) (Nat.le_of_ble_eq_true rfl) rfl rfl rfl (by repeat (first | apply Hole.here | apply Hole.there)) (by first | omega | (simp; omega)) (Nat.le_of_ble_eq_true rfl) ?_
         | refine ⟨(by first | rfl | omega | exact ⟨by omega, by omega⟩ | exact ⟨by omega, by omega, by omega⟩ | exact ⟨_, _, rfl⟩ | decide), ?_⟩
         | fail)
    all_goals (try conv => whnf)
    all_goals (try conv => whnf)
    all_goals first | (exfalso; omega) | skip
    refine v_int ?_
    rw [he, List.drop_of_length_le (by omega)]
    rfl
theorem ok_vBest : (match Try.f55.body with | some c => codeOk Try.f55.ntmps c | none => false) = true := by kernel_rfl
theorem en_vBest : ∃ fn, Try.prog.funcs[55]? = some fn ∧ (fn.name == "runtime.NumGoroutine") = false ∧ fn.body.isNone = false := ⟨_, Try.func55, by kernel_rfl, by kernel_rfl⟩
def vBest : List V4 → Int
  | [] => -1
  | x :: l => firstOf (fun v => decide (cmpI (cmp4 v (minV x l)) 0 = 0)) (x :: l) 0
theorem vBest_w (A : Option Addr) (c : Nat) (l : List V4) (w : World) (h : l ≠ [] → ∃ b o, A = some ⟨b, o, none⟩ ∧ w.rangeAt b o (l.flatMap encV)) (hl : l.length < 4611686018427387904) :
    PuAt Try.prog 55 [.slice A l.length c] (.int .i64 (vBest l)) w := by
  refine funcR_pure tyOk wide Try.func55 ok_vBest (Nat.le_of_ble_eq_true rfl) ?_
  cases l with
  | nil =>
    repeat' first
      | (conv => whnf
         first
         | intro _
         | (first | refine selSplit (fun h => ?_) (fun h => ?_) | refine condSplit (fun h => ?_) (fun h => ?_)) <;> first | exact (clash (by assumption) h).elim | exact (clash h (by assumption)).elim | (simp only [decide_eq_true_eq, decide_eq_false_iff_not, Bool.not_eq_true', Bool.not_eq_false', Bool.not_true, Bool.not_false, Bool.or_eq_true, Bool.and_eq_true, Bool.or_eq_false_iff, Bool.and_eq_false_iff, beq_iff_eq, beq_eq_false_iff_ne, ne_eq] at h; first | (exfalso; omega) | skip) | skip
         | refine SeqP.go ?_
         | refine CondR.mk (by decide +kernel) ?_
         | exact IsV.mk
         | apply GuardP.mk
         | refine Or.inl ⟨_, _, (memHas (by repeat (first | apply Has.here | apply Has.there))), ?_⟩
         | refine Or.inl ⟨_, _, _, (by repeat (first | apply Hole.here | apply Hole.there)), rfl, rfl, ?_⟩
         | (apply loadArr; (· apply memHas; (repeat (first | apply Has.here | apply Has.there))); (· rfl); (· (first | assumption | (apply getSelf; (repeat' first | assumption | apply getSelf); done) | exact mapGet (by omega) | exact rfl | (simp; done))))
         | (apply loadArr0; (· apply memHas; (repeat (first | apply Has.here | apply Has.there))); (· rfl); (· (first | assumption | (apply getSelf; (repeat' first | assumption | apply getSelf); done) | exact mapGet (by omega) | exact rfl | (simp; done))))
         | (apply loadArr1; (· apply memHas; (repeat (first | apply Has.here | apply Has.there))); (· rfl); (· (first | assumption | (apply getSelf; (repeat' first | assumption | apply getSelf); done) | exact mapGet (by omega) | exact rfl | (simp; done))))
         | (apply loadOld; (· assumption); (· rfl); (· (first | assumption | (apply getSelf; (repeat' first | assumption | apply getSelf); done) | exact mapGet (by omega) | exact rfl | (simp; done))))
         | (apply loadOld0; (· assumption); (· rfl); (· (first | assumption | (apply getSelf; (repeat' first | assumption | apply getSelf); done) | exact mapGet (by omega) | exact rfl | (simp; done))))
         | (apply loadOld1; (· assumption); (· rfl); (· (first | assumption | (apply getSelf; (repeat' first | assumption | apply getSelf); done) | exact mapGet (by omega) | exact rfl | (simp; done))))
         | (apply loadRg; (· assumption); (· rfl))
         | (apply loadRg0; (· assumption))
         | (apply Or.inr; apply storeArr; (· (repeat (first | apply Hole.here | apply Hole.there))); (· rfl); (· (first | assumption | (apply getSelf; (repeat' first | assumption | apply getSelf); done) | exact mapGet (by omega) | exact rfl | (simp; done))); (· rfl); (· rfl))
         | (apply Or.inr; apply storeArr0; (· (repeat (first | apply Hole.here | apply Hole.there))); (· rfl); (· (first | assumption | (apply getSelf; (repeat' first | assumption | apply getSelf); done) | exact mapGet (by omega) | exact rfl | (simp; done))); (· rfl); (· rfl))
         | (apply Or.inr; apply storeArr1; (· (repeat (first | apply Hole.here | apply Hole.there))); (· rfl); (· (first | assumption | (apply getSelf; (repeat' first | assumption | apply getSelf); done) | exact mapGet (by omega) | exact rfl | (simp; done))); (· rfl); (· rfl))
         | refine BytW.ofBlk (memHas (by repeat (first | apply Has.here | apply Has.there))) rfl rfl ?_
         | refine AppW.noneB (memHas (by repeat (first | apply Has.here | apply Has.there))) (Nat.le_of_ble_eq_true rfl) rfl rfl rfl (Nat.le_of_ble_eq_true rfl) (Nat.le_of_ble_eq_true rfl) ?_
         | refine AppW.rowB (memHas (by repeat (first | apply Has.here | apply Has.there))) (Nat.le_of_ble_eq_true rfl) rfl rfl (by repeat (first | apply Hole.here | apply Hole.there)) (Nat.le_of_ble_eq_true rfl) (Nat.le_of_ble_eq_true rfl) ?_
         | refine AppW.blkB (memHas (by repeat (first | apply Has.here | apply Has.there))) (Nat.le_of_ble_eq_true rfl) rfl rfl (by repeat (first | apply Hole.here | apply Hole.there)) rfl rfl (Nat.le_of_ble_eq_true rfl) (Nat.le_of_ble_eq_true rfl) ?_
         | refine AppW.rowS (memHas (by repeat (first | apply Has.here | apply Has.there))) (Nat.le_of_ble_eq_true rfl) rfl rfl (by repeat (first | apply Hole.here | apply Hole.there)) (by omega) (Nat.le_of_ble_eq_true rfl) ?_
         | refine AppW.arrS (memHas (by repeat (first | apply Has.here | apply Has.there))) (Nat.le_of_ble_eq_true rfl) rfl rfl rfl (by repeat (first | apply Hole.here | apply Hole.there)) (by first | omega | (simp; omega)) (Nat.le_of_ble_eq_true rfl) ?_
         | refine ⟨(by first | rfl | omega | exact ⟨by omega, by omega⟩ | exact ⟨by omega, by omega, by omega⟩ | exact ⟨_, _, rfl⟩ | decide), ?_⟩
         | fail)
    all_goals (try conv => whnf)
    all_goals rfl
  | cons x l =>
    obtain ⟨b, o, rfl, hr⟩ := h (by simp)
    have hlc : 0 < (x :: l).length := by simp
    have hgr : ∀ {H w1}, St w [] H w1 → w1.rangeAt b o ((x :: l).flatMap encV) := fun hw => (Rd.old (X := []) hr (by simp)) _ hw
    repeat' first
      | (conv => whnf
         first
         | intro _
         | (first | refine selSplit (fun h => ?_) (fun h => ?_) | refine condSplit (fun h => ?_) (fun h => ?_)) <;> first | exact (clash (by assumption) h).elim | exact (clash h (by assumption)).elim | (simp only [decide_eq_true_eq, decide_eq_false_iff_not, Bool.not_eq_true', Bool.not_eq_false', Bool.not_true, Bool.not_false, Bool.or_eq_true, Bool.and_eq_true, Bool.or_eq_false_iff, Bool.and_eq_false_iff, beq_iff_eq, beq_eq_false_iff_ne, ne_eq] at h; first | (exfalso; omega) | skip) | skip
         | refine SeqP.go ?_
         | refine CondR.mk (by decide +kernel) ?_
         | exact IsV.mk
         | apply GuardP.mk
         | (apply callPure' en_vMin; · exact fun w hw => vMin_w b o c x l w (hgr hw) (by simp at hl; omega))
         | (apply callQuiet' en_vMin; · exact fun w hw => vMin_w b o c x l w (hgr hw) (by simp at hl; omega))
         | (apply callPure' en_vIndex; · exact fun w hw => vIndex_w b o c _ (minV x l) (x :: l) w (hgr hw) (hw.blk (memHas (by repeat (first | apply Has.here | apply Has.there)))) hl)
         | (apply callQuiet' en_vIndex; · exact fun w hw => vIndex_w b o c _ (minV x l) (x :: l) w (hgr hw) (hw.blk (memHas (by repeat (first | apply Has.here | apply Has.there)))) hl)
         | refine Or.inl ⟨_, _, (memHas (by repeat (first | apply Has.here | apply Has.there))), ?_⟩
         | refine Or.inl ⟨_, _, _, (by repeat (first | apply Hole.here | apply Hole.there)), rfl, rfl, ?_⟩
         | (apply loadArr; (· apply memHas; (repeat (first | apply Has.here | apply Has.there))); (· rfl); (· (first | assumption | (apply getSelf; (repeat' first | assumption | apply getSelf); done) | exact mapGet (by omega) | exact rfl | (simp; done))))
         | (apply loadArr0; (· apply memHas; (repeat (first | apply Has.here | apply Has.there))); (· rfl); (· (first | assumption | (apply getSelf; (repeat' first | assumption | apply getSelf); done) | exact mapGet (by omega) | exact rfl | (simp; done))))
         | (apply loadArr1; (· apply memHas; (repeat (first | apply Has.here | apply Has.there))); (· rfl); (· (first | assumption | (apply getSelf; (repeat' first | assumption | apply getSelf); done) | exact mapGet (by omega) | exact rfl | (simp; done))))
         | (apply loadOld; (· assumption); (· rfl); (· (first | assumption | (apply getSelf; (repeat' first | assumption | apply getSelf); done) | exact mapGet (by omega) | exact rfl | (simp; done))))
         | (apply loadOld0; (· assumption); (· rfl); (· (first | assumption | (apply getSelf; (repeat' first | assumption | apply getSelf); done) | exact mapGet (by omega) | exact rfl | (simp; done))))
         | (apply loadOld1; (· assumption); (· rfl); (· (first | assumption | (apply getSelf; (repeat' first | assumption | apply getSelf); done) | exact mapGet (by omega) | exact rfl | (simp; done))))
         | (apply loadRg; (· assumption); (· rfl))
         | (apply loadRg0; (· assumption))
         | (apply Or.inr; apply storeArr; (· (repeat (first | apply Hole.here | apply Hole.there))); (· rfl); (· (first | assumption | (apply getSelf; (repeat' first | assumption | apply getSelf); done) | exact mapGet (by omega) | exact rfl | (simp; done))); (· rfl); (· rfl))
         | (apply Or.inr; apply storeArr0; (· (repeat (first | apply Hole.here | apply Hole.there))); (· rfl); (· (first | assumption | (apply getSelf; (repeat' first | assumption | apply getSelf); done) | exact mapGet (by omega) | exact rfl | (simp; done))); (· rfl); (· rfl))
         | (apply Or.inr; apply storeArr1; (· (repeat (first | apply Hole.here | apply Hole.there))); (· rfl); (· (first | assumption | (apply getSelf; (repeat' first | assumption | apply getSelf); done) | exact mapGet (by omega) | exact rfl | (simp; done))); (· rfl); (· rfl))
         | refine BytW.ofBlk (memHas (by repeat (first | apply Has.here | apply Has.there))) rfl rfl ?_
         | refine AppW.noneB (memHas (by repeat (first | apply Has.here | apply Has.there))) (Nat.le_of_ble_eq_true rfl) rfl rfl rfl (Nat.le_of_ble_eq_true rfl) (Nat.le_of_ble_eq_true rfl) ?_
         | refine AppW.rowB (memHas (by repeat (first | apply Has.here | apply Has.there))) (Nat.le_of_ble_eq_true rfl) rfl rfl (by repeat (first | apply Hole.here | apply Hole.there)) (Nat.le_of_ble_eq_true rfl) (Nat.le_of_ble_eq_true rfl) ?_
         | refine AppW.blkB (memHas (by repeat (first | apply Has.here | apply Has.there))) (Nat.le_of_ble_eq_true rfl) rfl rfl (by repeat (first | apply Hole.here | apply Hole.there)) rfl rfl (Nat.le_of_ble_eq_true rfl) (Nat.le_of_ble_eq_true rfl) ?_
         | refine AppW.rowS (memHas (by repeat (first | apply Has.here | apply Has.there))) (Nat.le_of_ble_eq_true rfl) rfl rfl (by repeat (first | apply Hole.here | apply Hole.there)) (by omega) (Nat.le_of_ble_eq_true rfl) ?_
         | refine AppW.arrS (memHas (by repeat (first | apply Has.here | apply Has.there))) (Nat.le_of_ble_eq_true rfl) rfl rfl rfl (by repeat (first | apply Hole.here | apply Hole.there)) (by first | omega | (simp; omega)) (Nat.le_of_ble_eq_true rfl) ?_
         | refine ⟨(by first | rfl | omega | exact ⟨by omega, by omega⟩ | exact ⟨by omega, by omega, by omega⟩ | exact ⟨_, _, rfl⟩ | decide), ?_⟩
         | fail)
    all_goals (try conv => whnf)
    all_goals first | (exfalso; omega) | rfl
end Go.Proofs.Yticobcojmpakfaa.Am
