/- Package sstp: Parse. -/
import Derived.Test.YticobcojmpakfaaSstp
set_option linter.unusedVariables false
set_option linter.unusedSimpArgs false
set_option maxRecDepth 100000
set_option maxHeartbeats 4000000
namespace Go.Proofs.Yticobcojmpakfaa.Am
open Go Go.RowKit
attribute [local irreducible] headOk
theorem ok_behind : (match Try.f86.body with | some c => codeOk Try.f86.ntmps c | none => false) = true := by kernel_rfl
theorem en_behind : ∃ fn, Try.prog.funcs[86]? = some fn ∧ (fn.name == "runtime.NumGoroutine") = false ∧ fn.body.isNone = false := ⟨_, Try.func86, by kernel_rfl, by kernel_rfl⟩
theorem nat7 {r : ByteArray} (h : ¬ (r.size : Int) < 7) : ¬ r.size < 7 := by omega
theorem ix5 {r : ByteArray} (h : ¬ (r.size : Int) < 7) : (0 : Int) ≤ 5 ∧ Int.toNat 5 < r.size := ⟨by decide, by show 5 < r.size; omega⟩
theorem ix6 {r : ByteArray} (h : ¬ (r.size : Int) < 7) : (0 : Int) ≤ 6 ∧ Int.toNat 6 < r.size := ⟨by decide, by show 6 < r.size; omega⟩
theorem behind_w (s : ByteArray) (b : BpduV) (bs bb bv : Nat) (hn : 0 ≤ sizeV b.Kind ∧ sizeV b.Kind ≤ s.size) (hs : s.size < 4611686018427387904) (w : World)
    (hw : St w (feet [.blk bs [.string s] 9, .blk bb b.enc 57, .blk bv [.int .i64 0] 3]) [.blk bs [.string s] 9, .blk bb b.enc 57, .blk bv [.int .i64 0] 3] w) :
    FnX Try.prog 86 [.pointer (some ⟨bs, 0, none⟩), .pointer (some ⟨bb, 0, none⟩), .pointer (some ⟨bv, 0, none⟩)] [.blk bs [.string s] 9, .blk bb b.enc 57, .blk bv [.int .i64 0] 3] (fun _ : Unit => True) (fun _ => .int .i64 (behindV (s.extract (sizeV b.Kind).toNat (s.size : Int).toNat)).1) (fun _ => [.blk bs [.string s] 9, .blk bb b.enc 57, .blk bv [.int .i64 (behindV (s.extract (sizeV b.Kind).toNat (s.size : Int).toNat)).2] 3]) w := by
  refine funcR_x tyOk wide Try.func86 ok_behind (Nat.le_of_ble_eq_true rfl) hw ?_
  repeat' first
    | (conv => whnf
       first
       | intro _
       | (first | refine selSplit (fun h => ?_) (fun h => ?_) | refine condSplit (fun h => ?_) (fun h => ?_)) <;> first | exact (clash (by assumption) h).elim | exact (clash h (by assumption)).elim | (simp only [decide_eq_true_eq, decide_eq_false_iff_not, Bool.not_eq_true', Bool.not_eq_false', Bool.not_true, Bool.not_false, Bool.or_eq_true, Bool.and_eq_true, Bool.or_eq_false_iff, Bool.and_eq_false_iff, beq_iff_eq, beq_eq_false_iff_ne, ne_eq] at h; first | (exfalso; omega) | skip) | skip
       | (first | refine DrawR.mk _ (.quiet 0 (.quiet 1 (.quiet 2 (.quiet 3 (.quiet 4 (.quiet 5 .done)))))) (by decide +kernel) (SubL.refl _) ?_ | refine DrawR.mk _ (.quiet 0 (.quiet 1 (.quiet 2 (.quiet 3 (.quiet 4 (.quiet 5 (.quiet 6 (.quiet 7 (.last 8 false .done))))))))) (by decide +kernel) (SubL.refl _) ?_)
       | refine AltP.mk ?_ ?_
       | refine KeepP.mk (SubL.of (by repeat (first | exact List.Sublist.refl _ | exact List.nil_sublist _ | apply List.Sublist.cons_cons | apply List.Sublist.cons))) ?_
       | refine SeqP.go ?_
       | refine CondR.mk (by decide +kernel) ?_
       | exact IsV.mk
       | apply GuardP.mk
       | (apply callPure' en_bSize; · exact fun w _ => bSize_w _ w)
       | (apply callQuiet' en_bSize; · exact fun w _ => bSize_w _ w)
       | (refine And.intro (suf_ok hn) ?_)
       | (apply callPure' en_hasPre; · exact fun w _ => hasPre_h (s.extract (sizeV b.Kind).toNat (s.size : Int).toNat) (nat7 (by assumption)) w)
       | (apply callQuiet' en_hasPre; · exact fun w _ => hasPre_h (s.extract (sizeV b.Kind).toNat (s.size : Int).toNat) (nat7 (by assumption)) w)
       | (refine Exists.intro (ix5 (r := s.extract (sizeV b.Kind).toNat (s.size : Int).toNat) (by assumption)) ?_)
       | (refine Exists.intro (ix6 (r := s.extract (sizeV b.Kind).toNat (s.size : Int).toNat) (by assumption)) ?_)
       | (apply callPure' en_sRight; · exact fun w _ => sRight_w _ w)
       | (apply callQuiet' en_sRight; · exact fun w _ => sRight_w _ w)
       | (first | refine eqlW eqS57 rfl rfl rfl (by repeat' first | exact trivial | apply And.intro | rfl) (by repeat' first | exact trivial | apply And.intro | rfl) ?_ | refine neqW eqS57 rfl rfl rfl (by repeat' first | exact trivial | apply And.intro | rfl) (by repeat' first | exact trivial | apply And.intro | rfl) ?_ | refine eqlW eqS60 rfl rfl rfl (by repeat' first | exact trivial | apply And.intro | rfl) (by repeat' first | exact trivial | apply And.intro | rfl) ?_ | refine neqW eqS60 rfl rfl rfl (by repeat' first | exact trivial | apply And.intro | rfl) (by repeat' first | exact trivial | apply And.intro | rfl) ?_)
       | refine Or.inl ⟨_, _, (memHas (by repeat (first | apply Has.here | apply Has.there))), ?_⟩
       | refine Or.inl ⟨_, _, _, (by repeat (first | apply Hole.here | apply Hole.there)), rfl, rfl, ?_⟩
       | (apply loadArr; (· apply memHas; (repeat (first | apply Has.here | apply Has.there))); (· rfl); (· (first | assumption | (apply getSelf; (repeat' first | assumption | apply getSelf); done) | exact mapGet (by omega) | exact rfl | (simp; done))))
       | (apply loadArr0; (· apply memHas; (repeat (first | apply Has.here | apply Has.there))); (· rfl); (· (first | assumption | (apply getSelf; (repeat' first | assumption | apply getSelf); done) | exact mapGet (by omega) | exact rfl | (simp; done))))
       | (apply loadArr1; (· apply memHas; (repeat (first | apply Has.here | apply Has.there))); (· rfl); (· (first | assumption | (apply getSelf; (repeat' first | assumption | apply getSelf); done) | exact mapGet (by omega) | exact rfl | (simp; done))))
       | (apply loadOld; (· assumption); (· rfl); (· (first | assumption | (apply getSelf; (repeat' first | assumption | apply getSelf); done) | exact mapGet (by omega) | exact rfl | (simp; done))))
       | (apply loadOld0; (· assumption); (· rfl); (· (first | assumption | (apply getSelf; (repeat' first | assumption | apply getSelf); done) | exact mapGet (by omega) | exact rfl | (simp; done))))
       | (apply loadOld1; (· assumption); (· rfl); (· (first | assumption | (apply getSelf; (repeat' first | assumption | apply getSelf); done) | exact mapGet (by omega) | exact rfl | (simp; done))))
       | (apply loadRowAt; (· apply memHas; (repeat (first | apply Has.here | apply Has.there))); (· rfl); (· first | assumption | exact rfl); (· rfl))
       | (apply loadRg; (· assumption); (· rfl))
       | (apply loadRg0; (· assumption))
       | (apply Or.inr; apply storeArr; (· (repeat (first | apply Hole.here | apply Hole.there))); (· rfl); (· (first | assumption | (apply getSelf; (repeat' first | assumption | apply getSelf); done) | exact mapGet (by omega) | exact rfl | (simp; done))); (· rfl); (· rfl))
       | (apply Or.inr; apply storeArr0; (· (repeat (first | apply Hole.here | apply Hole.there))); (· rfl); (· (first | assumption | (apply getSelf; (repeat' first | assumption | apply getSelf); done) | exact mapGet (by omega) | exact rfl | (simp; done))); (· rfl); (· rfl))
       | (apply Or.inr; apply storeArr1; (· (repeat (first | apply Hole.here | apply Hole.there))); (· rfl); (· (first | assumption | (apply getSelf; (repeat' first | assumption | apply getSelf); done) | exact mapGet (by omega) | exact rfl | (simp; done))); (· rfl); (· rfl))
       | refine BytW.ofBlk (memHas (by repeat (first | apply Has.here | apply Has.there))) rfl rfl ?_
       | refine AppW.noneB (memHas (by repeat (first | apply Has.here | apply Has.there))) (Nat.le_of_ble_eq_true rfl) rfl rfl rfl (Nat.le_of_ble_eq_true rfl) (Nat.le_of_ble_eq_true rfl) ?_
       | refine AppW.rowB (memHas (by repeat (first | apply Has.here | apply Has.there))) (Nat.le_of_ble_eq_true rfl) rfl rfl (by repeat (first | apply Hole.here | apply Hole.there)) (Nat.le_of_ble_eq_true rfl) (Nat.le_of_ble_eq_true rfl) ?_
       | refine AppW.blkB (memHas (by repeat (first | apply Has.here | apply Has.there))) (Nat.le_of_ble_eq_true rfl) rfl rfl (by repeat (first | apply Hole.here | apply Hole.there)) rfl rfl (Nat.le_of_ble_eq_true rfl) (Nat.le_of_ble_eq_true rfl) ?_
       | refine AppW.rowS (memHas (by repeat (first | apply Has.here | apply Has.there))) (Nat.le_of_ble_eq_true rfl) rfl rfl (by repeat (first | apply Hole.here | apply Hole.there)) (by omega) (Nat.le_of_ble_eq_true rfl) ?_
       | refine AppW.arrS (memHas (by repeat (first | apply Has.here | apply Has.there))) (Nat.le_of_ble_eq_true rfl) rfl rfl rfl (by repeat (first | apply Hole.here | apply Hole.there)) (by first | omega | (simp; omega)) (Nat.le_of_ble_eq_true rfl) ?_
       | refine ⟨(by first | rfl | omega | exact ⟨by omega, by omega⟩ | exact ⟨by omega, by omega, by omega⟩ | exact ⟨_, _, rfl⟩ | decide), ?_⟩
       | fail)
  all_goals (try conv => whnf)
  · have e : behindV (s.extract (sizeV b.Kind).toNat (s.size : Int).toNat) = (3, 0) := by unfold behindV; rw [if_pos (by omega)]
    rw [e]
    exact EndX.mk () trivial rfl (Ent.take (by repeat' first | apply Take.nil | apply Take.cons | apply Pick.here | apply Pick.there))
  · have e : behindV (s.extract (sizeV b.Kind).toNat (s.size : Int).toNat) = (2, 0) := by unfold behindV; rw [if_neg (by omega), if_pos (by assumption)]
    rw [e]
    exact EndX.mk () trivial rfl (Ent.take (by repeat' first | apply Take.nil | apply Take.cons | apply Pick.here | apply Pick.there))
  · have h5 := byteAt_range (s.extract (sizeV b.Kind).toNat (s.size : Int).toNat) (Int.toNat 5)
    have h6 := byteAt_range (s.extract (sizeV b.Kind).toNat (s.size : Int).toNat) (Int.toNat 6)
    have hh : headOk (s.extract (sizeV b.Kind).toNat (s.size : Int).toNat) = true := by assumption
    simp only [byteAt_eq] at h ⊢
    rw [or8 _ _ h5 h6] at h ⊢
    have e : behindV (s.extract (sizeV b.Kind).toNat (s.size : Int).toNat) = (1, byteAt (s.extract (sizeV b.Kind).toNat (s.size : Int).toNat) 5 * 256 + byteAt (s.extract (sizeV b.Kind).toNat (s.size : Int).toNat) 6) := by unfold behindV; rw [if_neg (by omega), if_neg (by rw [hh]; decide), if_pos (by exact h)]
    rw [e]
    exact EndX.mk () trivial rfl (Ent.take (by repeat' first | apply Take.nil | apply Take.cons | apply Pick.here | apply Pick.there))
  · have h5 := byteAt_range (s.extract (sizeV b.Kind).toNat (s.size : Int).toNat) (Int.toNat 5)
    have h6 := byteAt_range (s.extract (sizeV b.Kind).toNat (s.size : Int).toNat) (Int.toNat 6)
    have hh : headOk (s.extract (sizeV b.Kind).toNat (s.size : Int).toNat) = true := by assumption
    simp only [byteAt_eq] at h ⊢
    rw [or8 _ _ h5 h6] at h ⊢
    have e : behindV (s.extract (sizeV b.Kind).toNat (s.size : Int).toNat) = (0, byteAt (s.extract (sizeV b.Kind).toNat (s.size : Int).toNat) 5 * 256 + byteAt (s.extract (sizeV b.Kind).toNat (s.size : Int).toNat) 6) := by unfold behindV; rw [if_neg (by omega), if_neg (by rw [hh]; decide), if_neg (fun q => Bool.false_ne_true (q.symm.trans h))]
    rw [e]
    exact EndX.mk () trivial rfl (Ent.take (by repeat' first | apply Take.nil | apply Take.cons | apply Pick.here | apply Pick.there))
end Go.Proofs.Yticobcojmpakfaa.Am
