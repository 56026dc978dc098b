/- The laws VectorParts. -/
import Derived.Test.YticobcojmpakfaaLVec2
set_option linter.unusedVariables false
set_option linter.unusedSimpArgs false
set_option maxRecDepth 100000
set_option maxHeartbeats 4000000
namespace Go.Proofs.Yticobcojmpakfaa.Am
open Go Go.RowKit
theorem spl (x : Int) (hx : u64 x) : IntKind.i64.wrap (x.fdiv (2 ^ 60)) = x / 1152921504606846976 := by
  have e : x.fdiv (2 ^ 60) = x / 1152921504606846976 := Int.fdiv_eq_ediv_of_nonneg _ (by decide)
  rw [e, w64 (by omega) (by omega)]
theorem spv (x : Int) (hx : u64 x) : IntKind.i64.wrap (bits .and .u64 (x.fdiv (2 ^ 48)) 4095) = x / 281474976710656 % 4096 := by
  have e : x.fdiv (2 ^ 48) = x / 281474976710656 := Int.fdiv_eq_ediv_of_nonneg _ (by decide)
  have := and64u 12 (by decide) (x / 281474976710656) (by omega) (by omega)
  rw [e, show (4095 : Int) = 2 ^ 12 - 1 by decide, this, w64 (by omega) (by omega)]
  rfl
theorem spb (x : Int) (i : Nat) (d : Int) (hd : (2 : Int) ^ (40 - 8 * i) = d) (h0 : 0 ≤ d) : sp x i = x / d % 256 := by
  unfold sp
  rw [hd, Int.fdiv_eq_ediv_of_nonneg _ h0, wu8']
theorem spAll (x : Int) : [sp x 0, sp x 1, sp x 2, sp x 3, sp x 4, sp x 5] = [x / 1099511627776 % 256, x / 4294967296 % 256, x / 16777216 % 256, x / 65536 % 256, x / 256 % 256, x / 1 % 256] := by
  rw [spb x 0 _ rfl (by decide), spb x 1 _ rfl (by decide), spb x 2 _ rfl (by decide), spb x 3 _ rfl (by decide), spb x 4 _ rfl (by decide), spb x 5 _ rfl (by decide)]
  rfl
theorem ofNat_to (n : Int) (h0 : 0 ≤ n) (h1 : n < 256) : ((UInt8.ofNat n.toNat).toNat : Int) = n := by
  rw [UInt8.toNat_ofNat']
  omega
theorem beF_split (x : Int) (hx : u64 x) : beF (x / 1152921504606846976 * 4096 + x / 281474976710656 % 4096) (mkS [x / 1099511627776 % 256, x / 4294967296 % 256, x / 16777216 % 256, x / 65536 % 256, x / 256 % 256, x / 1 % 256]).data.toList = x := by
  simp only [beF, mkS, List.map_cons, List.map_nil, List.foldl_cons, List.foldl_nil]
  rw [ofNat_to _ (by omega) (by omega), ofNat_to _ (by omega) (by omega), ofNat_to _ (by omega) (by omega), ofNat_to _ (by omega) (by omega), ofNat_to _ (by omega) (by omega), ofNat_to _ (by omega) (by omega)]
  have h1 : (x / 1152921504606846976 * 4096 + x / 281474976710656 % 4096) = x / 281474976710656 := by omega
  rw [h1]
  have h2 : (x / 281474976710656 * 256 + x / 1099511627776 % 256) % 18446744073709551616 = x / 1099511627776 := by omega
  rw [h2]
  have h3 : (x / 1099511627776 * 256 + x / 4294967296 % 256) % 18446744073709551616 = x / 4294967296 := by omega
  rw [h3]
  have h4 : (x / 4294967296 * 256 + x / 16777216 % 256) % 18446744073709551616 = x / 16777216 := by omega
  rw [h4]
  have h5 : (x / 16777216 * 256 + x / 65536 % 256) % 18446744073709551616 = x / 65536 := by omega
  rw [h5]
  have h6 : (x / 65536 * 256 + x / 256 % 256) % 18446744073709551616 = x / 256 := by omega
  rw [h6]
  omega
theorem back (x : Int) (hx : u64 x) : vBridge (x / 1152921504606846976) (x / 281474976710656 % 4096) (mkS [x / 1099511627776 % 256, x / 4294967296 % 256, x / 16777216 % 256, x / 65536 % 256, x / 256 % 256, x / 1 % 256]) = (x, 0) := by
  unfold vBridge
  rw [if_neg (by omega), if_neg (by simp [mkS, ByteArray.size]), beF_split x hx]
theorem u8_lt (a b : Int) (ha : 0 ≤ a ∧ a < 256) (hb : 0 ≤ b ∧ b < 256) : (UInt8.ofNat a.toNat < UInt8.ofNat b.toNat) = (a < b) := by
  have h1 := ofNat_to a ha.1 ha.2
  have h2 := ofNat_to b hb.1 hb.2
  rw [UInt8.lt_iff_toNat_lt]
  apply propext; omega
theorem u8_eq (a b : Int) (ha : 0 ≤ a ∧ a < 256) (hb : 0 ≤ b ∧ b < 256) : (UInt8.ofNat a.toNat == UInt8.ofNat b.toNat) = decide (a = b) := by
  have h1 := ofNat_to a ha.1 ha.2
  have h2 := ofNat_to b hb.1 hb.2
  rw [Bool.eq_iff_iff, beq_iff_eq, decide_eq_true_iff]
  constructor
  · intro h; rw [h] at h1; omega
  · intro h; rw [h]
theorem less6 (a0 a1 a2 a3 a4 a5 b0 b1 b2 b3 b4 b5 : Int) (h0 : 0 ≤ a0 ∧ a0 < 256) (h1 : 0 ≤ a1 ∧ a1 < 256) (h2 : 0 ≤ a2 ∧ a2 < 256) (h3 : 0 ≤ a3 ∧ a3 < 256) (h4 : 0 ≤ a4 ∧ a4 < 256) (h5 : 0 ≤ a5 ∧ a5 < 256) (g0 : 0 ≤ b0 ∧ b0 < 256) (g1 : 0 ≤ b1 ∧ b1 < 256) (g2 : 0 ≤ b2 ∧ b2 < 256) (g3 : 0 ≤ b3 ∧ b3 < 256) (g4 : 0 ≤ b4 ∧ b4 < 256) (g5 : 0 ≤ b5 ∧ b5 < 256) :
    Op.bytesLess (mkS [a0, a1, a2, a3, a4, a5]).data.toList (mkS [b0, b1, b2, b3, b4, b5]).data.toList = decide (((((a0 * 256 + a1) * 256 + a2) * 256 + a3) * 256 + a4) * 256 + a5 < ((((b0 * 256 + b1) * 256 + b2) * 256 + b3) * 256 + b4) * 256 + b5) := by
  simp only [mkS, List.map_cons, List.map_nil, Op.bytesLess, u8_lt a0 b0 h0 g0, u8_lt a1 b1 h1 g1, u8_lt a2 b2 h2 g2, u8_lt a3 b3 h3 g3, u8_lt a4 b4 h4 g4, u8_lt a5 b5 h5 g5, u8_eq a0 b0 h0 g0, u8_eq a1 b1 h1 g1, u8_eq a2 b2 h2 g2, u8_eq a3 b3 h3 g3, u8_eq a4 b4 h4 g4, u8_eq a5 b5 h5 g5]
  rw [Bool.eq_iff_iff]
  simp only [Bool.or_eq_true, Bool.and_eq_true, decide_eq_true_eq, Bool.and_false, Bool.or_false]
  omega
theorem ok_VectorParts : (match Try.f10.body with | some c => codeOk Try.f10.ntmps c | none => false) = true := by kernel_rfl
theorem en_VectorParts : ∃ fn, Try.prog.funcs[10]? = some fn ∧ (fn.name == "runtime.NumGoroutine") = false ∧ fn.body.isNone = false := ⟨_, Try.func10, by kernel_rfl, by kernel_rfl⟩
theorem VectorParts_w (x y : Int) (hx : u64 x) (hy : u64 y) (w : World) : PuAt Try.prog 10 [.int .u64 x, .int .u64 y] (.bool true) w := by
  refine funcR_pure tyOk wide Try.func10 ok_VectorParts (Nat.le_of_ble_eq_true rfl) ?_
  repeat' first
    | (conv => whnf
       first
       | intro _
       | (first | refine selSplit (fun h => ?_) (fun h => ?_) | refine condSplit (fun h => ?_) (fun h => ?_)) <;> first | exact (clash (by assumption) h).elim | exact (clash h (by assumption)).elim | (simp only [decide_eq_true_eq, decide_eq_false_iff_not, Bool.not_eq_true', Bool.not_eq_false', Bool.not_true, Bool.not_false, Bool.or_eq_true, Bool.and_eq_true, Bool.or_eq_false_iff, Bool.and_eq_false_iff, beq_iff_eq, beq_eq_false_iff_ne, ne_eq] at h; first | (exfalso; omega) | skip) | skip
       | refine SeqP.go ?_
       | refine CondR.mk (by decide +kernel) ?_
       | exact IsV.mk
       | apply GuardP.mk
       | (apply callPure' en_awake05; · exact fun w _ => awake05_w w)
       | (apply callQuiet' en_awake05; · exact fun w _ => awake05_w w)
       | (apply callPure' en_vBridge; · exact fun w _ => vBridge_w _ _ _ w)
       | (apply callQuiet' en_vBridge; · exact fun w _ => vBridge_w _ _ _ w)
       | (apply callPure' en_vSplit; · exact fun w _ => vSplit_w _ w)
       | (apply callQuiet' en_vSplit; · exact fun w _ => vSplit_w _ w)
       | (first | refine eqlW eqS55 rfl rfl rfl (by repeat' first | exact trivial | apply And.intro | rfl) (by repeat' first | exact trivial | apply And.intro | rfl) ?_ | refine neqW eqS55 rfl rfl rfl (by repeat' first | exact trivial | apply And.intro | rfl) (by repeat' first | exact trivial | apply And.intro | rfl) ?_)
       | refine Or.inl ⟨_, _, (memHas (by repeat (first | apply Has.here | apply Has.there))), ?_⟩
       | refine Or.inl ⟨_, _, _, (by repeat (first | apply Hole.here | apply Hole.there)), rfl, rfl, ?_⟩
       | (apply loadArr; (· apply memHas; (repeat (first | apply Has.here | apply Has.there))); (· rfl); (· (first | assumption | exact getSelf (by assumption) | exact mapGet (by omega) | (simp; done))))
       | (apply loadArr0; (· apply memHas; (repeat (first | apply Has.here | apply Has.there))); (· rfl); (· (first | assumption | exact getSelf (by assumption) | exact mapGet (by omega) | (simp; done))))
       | (apply loadArr1; (· apply memHas; (repeat (first | apply Has.here | apply Has.there))); (· rfl); (· (first | assumption | exact getSelf (by assumption) | exact mapGet (by omega) | (simp; done))))
       | (apply loadOld; (· assumption); (· rfl); (· (first | assumption | exact getSelf (by assumption) | exact mapGet (by omega) | (simp; done))))
       | (apply loadOld0; (· assumption); (· rfl); (· (first | assumption | exact getSelf (by assumption) | exact mapGet (by omega) | (simp; done))))
       | (apply loadOld1; (· assumption); (· rfl); (· (first | assumption | exact getSelf (by assumption) | exact mapGet (by omega) | (simp; done))))
       | (apply loadRg; (· assumption); (· rfl))
       | (apply loadRg0; (· assumption))
       | (apply Or.inr; apply storeArr; (· (repeat (first | apply Hole.here | apply Hole.there))); (· rfl); (· (first | assumption | exact getSelf (by assumption) | exact mapGet (by omega) | (simp; done))); (· rfl); (· rfl))
       | (apply Or.inr; apply storeArr0; (· (repeat (first | apply Hole.here | apply Hole.there))); (· rfl); (· (first | assumption | exact getSelf (by assumption) | exact mapGet (by omega) | (simp; done))); (· rfl); (· rfl))
       | (apply Or.inr; apply storeArr1; (· (repeat (first | apply Hole.here | apply Hole.there))); (· rfl); (· (first | assumption | exact getSelf (by assumption) | exact mapGet (by omega) | (simp; done))); (· rfl); (· rfl))
       | refine BytW.ofBlk (memHas (by repeat (first | apply Has.here | apply Has.there))) rfl rfl ?_
       | refine AppW.noneB (memHas (by repeat (first | apply Has.here | apply Has.there))) (Nat.le_of_ble_eq_true rfl) rfl rfl rfl (Nat.le_of_ble_eq_true rfl) (Nat.le_of_ble_eq_true rfl) ?_
       | refine AppW.rowB (memHas (by repeat (first | apply Has.here | apply Has.there))) (Nat.le_of_ble_eq_true rfl) rfl rfl (by repeat (first | apply Hole.here | apply Hole.there)) (Nat.le_of_ble_eq_true rfl) (Nat.le_of_ble_eq_true rfl) ?_
       | refine AppW.blkB (memHas (by repeat (first | apply Has.here | apply Has.there))) (Nat.le_of_ble_eq_true rfl) rfl rfl (by repeat (first | apply Hole.here | apply Hole.there)) rfl rfl (Nat.le_of_ble_eq_true rfl) (Nat.le_of_ble_eq_true rfl) ?_
       | refine AppW.rowS (memHas (by repeat (first | apply Has.here | apply Has.there))) (Nat.le_of_ble_eq_true rfl) rfl rfl (by repeat (first | apply Hole.here | apply Hole.there)) (by omega) (Nat.le_of_ble_eq_true rfl) ?_
       | refine AppW.arrS (memHas (by repeat (first | apply Has.here | apply Has.there))) (Nat.le_of_ble_eq_true rfl) rfl rfl rfl (by repeat (first | apply Hole.here | apply Hole.there)) (by first | omega | (simp; omega)) (Nat.le_of_ble_eq_true rfl) ?_
       | refine ⟨(by first | rfl | omega | exact ⟨by omega, by omega⟩ | exact ⟨by omega, by omega, by omega⟩ | exact ⟨_, _, rfl⟩ | decide), ?_⟩
       | fail)
  all_goals (try conv => whnf)
  all_goals refine v_bool ?_
  · exfalso
    rw [spl x hx, spv x hx, spAll x, back x hx] at h
    have e : (mkS [x / 1099511627776 % 256, x / 4294967296 % 256, x / 16777216 % 256, x / 65536 % 256, x / 256 % 256, x / 1 % 256]).size = 6 := by simp [mkS, ByteArray.size]
    rw [e] at h
    simp only [not_true_eq_false, false_or] at h
    omega
  · skip
    rw [spl x hx, spl y hy] at *
    rw [beq_iff_eq, decide_eq_decide]
    omega
  · skip
    rw [spl x hx, spl y hy] at h
    rw [spv x hx, spv y hy, spAll x, spAll y, less6 _ _ _ _ _ _ _ _ _ _ _ _ (by omega) (by omega) (by omega) (by omega) (by omega) (by omega) (by omega) (by omega) (by omega) (by omega) (by omega) (by omega)]
    simp only [Bool.or_eq_true, Bool.not_eq_true', decide_eq_false_iff_not, beq_iff_eq, decide_eq_decide]
    by_cases hv : x / 281474976710656 % 4096 = y / 281474976710656 % 4096
    · right
      have e1 : ∀ z : Int, ((((z / 1099511627776 % 256 * 256 + z / 4294967296 % 256) * 256 + z / 16777216 % 256) * 256 + z / 65536 % 256) * 256 + z / 256 % 256) * 256 + z / 1 % 256 = z % 281474976710656 := by intro z; omega
      rw [e1, e1]
      omega
    · exact .inl hv
end Go.Proofs.Yticobcojmpakfaa.Am
