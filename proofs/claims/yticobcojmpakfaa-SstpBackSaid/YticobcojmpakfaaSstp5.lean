/- Package treebridgeref04: Parse. -/
import Derived.Test.YticobcojmpakfaaSstp4
set_option linter.unusedVariables false
set_option linter.unusedSimpArgs false
set_option maxRecDepth 100000
set_option maxHeartbeats 4000000
namespace Go.Proofs.Yticobcojmpakfaa.Am
open Go Go.RowKit
theorem parse_err {s : ByteArray} (h : (parseV s).2 ≠ 0) : (parseV s).1 = BpduV.zero := by
  unfold parseV at *
  split
  · rfl
  rename_i n1; rw [if_neg n1] at h
  split
  · rfl
  rename_i n2; rw [if_neg n2] at h
  split
  · rfl
  rename_i n3; rw [if_neg n3] at h
  split
  · rfl
  rename_i n4; rw [if_neg n4] at h
  split
  · rename_i n5; rw [if_pos n5] at h; exact absurd rfl h
  rename_i n5; rw [if_neg n5] at h
  split
  · rfl
  rename_i n6; rw [if_neg n6] at h; exact absurd rfl h
theorem rest_at (s : ByteArray) (n i : Nat) (h : n + i < s.size) : byteAt (s.extract n s.size) i = byteAt s (n + i) := by
  have hz : (s.extract n s.size).size = s.size - n := suf_size s n
  rw [byteAt_get _ _ (by omega), byteAt_get _ _ h]
  have e : (s.extract n s.size).data.toList = s.data.toList.drop n := suf_list s n
  simp only [e, List.getElem_drop]
theorem u8_eq {a : UInt8} {n : Nat} (hn : n < 256) (h : (a.toNat : Int) = n) : a = UInt8.ofNat n := by
  apply UInt8.toNat_inj.1
  rw [UInt8.toNat_ofNat']
  omega
theorem head_bytes (r : ByteArray) (h : 5 ≤ r.size) : headOk r = true ↔ (byteAt r 0 = 0 ∧ byteAt r 1 = 0 ∧ byteAt r 2 = 0 ∧ byteAt r 3 = 0 ∧ byteAt r 4 = 2) := by
  obtain ⟨a, b, c, d, e, t, hl⟩ : ∃ a b c d e t, r.data.toList = a :: b :: c :: d :: e :: t := by
    have hs : 5 ≤ r.data.toList.length := by simpa using h
    revert hs
    generalize r.data.toList = l
    intro hs
    match l, hs with
    | a :: b :: c :: d :: e :: t, _ => exact ⟨a, b, c, d, e, t, rfl⟩
  have g0 : byteAt r 0 = (a.toNat : Int) := by rw [byteAt_get r 0 (by omega)]; simp [hl]
  have g1 : byteAt r 1 = (b.toNat : Int) := by rw [byteAt_get r 1 (by omega)]; simp [hl]
  have g2 : byteAt r 2 = (c.toNat : Int) := by rw [byteAt_get r 2 (by omega)]; simp [hl]
  have g3 : byteAt r 3 = (d.toNat : Int) := by rw [byteAt_get r 3 (by omega)]; simp [hl]
  have g4 : byteAt r 4 = (e.toNat : Int) := by rw [byteAt_get r 4 (by omega)]; simp [hl]
  rw [g0, g1, g2, g3, g4]
  unfold headOk
  rw [decide_eq_true_eq]
  constructor
  · intro hx
    have hx := congrArg (fun x => x.data.toList) hx
    simp only [pre_list, hl, List.take_succ_cons, List.take_zero, List.cons.injEq, and_true] at hx
    obtain ⟨rfl, rfl, rfl, rfl, rfl⟩ := hx
    decide
  · rintro ⟨h0, h1, h2, h3, h4⟩
    have e0 := u8_eq (n := 0) (by decide) h0
    have e1 := u8_eq (n := 0) (by decide) h1
    have e2 := u8_eq (n := 0) (by decide) h2
    have e3 := u8_eq (n := 0) (by decide) h3
    have e4 := u8_eq (n := 2) (by decide) h4
    apply ba_ext
    rw [pre_list, hl, e0, e1, e2, e3, e4]
    rfl
theorem rest_head {s : ByteArray} {n : Nat} (h : n + 7 ≤ s.size) : headOk (s.extract n s.size) = true ↔ (byteAt s n = 0 ∧ byteAt s (n + 1) = 0 ∧ byteAt s (n + 2) = 0 ∧ byteAt s (n + 3) = 0 ∧ byteAt s (n + 4) = 2) := by
  rw [head_bytes _ (by rw [show (s.extract n s.size).size = s.size - n from suf_size s n]; omega), rest_at s n 0 (by omega), rest_at s n 1 (by omega), rest_at s n 2 (by omega), rest_at s n 3 (by omega), rest_at s n 4 (by omega)]
  rfl
theorem size_k (k : Int) : 0 ≤ sizeV k ∧ sizeV k ≤ 36 := by unfold sizeV; grind
theorem at_to {k i : Int} {m : Nat} (hi : i = m) (h : m < 100) : (IntKind.i64.wrap (sizeV k + i)).toNat = (sizeV k).toNat + m := by
  have := size_k k
  rw [w64 (by omega) (by omega)]
  omega
/-- What stands behind the BPDU. -/
theorem behind_is {s : ByteArray} (h0 : (parseV s).2 = 0) :
    (behindV (restS s)) = if (s.size : Int) < sizeV (parseV s).1.Kind + 7 then (3, 0)
      else if ¬ (byteAt s (sizeV (parseV s).1.Kind).toNat = 0 ∧ byteAt s ((sizeV (parseV s).1.Kind).toNat + 1) = 0 ∧ byteAt s ((sizeV (parseV s).1.Kind).toNat + 2) = 0 ∧ byteAt s ((sizeV (parseV s).1.Kind).toNat + 3) = 0 ∧ byteAt s ((sizeV (parseV s).1.Kind).toNat + 4) = 2) then (2, 0)
      else if vlanB (byteAt s ((sizeV (parseV s).1.Kind).toNat + 5) * 256 + byteAt s ((sizeV (parseV s).1.Kind).toNat + 6)) = false then (1, byteAt s ((sizeV (parseV s).1.Kind).toNat + 5) * 256 + byteAt s ((sizeV (parseV s).1.Kind).toNat + 6))
      else (0, byteAt s ((sizeV (parseV s).1.Kind).toNat + 5) * 256 + byteAt s ((sizeV (parseV s).1.Kind).toNat + 6)) := by
  have hp := parse_sz h0
  unfold behindV restS
  simp only [Int.toNat_natCast]
  generalize (sizeV (parseV s).1.Kind) = z at *
  have hz : (s.extract z.toNat s.size).size = s.size - z.toNat := suf_size s z.toNat
  rw [hz]
  by_cases c1 : (s.size : Int) < z + 7
  · rw [if_pos c1, if_pos (by omega)]
  · rw [if_neg c1, if_neg (by omega), rest_at s z.toNat 5 (by omega), rest_at s z.toNat 6 (by omega)]
    have hh := rest_head (s := s) (n := z.toNat) (by omega)
    by_cases c2 : headOk (s.extract z.toNat s.size) = true
    · rw [if_neg (by simp [c2]), if_neg (not_not_intro (hh.1 c2))]
    · rw [if_pos (by simpa using c2), if_pos (fun q => c2 (hh.2 q))]
theorem num16 (s : ByteArray) (i j : Nat) : IntKind.i64.wrap (IntKind.i64.wrap (IntKind.i64.wrap (byteAt s i) * 256) + IntKind.i64.wrap (byteAt s j)) = byteAt s i * 256 + byteAt s j := by
  have h1 := byteAt_range s i
  have h2 := byteAt_range s j
  rw [w64 (x := byteAt s i) (by omega) (by omega), w64 (x := byteAt s j) (by omega) (by omega), w64 (x := byteAt s i * 256) (by omega) (by omega), w64 (by omega) (by omega)]
attribute [local irreducible] headOk behindV parseV
/-- A place behind the BPDU. -/
theorem at_ok {s : ByteArray} {k : Int} {i : Int} (h : ¬ (s.size : Int) < IntKind.i64.wrap (sizeV k + 7)) (hs : s.size < 4611686018427387904) (hi : 0 ≤ i ∧ i < 7) : 0 ≤ IntKind.i64.wrap (sizeV k + i) ∧ (IntKind.i64.wrap (sizeV k + i)).toNat < s.size := by
  have hk : 0 ≤ sizeV k ∧ sizeV k ≤ 36 := by unfold sizeV; grind
  rw [w64 (by omega) (by omega)] at *
  omega
theorem at_no {s : ByteArray} {k : Int} (h : ¬ (s.size : Int) < IntKind.i64.wrap (sizeV k + 7)) (hs : s.size < 4611686018427387904) : 0 ≤ sizeV k ∧ (sizeV k).toNat < s.size := by
  have hk : 0 ≤ sizeV k ∧ sizeV k ≤ 36 := by unfold sizeV; grind
  rw [w64 (by omega) (by omega)] at *
  omega
theorem ok_rParse4 : (match Try.f61.body with | some c => codeOk Try.f61.ntmps c | none => false) = true := by kernel_rfl
theorem en_rParse4 : ∃ fn, Try.prog.funcs[61]? = some fn ∧ (fn.name == "runtime.NumGoroutine") = false ∧ fn.body.isNone = false := ⟨_, Try.func61, by kernel_rfl, by kernel_rfl⟩
theorem rParse4_w (s : ByteArray) (w : World) (hs : s.size < 4611686018427387904) : PuAt Try.prog 61 [.string s] (.tuple ⟨[.agg ⟨(sParseV s).1.enc⟩, .int .i64 (sParseV s).2.1, .int .i64 (sParseV s).2.2]⟩) w := by
  refine funcR_pure tyOk wide Try.func61 ok_rParse4 (Nat.le_of_ble_eq_true rfl) ?_
  repeat' first
    | (conv => whnf
       first
       | intro _
       | (first | refine selSplit (fun h => ?_) (fun h => ?_) | refine condSplit (fun h => ?_) (fun h => ?_)) <;> first | exact (clash (by assumption) h).elim | exact (clash h (by assumption)).elim | (simp only [decide_eq_true_eq, decide_eq_false_iff_not, Bool.not_eq_true', Bool.not_eq_false', Bool.not_true, Bool.not_false, Bool.or_eq_true, Bool.and_eq_true, Bool.or_eq_false_iff, Bool.and_eq_false_iff, beq_iff_eq, beq_eq_false_iff_ne, ne_eq] at h; first | (exfalso; omega) | skip) | skip
       | (first | refine DrawR.mk _ (.quiet 0 (.quiet 1 (.quiet 2 (.quiet 3 (.quiet 4 (.quiet 5 (.quiet 6 (.quiet 7 (.quiet 8 (.quiet 9 (.quiet 10 (.quiet 11 (.quiet 12 .done))))))))))))) (by decide +kernel) (SubL.refl _) ?_)
       | refine AltP.mk ?_ ?_
       | refine KeepP.mk (SubL.of (by repeat (first | exact List.Sublist.refl _ | exact List.nil_sublist _ | apply List.Sublist.cons_cons | apply List.Sublist.cons))) ?_
       | refine SeqP.go ?_
       | refine CondR.mk (by decide +kernel) ?_
       | exact IsV.mk
       | apply GuardP.mk
       | (apply callPure' en_rParse; · exact fun w _ => rParse_w s w hs)
       | (apply callQuiet' en_rParse; · exact fun w _ => rParse_w s w hs)
       | (apply callPure' en_rSize; · exact fun w _ => rSize_w _ w)
       | (apply callQuiet' en_rSize; · exact fun w _ => rSize_w _ w)
       | (refine Exists.intro (at_no (s := s) (k := (parseV s).1.Kind) (by assumption) hs) ?_)
       | (refine Exists.intro (at_ok (s := s) (k := (parseV s).1.Kind) (i := 1) (by assumption) hs (by decide)) ?_)
       | (refine Exists.intro (at_ok (s := s) (k := (parseV s).1.Kind) (i := 2) (by assumption) hs (by decide)) ?_)
       | (refine Exists.intro (at_ok (s := s) (k := (parseV s).1.Kind) (i := 3) (by assumption) hs (by decide)) ?_)
       | (refine Exists.intro (at_ok (s := s) (k := (parseV s).1.Kind) (i := 4) (by assumption) hs (by decide)) ?_)
       | (refine Exists.intro (at_ok (s := s) (k := (parseV s).1.Kind) (i := 5) (by assumption) hs (by decide)) ?_)
       | (refine Exists.intro (at_ok (s := s) (k := (parseV s).1.Kind) (i := 6) (by assumption) hs (by decide)) ?_)
       | (first | refine eqlW eqS57 rfl rfl rfl (by repeat' first | exact trivial | apply And.intro | rfl) (by repeat' first | exact trivial | apply And.intro | rfl) ?_ | refine neqW eqS57 rfl rfl rfl (by repeat' first | exact trivial | apply And.intro | rfl) (by repeat' first | exact trivial | apply And.intro | rfl) ?_ | refine eqlW eqS60 rfl rfl rfl (by repeat' first | exact trivial | apply And.intro | rfl) (by repeat' first | exact trivial | apply And.intro | rfl) ?_ | refine neqW eqS60 rfl rfl rfl (by repeat' first | exact trivial | apply And.intro | rfl) (by repeat' first | exact trivial | apply And.intro | rfl) ?_)
       | refine Or.inl ⟨_, _, (memHas (by repeat (first | apply Has.here | apply Has.there))), ?_⟩
       | refine Or.inl ⟨_, _, _, (by repeat (first | apply Hole.here | apply Hole.there)), rfl, rfl, ?_⟩
       | (apply loadArr; (· apply memHas; (repeat (first | apply Has.here | apply Has.there))); (· rfl); (· (first | assumption | (apply getSelf; (repeat' first | assumption | apply getSelf); done) | exact mapGet (by omega) | exact rfl | (simp; done))))
       | (apply loadArr0; (· apply memHas; (repeat (first | apply Has.here | apply Has.there))); (· rfl); (· (first | assumption | (apply getSelf; (repeat' first | assumption | apply getSelf); done) | exact mapGet (by omega) | exact rfl | (simp; done))))
       | (apply loadArr1; (· apply memHas; (repeat (first | apply Has.here | apply Has.there))); (· rfl); (· (first | assumption | (apply getSelf; (repeat' first | assumption | apply getSelf); done) | exact mapGet (by omega) | exact rfl | (simp; done))))
       | (apply loadOld; (· assumption); (· rfl); (· (first | assumption | (apply getSelf; (repeat' first | assumption | apply getSelf); done) | exact mapGet (by omega) | exact rfl | (simp; done))))
       | (apply loadOld0; (· assumption); (· rfl); (· (first | assumption | (apply getSelf; (repeat' first | assumption | apply getSelf); done) | exact mapGet (by omega) | exact rfl | (simp; done))))
       | (apply loadOld1; (· assumption); (· rfl); (· (first | assumption | (apply getSelf; (repeat' first | assumption | apply getSelf); done) | exact mapGet (by omega) | exact rfl | (simp; done))))
       | (apply loadRowAt; (· apply memHas; (repeat (first | apply Has.here | apply Has.there))); (· rfl); (· first | assumption | exact rfl); (· rfl))
       | (apply loadRg; (· assumption); (· rfl))
       | (apply loadRg0; (· assumption))
       | (apply Or.inr; apply storeArr; (· (repeat (first | apply Hole.here | apply Hole.there))); (· rfl); (· (first | assumption | (apply getSelf; (repeat' first | assumption | apply getSelf); done) | exact mapGet (by omega) | exact rfl | (simp; done))); (· rfl); (· rfl))
       | (apply Or.inr; apply storeArr0; (· (repeat (first | apply Hole.here | apply Hole.there))); (· rfl); (· (first | assumption | (apply getSelf; (repeat' first | assumption | apply getSelf); done) | exact mapGet (by omega) | exact rfl | (simp; done))); (· rfl); (· rfl))
       | (apply Or.inr; apply storeArr1; (· (repeat (first | apply Hole.here | apply Hole.there))); (· rfl); (· (first | assumption | (apply getSelf; (repeat' first | assumption | apply getSelf); done) | exact mapGet (by omega) | exact rfl | (simp; done))); (· rfl); (· rfl))
       | refine BytW.ofBlk (memHas (by repeat (first | apply Has.here | apply Has.there))) rfl rfl ?_
       | refine AppW.noneB (memHas (by repeat (first | apply Has.here | apply Has.there))) (Nat.le_of_ble_eq_true rfl) rfl rfl rfl (Nat.le_of_ble_eq_true rfl) (Nat.le_of_ble_eq_true rfl) ?_
       | refine AppW.rowB (memHas (by repeat (first | apply Has.here | apply Has.there))) (Nat.le_of_ble_eq_true rfl) rfl rfl (by repeat (first | apply Hole.here | apply Hole.there)) (Nat.le_of_ble_eq_true rfl) (Nat.le_of_ble_eq_true rfl) ?_
       | refine AppW.blkB (memHas (by repeat (first | apply Has.here | apply Has.there))) (Nat.le_of_ble_eq_true rfl) rfl rfl (by repeat (first | apply Hole.here | apply Hole.there)) rfl rfl (Nat.le_of_ble_eq_true rfl) (Nat.le_of_ble_eq_true rfl) ?_
       | refine AppW.rowS (memHas (by repeat (first | apply Has.here | apply Has.there))) (Nat.le_of_ble_eq_true rfl) rfl rfl (by repeat (first | apply Hole.here | apply Hole.there)) (by omega) (Nat.le_of_ble_eq_true rfl) ?_
       | refine AppW.arrS (memHas (by repeat (first | apply Has.here | apply Has.there))) (Nat.le_of_ble_eq_true rfl) rfl rfl rfl (by repeat (first | apply Hole.here | apply Hole.there)) (by first | omega | (simp; omega)) (Nat.le_of_ble_eq_true rfl) ?_
       | refine ⟨(by first | rfl | omega | exact ⟨by omega, by omega⟩ | exact ⟨by omega, by omega, by omega⟩ | exact ⟨_, _, rfl⟩ | decide), ?_⟩
       | fail)
  all_goals (try conv => whnf)
  · have e := parse_err (s := s) (by assumption)
    show Value.tuple ⟨[.agg ⟨(parseV s).1.enc⟩, .int .i64 0, .int .i64 (parseV s).2]⟩ = _
    unfold sParseV
    rw [if_pos (by assumption), e]
  · unfold sParseV; rw [if_neg (by omega), if_pos (by assumption)]; rfl
  · rename_i h0 h1
    rw [w64 (by have := size_k (parseV s).1.Kind; omega) (by have := size_k (parseV s).1.Kind; omega)] at h
    unfold sParseV; rw [if_neg (by omega), if_neg h1, behind_is h0, if_pos h, if_pos (by decide)]; rfl
  · rename_i h0 h1 h2
    rw [w64 (by have := size_k (parseV s).1.Kind; omega) (by have := size_k (parseV s).1.Kind; omega)] at h2
    simp only [byteAt_eq, at_to (i := 1) (m := 1) rfl (by decide), at_to (i := 2) (m := 2) rfl (by decide), at_to (i := 3) (m := 3) rfl (by decide), at_to (i := 4) (m := 4) rfl (by decide)] at h
    have e := behind_is h0
    rw [if_neg h2, if_pos (by omega)] at e
    unfold sParseV; rw [if_neg (by omega), if_neg h1, e, if_pos (show (2 : Int) ≠ 0 by decide)]; rfl
  · rename_i h0 h1 h2 h3
    rw [w64 (by have := size_k (parseV s).1.Kind; omega) (by have := size_k (parseV s).1.Kind; omega)] at h2
    simp only [byteAt_eq, at_to (i := 1) (m := 1) rfl (by decide), at_to (i := 2) (m := 2) rfl (by decide), at_to (i := 3) (m := 3) rfl (by decide), at_to (i := 4) (m := 4) rfl (by decide), at_to (i := 5) (m := 5) rfl (by decide), at_to (i := 6) (m := 6) rfl (by decide)] at h h3
    rw [num16] at h
    have e := behind_is h0
    rw [if_neg h2, if_neg (by omega), if_pos (vlan_no.1 h)] at e
    unfold sParseV; rw [if_neg (by omega), if_neg h1, e, if_pos (show (1 : Int) ≠ 0 by decide)]; rfl
  · rename_i h0 h1 h2 h3
    rw [w64 (by have := size_k (parseV s).1.Kind; omega) (by have := size_k (parseV s).1.Kind; omega)] at h2
    simp only [byteAt_eq, at_to (i := 1) (m := 1) rfl (by decide), at_to (i := 2) (m := 2) rfl (by decide), at_to (i := 3) (m := 3) rfl (by decide), at_to (i := 4) (m := 4) rfl (by decide), at_to (i := 5) (m := 5) rfl (by decide), at_to (i := 6) (m := 6) rfl (by decide)] at h h3 ⊢
    rw [num16] at h ⊢
    have e := behind_is h0
    rw [if_neg h2, if_neg (by omega), if_neg (fun q => by have := vlan_no.2 q; omega)] at e
    unfold sParseV; rw [if_neg (by omega), if_neg h1, e, if_neg (show ¬ (0 : Int) ≠ 0 by decide)]; rfl
end Go.Proofs.Yticobcojmpakfaa.Am
