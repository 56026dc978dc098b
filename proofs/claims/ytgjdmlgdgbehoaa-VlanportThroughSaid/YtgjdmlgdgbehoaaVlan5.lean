/- Package treebridgeref06: a set-up out of a text; both are the same. -/
import Derived.Test.YtgjdmlgdgbehoaaVlan4
set_option linter.unusedVariables false
set_option linter.unusedSimpArgs false
set_option maxRecDepth 100000
set_option maxHeartbeats 4000000
namespace Go.Proofs.Ytgjdmlgdgbehoaa.Am
open Go Go.RowKit
def w16 (s : ByteArray) (i : Nat) : Int := byteAt s i * 256 + byteAt s (i + 1)
def pairs (s : ByteArray) (k : Nat) : List Int := (List.range k).map fun j => w16 s (4 + 2 * j)
theorem pairs_succ (s : ByteArray) (k : Nat) : pairs s (k + 1) = pairs s k ++ [w16 s (4 + 2 * k)] := by unfold pairs; rw [List.range_succ, List.map_append]; rfl
theorem pairs_len (s : ByteArray) (k : Nat) : (pairs s k).length = k := by unfold pairs; rw [List.length_map, List.length_range]
def m6 (s : ByteArray) : Nat := (s.size - 4) / 2
def parse6P (s : ByteArray) : (Bool × Int × List Int) × Int :=
  if s.size < 3 then ((false, 0, []), 2) else if ¬ (vPrintV (decide (byteAt s 0 = 84)) (w16 s 1) (pairs s (m6 s))).2 = 0 ∨ ¬ (vPrintV (decide (byteAt s 0 = 84)) (w16 s 1) (pairs s (m6 s))).1 = s then ((false, 0, []), 2)
  else ((decide (byteAt s 0 = 84), w16 s 1, pairs s (m6 s)), 0)
theorem wmul (x y : Int) (hx : 0 ≤ x ∧ x < 256) (hy : 0 ≤ y ∧ y < 256) : IntKind.i64.wrap (IntKind.i64.wrap (IntKind.i64.wrap x * 256) + IntKind.i64.wrap y) = x * 256 + y := by
  rw [w64 (x := x) (by omega) (by omega), w64 (x := x * 256) (by omega) (by omega), w64 (x := y) (by omega) (by omega), w64 (by omega) (by omega)]
theorem print6_n (t : Bool) (n : Int) (l : List Int) (A : Option Addr) (m c : Nat) (hm : l.length = m) (w : World) (hs : SlAt w A 1 (ints l)) (hl : m ≤ 1000) : PuAt Try.prog 26 [.agg ⟨[.bool t, .int .i64 n, .slice A m c]⟩] (.tuple ⟨[.string (vPrintV t n l).1, .int .i64 (vPrintV t n l).2]⟩) w := by
  subst hm; exact print6_w t n l A c w hs hl
theorem ok_parse6 : (match Try.f28.body with | some c => codeOk Try.f28.ntmps c | none => false) = true := by kernel_rfl
theorem en_parse6 : ∃ fn, Try.prog.funcs[28]? = some fn ∧ (fn.name == "runtime.NumGoroutine") = false ∧ fn.body.isNone = false := ⟨_, Try.func28, by kernel_rfl, by kernel_rfl⟩
theorem parse6_w (s : ByteArray) (hs : s.size ≤ 2000) (w : World) : FnX Try.prog 28 [.string s] [] (fun a : Option Addr × Nat => True)
    (fun a => .tuple ⟨[.agg ⟨[.bool (parse6P s).1.1, .int .i64 (parse6P s).1.2.1, .slice a.1 (parse6P s).1.2.2.length a.2]⟩, .int .i64 (parse6P s).2]⟩) (fun a => [.arr (.slice a.1 (parse6P s).1.2.2.length a.2) 3 1 (ints (parse6P s).1.2.2)]) w := by
  refine funcR_x tyOk wide Try.func28 ok_parse6 (Nat.le_of_ble_eq_true rfl) (St.start0 w) ?_
  have b0 := byteAt_range s 0
  have b1 := byteAt_range s 1
  have b2 := byteAt_range s 2
  by_cases h3 : s.size < 3
  · have hP : parse6P s = ((false, 0, []), 2) := by unfold parse6P; rw [if_pos h3]
    rw [hP]
    repeat' first
      | (conv => whnf
         first
         | intro _
         | (first | refine selSplit (fun h => ?_) (fun h => ?_) | refine condSplit (fun h => ?_) (fun h => ?_)) <;> first | exact (clash (by assumption) h).elim | exact (clash h (by assumption)).elim | (simp only [decide_eq_true_eq, decide_eq_false_iff_not, Bool.not_eq_true', Bool.not_eq_false', Bool.not_true, Bool.not_false, Bool.or_eq_true, Bool.and_eq_true, Bool.or_eq_false_iff, Bool.and_eq_false_iff, beq_iff_eq, beq_eq_false_iff_ne, ne_eq] at h; first | (exfalso; omega) | skip) | skip
         | (first | refine drM (.quiet 0 (.quiet 1 (.quiet 2 (.quiet 3 (.quiet 4 (.quiet 5 (.quiet 6 (.quiet 7 (.quiet 8 (.quiet 9 (.quiet 10 (.quiet 11 (.alloc 12 (.last 13 false .done)))))))))))))) (SubL.refl _) ?_ | refine drM (.quiet 0 (.quiet 1 (.quiet 2 (.quiet 3 (.quiet 4 (.quiet 5 (.quiet 6 (.quiet 7 (.quiet 8 (.quiet 9 (.quiet 10 (.quiet 11 (.quiet 12 (.last 13 true (.last 14 false (.last 15 false (.last 16 false .done))))))))))))))))) (SubL.of (List.Sublist.cons _ (List.Sublist.refl _))) ?_)
         | refine AltP.mk ?_ ?_
         | refine kpM ?_
         | refine SeqP.go ?_
         | refine cdM ?_
         | exact IsV.mk
         | apply GuardP.mk
         | refine Or.inl ⟨_, _, hasM, ?_⟩
         | refine Or.inl ⟨_, _, _, holeM, rfl, rfl, ?_⟩
         | refine lA ?_
         | refine lA0 ?_
         | refine lA1 ?_
         | refine lO ?_
         | refine lO0 ?_
         | refine lO1 ?_
         | refine lR ?_
         | refine lG ?_
         | refine lG0 ?_
         | refine tA ?_
         | refine tA0 ?_
         | refine tA1 ?_
         | refine BytW.ofBlk hasM rfl rfl ?_
         | refine AppW.noneB hasM leM rfl rfl rfl leM leM ?_
         | refine AppW.rowB hasM leM rfl rfl holeM leM leM ?_
         | refine AppW.blkB hasM leM rfl rfl holeM rfl rfl leM leM ?_
         | refine AppW.rowS hasM leM rfl rfl holeM (by omega) leM ?_
         | refine AppW.arrS hasM leM rfl rfl rfl holeM (by first | omega | (simp; omega)) leM ?_
         | refine ⟨sideM, ?_⟩
         | fail)
    all_goals (try conv => whnf)
    all_goals first
      | (exfalso; omega)
      | exact EndX.mk (none, 0) trivial rfl (Ent.trans (H' := []) entM nilArr)
  · have hP : parse6P s = if ¬ (vPrintV (decide (byteAt s 0 = 84)) (w16 s 1) (pairs s (m6 s))).2 = 0 ∨ ¬ (vPrintV (decide (byteAt s 0 = 84)) (w16 s 1) (pairs s (m6 s))).1 = s then ((false, 0, []), 2) else ((decide (byteAt s 0 = 84), w16 s 1, pairs s (m6 s)), 0) := by unfold parse6P; rw [if_neg h3]
    repeat' first
      | (conv => whnf
         first
         | intro _
         | (first | refine selSplit (fun h => ?_) (fun h => ?_) | refine condSplit (fun h => ?_) (fun h => ?_)) <;> first | exact (clash (by assumption) h).elim | exact (clash h (by assumption)).elim | (simp only [decide_eq_true_eq, decide_eq_false_iff_not, Bool.not_eq_true', Bool.not_eq_false', Bool.not_true, Bool.not_false, Bool.or_eq_true, Bool.and_eq_true, Bool.or_eq_false_iff, Bool.and_eq_false_iff, beq_iff_eq, beq_eq_false_iff_ne, ne_eq] at h; first | (exfalso; omega) | skip) | skip
         | (first | refine drM (.quiet 0 (.quiet 1 (.quiet 2 (.quiet 3 (.quiet 4 (.quiet 5 (.quiet 6 (.quiet 7 (.quiet 8 (.quiet 9 (.quiet 10 (.quiet 11 (.alloc 12 (.last 13 false .done)))))))))))))) (SubL.refl _) ?_ | refine drM (.quiet 0 (.quiet 1 (.quiet 2 (.quiet 3 (.quiet 4 (.quiet 5 (.quiet 6 (.quiet 7 (.quiet 8 (.quiet 9 (.quiet 10 (.quiet 11 (.quiet 12 (.last 13 true (.last 14 false (.last 15 false (.last 16 false .done))))))))))))))))) (SubL.of (List.Sublist.cons _ (List.Sublist.refl _))) ?_)
         | refine AltP.mk ?_ ?_
         | refine kpM ?_
         | refine SeqP.go ?_
         | refine cdM ?_
         | exact IsV.mk
         | apply GuardP.mk
         | refine Or.inl ⟨_, _, hasM, ?_⟩
         | refine Or.inl ⟨_, _, _, holeM, rfl, rfl, ?_⟩
         | refine lA ?_
         | refine lA0 ?_
         | refine lA1 ?_
         | refine lO ?_
         | refine lO0 ?_
         | refine lO1 ?_
         | refine lR ?_
         | refine lG ?_
         | refine lG0 ?_
         | refine tA ?_
         | refine tA0 ?_
         | refine tA1 ?_
         | refine BytW.ofBlk hasM rfl rfl ?_
         | refine AppW.noneB hasM leM rfl rfl rfl leM leM ?_
         | refine AppW.rowB hasM leM rfl rfl holeM leM leM ?_
         | refine AppW.blkB hasM leM rfl rfl holeM rfl rfl leM leM ?_
         | refine AppW.rowS hasM leM rfl rfl holeM (by omega) leM ?_
         | refine AppW.arrS hasM leM rfl rfl rfl holeM (by first | omega | (simp; omega)) leM ?_
         | refine ⟨sideM, ?_⟩
         | fail)
    all_goals (try conv => whnf)
    rename_i r2 r4
    have hw : w16 s 1 = byteAt s 1 * 256 + byteAt s 2 := rfl
    have hm : m6 s = (s.size - 4) / 2 := rfl
    generalize ht : decide (byteAt s 0 = 84) = t at *
    refine .mk (Nat × (Option Addr × Nat)) (fun ⟨k, ⟨A, c⟩⟩ S H => (k ≤ m6 s ∧ IsRow (.slice A k c) k) ∧ S = [(5, .int .i64 ((4 + 2 * k : Nat) : Int)), (4, .pointer (some ⟨r4, 0, none⟩)), (2, .pointer (some ⟨r2, 0, none⟩)), (0, .string s)] ∧ H = [.arr (.slice A k c) 3 1 (ints (pairs s k)), .blk r4 [.bool t, .int .i64 (w16 s 1), .slice A k c] 52, .blk r2 td52.zero 52]) (fun a => m6 s - a.1) (0, (none, 0)) _ _ ⟨⟨by omega, .inl ⟨rfl, rfl⟩⟩, rfl, rfl⟩ subM (by
      have e1 : (((s[1]'(by omega)).toNat : Int)) = byteAt s 1 := byteAt_eq s 1 (by omega)
      have e2 : (((s[2]'(by omega)).toNat : Int)) = byteAt s 2 := byteAt_eq s 2 (by omega)
      simp only [byteAt_eq, Int.reduceToNat, wmul _ _ b1 b2, ht, ← hw]
      exact (nilArr (E := 3) (sz := 1)).trans entM) ?_
    rintro ⟨k, ⟨A, c⟩⟩ S1 H1 ⟨⟨hk1, hr⟩, rfl, rfl⟩
    have hLe : (ints (pairs s k)).length = k := by rw [ints_len, pairs_len]
    have hwi : IntKind.i64.wrap (((4 + 2 * k : Nat) : Int) + 1) = ((5 + 2 * k : Nat) : Int) := by rw [w64 (by omega) (by omega)]; omega
    by_cases hk2 : k < m6 s
    · have c0 := byteAt_range s (4 + 2 * k)
      have c1 := byteAt_range s (5 + 2 * k)
      have hi : ints (pairs s (k + 1)) = ints (pairs s k) ++ [[.int .i64 (byteAt s (4 + 2 * k) * 256 + byteAt s (5 + 2 * k))]] := by rw [pairs_succ]; unfold ints; rw [List.map_append]; unfold w16; rw [show 4 + 2 * k + 1 = 5 + 2 * k by omega]; rfl
      have hib : 0 ≤ IntKind.i64.wrap (((4 + 2 * k : Nat) : Int) + 1) ∧ (IntKind.i64.wrap (((4 + 2 * k : Nat) : Int) + 1)).toNat < s.size := by rw [hwi]; omega
      have hcd : IntKind.i64.wrap (((4 + 2 * k : Nat) : Int) + 1) < (s.size : Int) := by rw [hwi]; omega
      have hia : 0 ≤ (((4 + 2 * k : Nat) : Int)) ∧ ((((4 + 2 * k : Nat) : Int))).toNat < s.size := by omega
      repeat' first
        | (conv => whnf
           first
           | intro _
           | (first | refine selSplit (fun h => ?_) (fun h => ?_) | refine condSplit (fun h => ?_) (fun h => ?_)) <;> first | exact (clash (by assumption) h).elim | exact (clash h (by assumption)).elim | (simp only [decide_eq_true_eq, decide_eq_false_iff_not, Bool.not_eq_true', Bool.not_eq_false', Bool.not_true, Bool.not_false, Bool.or_eq_true, Bool.and_eq_true, Bool.or_eq_false_iff, Bool.and_eq_false_iff, beq_iff_eq, beq_eq_false_iff_ne, ne_eq] at h; first | (exfalso; omega) | skip) | skip
           | (first | refine drM (.quiet 0 (.quiet 1 (.quiet 2 (.quiet 3 (.quiet 4 (.quiet 5 (.quiet 6 (.quiet 7 (.quiet 8 (.quiet 9 (.quiet 10 (.quiet 11 (.alloc 12 (.last 13 false .done)))))))))))))) (SubL.refl _) ?_ | refine drM (.quiet 0 (.quiet 1 (.quiet 2 (.quiet 3 (.quiet 4 (.quiet 5 (.quiet 6 (.quiet 7 (.quiet 8 (.quiet 9 (.quiet 10 (.quiet 11 (.quiet 12 (.last 13 true (.last 14 false (.last 15 false (.last 16 false .done))))))))))))))))) (SubL.of (List.Sublist.cons _ (List.Sublist.refl _))) ?_)
           | refine AltP.mk ?_ ?_
           | refine kpM ?_
           | refine SeqP.go ?_
           | refine cdM ?_
           | exact IsV.mk
           | apply GuardP.mk
           | (refine Exists.intro hib ?_)
           | (refine Exists.intro hia ?_)
           | (refine AppW.arrK hasM (Nat.le_of_ble_eq_true rfl) rfl rfl rfl holeM hLe (by omega) (Nat.le_of_ble_eq_true rfl) ?_)
           | refine Or.inl ⟨_, _, hasM, ?_⟩
           | refine Or.inl ⟨_, _, _, holeM, rfl, rfl, ?_⟩
           | refine lA ?_
           | refine lA0 ?_
           | refine lA1 ?_
           | refine lO ?_
           | refine lO0 ?_
           | refine lO1 ?_
           | refine lR ?_
           | refine lG ?_
           | refine lG0 ?_
           | refine tA ?_
           | refine tA0 ?_
           | refine tA1 ?_
           | refine BytW.ofBlk hasM rfl rfl ?_
           | refine AppW.noneB hasM leM rfl rfl rfl leM leM ?_
           | refine AppW.rowB hasM leM rfl rfl holeM leM leM ?_
           | refine AppW.blkB hasM leM rfl rfl holeM rfl rfl leM leM ?_
           | refine AppW.rowS hasM leM rfl rfl holeM (by omega) leM ?_
           | refine AppW.arrS hasM leM rfl rfl rfl holeM (by first | omega | (simp; omega)) leM ?_
           | refine ⟨sideM, ?_⟩
           | fail)
      all_goals (try conv => whnf)
      refine .mk (k + 1, (_, _)) _ _ (by show _ - (k + 1) < _ - k; omega) ⟨⟨hk2, by assumption⟩, rfl, rfl⟩ ⟨eq_int (by rw [w64 (by omega) (by omega)]; push_cast; omega), rfl, rfl, rfl, trivial⟩ (by
        rw [hi]
        simp only [byteAt_eq, hwi, Int.toNat_natCast, wmul _ _ c0 c1]
        exact entM)
    · skip
      have hcd : ¬ IntKind.i64.wrap (((4 + 2 * k : Nat) : Int) + 1) < (s.size : Int) := by rw [hwi]; omega
      obtain rfl : k = m6 s := by omega
      repeat' first
        | (conv => whnf
           first
           | intro _
           | (first | refine selSplit (fun h => ?_) (fun h => ?_) | refine condSplit (fun h => ?_) (fun h => ?_)) <;> first | exact (clash (by assumption) h).elim | exact (clash h (by assumption)).elim | (simp only [decide_eq_true_eq, decide_eq_false_iff_not, Bool.not_eq_true', Bool.not_eq_false', Bool.not_true, Bool.not_false, Bool.or_eq_true, Bool.and_eq_true, Bool.or_eq_false_iff, Bool.and_eq_false_iff, beq_iff_eq, beq_eq_false_iff_ne, ne_eq] at h; first | (exfalso; omega) | skip) | skip
           | (first | refine drM (.quiet 0 (.quiet 1 (.quiet 2 (.quiet 3 (.quiet 4 (.quiet 5 (.quiet 6 (.quiet 7 (.quiet 8 (.quiet 9 (.quiet 10 (.quiet 11 (.alloc 12 (.last 13 false .done)))))))))))))) (SubL.refl _) ?_ | refine drM (.quiet 0 (.quiet 1 (.quiet 2 (.quiet 3 (.quiet 4 (.quiet 5 (.quiet 6 (.quiet 7 (.quiet 8 (.quiet 9 (.quiet 10 (.quiet 11 (.quiet 12 (.last 13 true (.last 14 false (.last 15 false (.last 16 false .done))))))))))))))))) (SubL.of (List.Sublist.cons _ (List.Sublist.refl _))) ?_)
           | refine AltP.mk ?_ ?_
           | refine kpM ?_
           | refine SeqP.go ?_
           | refine cdM ?_
           | exact IsV.mk
           | apply GuardP.mk
           | ((first | apply callPure' en_print6 | apply callQuiet' en_print6); · exact fun w hw => print6_n t (w16 s 1) (pairs s (m6 s)) A (m6 s) c (pairs_len s _) w (hw.arrSl hasM) (by omega))
           | refine Or.inl ⟨_, _, hasM, ?_⟩
           | refine Or.inl ⟨_, _, _, holeM, rfl, rfl, ?_⟩
           | refine lA ?_
           | refine lA0 ?_
           | refine lA1 ?_
           | refine lO ?_
           | refine lO0 ?_
           | refine lO1 ?_
           | refine lR ?_
           | refine lG ?_
           | refine lG0 ?_
           | refine tA ?_
           | refine tA0 ?_
           | refine tA1 ?_
           | refine BytW.ofBlk hasM rfl rfl ?_
           | refine AppW.noneB hasM leM rfl rfl rfl leM leM ?_
           | refine AppW.rowB hasM leM rfl rfl holeM leM leM ?_
           | refine AppW.blkB hasM leM rfl rfl holeM rfl rfl leM leM ?_
           | refine AppW.rowS hasM leM rfl rfl holeM (by omega) leM ?_
           | refine AppW.arrS hasM leM rfl rfl rfl holeM (by first | omega | (simp; omega)) leM ?_
           | refine ⟨sideM, ?_⟩
           | fail)
      all_goals (try conv => whnf)
      all_goals first
        | (exfalso; omega)
        | (have hPe : parse6P s = ((false, 0, []), 2) := (hP.trans (if_pos h)); (rw [hPe]; exact EndX.mk (none, 0) trivial rfl (Ent.trans (H' := []) entM nilArr)))
        | (have hPe : parse6P s = ((t, w16 s 1, pairs s (m6 s)), 0) := (hP.trans (if_neg (fun q => q.elim (fun q => q h.1) (fun q => q h.2))))
           rw [hPe]
           have hq := pairs_len s (m6 s)
           clear hP hPe h hm hcd hwi hLe
           generalize pairs s (m6 s) = L at *
           generalize m6 s = m at *
           subst hq
           exact EndX.mk (A, c) trivial rfl entM)
end Go.Proofs.Ytgjdmlgdgbehoaa.Am
