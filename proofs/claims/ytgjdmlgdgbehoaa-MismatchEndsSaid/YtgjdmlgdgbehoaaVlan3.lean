/- Packages vlanport, treebridgeref06: a set-up's text. -/
import Derived.Test.YtgjdmlgdgbehoaaVlan2
set_option linter.unusedVariables false
set_option linter.unusedSimpArgs false
set_option maxRecDepth 100000
set_option maxHeartbeats 4000000
namespace Go.Proofs.Ytgjdmlgdgbehoaa.Am
open Go Go.RowKit
def pairL (l : List Int) : List Int := l.flatMap fun x => [x / 256, x % 256]
theorem pairL_len (l : List Int) : (pairL l).length = 2 * l.length := by
  induction l with
  | nil => rfl
  | cons x r ih => simp only [pairL, List.flatMap_cons, List.length_append, List.length_cons, List.length_nil] at *; omega
theorem pairL_succ {l : List Int} {k : Nat} {x : Int} (h : l[k]? = some x) : pairL (l.take (k + 1)) = pairL (l.take k) ++ [x / 256, x % 256] := by
  obtain ⟨hk, he⟩ := List.getElem?_eq_some_iff.1 h
  rw [List.take_succ_eq_append_getElem hk, pairL, List.flatMap_append, he]; rfl
def headL (n : Int) (m : Nat) : List Int := [84, n / 256, n % 256, m]
def vPrintL (t : Bool) (n : Int) (l : List Int) : List Int := if t then headL n l.length ++ pairL l else [65, n / 256, n % 256]
def vPrintV (t : Bool) (n : Int) (l : List Int) : ByteArray × Int := if vRightB t n l = false then (⟨#[]⟩, 2) else (mkS (vPrintL t n l), 0)
theorem right_all {t : Bool} {n : Int} {l : List Int} (h : vRightB t n l = true) : (1 ≤ n ∧ n ≤ 4094) ∧ l.length ≤ 16 ∧ (t = false → l = []) ∧ ∀ x ∈ l, 1 ≤ x ∧ x ≤ 4094 := by
  unfold vRightB at h
  have key : ∀ x, vlanB x = true → 1 ≤ x ∧ x ≤ 4094 := by intro x hx; unfold vlanB at hx; simpa using hx
  simp only [Bool.and_eq_true, Bool.or_eq_true, decide_eq_true_eq] at h
  refine ⟨key n h.1.1.1, h.1.1.2, fun ht => ?_, fun x hx => key x ((incr_pair h.2).2 x hx)⟩
  rcases h.1.2 with g | g
  · rw [ht] at g; cases g
  · exact List.eq_nil_of_length_eq_zero g
theorem ok_vPrint : (match Try.f25.body with | some c => codeOk Try.f25.ntmps c | none => false) = true := by kernel_rfl
theorem en_vPrint : ∃ fn, Try.prog.funcs[25]? = some fn ∧ (fn.name == "runtime.NumGoroutine") = false ∧ fn.body.isNone = false := ⟨_, Try.func25, by kernel_rfl, by kernel_rfl⟩
theorem vPrint_w (t : Bool) (n : Int) (l : List Int) (A : Option Addr) (c : Nat) (w : World) (hs : SlAt w A 1 (ints l)) (hl : l.length ≤ 1000) : PuAt Try.prog 25 [.agg ⟨[.bool t, .int .i64 n, .slice A l.length c]⟩] (.tuple ⟨[.string (vPrintV t n l).1, .int .i64 (vPrintV t n l).2]⟩) w := by
  refine funcR_pure tyOk wide Try.func25 ok_vPrint (Nat.le_of_ble_eq_true rfl) ?_
  have hR := fun w hw => vRight_w t n l A c w hw hl
  cases hr : vRightB t n l with
  | false =>
    rw [hr] at hR
    repeat' first
      | (conv => whnf
         first
         | intro _
         | (first | refine selSplit (fun h => ?_) (fun h => ?_) | refine condSplit (fun h => ?_) (fun h => ?_)) <;> first | exact (clash (by assumption) h).elim | exact (clash h (by assumption)).elim | (simp only [decide_eq_true_eq, decide_eq_false_iff_not, Bool.not_eq_true', Bool.not_eq_false', Bool.not_true, Bool.not_false, Bool.or_eq_true, Bool.and_eq_true, Bool.or_eq_false_iff, Bool.and_eq_false_iff, beq_iff_eq, beq_eq_false_iff_ne, ne_eq] at h; first | (exfalso; omega) | skip) | skip
         | refine SeqP.go ?_
         | refine cdM ?_
         | exact IsV.mk
         | apply GuardP.mk
         | ((first | apply callPure' en_vRight | apply callQuiet' en_vRight); · exact fun w hw => hR w (hs.later hw))
         | refine Or.inl ⟨_, _, hasM, ?_⟩
         | refine Or.inl ⟨_, _, _, holeM, rfl, rfl, ?_⟩
         | refine lA ?_
         | refine lA0 ?_
         | refine lA1 ?_
         | refine lO ?_
         | refine lO0 ?_
         | refine lO1 ?_
         | refine lR ?_
         | refine lG ?_
         | refine lG0 ?_
         | refine tA ?_
         | refine tA0 ?_
         | refine tA1 ?_
         | refine BytW.ofBlk hasM rfl rfl ?_
         | refine AppW.noneB hasM leM rfl rfl rfl leM leM ?_
         | refine AppW.rowB hasM leM rfl rfl holeM leM leM ?_
         | refine AppW.blkB hasM leM rfl rfl holeM rfl rfl leM leM ?_
         | refine AppW.rowS hasM leM rfl rfl holeM (by omega) leM ?_
         | refine AppW.arrS hasM leM rfl rfl rfl holeM (by first | omega | (simp; omega)) leM ?_
         | refine ⟨sideM, ?_⟩
         | fail)
    all_goals (try conv => whnf)
    all_goals first | (exfalso; simp at h; done) | (unfold vPrintV; rw [if_pos hr]; rfl)
  | true =>
    rw [hr] at hR
    obtain ⟨hn, hl16, hnil, hall⟩ := right_all hr
    have e1 := hi8 n hn
    have e2 := wu8' n
    have e3 : IntKind.u8.wrap (l.length : Int) = l.length := by rw [wu8']; omega
    have hv : vPrintV t n l = (mkS (vPrintL t n l), 0) := by unfold vPrintV; rw [if_neg (by rw [hr]; decide)]
    rw [hv]
    cases t with
    | false =>
      repeat' first
        | (conv => whnf
           first
           | intro _
           | (first | refine selSplit (fun h => ?_) (fun h => ?_) | refine condSplit (fun h => ?_) (fun h => ?_)) <;> first | exact (clash (by assumption) h).elim | exact (clash h (by assumption)).elim | (simp only [decide_eq_true_eq, decide_eq_false_iff_not, Bool.not_eq_true', Bool.not_eq_false', Bool.not_true, Bool.not_false, Bool.or_eq_true, Bool.and_eq_true, Bool.or_eq_false_iff, Bool.and_eq_false_iff, beq_iff_eq, beq_eq_false_iff_ne, ne_eq] at h; first | (exfalso; omega) | skip) | skip
           | refine SeqP.go ?_
           | refine cdM ?_
           | exact IsV.mk
           | apply GuardP.mk
           | ((first | apply callPure' en_vRight | apply callQuiet' en_vRight); · exact fun w hw => hR w (hs.later hw))
           | refine Or.inl ⟨_, _, hasM, ?_⟩
           | refine Or.inl ⟨_, _, _, holeM, rfl, rfl, ?_⟩
           | refine lA ?_
           | refine lA0 ?_
           | refine lA1 ?_
           | refine lO ?_
           | refine lO0 ?_
           | refine lO1 ?_
           | refine lR ?_
           | refine lG ?_
           | refine lG0 ?_
           | refine tA ?_
           | refine tA0 ?_
           | refine tA1 ?_
           | refine BytW.ofBlk hasM rfl rfl ?_
           | refine AppW.noneB hasM leM rfl rfl rfl leM leM ?_
           | refine AppW.rowB hasM leM rfl rfl holeM leM leM ?_
           | refine AppW.blkB hasM leM rfl rfl holeM rfl rfl leM leM ?_
           | refine AppW.rowS hasM leM rfl rfl holeM (by omega) leM ?_
           | refine AppW.arrS hasM leM rfl rfl rfl holeM (by first | omega | (simp; omega)) leM ?_
           | refine ⟨sideM, ?_⟩
           | fail)
      all_goals (try conv => whnf)
      refine congrArg (fun t => Value.tuple ⟨[.string t, .int .i64 0]⟩) ?_
      show mkS [65, _, _] = mkS [65, n / 256, n % 256]
      rw [e1, e2]
    | true =>
      repeat' first
        | (conv => whnf
           first
           | intro _
           | (first | refine selSplit (fun h => ?_) (fun h => ?_) | refine condSplit (fun h => ?_) (fun h => ?_)) <;> first | exact (clash (by assumption) h).elim | exact (clash h (by assumption)).elim | (simp only [decide_eq_true_eq, decide_eq_false_iff_not, Bool.not_eq_true', Bool.not_eq_false', Bool.not_true, Bool.not_false, Bool.or_eq_true, Bool.and_eq_true, Bool.or_eq_false_iff, Bool.and_eq_false_iff, beq_iff_eq, beq_eq_false_iff_ne, ne_eq] at h; first | (exfalso; omega) | skip) | skip
           | refine SeqP.go ?_
           | refine cdM ?_
           | exact IsV.mk
           | apply GuardP.mk
           | ((first | apply callPure' en_vRight | apply callQuiet' en_vRight); · exact fun w hw => hR w (hs.later hw))
           | refine Or.inl ⟨_, _, hasM, ?_⟩
           | refine Or.inl ⟨_, _, _, holeM, rfl, rfl, ?_⟩
           | refine lA ?_
           | refine lA0 ?_
           | refine lA1 ?_
           | refine lO ?_
           | refine lO0 ?_
           | refine lO1 ?_
           | refine lR ?_
           | refine lG ?_
           | refine lG0 ?_
           | refine tA ?_
           | refine tA0 ?_
           | refine tA1 ?_
           | refine BytW.ofBlk hasM rfl rfl ?_
           | refine AppW.noneE hasM leM rfl leM rfl rfl leM leM ?_
           | refine AppW.rowE hasM leM rfl leM rfl holeM (by first | exact leM | omega) leM ?_
           | refine AppW.blkE hasM leM rfl leM rfl holeM rfl rfl leM leM ?_
           | refine AppW.noneB hasM leM rfl rfl rfl leM leM ?_
           | refine AppW.rowB hasM leM rfl rfl holeM leM leM ?_
           | refine AppW.blkB hasM leM rfl rfl holeM rfl rfl leM leM ?_
           | refine AppW.rowS hasM leM rfl rfl holeM (by omega) leM ?_
           | refine AppW.arrS hasM leM rfl rfl rfl holeM (by first | omega | (simp; omega)) leM ?_
           | refine ⟨sideM, ?_⟩
           | fail)
      all_goals (try conv => whnf)
      rename_i b1 b2 b3 g0 q0 hq0
      refine .mk (Nat × Nat × Nat) (fun ⟨k, g, q⟩ S H => (k ≤ l.length ∧ 4 + 2 * k ≤ q) ∧ S = [(32, .int .i64 k), (31, .int .i64 l.length), (30, .slice A l.length c), (4, .slice (some ⟨g, 0, none⟩) (4 + 2 * k) q)] ∧ H = [.row (.slice (some ⟨g, 0, none⟩) (4 + 2 * k) q) 5 1 (4 + 2 * k) ((headL n l.length ++ pairL (l.take k)).map (Value.int .u8))]) (fun s => l.length - s.1) (0, g0, q0) _ _ ⟨⟨by omega, hq0⟩, rfl, rfl⟩ subM (by
        have e : ((headL n l.length ++ pairL (l.take 0)).map (Value.int .u8)) = [.int .u8 84, .int .u8 (IntKind.u8.wrap (n.fdiv (2 ^ min (Int.toNat 8) IntKind.i64.bits))), .int .u8 (IntKind.u8.wrap n), .int .u8 (IntKind.u8.wrap l.length)] := by rw [e1, e2, e3]; rfl
        rw [e]; exact entM) ?_
      rintro ⟨k, g, q⟩ S1 H1 ⟨⟨hk, hq⟩, rfl, rfl⟩
      by_cases hk2 : k < l.length
      · obtain ⟨b, o, e, _⟩ := hs.at_ (by rw [ints_len]; omega)
        subst e
        have o1 := hs.old (X := []) (by rw [ints_len]; omega) (by simp)
        obtain ⟨x, hx⟩ : ∃ x, l[k]? = some x := ⟨l[k], List.getElem?_eq_getElem hk2⟩
        have y1 := ints_at hx
        have hx1 := hi8 x (hall x (List.mem_of_getElem? hx))
        have hx2 := wu8' x
        have hp := pairL_succ hx
        repeat' first
          | (conv => whnf
             first
             | intro _
             | (first | refine selSplit (fun h => ?_) (fun h => ?_) | refine condSplit (fun h => ?_) (fun h => ?_)) <;> first | exact (clash (by assumption) h).elim | exact (clash h (by assumption)).elim | (simp only [decide_eq_true_eq, decide_eq_false_iff_not, Bool.not_eq_true', Bool.not_eq_false', Bool.not_true, Bool.not_false, Bool.or_eq_true, Bool.and_eq_true, Bool.or_eq_false_iff, Bool.and_eq_false_iff, beq_iff_eq, beq_eq_false_iff_ne, ne_eq] at h; first | (exfalso; omega) | skip) | skip
             | refine SeqP.go ?_
             | refine cdM ?_
             | exact IsV.mk
             | apply GuardP.mk
             | refine Or.inl ⟨_, _, hasM, ?_⟩
             | refine Or.inl ⟨_, _, _, holeM, rfl, rfl, ?_⟩
             | refine lA ?_
             | refine lA0 ?_
             | refine lA1 ?_
             | refine lO ?_
             | refine lO0 ?_
             | refine lO1 ?_
             | refine lR ?_
             | refine lG ?_
             | refine lG0 ?_
             | refine tA ?_
             | refine tA0 ?_
             | refine tA1 ?_
             | refine BytW.ofBlk hasM rfl rfl ?_
             | refine AppW.noneE hasM leM rfl leM rfl rfl leM leM ?_
             | refine AppW.rowE hasM leM rfl leM rfl holeM (by first | exact leM | omega) leM ?_
             | refine AppW.blkE hasM leM rfl leM rfl holeM rfl rfl leM leM ?_
             | refine AppW.noneB hasM leM rfl rfl rfl leM leM ?_
             | refine AppW.rowB hasM leM rfl rfl holeM leM leM ?_
             | refine AppW.blkB hasM leM rfl rfl holeM rfl rfl leM leM ?_
             | refine AppW.rowS hasM leM rfl rfl holeM (by omega) leM ?_
             | refine AppW.arrS hasM leM rfl rfl rfl holeM (by first | omega | (simp; omega)) leM ?_
             | refine ⟨sideM, ?_⟩
             | fail)
        all_goals (try conv => whnf)
        rename_i g1 q1 hq1
        exact .mk (k + 1, g1, q1) _ _ (by show _ - (k + 1) < _ - k; omega) ⟨⟨hk2, by omega⟩, rfl, rfl⟩ subM (by rw [hp, ← hx1, ← hx2, ← List.append_assoc, List.map_append (l₁ := headL n l.length ++ pairL (l.take k))]; exact entM)
      · obtain rfl : k = l.length := by omega
        have hlen : (headL n l.length ++ pairL (l.take l.length)).length = 4 + 2 * l.length := by rw [List.length_append, pairL_len, List.take_length]; rfl
        repeat' first
          | (conv => whnf
             first
             | intro _
             | (first | refine selSplit (fun h => ?_) (fun h => ?_) | refine condSplit (fun h => ?_) (fun h => ?_)) <;> first | exact (clash (by assumption) h).elim | exact (clash h (by assumption)).elim | (simp only [decide_eq_true_eq, decide_eq_false_iff_not, Bool.not_eq_true', Bool.not_eq_false', Bool.not_true, Bool.not_false, Bool.or_eq_true, Bool.and_eq_true, Bool.or_eq_false_iff, Bool.and_eq_false_iff, beq_iff_eq, beq_eq_false_iff_ne, ne_eq] at h; first | (exfalso; omega) | skip) | skip
             | refine SeqP.go ?_
             | refine cdM ?_
             | exact IsV.mk
             | apply GuardP.mk
             | (refine BytW.ofRowX (headL n l.length ++ pairL (l.take l.length)) hasM rfl hlen ?_)
             | refine Or.inl ⟨_, _, hasM, ?_⟩
             | refine Or.inl ⟨_, _, _, holeM, rfl, rfl, ?_⟩
             | refine lA ?_
             | refine lA0 ?_
             | refine lA1 ?_
             | refine lO ?_
             | refine lO0 ?_
             | refine lO1 ?_
             | refine lR ?_
             | refine lG ?_
             | refine lG0 ?_
             | refine tA ?_
             | refine tA0 ?_
             | refine tA1 ?_
             | refine BytW.ofBlk hasM rfl rfl ?_
             | refine AppW.noneB hasM leM rfl rfl rfl leM leM ?_
             | refine AppW.rowB hasM leM rfl rfl holeM leM leM ?_
             | refine AppW.blkB hasM leM rfl rfl holeM rfl rfl leM leM ?_
             | refine AppW.rowS hasM leM rfl rfl holeM (by omega) leM ?_
             | refine AppW.arrS hasM leM rfl rfl rfl holeM (by first | omega | (simp; omega)) leM ?_
             | refine ⟨sideM, ?_⟩
             | fail)
        all_goals (try conv => whnf)
        all_goals first
          | (exfalso; omega)
          | (rw [List.take_length]; rfl)
theorem ok_two6 : (match Try.f66.body with | some c => codeOk Try.f66.ntmps c | none => false) = true := by kernel_rfl
theorem en_two6 : ∃ fn, Try.prog.funcs[66]? = some fn ∧ (fn.name == "runtime.NumGoroutine") = false ∧ fn.body.isNone = false := ⟨_, Try.func66, by kernel_rfl, by kernel_rfl⟩
theorem two6_w (x : Int) (h : 0 ≤ x ∧ x < 65536) (w : World) : PuAt Try.prog 66 [.int .i64 x] (.string (mkS [x / 256, x % 256])) w := by
  refine funcR_pure tyOk wide Try.func66 ok_two6 (Nat.le_of_ble_eq_true rfl) ?_
  repeat' first
    | (conv => whnf
       first
       | intro _
       | (first | refine selSplit (fun h => ?_) (fun h => ?_) | refine condSplit (fun h => ?_) (fun h => ?_)) <;> first | exact (clash (by assumption) h).elim | exact (clash h (by assumption)).elim | (simp only [decide_eq_true_eq, decide_eq_false_iff_not, Bool.not_eq_true', Bool.not_eq_false', Bool.not_true, Bool.not_false, Bool.or_eq_true, Bool.and_eq_true, Bool.or_eq_false_iff, Bool.and_eq_false_iff, beq_iff_eq, beq_eq_false_iff_ne, ne_eq] at h; first | (exfalso; omega) | skip) | skip
       | refine SeqP.go ?_
       | refine cdM ?_
       | exact IsV.mk
       | apply GuardP.mk
       | refine Or.inl ⟨_, _, hasM, ?_⟩
       | refine Or.inl ⟨_, _, _, holeM, rfl, rfl, ?_⟩
       | refine lA ?_
       | refine lA0 ?_
       | refine lA1 ?_
       | refine lO ?_
       | refine lO0 ?_
       | refine lO1 ?_
       | refine lR ?_
       | refine lG ?_
       | refine lG0 ?_
       | refine tA ?_
       | refine tA0 ?_
       | refine tA1 ?_
       | refine BytW.ofBlk hasM rfl rfl ?_
       | refine AppW.noneB hasM leM rfl rfl rfl leM leM ?_
       | refine AppW.rowB hasM leM rfl rfl holeM leM leM ?_
       | refine AppW.blkB hasM leM rfl rfl holeM rfl rfl leM leM ?_
       | refine AppW.rowS hasM leM rfl rfl holeM (by omega) leM ?_
       | refine AppW.arrS hasM leM rfl rfl rfl holeM (by first | omega | (simp; omega)) leM ?_
       | refine ⟨sideM, ?_⟩
       | fail)
  all_goals (try conv => whnf)
  refine v_str (mk2 ?_ ?_)
  · rw [Int.tdiv_eq_ediv_of_nonneg (by omega), w64 (by omega) (by omega), wu8']; omega
  · rw [Int.tmod_eq_emod_of_nonneg (by omega), wu8']; omega
theorem small3 (a b m : Int) : ((⟨#[84]⟩ : ByteArray) ++ mkS [a, b]).size + (mkS [m]).size ≤ 9223372036854775807 := by simp only [ByteArray.size_append, mkS_size, List.length_cons, List.length_nil]; exact (by decide)
theorem small4 (L : List Int) (a b : Int) (h : L.length ≤ 1000) : (mkS L).size + (mkS [a, b]).size ≤ 9223372036854775807 := by simp only [mkS_size, List.length_cons, List.length_nil]; omega
theorem head_str (n : Int) (m : Nat) (z : Int) (h : z = m) : (⟨#[84]⟩ : ByteArray) ++ mkS [n / 256, n % 256] ++ mkS [z] = mkS (headL n m ++ pairL []) := by
  subst h
  rw [show (⟨#[84]⟩ : ByteArray) = mkS [84] from rfl, ← mkS_append, ← mkS_append]; rfl
theorem ok_print6 : (match Try.f26.body with | some c => codeOk Try.f26.ntmps c | none => false) = true := by kernel_rfl
theorem en_print6 : ∃ fn, Try.prog.funcs[26]? = some fn ∧ (fn.name == "runtime.NumGoroutine") = false ∧ fn.body.isNone = false := ⟨_, Try.func26, by kernel_rfl, by kernel_rfl⟩
theorem print6_w (t : Bool) (n : Int) (l : List Int) (A : Option Addr) (c : Nat) (w : World) (hs : SlAt w A 1 (ints l)) (hl : l.length ≤ 1000) : PuAt Try.prog 26 [.agg ⟨[.bool t, .int .i64 n, .slice A l.length c]⟩] (.tuple ⟨[.string (vPrintV t n l).1, .int .i64 (vPrintV t n l).2]⟩) w := by
  refine funcR_pure tyOk wide Try.func26 ok_print6 (Nat.le_of_ble_eq_true rfl) ?_
  have hR := fun w hw => right6_w t n l A c w hw hl
  cases hr : vRightB t n l with
  | false =>
    rw [hr] at hR
    repeat' first
      | (conv => whnf
         first
         | intro _
         | (first | refine selSplit (fun h => ?_) (fun h => ?_) | refine condSplit (fun h => ?_) (fun h => ?_)) <;> first | exact (clash (by assumption) h).elim | exact (clash h (by assumption)).elim | (simp only [decide_eq_true_eq, decide_eq_false_iff_not, Bool.not_eq_true', Bool.not_eq_false', Bool.not_true, Bool.not_false, Bool.or_eq_true, Bool.and_eq_true, Bool.or_eq_false_iff, Bool.and_eq_false_iff, beq_iff_eq, beq_eq_false_iff_ne, ne_eq] at h; first | (exfalso; omega) | skip) | skip
         | (first | refine drM (.quiet 0 (.quiet 1 (.quiet 2 (.quiet 3 (.quiet 4 (.quiet 5 (.quiet 6 (.quiet 7 (.last 8 true (.last 9 true (.last 10 false (.last 11 false .done)))))))))))) (SubL.of (List.Sublist.cons _ (List.Sublist.refl _))) ?_)
         | refine AltP.mk ?_ ?_
         | refine kpM ?_
         | refine SeqP.go ?_
         | refine cdM ?_
         | exact IsV.mk
         | apply GuardP.mk
         | ((first | apply callPure' en_right6 | apply callQuiet' en_right6); · exact fun w hw => hR w (hs.later hw))
         | refine Or.inl ⟨_, _, hasM, ?_⟩
         | refine Or.inl ⟨_, _, _, holeM, rfl, rfl, ?_⟩
         | refine lA ?_
         | refine lA0 ?_
         | refine lA1 ?_
         | refine lO ?_
         | refine lO0 ?_
         | refine lO1 ?_
         | refine lR ?_
         | refine lG ?_
         | refine lG0 ?_
         | refine tA ?_
         | refine tA0 ?_
         | refine tA1 ?_
         | refine BytW.ofBlk hasM rfl rfl ?_
         | refine AppW.noneB hasM leM rfl rfl rfl leM leM ?_
         | refine AppW.rowB hasM leM rfl rfl holeM leM leM ?_
         | refine AppW.blkB hasM leM rfl rfl holeM rfl rfl leM leM ?_
         | refine AppW.rowS hasM leM rfl rfl holeM (by omega) leM ?_
         | refine AppW.arrS hasM leM rfl rfl rfl holeM (by first | omega | (simp; omega)) leM ?_
         | refine ⟨sideM, ?_⟩
         | fail)
    all_goals (try conv => whnf)
    all_goals first | (exfalso; simp at h; done) | (unfold vPrintV; rw [if_pos hr]; rfl)
  | true =>
    rw [hr] at hR
    obtain ⟨hn, hl16, hnil, hall⟩ := right_all hr
    have e3 : IntKind.u8.wrap (l.length : Int) = l.length := by rw [wu8']; omega
    have hv : vPrintV t n l = (mkS (vPrintL t n l), 0) := by unfold vPrintV; rw [if_neg (by rw [hr]; decide)]
    rw [hv]
    cases t with
    | false =>
      repeat' first
        | (conv => whnf
           first
           | intro _
           | (first | refine selSplit (fun h => ?_) (fun h => ?_) | refine condSplit (fun h => ?_) (fun h => ?_)) <;> first | exact (clash (by assumption) h).elim | exact (clash h (by assumption)).elim | (simp only [decide_eq_true_eq, decide_eq_false_iff_not, Bool.not_eq_true', Bool.not_eq_false', Bool.not_true, Bool.not_false, Bool.or_eq_true, Bool.and_eq_true, Bool.or_eq_false_iff, Bool.and_eq_false_iff, beq_iff_eq, beq_eq_false_iff_ne, ne_eq] at h; first | (exfalso; omega) | skip) | skip
           | (first | refine drM (.quiet 0 (.quiet 1 (.quiet 2 (.quiet 3 (.quiet 4 (.quiet 5 (.quiet 6 (.quiet 7 (.last 8 true (.last 9 true (.last 10 false (.last 11 false .done)))))))))))) (SubL.of (List.Sublist.cons _ (List.Sublist.refl _))) ?_)
           | refine AltP.mk ?_ ?_
           | refine kpM ?_
           | refine SeqP.go ?_
           | refine cdM ?_
           | exact IsV.mk
           | apply GuardP.mk
           | ((first | apply callPure' en_right6 | apply callQuiet' en_right6); · exact fun w hw => hR w (hs.later hw))
           | ((first | apply callPure' en_two6 | apply callQuiet' en_two6); · exact fun w _ => two6_w n ⟨by omega, by omega⟩ w)
           | ((refine And.intro ?_ ?_; · (simp only [ByteArray.size_append, mkS_size, List.length_cons, List.length_nil]; exact (by decide))))
           | refine Or.inl ⟨_, _, hasM, ?_⟩
           | refine Or.inl ⟨_, _, _, holeM, rfl, rfl, ?_⟩
           | refine lA ?_
           | refine lA0 ?_
           | refine lA1 ?_
           | refine lO ?_
           | refine lO0 ?_
           | refine lO1 ?_
           | refine lR ?_
           | refine lG ?_
           | refine lG0 ?_
           | refine tA ?_
           | refine tA0 ?_
           | refine tA1 ?_
           | refine BytW.ofBlk hasM rfl rfl ?_
           | refine AppW.noneB hasM leM rfl rfl rfl leM leM ?_
           | refine AppW.rowB hasM leM rfl rfl holeM leM leM ?_
           | refine AppW.blkB hasM leM rfl rfl holeM rfl rfl leM leM ?_
           | refine AppW.rowS hasM leM rfl rfl holeM (by omega) leM ?_
           | refine AppW.arrS hasM leM rfl rfl rfl holeM (by first | omega | (simp; omega)) leM ?_
           | refine ⟨sideM, ?_⟩
           | fail)
      all_goals (try conv => whnf)
      rfl
    | true =>
      repeat' first
        | (conv => whnf
           first
           | intro _
           | (first | refine selSplit (fun h => ?_) (fun h => ?_) | refine condSplit (fun h => ?_) (fun h => ?_)) <;> first | exact (clash (by assumption) h).elim | exact (clash h (by assumption)).elim | (simp only [decide_eq_true_eq, decide_eq_false_iff_not, Bool.not_eq_true', Bool.not_eq_false', Bool.not_true, Bool.not_false, Bool.or_eq_true, Bool.and_eq_true, Bool.or_eq_false_iff, Bool.and_eq_false_iff, beq_iff_eq, beq_eq_false_iff_ne, ne_eq] at h; first | (exfalso; omega) | skip) | skip
           | (first | refine drM (.quiet 0 (.quiet 1 (.quiet 2 (.quiet 3 (.quiet 4 (.quiet 5 (.quiet 6 (.quiet 7 (.last 8 true (.last 9 true (.last 10 false (.last 11 false .done)))))))))))) (SubL.refl _) ?_)
           | refine AltP.mk ?_ ?_
           | refine kpM ?_
           | refine SeqP.go ?_
           | refine cdM ?_
           | exact IsV.mk
           | apply GuardP.mk
           | ((first | apply callPure' en_right6 | apply callQuiet' en_right6); · exact fun w hw => hR w (hs.later hw))
           | ((first | apply callPure' en_two6 | apply callQuiet' en_two6); · exact fun w _ => two6_w n ⟨by omega, by omega⟩ w)
           | (refine And.intro (small3 (n / 256) (n % 256) (IntKind.u8.wrap l.length)) ?_)
           | ((refine And.intro ?_ ?_; · (simp only [ByteArray.size_append, mkS_size, List.length_cons, List.length_nil]; exact (by decide))))
           | refine Or.inl ⟨_, _, hasM, ?_⟩
           | refine Or.inl ⟨_, _, _, holeM, rfl, rfl, ?_⟩
           | refine lA ?_
           | refine lA0 ?_
           | refine lA1 ?_
           | refine lO ?_
           | refine lO0 ?_
           | refine lO1 ?_
           | refine lR ?_
           | refine lG ?_
           | refine lG0 ?_
           | refine tA ?_
           | refine tA0 ?_
           | refine tA1 ?_
           | refine BytW.ofBlk hasM rfl rfl ?_
           | refine AppW.noneB hasM leM rfl rfl rfl leM leM ?_
           | refine AppW.rowB hasM leM rfl rfl holeM leM leM ?_
           | refine AppW.blkB hasM leM rfl rfl holeM rfl rfl leM leM ?_
           | refine AppW.rowS hasM leM rfl rfl holeM (by omega) leM ?_
           | refine AppW.arrS hasM leM rfl rfl rfl holeM (by first | omega | (simp; omega)) leM ?_
           | refine ⟨sideM, ?_⟩
           | fail)
      all_goals (try conv => whnf)
      rename_i b1 b2
      refine .mk Nat (fun k S H => k ≤ l.length ∧ S = [(5, .int .i64 k), (4, .string (mkS (headL n l.length ++ pairL (l.take k)))), (1, .pointer (some ⟨b1, 0, none⟩))] ∧ H = [.blk b1 [.bool true, .int .i64 n, .slice A l.length c] 52]) (fun k => l.length - k) 0 _ _ ⟨by omega, rfl, rfl⟩ ⟨rfl, eq_str (head_str n l.length _ e3), rfl, trivial⟩ entM ?_
      rintro k S1 H1 ⟨hk, rfl, rfl⟩
      by_cases hk2 : k < l.length
      · obtain ⟨b, o, e, _⟩ := hs.at_ (by rw [ints_len]; omega)
        subst e
        have o1 := hs.old (X := []) (by rw [ints_len]; omega) (by simp)
        obtain ⟨x, hx⟩ : ∃ x, l[k]? = some x := ⟨l[k], List.getElem?_eq_getElem hk2⟩
        have y1 := ints_at hx
        have hxr := hall x (List.mem_of_getElem? hx)
        have hp := pairL_succ hx
        have hlen : (headL n l.length ++ pairL (l.take k)).length ≤ 1000 := by rw [List.length_append, pairL_len, List.length_take]; show 4 + _ ≤ _; omega
        repeat' first
          | (conv => whnf
             first
             | intro _
             | (first | refine selSplit (fun h => ?_) (fun h => ?_) | refine condSplit (fun h => ?_) (fun h => ?_)) <;> first | exact (clash (by assumption) h).elim | exact (clash h (by assumption)).elim | (simp only [decide_eq_true_eq, decide_eq_false_iff_not, Bool.not_eq_true', Bool.not_eq_false', Bool.not_true, Bool.not_false, Bool.or_eq_true, Bool.and_eq_true, Bool.or_eq_false_iff, Bool.and_eq_false_iff, beq_iff_eq, beq_eq_false_iff_ne, ne_eq] at h; first | (exfalso; omega) | skip) | skip
             | (first | refine drM (.quiet 0 (.quiet 1 (.quiet 2 (.quiet 3 (.quiet 4 (.quiet 5 (.quiet 6 (.quiet 7 (.last 8 true (.last 9 true (.last 10 false (.last 11 false .done)))))))))))) (SubL.of (List.Sublist.cons _ (List.Sublist.refl _))) ?_)
             | refine AltP.mk ?_ ?_
             | refine kpM ?_
             | refine SeqP.go ?_
             | refine cdM ?_
             | exact IsV.mk
             | apply GuardP.mk
             | ((first | apply callPure' en_two6 | apply callQuiet' en_two6); · exact fun w _ => two6_w x ⟨by omega, by omega⟩ w)
             | (refine And.intro (small4 (headL n l.length ++ pairL (l.take k)) (x / 256) (x % 256) hlen) ?_)
             | refine Or.inl ⟨_, _, hasM, ?_⟩
             | refine Or.inl ⟨_, _, _, holeM, rfl, rfl, ?_⟩
             | refine lA ?_
             | refine lA0 ?_
             | refine lA1 ?_
             | refine lO ?_
             | refine lO0 ?_
             | refine lO1 ?_
             | refine lR ?_
             | refine lG ?_
             | refine lG0 ?_
             | refine tA ?_
             | refine tA0 ?_
             | refine tA1 ?_
             | refine BytW.ofBlk hasM rfl rfl ?_
             | refine AppW.noneB hasM leM rfl rfl rfl leM leM ?_
             | refine AppW.rowB hasM leM rfl rfl holeM leM leM ?_
             | refine AppW.blkB hasM leM rfl rfl holeM rfl rfl leM leM ?_
             | refine AppW.rowS hasM leM rfl rfl holeM (by omega) leM ?_
             | refine AppW.arrS hasM leM rfl rfl rfl holeM (by first | omega | (simp; omega)) leM ?_
             | refine ⟨sideM, ?_⟩
             | fail)
        all_goals (try conv => whnf)
        exact .mk (k + 1) _ _ (by omega) ⟨hk2, rfl, rfl⟩ ⟨eq_int (by rw [w64 (by omega) (by omega)]; push_cast; rfl), eq_str (by rw [hp, ← List.append_assoc, mkS_append (headL n l.length ++ pairL (l.take k))]), rfl, trivial⟩ entM
      · obtain rfl : k = l.length := by omega
        repeat' first
          | (conv => whnf
             first
             | intro _
             | (first | refine selSplit (fun h => ?_) (fun h => ?_) | refine condSplit (fun h => ?_) (fun h => ?_)) <;> first | exact (clash (by assumption) h).elim | exact (clash h (by assumption)).elim | (simp only [decide_eq_true_eq, decide_eq_false_iff_not, Bool.not_eq_true', Bool.not_eq_false', Bool.not_true, Bool.not_false, Bool.or_eq_true, Bool.and_eq_true, Bool.or_eq_false_iff, Bool.and_eq_false_iff, beq_iff_eq, beq_eq_false_iff_ne, ne_eq] at h; first | (exfalso; omega) | skip) | skip
             | (first | refine drM (.quiet 0 (.quiet 1 (.quiet 2 (.quiet 3 (.quiet 4 (.quiet 5 (.quiet 6 (.quiet 7 (.last 8 true (.last 9 true (.last 10 false (.last 11 false .done)))))))))))) (SubL.of (List.Sublist.cons _ (List.Sublist.refl _))) ?_)
             | refine AltP.mk ?_ ?_
             | refine kpM ?_
             | refine SeqP.go ?_
             | refine cdM ?_
             | exact IsV.mk
             | apply GuardP.mk
             | refine Or.inl ⟨_, _, hasM, ?_⟩
             | refine Or.inl ⟨_, _, _, holeM, rfl, rfl, ?_⟩
             | refine lA ?_
             | refine lA0 ?_
             | refine lA1 ?_
             | refine lO ?_
             | refine lO0 ?_
             | refine lO1 ?_
             | refine lR ?_
             | refine lG ?_
             | refine lG0 ?_
             | refine tA ?_
             | refine tA0 ?_
             | refine tA1 ?_
             | refine BytW.ofBlk hasM rfl rfl ?_
             | refine AppW.noneB hasM leM rfl rfl rfl leM leM ?_
             | refine AppW.rowB hasM leM rfl rfl holeM leM leM ?_
             | refine AppW.blkB hasM leM rfl rfl holeM rfl rfl leM leM ?_
             | refine AppW.rowS hasM leM rfl rfl holeM (by omega) leM ?_
             | refine AppW.arrS hasM leM rfl rfl rfl holeM (by first | omega | (simp; omega)) leM ?_
             | refine ⟨sideM, ?_⟩
             | fail)
        all_goals (try conv => whnf)
        all_goals first
          | (exfalso; omega)
          | (rw [List.take_length]; rfl)
end Go.Proofs.Ytgjdmlgdgbehoaa.Am
