/- Packages vlanport, treebridgeref06: a set-up out of a text. -/
import Derived.Test.YtgjdmlgdgbehoaaVlan3
set_option linter.unusedVariables false
set_option linter.unusedSimpArgs false
set_option maxRecDepth 100000
set_option maxHeartbeats 4000000
namespace Go.Proofs.Ytgjdmlgdgbehoaa.Am
open Go Go.RowKit
def valK (r : ByteArray) (k : Nat) : Int := if k = 0 then 0 else if k = 1 then byteAt r 0 else byteAt r 0 * 256 + byteAt r 1
theorem valK_succ (r : ByteArray) (k : Nat) (h : k < 2) : valK r (k + 1) = valK r k * 256 + byteAt r k ∧ (0 ≤ valK r k ∧ valK r k < 256) := by
  have h0 := byteAt_range r 0
  have h1 := byteAt_range r 1
  rcases (show k = 0 ∨ k = 1 by omega) with rfl | rfl
  · show byteAt r 0 = 0 * 256 + byteAt r 0 ∧ (0 : Int) ≤ 0 ∧ (0 : Int) < 256
    omega
  · show byteAt r 0 * 256 + byteAt r 1 = byteAt r 0 * 256 + byteAt r 1 ∧ 0 ≤ byteAt r 0 ∧ byteAt r 0 < 256
    omega
theorem valK_range (r : ByteArray) (k : Nat) : 0 ≤ valK r k ∧ valK r k < 65536 := by
  have h0 := byteAt_range r 0
  have h1 := byteAt_range r 1
  unfold valK
  split
  · omega
  · split <;> omega
def takR (r : ByteArray) (n : Nat) : ByteArray := if r.size < n then r else suf r n
def takV (r : ByteArray) (n : Nat) : Int := if r.size < n then 0 else valK r n
def takO (r : ByteArray) (n : Nat) (ok : Bool) : Bool := if r.size < n then false else ok
theorem ok_vtake : (match Try.f67.body with | some c => codeOk Try.f67.ntmps c | none => false) = true := by kernel_rfl
theorem en_vtake : ∃ fn, Try.prog.funcs[67]? = some fn ∧ (fn.name == "runtime.NumGoroutine") = false ∧ fn.body.isNone = false := ⟨_, Try.func67, by kernel_rfl, by kernel_rfl⟩
theorem vtake_w (r : ByteArray) (ok : Bool) (n bs bo : Nat) (w : World) (hn : n ≤ 2) (hw : St w (feet [.blk bs [.string r] 9, .blk bo [.bool ok] 4]) [.blk bs [.string r] 9, .blk bo [.bool ok] 4] w) :
    FnX Try.prog 67 [.int .i64 n, .pointer (some ⟨bs, 0, none⟩), .pointer (some ⟨bo, 0, none⟩)] [.blk bs [.string r] 9, .blk bo [.bool ok] 4] (fun _ : Unit => True) (fun _ => .int .i64 (takV r n)) (fun _ => [.blk bs [.string (takR r n)] 9, .blk bo [.bool (takO r n ok)] 4]) w := by
  refine funcR_x tyOk wide Try.func67 ok_vtake (Nat.le_of_ble_eq_true rfl) hw ?_
  unfold takV takR takO
  by_cases hlt : r.size < n
  · rw [if_pos hlt, if_pos hlt, if_pos hlt]
    repeat' first
      | (conv => whnf
         first
         | intro _
         | (first | refine selSplit (fun h => ?_) (fun h => ?_) | refine condSplit (fun h => ?_) (fun h => ?_)) <;> first | exact (clash (by assumption) h).elim | exact (clash h (by assumption)).elim | (simp only [decide_eq_true_eq, decide_eq_false_iff_not, Bool.not_eq_true', Bool.not_eq_false', Bool.not_true, Bool.not_false, Bool.or_eq_true, Bool.and_eq_true, Bool.or_eq_false_iff, Bool.and_eq_false_iff, beq_iff_eq, beq_eq_false_iff_ne, ne_eq] at h; first | (exfalso; omega) | skip) | skip
         | refine SeqP.go ?_
         | refine cdM ?_
         | exact IsV.mk
         | apply GuardP.mk
         | refine Or.inl ⟨_, _, hasM, ?_⟩
         | refine Or.inl ⟨_, _, _, holeM, rfl, rfl, ?_⟩
         | refine lA ?_
         | refine lA0 ?_
         | refine lA1 ?_
         | refine lO ?_
         | refine lO0 ?_
         | refine lO1 ?_
         | refine lR ?_
         | refine lG ?_
         | refine lG0 ?_
         | refine tA ?_
         | refine tA0 ?_
         | refine tA1 ?_
         | refine BytW.ofBlk hasM rfl rfl ?_
         | refine AppW.noneB hasM leM rfl rfl rfl leM leM ?_
         | refine AppW.rowB hasM leM rfl rfl holeM leM leM ?_
         | refine AppW.blkB hasM leM rfl rfl holeM rfl rfl leM leM ?_
         | refine AppW.rowS hasM leM rfl rfl holeM (by omega) leM ?_
         | refine AppW.arrS hasM leM rfl rfl rfl holeM (by first | omega | (simp; omega)) leM ?_
         | refine ⟨sideM, ?_⟩
         | fail)
    all_goals (try conv => whnf)
    all_goals first
      | (exfalso; omega)
      | exact EndX.mk () trivial rfl entM
  · rw [if_neg hlt, if_neg hlt, if_neg hlt]
    repeat' first
      | (conv => whnf
         first
         | intro _
         | (first | refine selSplit (fun h => ?_) (fun h => ?_) | refine condSplit (fun h => ?_) (fun h => ?_)) <;> first | exact (clash (by assumption) h).elim | exact (clash h (by assumption)).elim | (simp only [decide_eq_true_eq, decide_eq_false_iff_not, Bool.not_eq_true', Bool.not_eq_false', Bool.not_true, Bool.not_false, Bool.or_eq_true, Bool.and_eq_true, Bool.or_eq_false_iff, Bool.and_eq_false_iff, beq_iff_eq, beq_eq_false_iff_ne, ne_eq] at h; first | (exfalso; omega) | skip) | skip
         | refine SeqP.go ?_
         | refine cdM ?_
         | exact IsV.mk
         | apply GuardP.mk
         | refine Or.inl ⟨_, _, hasM, ?_⟩
         | refine Or.inl ⟨_, _, _, holeM, rfl, rfl, ?_⟩
         | refine lA ?_
         | refine lA0 ?_
         | refine lA1 ?_
         | refine lO ?_
         | refine lO0 ?_
         | refine lO1 ?_
         | refine lR ?_
         | refine lG ?_
         | refine lG0 ?_
         | refine tA ?_
         | refine tA0 ?_
         | refine tA1 ?_
         | refine BytW.ofBlk hasM rfl rfl ?_
         | refine AppW.noneB hasM leM rfl rfl rfl leM leM ?_
         | refine AppW.rowB hasM leM rfl rfl holeM leM leM ?_
         | refine AppW.blkB hasM leM rfl rfl holeM rfl rfl leM leM ?_
         | refine AppW.rowS hasM leM rfl rfl holeM (by omega) leM ?_
         | refine AppW.arrS hasM leM rfl rfl rfl holeM (by first | omega | (simp; omega)) leM ?_
         | refine ⟨sideM, ?_⟩
         | fail)
    all_goals (try conv => whnf)
    rename_i b q
    have hsz : (r.extract 0 n).size = n := by rw [ByteArray.size_extract]; omega
    refine .mk Nat (fun k S H => k ≤ n ∧ S = [(16, .int .i64 k), (15, .int .i64 n), (14, .slice (some ⟨b, 0, none⟩) n q), (4, .int .i64 (valK r k)), (0, .int .i64 n), (1, .pointer (some ⟨bs, 0, none⟩))] ∧ H = [.byt b (r.extract 0 n) q 5, .blk bs [.string r] 9, .blk bo [.bool ok] 4]) (fun k => n - k) 0 _ _ ⟨by omega, rfl, rfl⟩ ⟨rfl, eq_int (congrArg Int.ofNat hsz), congrArg (fun x => some (Value.slice (some ⟨b, 0, none⟩) x q)) hsz, rfl, rfl, rfl, trivial⟩ entM ?_
    rintro k S1 H1 ⟨hk, rfl, rfl⟩
    by_cases hk2 : k < n
    · have hl2 : k < (r.extract 0 n).size := by omega
      obtain ⟨hv, hr⟩ := valK_succ r k (by omega)
      have hb := byteAt_range r k
      have he : (((r.extract 0 n)[k]'hl2).toNat : Int) = byteAt r k := by rw [byteAt_eq, byteAt_extract r n k hk2 (by omega)]
      repeat' first
        | (conv => whnf
           first
           | intro _
           | (first | refine selSplit (fun h => ?_) (fun h => ?_) | refine condSplit (fun h => ?_) (fun h => ?_)) <;> first | exact (clash (by assumption) h).elim | exact (clash h (by assumption)).elim | (simp only [decide_eq_true_eq, decide_eq_false_iff_not, Bool.not_eq_true', Bool.not_eq_false', Bool.not_true, Bool.not_false, Bool.or_eq_true, Bool.and_eq_true, Bool.or_eq_false_iff, Bool.and_eq_false_iff, beq_iff_eq, beq_eq_false_iff_ne, ne_eq] at h; first | (exfalso; omega) | skip) | skip
           | refine SeqP.go ?_
           | refine cdM ?_
           | exact IsV.mk
           | apply GuardP.mk
           | (refine Or.inr ⟨[_], Rd.byt (i := k) hasM hl2, rfl, ?_⟩)
           | refine Or.inl ⟨_, _, hasM, ?_⟩
           | refine Or.inl ⟨_, _, _, holeM, rfl, rfl, ?_⟩
           | refine lA ?_
           | refine lA0 ?_
           | refine lA1 ?_
           | refine lO ?_
           | refine lO0 ?_
           | refine lO1 ?_
           | refine lR ?_
           | refine lG ?_
           | refine lG0 ?_
           | refine tA ?_
           | refine tA0 ?_
           | refine tA1 ?_
           | refine BytW.ofBlk hasM rfl rfl ?_
           | refine AppW.noneB hasM leM rfl rfl rfl leM leM ?_
           | refine AppW.rowB hasM leM rfl rfl holeM leM leM ?_
           | refine AppW.blkB hasM leM rfl rfl holeM rfl rfl leM leM ?_
           | refine AppW.rowS hasM leM rfl rfl holeM (by omega) leM ?_
           | refine AppW.arrS hasM leM rfl rfl rfl holeM (by first | omega | (simp; omega)) leM ?_
           | refine ⟨sideM, ?_⟩
           | fail)
      all_goals (try conv => whnf)
      all_goals refine .mk (k + 1) _ _ (by omega) ⟨by omega, rfl, rfl⟩ ⟨eq_int (by rw [w64 (by omega) (by omega)]; omega), rfl, rfl, eq_int (by rw [he, hv, ← or8 _ _ hr hb, w64 (x := valK r k) (by omega) (by omega)]), rfl, rfl, trivial⟩ entM
    · obtain rfl : k = n := by omega
      repeat' first
        | (conv => whnf
           first
           | intro _
           | (first | refine selSplit (fun h => ?_) (fun h => ?_) | refine condSplit (fun h => ?_) (fun h => ?_)) <;> first | exact (clash (by assumption) h).elim | exact (clash h (by assumption)).elim | (simp only [decide_eq_true_eq, decide_eq_false_iff_not, Bool.not_eq_true', Bool.not_eq_false', Bool.not_true, Bool.not_false, Bool.or_eq_true, Bool.and_eq_true, Bool.or_eq_false_iff, Bool.and_eq_false_iff, beq_iff_eq, beq_eq_false_iff_ne, ne_eq] at h; first | (exfalso; omega) | skip) | skip
           | refine SeqP.go ?_
           | refine cdM ?_
           | exact IsV.mk
           | apply GuardP.mk
           | refine Or.inl ⟨_, _, hasM, ?_⟩
           | refine Or.inl ⟨_, _, _, holeM, rfl, rfl, ?_⟩
           | refine lA ?_
           | refine lA0 ?_
           | refine lA1 ?_
           | refine lO ?_
           | refine lO0 ?_
           | refine lO1 ?_
           | refine lR ?_
           | refine lG ?_
           | refine lG0 ?_
           | refine tA ?_
           | refine tA0 ?_
           | refine tA1 ?_
           | refine BytW.ofBlk hasM rfl rfl ?_
           | refine AppW.noneB hasM leM rfl rfl rfl leM leM ?_
           | refine AppW.rowB hasM leM rfl rfl holeM leM leM ?_
           | refine AppW.blkB hasM leM rfl rfl holeM rfl rfl leM leM ?_
           | refine AppW.rowS hasM leM rfl rfl holeM (by omega) leM ?_
           | refine AppW.arrS hasM leM rfl rfl rfl holeM (by first | omega | (simp; omega)) leM ?_
           | refine ⟨sideM, ?_⟩
           | fail)
      all_goals (try conv => whnf)
      all_goals first
        | (exfalso; omega)
        | exact EndX.mk () trivial rfl entM
theorem vtake_1 (r : ByteArray) (ok : Bool) (bs bo : Nat) (w : World) (hw : St w (feet [.blk bs [.string r] 9, .blk bo [.bool ok] 4]) [.blk bs [.string r] 9, .blk bo [.bool ok] 4] w) :
    FnX Try.prog 67 [.int .i64 1, .pointer (some ⟨bs, 0, none⟩), .pointer (some ⟨bo, 0, none⟩)] [.blk bs [.string r] 9, .blk bo [.bool ok] 4] (fun _ : Unit => True) (fun _ => .int .i64 (takV r 1)) (fun _ => [.blk bs [.string (takR r 1)] 9, .blk bo [.bool (takO r 1 ok)] 4]) w := vtake_w r ok 1 bs bo w (by decide) hw
theorem vtake_2 (r : ByteArray) (ok : Bool) (bs bo : Nat) (w : World) (hw : St w (feet [.blk bs [.string r] 9, .blk bo [.bool ok] 4]) [.blk bs [.string r] 9, .blk bo [.bool ok] 4] w) :
    FnX Try.prog 67 [.int .i64 2, .pointer (some ⟨bs, 0, none⟩), .pointer (some ⟨bo, 0, none⟩)] [.blk bs [.string r] 9, .blk bo [.bool ok] 4] (fun _ : Unit => True) (fun _ => .int .i64 (takV r 2)) (fun _ => [.blk bs [.string (takR r 2)] 9, .blk bo [.bool (takO r 2 ok)] 4]) w := vtake_w r ok 2 bs bo w (by decide) hw
def stp (l : List Int) (r : ByteArray) (ok : Bool) : Nat → List Int × ByteArray × Bool
  | 0 => (l, r, ok)
  | k + 1 => stp (l ++ [takV r 2]) (takR r 2) (takO r 2 ok) k
theorem stp_len : ∀ (k : Nat) (l : List Int) (r : ByteArray) (ok : Bool), (stp l r ok k).1.length = l.length + k
  | 0, l, r, ok => rfl
  | k + 1, l, r, ok => by rw [stp, stp_len k]; simp; omega
def pK (s : ByteArray) : Int := takV s 1
def pR (s : ByteArray) : ByteArray := takR s 1
def pO (s : ByteArray) : Bool := takO s 1 true
def pN (s : ByteArray) : Int := takV (pR s) 2
def pS (s : ByteArray) : List Int × ByteArray × Bool :=
  if pK s = 84 then stp [] (takR (takR (pR s) 2) 1) (takO (takR (pR s) 2) 1 (takO (pR s) 2 (pO s))) (takV (takR (pR s) 2) 1).toNat else ([], takR (pR s) 2, takO (pR s) 2 (pO s))
def progP (s : ByteArray) : (Bool × Int × List Int) × Int :=
  if ((pS s).2.2 = false ∨ ¬ (pS s).2.1 = ⟨#[]⟩) ∨ (¬ pK s = 65 ∧ ¬ pK s = 84) ∨ vRightB (decide (pK s = 84)) (pN s) (pS s).1 = false then ((false, 0, []), 2) else ((decide (pK s = 84), pN s, (pS s).1), 0)
theorem takV_255 (r : ByteArray) : 0 ≤ takV r 1 ∧ takV r 1 ≤ 255 := by
  have := byteAt_range r 0
  unfold takV valK
  split
  · omega
  · rw [if_neg (by decide), if_pos rfl]; omega
theorem ok_vParse : (match Try.f27.body with | some c => codeOk Try.f27.ntmps c | none => false) = true := by kernel_rfl
theorem en_vParse : ∃ fn, Try.prog.funcs[27]? = some fn ∧ (fn.name == "runtime.NumGoroutine") = false ∧ fn.body.isNone = false := ⟨_, Try.func27, by kernel_rfl, by kernel_rfl⟩
theorem vParse_w (s : ByteArray) (w : World) : FnX Try.prog 27 [.string s] [] (fun a : Option Addr × Nat => True)
    (fun a => .tuple ⟨[.agg ⟨[.bool (progP s).1.1, .int .i64 (progP s).1.2.1, .slice a.1 (progP s).1.2.2.length a.2]⟩, .int .i64 (progP s).2]⟩) (fun a => [.arr (.slice a.1 (progP s).1.2.2.length a.2) 3 1 (ints (progP s).1.2.2)]) w := by
  refine funcR_x tyOk wide Try.func27 ok_vParse (Nat.le_of_ble_eq_true rfl) (St.start0 w) ?_
  have hkr := takV_255 (takR (pR s) 2)
  by_cases hk : pK s = 84
  · have hk' : takV s 1 = 84 := hk
    have hv1 := fun bs bo w hw => vtake_1 s true bs bo w hw
    rw [hk'] at hv1
    repeat' first
      | (conv => whnf
         first
         | intro _
         | (first | refine selSplit (fun h => ?_) (fun h => ?_) | refine condSplit (fun h => ?_) (fun h => ?_)) <;> first | exact (clash (by assumption) h).elim | exact (clash h (by assumption)).elim | (simp only [decide_eq_true_eq, decide_eq_false_iff_not, Bool.not_eq_true', Bool.not_eq_false', Bool.not_true, Bool.not_false, Bool.or_eq_true, Bool.and_eq_true, Bool.or_eq_false_iff, Bool.and_eq_false_iff, beq_iff_eq, beq_eq_false_iff_ne, ne_eq] at h; first | (exfalso; omega) | skip) | skip
         | (first | refine drM (.quiet 0 (.quiet 1 (.quiet 2 (.quiet 3 (.last 4 true (.last 5 false (.last 6 false (.last 7 false .done)))))))) (SubL.of (List.Sublist.cons _ (List.Sublist.refl _))) ?_)
         | refine AltP.mk ?_ ?_
         | refine kpM ?_
         | refine SeqP.go ?_
         | refine cdM ?_
         | exact IsV.mk
         | apply GuardP.mk
         | (refine callX takeM en_vtake (fun w hw => hv1 _ _ w (hw.sub2 takeM)) ?_)
         | (refine callX takeM en_vtake (fun w hw => vtake_2 (takR s 1) (takO s 1 true) _ _ w (hw.sub2 takeM)) ?_)
         | (refine callX takeM en_vtake (fun w hw => vtake_1 (takR (takR s 1) 2) (takO (takR s 1) 2 (takO s 1 true)) _ _ w (hw.sub2 takeM)) ?_)
         | refine Or.inl ⟨_, _, hasM, ?_⟩
         | refine Or.inl ⟨_, _, _, holeM, rfl, rfl, ?_⟩
         | refine lA ?_
         | refine lA0 ?_
         | refine lA1 ?_
         | refine lO ?_
         | refine lO0 ?_
         | refine lO1 ?_
         | refine lR ?_
         | refine lG ?_
         | refine lG0 ?_
         | refine tA ?_
         | refine tA0 ?_
         | refine tA1 ?_
         | refine BytW.ofBlk hasM rfl rfl ?_
         | refine AppW.noneB hasM leM rfl rfl rfl leM leM ?_
         | refine AppW.rowB hasM leM rfl rfl holeM leM leM ?_
         | refine AppW.blkB hasM leM rfl rfl holeM rfl rfl leM leM ?_
         | refine AppW.rowS hasM leM rfl rfl holeM (by omega) leM ?_
         | refine AppW.arrS hasM leM rfl rfl rfl holeM (by first | omega | (simp; omega)) leM ?_
         | refine ⟨sideM, ?_⟩
         | fail)
    all_goals (try conv => whnf)
    rename_i b2 b4 b5 s1 _ s2 _ b8 s3 _
    have e8 : decide ((84 : Int) = 84) = true := rfl
    have hS : pS s = stp [] (takR (takR (pR s) 2) 1) (takO (takR (pR s) 2) 1 (takO (pR s) 2 (pO s))) (takV (takR (pR s) 2) 1).toNat := by unfold pS; rw [if_pos hk]
    have hP : progP s = if ((pS s).2.2 = false ∨ ¬ (pS s).2.1 = ⟨#[]⟩) ∨ vRightB true (pN s) (pS s).1 = false then ((false, 0, []), 2) else ((true, pN s, (pS s).1), 0) := by unfold progP; simp [hk]
    rw [hS] at hP
    show LoopW _ _ _ _ _ _
    have hN : takV (takR s 1) 2 = pN s := rfl
    have hR1 : takR s 1 = pR s := rfl
    have hO1 : takO s 1 true = pO s := rfl
    generalize hcnt : (takV (takR (pR s) 2) 1).toNat = cnt at *
    have hc : takV (takR (pR s) 2) 1 = cnt := by omega
    have hl := stp_len cnt [] (takR (takR (pR s) 2) 1) (takO (takR (pR s) 2) 1 (takO (pR s) 2 (pO s)))
    refine .mk (Nat × (List Int × ByteArray × Bool) × (Option Addr × Nat)) (fun ⟨k, ⟨L, r, ok⟩, ⟨A, c⟩⟩ S H => (k ≤ cnt ∧ L.length = k ∧ IsRow (.slice A k c) k ∧ stp [] (takR (takR (pR s) 2) 1) (takO (takR (pR s) 2) 1 (takO (pR s) 2 (pO s))) cnt = stp L r ok (cnt - k)) ∧ S = [(22, .int .i64 k), (21, .int .i64 cnt), (8, .pointer (some ⟨b8, 0, none⟩)), (7, .int .i64 84), (6, .func (.func 67) #[] #[.pointer (some ⟨b4, 0, none⟩), .pointer (some ⟨b5, 0, none⟩)]), (5, .pointer (some ⟨b5, 0, none⟩)), (4, .pointer (some ⟨b4, 0, none⟩)), (2, .pointer (some ⟨b2, 0, none⟩))] ∧ H = [.arr (.slice A k c) 3 1 (ints L), .blk b4 [.string r] 9, .blk b5 [.bool ok] 4, .blk b8 [.bool true, .int .i64 (pN s), .slice A k c] 48, .blk b2 td48.zero 48]) (fun a => cnt - a.1) (0, ([], takR (takR (pR s) 2) 1, takO (takR (pR s) 2) 1 (takO (pR s) 2 (pO s))), (none, 0)) _ _ ⟨⟨by omega, rfl, .inl ⟨rfl, rfl⟩, rfl⟩, rfl, rfl⟩ ⟨rfl, eq_int hc, rfl, rfl, rfl, rfl, rfl, rfl, trivial⟩ ((nilArr (E := 3) (sz := 1)).trans entM) ?_
    rintro ⟨k, ⟨L, r, ok⟩, ⟨A, c⟩⟩ S1 H1 ⟨⟨hk1, hL, hr, he⟩, rfl, rfl⟩
    have hLe : (ints L).length = k := by rw [ints_len]; exact hL
    by_cases hk2 : k < cnt
    · obtain ⟨m, hm⟩ : ∃ m, cnt - k = m + 1 := ⟨cnt - k - 1, by omega⟩
      rw [hm, stp] at he
      have hi : ints (L ++ [takV r 2]) = ints L ++ [[.int .i64 (takV r 2)]] := by unfold ints; rw [List.map_append]; rfl
      repeat' first
        | (conv => whnf
           first
           | intro _
           | (first | refine selSplit (fun h => ?_) (fun h => ?_) | refine condSplit (fun h => ?_) (fun h => ?_)) <;> first | exact (clash (by assumption) h).elim | exact (clash h (by assumption)).elim | (simp only [decide_eq_true_eq, decide_eq_false_iff_not, Bool.not_eq_true', Bool.not_eq_false', Bool.not_true, Bool.not_false, Bool.or_eq_true, Bool.and_eq_true, Bool.or_eq_false_iff, Bool.and_eq_false_iff, beq_iff_eq, beq_eq_false_iff_ne, ne_eq] at h; first | (exfalso; omega) | skip) | skip
           | (first | refine drM (.quiet 0 (.quiet 1 (.quiet 2 (.last 3 true (.last 4 true (.last 5 false (.last 6 false (.last 7 false .done)))))))) (SubL.of (List.Sublist.cons _ (List.Sublist.cons _ (List.Sublist.cons _ (List.Sublist.cons_cons _ (List.Sublist.cons _ (List.Sublist.refl _))))))) ?_)
           | refine AltP.mk ?_ ?_
           | refine kpM ?_
           | refine SeqP.go ?_
           | refine cdM ?_
           | exact IsV.mk
           | apply GuardP.mk
           | (refine callX takeM en_vtake (fun w hw => vtake_2 r ok _ _ w (hw.sub2 takeM)) ?_)
           | (refine AppW.arrK hasM (Nat.le_of_ble_eq_true rfl) rfl rfl rfl holeM hLe (by omega) (Nat.le_of_ble_eq_true rfl) ?_)
           | refine Or.inl ⟨_, _, hasM, ?_⟩
           | refine Or.inl ⟨_, _, _, holeM, rfl, rfl, ?_⟩
           | refine lA ?_
           | refine lA0 ?_
           | refine lA1 ?_
           | refine lO ?_
           | refine lO0 ?_
           | refine lO1 ?_
           | refine lR ?_
           | refine lG ?_
           | refine lG0 ?_
           | refine tA ?_
           | refine tA0 ?_
           | refine tA1 ?_
           | refine BytW.ofBlk hasM rfl rfl ?_
           | refine AppW.noneB hasM leM rfl rfl rfl leM leM ?_
           | refine AppW.rowB hasM leM rfl rfl holeM leM leM ?_
           | refine AppW.blkB hasM leM rfl rfl holeM rfl rfl leM leM ?_
           | refine AppW.rowS hasM leM rfl rfl holeM (by omega) leM ?_
           | refine AppW.arrS hasM leM rfl rfl rfl holeM (by first | omega | (simp; omega)) leM ?_
           | refine ⟨sideM, ?_⟩
           | fail)
      all_goals (try conv => whnf)
      all_goals exact .mk (k + 1, (L ++ [takV r 2], takR r 2, takO r 2 ok), (_, _)) _ _ (by show _ - (k + 1) < _ - k; omega) ⟨⟨hk2, by rw [List.length_append, hL]; rfl, by assumption, by rw [he, show cnt - (k + 1) = m by omega]⟩, rfl, rfl⟩ subM (by rw [hi]; exact entM)
    · obtain rfl : k = cnt := by omega
      rw [Nat.sub_self, stp] at he
      rw [he] at hP
      dsimp only at hP
      subst hL
      repeat' first
        | (conv => whnf
           first
           | intro _
           | (first | refine selSplit (fun h => ?_) (fun h => ?_) | refine condSplit (fun h => ?_) (fun h => ?_)) <;> first | exact (clash (by assumption) h).elim | exact (clash h (by assumption)).elim | (simp only [decide_eq_true_eq, decide_eq_false_iff_not, Bool.not_eq_true', Bool.not_eq_false', Bool.not_true, Bool.not_false, Bool.or_eq_true, Bool.and_eq_true, Bool.or_eq_false_iff, Bool.and_eq_false_iff, beq_iff_eq, beq_eq_false_iff_ne, ne_eq] at h; first | (exfalso; omega) | skip) | skip
           | (first | refine drM (.quiet 0 (.quiet 1 (.quiet 2 (.quiet 3 (.last 4 true (.last 5 false (.last 6 false (.last 7 false .done)))))))) (SubL.of (List.Sublist.cons _ (List.Sublist.refl _))) ?_)
           | refine AltP.mk ?_ ?_
           | refine kpM ?_
           | refine SeqP.go ?_
           | refine cdM ?_
           | exact IsV.mk
           | apply GuardP.mk
           | ((first | apply callPure' en_vRight | apply callQuiet' en_vRight); · exact fun w hw => vRight_w true (pN s) L A c w (hw.arrSl hasM) (by omega))
           | refine Or.inl ⟨_, _, hasM, ?_⟩
           | refine Or.inl ⟨_, _, _, holeM, rfl, rfl, ?_⟩
           | refine lA ?_
           | refine lA0 ?_
           | refine lA1 ?_
           | refine lO ?_
           | refine lO0 ?_
           | refine lO1 ?_
           | refine lR ?_
           | refine lG ?_
           | refine lG0 ?_
           | refine tA ?_
           | refine tA0 ?_
           | refine tA1 ?_
           | refine BytW.ofBlk hasM rfl rfl ?_
           | refine AppW.noneB hasM leM rfl rfl rfl leM leM ?_
           | refine AppW.rowB hasM leM rfl rfl holeM leM leM ?_
           | refine AppW.blkB hasM leM rfl rfl holeM rfl rfl leM leM ?_
           | refine AppW.rowS hasM leM rfl rfl holeM (by omega) leM ?_
           | refine AppW.arrS hasM leM rfl rfl rfl holeM (by first | omega | (simp; omega)) leM ?_
           | refine ⟨sideM, ?_⟩
           | fail)
      all_goals (try conv => whnf)
      all_goals first
        | (exfalso; omega)
        | ((have hPe : progP s = ((false, 0, []), 2) := by (rw [hP, if_pos (by grind)])); (rw [hPe]; exact EndX.mk (none, 0) trivial rfl (Ent.trans (H' := []) entM nilArr)))
        | (have hPe : progP s = ((true, pN s, L), 0) := by rw [hP, if_neg (by grind)]
           rw [hPe]
           exact EndX.mk (A, c) trivial rfl entM)
  · have hk' : ¬ takV s 1 = 84 := hk
    have hP : progP s = if (takO (pR s) 2 (pO s) = false ∨ ¬ takR (pR s) 2 = ⟨#[]⟩) ∨ ¬ pK s = 65 ∨ vRightB false (pN s) [] = false then ((false, 0, []), 2) else ((false, pN s, []), 0) := by unfold progP pS; simp [hk]
    unfold pR pO pK pN at hP
    repeat' first
      | (conv => whnf
         first
         | intro _
         | (first | refine selSplit (fun h => ?_) (fun h => ?_) | refine condSplit (fun h => ?_) (fun h => ?_)) <;> first | exact (clash (by assumption) h).elim | exact (clash h (by assumption)).elim | (simp only [decide_eq_true_eq, decide_eq_false_iff_not, Bool.not_eq_true', Bool.not_eq_false', Bool.not_true, Bool.not_false, Bool.or_eq_true, Bool.and_eq_true, Bool.or_eq_false_iff, Bool.and_eq_false_iff, beq_iff_eq, beq_eq_false_iff_ne, ne_eq] at h; first | (exfalso; omega) | skip) | skip
         | (first | refine drM (.quiet 0 (.quiet 1 (.quiet 2 (.quiet 3 (.last 4 true (.last 5 false (.last 6 false (.last 7 false .done)))))))) (SubL.of (List.Sublist.cons _ (List.Sublist.refl _))) ?_)
         | refine AltP.mk ?_ ?_
         | refine kpM ?_
         | refine SeqP.go ?_
         | refine cdM ?_
         | exact IsV.mk
         | apply GuardP.mk
         | ((first | apply callPure' en_vRight | apply callQuiet' en_vRight); · exact fun w hw => vRight_w (decide (takV s 1 = 84)) (takV (takR s 1) 2) [] none 0 w (SlAt.nil _ _ _) (by decide))
         | (refine callX takeM en_vtake (fun w hw => vtake_1 s true _ _ w (hw.sub2 takeM)) ?_)
         | (refine callX takeM en_vtake (fun w hw => vtake_2 (takR s 1) (takO s 1 true) _ _ w (hw.sub2 takeM)) ?_)
         | refine Or.inl ⟨_, _, hasM, ?_⟩
         | refine Or.inl ⟨_, _, _, holeM, rfl, rfl, ?_⟩
         | refine lA ?_
         | refine lA0 ?_
         | refine lA1 ?_
         | refine lO ?_
         | refine lO0 ?_
         | refine lO1 ?_
         | refine lR ?_
         | refine lG ?_
         | refine lG0 ?_
         | refine tA ?_
         | refine tA0 ?_
         | refine tA1 ?_
         | refine BytW.ofBlk hasM rfl rfl ?_
         | refine AppW.noneB hasM leM rfl rfl rfl leM leM ?_
         | refine AppW.rowB hasM leM rfl rfl holeM leM leM ?_
         | refine AppW.blkB hasM leM rfl rfl holeM rfl rfl leM leM ?_
         | refine AppW.rowS hasM leM rfl rfl holeM (by omega) leM ?_
         | refine AppW.arrS hasM leM rfl rfl rfl holeM (by first | omega | (simp; omega)) leM ?_
         | refine ⟨sideM, ?_⟩
         | fail)
    all_goals (try conv => whnf)
    all_goals first
      | (exfalso; omega)
      | ((have hPe : progP s = ((false, 0, []), 2) := by (rw [decide_eq_false hk'] at h; exact hP.trans (if_pos (h.elim (fun h => h.elim Or.inl (fun h => Or.inr (Or.inl h.1))) (fun h => Or.inr (Or.inr h)))))); (rw [hPe]; exact EndX.mk (none, 0) trivial rfl (Ent.trans (H' := []) entM nilArr)))
      | (have hPe : progP s = ((false, pN s, []), 0) := by (rw [decide_eq_false hk'] at h; exact hP.trans (if_neg (fun q => q.elim (fun q => q.elim (fun q => absurd (q.symm.trans h.1.1.1) (by decide)) (fun q => q h.1.1.2)) (fun q => q.elim (fun q => q (h.1.2.resolve_right hk')) (fun q => absurd (q.symm.trans h.2) (by decide))))))
         rw [hPe, decide_eq_false hk']
         exact EndX.mk (none, 0) trivial rfl (Ent.trans (H' := []) entM nilArr))
end Go.Proofs.Ytgjdmlgdgbehoaa.Am
