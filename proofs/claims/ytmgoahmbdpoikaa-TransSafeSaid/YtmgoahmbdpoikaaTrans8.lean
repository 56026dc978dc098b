/- The laws of layer 12: awake; TransSafe. -/
import Derived.Test.YtmgoahmbdpoikaaTrans7
import Derived.Test.YtmgoahmbdpoikaaInfoL
set_option linter.unusedVariables false
set_option linter.unusedSimpArgs false
set_option maxRecDepth 100000
set_option maxHeartbeats 4000000
namespace Go.Proofs.Ytmgoahmbdpoikaa.Am
open Go Go.RowKit
def restK (b : BridgeV) : Nat → Nat → List PortV → List PortV × Int
  | 0, _, out => (out, 200)
  | f + 1, n, out => if eqPs (passTV b out) out = true then (out, (n : Int)) else restK b f (n + 1) (passTV b out)
def restV (b : BridgeV) (ps : List PortV) : List PortV × Int := restK b 200 0 ps
theorem passTV_length (b : BridgeV) (ps : List PortV) : (passTV b ps).length = ps.length := passTK_length ..
theorem restK_length (b : BridgeV) : ∀ (f n : Nat) (ps : List PortV), (restK b f n ps).1.length = ps.length
  | 0, _, _ => rfl
  | f + 1, n, ps => by
    unfold restK
    split
    · rfl
    · rw [restK_length b f, passTV_length]
theorem ok_tRest : (match Try.f74.body with | some c => codeOk Try.f74.ntmps c | none => false) = true := by kernel_rfl
theorem en_tRest : ∃ fn, Try.prog.funcs[74]? = some fn ∧ (fn.name == "runtime.NumGoroutine") = false ∧ fn.body.isNone = false := ⟨_, Try.func74, by kernel_rfl, by kernel_rfl⟩
theorem tRest_w (b : BridgeV) (ps : List PortV) (n : Nat) (hn : ps.length = n) (A : Option Addr) (c : Nat) (w : World) (hs : SlAt w A 61 (ps.map PortV.enc)) (hlen : n ≤ 1000) :
    FnX Try.prog 74 [.agg ⟨b.enc⟩, .slice A n c] [] (fun s : Option Addr × Nat => IsRow (.slice s.1 n s.2) n) (fun s => .tuple ⟨[.slice s.1 n s.2, .int .i64 (restV b ps).2]⟩) (fun s => [.arr (.slice s.1 n s.2) 28 61 ((restV b ps).1.map PortV.enc)]) w := by
  subst hn
  refine funcR_x tyOk wide Try.func74 ok_tRest (Nat.le_of_ble_eq_true rfl) (St.start0 w) ?_
  repeat' first
    | (conv => whnf
       first
       | intro _
       | (first | refine selSplit (fun h => ?_) (fun h => ?_) | refine condSplit (fun h => ?_) (fun h => ?_)) <;> first | exact (clash (by assumption) h).elim | exact (clash h (by assumption)).elim | (simp only [decide_eq_true_eq, decide_eq_false_iff_not, Bool.not_eq_true', Bool.not_eq_false', Bool.not_true, Bool.not_false, Bool.or_eq_true, Bool.and_eq_true, Bool.or_eq_false_iff, Bool.and_eq_false_iff, beq_iff_eq, beq_eq_false_iff_ne, ne_eq] at h; first | (exfalso; omega) | skip) | skip
       | refine SeqP.go ?_
       | refine cdM ?_
       | exact IsV.mk
       | apply GuardP.mk
       | (refine callX takeM en_PClone (fun w hw => PClone_w ps A c w (hs.later hw) hlen) ?_)
       | (first | refine eqlW eqS28 rfl rfl rfl fitM fitM ?_ | refine neqW eqS28 rfl rfl rfl fitM fitM ?_ | refine eqlW eqS24 rfl rfl rfl fitM fitM ?_ | refine neqW eqS24 rfl rfl rfl fitM fitM ?_ | refine eqlW eqS26 rfl rfl rfl fitM fitM ?_ | refine neqW eqS26 rfl rfl rfl fitM fitM ?_)
       | refine Or.inl ⟨_, _, hasM, ?_⟩
       | refine Or.inl ⟨_, _, _, holeM, rfl, rfl, ?_⟩
       | refine lA ?_
       | refine lA0 ?_
       | refine lA1 ?_
       | refine lO ?_
       | refine lO0 ?_
       | refine lO1 ?_
       | refine lR ?_
       | refine lG ?_
       | refine lG0 ?_
       | refine tA ?_
       | refine tA0 ?_
       | refine tA1 ?_
       | refine BytW.ofBlk hasM rfl rfl ?_
       | refine AppW.noneB hasM leM rfl rfl rfl leM leM ?_
       | refine AppW.rowB hasM leM rfl rfl holeM leM leM ?_
       | refine AppW.blkB hasM leM rfl rfl holeM rfl rfl leM leM ?_
       | refine AppW.rowS hasM leM rfl rfl holeM (by omega) leM ?_
       | refine AppW.arrS hasM leM rfl rfl rfl holeM (by first | omega | (simp; omega)) leM ?_
       | refine ⟨sideM, ?_⟩
       | fail)
  all_goals (try conv => whnf)
  rename_i bb s0 hs0
  refine .mk (Nat × List PortV × Option Addr × Nat) (fun ⟨k, qs, A1, c1⟩ S H => (k ≤ 200 ∧ qs.length = ps.length ∧ IsRow (.slice A1 ps.length c1) ps.length ∧ restV b ps = restK b (200 - k) k qs) ∧ S = [(12, .int .i64 k), (6, .slice A1 ps.length c1), (2, .pointer (some ⟨bb, 0, none⟩))] ∧ H = [.arr (.slice A1 ps.length c1) 28 61 (qs.map PortV.enc), Res.blk bb b.enc 33]) (fun s => 200 - s.1) (0, ps, s0.1, s0.2) _ _ ⟨⟨by omega, rfl, hs0, rfl⟩, rfl, rfl⟩ subM entM ?_
  rintro ⟨k, qs, A1, c1⟩ S1 H1 ⟨⟨hk, hq, hr, he⟩, rfl, rfl⟩
  by_cases hk2 : k < 200
  · rw [show 200 - k = (200 - (k + 1)) + 1 by omega, restK] at he
    have hP := fun w hw => tPass_w b qs _ hq A1 c1 w hw hlen
    have hl := passTV_length b qs
    generalize passTV b qs = rs at *
    repeat' first
      | (conv => whnf
         first
         | intro _
         | (first | refine selSplit (fun h => ?_) (fun h => ?_) | refine condSplit (fun h => ?_) (fun h => ?_)) <;> first | exact (clash (by assumption) h).elim | exact (clash h (by assumption)).elim | (simp only [decide_eq_true_eq, decide_eq_false_iff_not, Bool.not_eq_true', Bool.not_eq_false', Bool.not_true, Bool.not_false, Bool.or_eq_true, Bool.and_eq_true, Bool.or_eq_false_iff, Bool.and_eq_false_iff, beq_iff_eq, beq_eq_false_iff_ne, ne_eq] at h; first | (exfalso; omega) | skip) | skip
         | refine SeqP.go ?_
         | refine cdM ?_
         | exact IsV.mk
         | apply GuardP.mk
         | (refine callX takeM en_tPass (fun w hw => hP w (hw.arrSl hasM)) ?_)
         | (first | refine eqlW eqS28 rfl rfl rfl fitM fitM ?_ | refine neqW eqS28 rfl rfl rfl fitM fitM ?_ | refine eqlW eqS24 rfl rfl rfl fitM fitM ?_ | refine neqW eqS24 rfl rfl rfl fitM fitM ?_ | refine eqlW eqS26 rfl rfl rfl fitM fitM ?_ | refine neqW eqS26 rfl rfl rfl fitM fitM ?_)
         | refine Or.inl ⟨_, _, hasM, ?_⟩
         | refine Or.inl ⟨_, _, _, holeM, rfl, rfl, ?_⟩
         | refine lA ?_
         | refine lA0 ?_
         | refine lA1 ?_
         | refine lO ?_
         | refine lO0 ?_
         | refine lO1 ?_
         | refine lR ?_
         | refine lG ?_
         | refine lG0 ?_
         | refine tA ?_
         | refine tA0 ?_
         | refine tA1 ?_
         | refine BytW.ofBlk hasM rfl rfl ?_
         | refine AppW.noneB hasM leM rfl rfl rfl leM leM ?_
         | refine AppW.rowB hasM leM rfl rfl holeM leM leM ?_
         | refine AppW.blkB hasM leM rfl rfl holeM rfl rfl leM leM ?_
         | refine AppW.rowS hasM leM rfl rfl holeM (by omega) leM ?_
         | refine AppW.arrS hasM leM rfl rfl rfl holeM (by first | omega | (simp; omega)) leM ?_
         | refine ⟨sideM, ?_⟩
         | fail)
    all_goals (try conv => whnf)
    all_goals first
      | (exfalso; omega)
      | (rw [if_pos (by simpa using h)] at he; rw [he]; exact EndX.mk (A1, c1) hr rfl entM)
      | (rw [if_neg (by simpa using h)] at he; rename_i s1 hs1; exact .mk (k + 1, rs, s1.1, s1.2) _ _ (by show _ - (k + 1) < _ - k; omega) ⟨⟨hk2, by omega, hs1, he⟩, rfl, rfl⟩ subM entM)
  · obtain rfl : k = 200 := by omega
    have he : restV b ps = (qs, 200) := he
    rw [he]
    repeat' first
      | (conv => whnf
         first
         | intro _
         | (first | refine selSplit (fun h => ?_) (fun h => ?_) | refine condSplit (fun h => ?_) (fun h => ?_)) <;> first | exact (clash (by assumption) h).elim | exact (clash h (by assumption)).elim | (simp only [decide_eq_true_eq, decide_eq_false_iff_not, Bool.not_eq_true', Bool.not_eq_false', Bool.not_true, Bool.not_false, Bool.or_eq_true, Bool.and_eq_true, Bool.or_eq_false_iff, Bool.and_eq_false_iff, beq_iff_eq, beq_eq_false_iff_ne, ne_eq] at h; first | (exfalso; omega) | skip) | skip
         | refine SeqP.go ?_
         | refine cdM ?_
         | exact IsV.mk
         | apply GuardP.mk
         | (first | refine eqlW eqS28 rfl rfl rfl fitM fitM ?_ | refine neqW eqS28 rfl rfl rfl fitM fitM ?_ | refine eqlW eqS24 rfl rfl rfl fitM fitM ?_ | refine neqW eqS24 rfl rfl rfl fitM fitM ?_ | refine eqlW eqS26 rfl rfl rfl fitM fitM ?_ | refine neqW eqS26 rfl rfl rfl fitM fitM ?_)
         | refine Or.inl ⟨_, _, hasM, ?_⟩
         | refine Or.inl ⟨_, _, _, holeM, rfl, rfl, ?_⟩
         | refine lA ?_
         | refine lA0 ?_
         | refine lA1 ?_
         | refine lO ?_
         | refine lO0 ?_
         | refine lO1 ?_
         | refine lR ?_
         | refine lG ?_
         | refine lG0 ?_
         | refine tA ?_
         | refine tA0 ?_
         | refine tA1 ?_
         | refine BytW.ofBlk hasM rfl rfl ?_
         | refine AppW.noneB hasM leM rfl rfl rfl leM leM ?_
         | refine AppW.rowB hasM leM rfl rfl holeM leM leM ?_
         | refine AppW.blkB hasM leM rfl rfl holeM rfl rfl leM leM ?_
         | refine AppW.rowS hasM leM rfl rfl holeM (by omega) leM ?_
         | refine AppW.arrS hasM leM rfl rfl rfl holeM (by first | omega | (simp; omega)) leM ?_
         | refine ⟨sideM, ?_⟩
         | fail)
    all_goals (try conv => whnf)
    all_goals first
      | (exfalso; omega)
      | exact EndX.mk (A1, c1) hr rfl entM
end Go.Proofs.Ytmgoahmbdpoikaa.Am
