/- Package trans: Move, case by case (this text is printed by gen_trans5.py). -/
import Derived.Test.YtmgoahmbdpoikaaTrans5
set_option linter.unusedVariables false
set_option linter.unusedSimpArgs false
set_option maxRecDepth 100000
set_option maxHeartbeats 4000000
namespace Go.Proofs.Ytmgoahmbdpoikaa.Am
open Go Go.RowKit
/-- The first of these that is so. -/
def firstM {α : Type} : List (Bool × α) → Option α
  | [] => none
  | x :: r => if x.1 = true then some x.2 else firstM r
theorem ok_tMove : (match Try.f76.body with | some c => codeOk Try.f76.ntmps c | none => false) = true := by kernel_rfl
theorem en_tMove : ∃ fn, Try.prog.funcs[76]? = some fn ∧ (fn.name == "runtime.NumGoroutine") = false ∧ fn.body.isNone = false := ⟨_, Try.func76, by kernel_rfl, by kernel_rfl⟩
def mvA (t : TimesV) (ps : List PortV) (j : Nat) (p : PortV) : List (Bool × List PortV) := [(true, ps.set j (if p.Selected = 1 then { p with Role := p.Selected, Rr := t.Delay } else { p with Role := p.Selected }))]
def mvB (t : TimesV) (ps : List PortV) (j : Nat) (p : PortV) : List (Bool × List PortV) := [(true, ps.set j { p with Role := p.Selected, Learn := false, Forward := false })]
def mvR (t : TimesV) (ps : List PortV) (j : Nat) (p : PortV) : List (Bool × List PortV) := [(p.Proposed && !p.Agree, askV ps j p), (!p.Agree && syncedB ps j || p.Proposed && p.Agree, ps.set j { agreeV p with Sync := p.Sync && !decide (p.Role = 1) }), (p.Agreed && !p.Synced || p.Sync && p.Synced, ps.set j { p with Synced := true, Sync := false }), (!p.Forward && !p.Reroot, rootAll ps), (!decide (p.Rr = t.Delay), ps.set j { p with Rr := t.Delay }), (p.Reroot && p.Forward, ps.set j { p with Reroot := false }), (!p.Learn && mayRo ps j p, ps.set j { p with Learn := true, Fd := t.Delay }), (p.Learn && !p.Forward && mayRo ps j p, ps.set j { p with Forward := true, Fd := 0 })]
def mvT (t : TimesV) (ps : List PortV) (j : Nat) (p : PortV) : List (Bool × List PortV) := [(!p.Forward && !p.Agreed && !p.Proposing && !p.Oper && p.SendRstp, ps.set j { p with Proposing := true, NewInfo := true, Edge := 3 }), (!p.Synced && (stillB p || p.Agreed || p.Oper) || p.Sync && p.Synced, ps.set j { p with Rr := 0, Synced := true, Sync := false }), (decide (p.Rr = 0) && p.Reroot, ps.set j { p with Reroot := false }), ((p.Sync && !p.Synced || p.Reroot && !decide (p.Rr = 0) || p.Disputed) && !p.Oper && (p.Learn || p.Forward), ps.set j { p with Learn := false, Forward := false, Disputed := false, Fd := t.Delay }), (!p.Learn && maySt p, ps.set j { p with Learn := true, Fd := t.Delay }), (p.Learn && !p.Forward && maySt p, ps.set j { p with Forward := true, Fd := 0, Agreed := p.SendRstp })]
def mvZ (t : TimesV) (ps : List PortV) (j : Nat) (p : PortV) : List (Bool × List PortV) := [(stillB p && (!decide (p.Fd = t.Max) || p.Sync || p.Reroot || !p.Synced), ps.set j { p with Fd := t.Max, Synced := true, Rr := 0, Sync := false, Reroot := false })]
def mvL (t : TimesV) (ps : List PortV) (j : Nat) (p : PortV) : List (Bool × List PortV) := [(stillB p && (p.Proposed && !p.Agree), askV ps j p), (!p.Agree && syncedB ps j || p.Proposed && p.Agree, ps.set j { agreeV p with Sync := p.Sync && !decide (p.Role = 1) }), (stillB p && (!decide (p.Fd = t.Delay) || p.Sync || p.Reroot || !p.Synced), ps.set j { p with Fd := t.Delay, Synced := true, Rr := 0, Sync := false, Reroot := false })]
def mvK (t : TimesV) (ps : List PortV) (j : Nat) (p : PortV) : List (Bool × List PortV) := [(stillB p && (p.Proposed && !p.Agree), askV ps j p), (!p.Agree && syncedB ps j || p.Proposed && p.Agree, ps.set j { agreeV p with Sync := p.Sync && !decide (p.Role = 1) }), (stillB p && (!decide (p.Fd = t.Delay) || p.Sync || p.Reroot || !p.Synced), ps.set j { p with Fd := t.Delay, Synced := true, Rr := 0, Sync := false, Reroot := false }), (!decide (p.Rb = IntKind.i64.wrap (2 * t.Hello)), ps.set j { p with Rb := IntKind.i64.wrap (2 * t.Hello) })]
theorem MoveA_w (b : BridgeV) (ps : List PortV) (p : PortV) (n j : Nat) (h1 : p.Ready = true) (h2 : p.Update = false) (h3 : ¬ p.Selected = p.Role) (h4 : p.Selected = 1 ∨ p.Selected = 2) (hn : ps.length = n) (hp : ps[j]? = some p) (h0 : rightB b = true) (A : Option Addr) (c0 : Nat) (w : World) (hs : SlAt w A 61 (ps.map PortV.enc)) (hlen : n ≤ 1000) :
    FnX Try.prog 76 [.agg ⟨b.enc⟩, .slice A n c0, .int .i64 j] [] (fun s : Nat × Nat => n ≤ s.2) (fun s => .tuple ⟨[.slice (some ⟨s.1, 0, none⟩) n s.2, .bool (firstM (mvA (timesOf b) ps j p)).isSome]⟩) (fun s => [.arr (.slice (some ⟨s.1, 0, none⟩) n s.2) 28 61 (((firstM (mvA (timesOf b) ps j p)).getD ps).map PortV.enc)]) w := by
  refine funcR_x tyOk wide Try.func76 ok_tMove (Nat.le_of_ble_eq_true rfl) (St.start0 w) ?_
  have hj : j < ps.length := (List.getElem?_eq_some_iff.1 hp).1
  have hx : (ps.map PortV.enc)[j]? = some p.enc := by rw [List.getElem?_map, hp]; rfl
  have hC := fun w hw => PClone_ne ps A c0 w hw (by omega) (by omega)
  rw [hn] at hC
  repeat' first
    | (conv => whnf
       first
       | (refine condNo ?_ ?_; · (simp [h0]; omega))
       | intro _
       | (first | refine selSplit (fun h => ?_) (fun h => ?_) | refine condSplit (fun h => ?_) (fun h => ?_)) <;> first | exact (clash (by assumption) h).elim | exact (clash h (by assumption)).elim | (simp only [decide_eq_true_eq, decide_eq_false_iff_not, Bool.not_eq_true', Bool.not_eq_false', Bool.not_true, Bool.not_false, Bool.or_eq_true, Bool.and_eq_true, Bool.or_eq_false_iff, Bool.and_eq_false_iff, beq_iff_eq, beq_eq_false_iff_ne, ne_eq] at h; first | (exfalso; omega) | skip) | skip
       | (first | refine drM (.quiet 0 (.quiet 1 (.quiet 2 (.quiet 3 (.quiet 4 (.quiet 5 (.quiet 6 (.quiet 7 (.alloc 8 (.last 9 false .done)))))))))) (SubL.refl _) ?_)
       | refine AltP.mk ?_ ?_
       | refine kpM ?_
       | refine SeqP.go ?_
       | refine cdM ?_
       | exact IsV.mk
       | apply GuardP.mk
       | (refine callX takeM en_PClone (fun w hw => hC w (hs.later hw)) ?_)
       | ((first | apply callPure' en_infoRight | apply callQuiet' en_infoRight); · exact fun w _ => infoRight_w b w)
       | (refine callX takeM en_moves (fun w hw => movesA_w (timesOf b) (ps.map PortV.enc) p _ n _ j _ h1 h2 h3 h4 w hx (hw.sub2 takeM)) ?_)
       | refine Or.inl ⟨_, _, hasM, ?_⟩
       | refine Or.inl ⟨_, _, _, holeM, rfl, rfl, ?_⟩
       | refine lA ?_
       | refine lA0 ?_
       | refine lA1 ?_
       | refine lO ?_
       | refine lO0 ?_
       | refine lO1 ?_
       | refine lR ?_
       | refine lG ?_
       | refine lG0 ?_
       | refine tA ?_
       | refine tA0 ?_
       | refine tA1 ?_
       | refine BytW.ofBlk hasM rfl rfl ?_
       | refine AppW.noneB hasM leM rfl rfl rfl leM leM ?_
       | refine AppW.rowB hasM leM rfl rfl holeM leM leM ?_
       | refine AppW.blkB hasM leM rfl rfl holeM rfl rfl leM leM ?_
       | refine AppW.rowS hasM leM rfl rfl holeM (by omega) leM ?_
       | refine AppW.arrS hasM leM rfl rfl rfl holeM (by first | omega | (simp; omega)) leM ?_
       | refine ⟨sideM, ?_⟩
       | fail)
  all_goals (try conv => whnf)
  rename_i b3 s0 hs0 bv s hs1
  obtain ⟨g, c⟩ := s0
  refine .mk Nat (fun k S H => (k ≤ 1 ∧ firstM (mvA (timesOf b) ps j p) = firstM ((mvA (timesOf b) ps j p).drop k)) ∧ S = [(40, .int .i64 k), (39, .int .i64 1), (38, .slice (some ⟨s.gs, 0, none⟩) 1 1), (8, .slice (some ⟨g, 0, none⟩) n c)] ∧ H = [.blk s.gs [.func (.func 99) #[] #[], .func (.func 100) #[] #[.pointer (some ⟨s.bp, 0, none⟩), .pointer (some ⟨s.bm, 0, none⟩)]] 130, .blk s.bp [.pointer (some ⟨g, 0 + j * 61, none⟩)] 76, .blk s.bm [.pointer (some ⟨bv, 0, none⟩)] 124, .blk bv (moverE (timesOf b) g n c j) 126, .arr (.slice (some ⟨g, 0, none⟩) n c) 28 61 (ps.map PortV.enc), .blk b3 b.enc 33]) (fun k => 1 - k) 0 _ _ ⟨⟨by omega, rfl⟩, rfl, rfl⟩ subM entM ?_
  rintro k S1 H1 ⟨⟨hk, he⟩, rfl, rfl⟩
  rcases (show k = 0 ∨ k = 1 by omega) with rfl | rfl
  · have he : firstM (mvA (timesOf b) ps j p) = some (ps.set j (if p.Selected = 1 then { p with Role := p.Selected, Rr := (timesOf b).Delay } else { p with Role := p.Selected })) := he
    repeat' first
      | (conv => whnf
         first
         | intro _
         | (first | refine selSplit (fun h => ?_) (fun h => ?_) | refine condSplit (fun h => ?_) (fun h => ?_)) <;> first | exact (clash (by assumption) h).elim | exact (clash h (by assumption)).elim | (simp only [decide_eq_true_eq, decide_eq_false_iff_not, Bool.not_eq_true', Bool.not_eq_false', Bool.not_true, Bool.not_false, Bool.or_eq_true, Bool.and_eq_true, Bool.or_eq_false_iff, Bool.and_eq_false_iff, beq_iff_eq, beq_eq_false_iff_ne, ne_eq] at h; first | (exfalso; omega) | skip) | skip
         | (first | refine drM (.quiet 0 (.quiet 1 (.quiet 2 (.quiet 3 (.quiet 4 (.quiet 5 (.quiet 6 (.quiet 7 (.alloc 8 (.last 9 false .done)))))))))) (SubL.refl _) ?_)
         | refine AltP.mk ?_ ?_
         | refine kpM ?_
         | refine SeqP.go ?_
         | refine cdM ?_
         | exact IsV.mk
         | apply GuardP.mk
         | ((first | apply callPure' en_wMove1 | apply callQuiet' en_wMove1); · exact fun w _ => wMove1_w w)
         | (refine callX takeM en_dMove2 (fun w hw => dMove2_w _ p g n c j s.bp (timesOf b) s.bm bv w hx (hw.sub2 takeM)) ?_)
         | (refine loadRow hasM ?_)
         | refine Or.inl ⟨_, _, hasM, ?_⟩
         | refine Or.inl ⟨_, _, _, holeM, rfl, rfl, ?_⟩
         | refine lA ?_
         | refine lA0 ?_
         | refine lA1 ?_
         | refine lO ?_
         | refine lO0 ?_
         | refine lO1 ?_
         | refine lR ?_
         | refine lG ?_
         | refine lG0 ?_
         | refine tA ?_
         | refine tA0 ?_
         | refine tA1 ?_
         | refine BytW.ofBlk hasM rfl rfl ?_
         | refine AppW.noneB hasM leM rfl rfl rfl leM leM ?_
         | refine AppW.rowB hasM leM rfl rfl holeM leM leM ?_
         | refine AppW.blkB hasM leM rfl rfl holeM rfl rfl leM leM ?_
         | refine AppW.rowS hasM leM rfl rfl holeM (by omega) leM ?_
         | refine AppW.arrS hasM leM rfl rfl rfl holeM (by first | omega | (simp; omega)) leM ?_
         | refine ⟨sideM, ?_⟩
         | fail)
    all_goals (try conv => whnf)
    all_goals exact EndX.mk (g, c) hs0 (by rw [he]; rfl) (by rw [he]; simp only [Option.getD_some, List.map_set]; exact entM)
  · have he : firstM (mvA (timesOf b) ps j p) = none := he
    repeat' first
      | (conv => whnf
         first
         | intro _
         | (first | refine selSplit (fun h => ?_) (fun h => ?_) | refine condSplit (fun h => ?_) (fun h => ?_)) <;> first | exact (clash (by assumption) h).elim | exact (clash h (by assumption)).elim | (simp only [decide_eq_true_eq, decide_eq_false_iff_not, Bool.not_eq_true', Bool.not_eq_false', Bool.not_true, Bool.not_false, Bool.or_eq_true, Bool.and_eq_true, Bool.or_eq_false_iff, Bool.and_eq_false_iff, beq_iff_eq, beq_eq_false_iff_ne, ne_eq] at h; first | (exfalso; omega) | skip) | skip
         | (first | refine drM (.quiet 0 (.quiet 1 (.quiet 2 (.quiet 3 (.quiet 4 (.quiet 5 (.quiet 6 (.quiet 7 (.alloc 8 (.last 9 false .done)))))))))) (SubL.refl _) ?_)
         | refine AltP.mk ?_ ?_
         | refine kpM ?_
         | refine SeqP.go ?_
         | refine cdM ?_
         | exact IsV.mk
         | apply GuardP.mk
         | refine Or.inl ⟨_, _, hasM, ?_⟩
         | refine Or.inl ⟨_, _, _, holeM, rfl, rfl, ?_⟩
         | refine lA ?_
         | refine lA0 ?_
         | refine lA1 ?_
         | refine lO ?_
         | refine lO0 ?_
         | refine lO1 ?_
         | refine lR ?_
         | refine lG ?_
         | refine lG0 ?_
         | refine tA ?_
         | refine tA0 ?_
         | refine tA1 ?_
         | refine BytW.ofBlk hasM rfl rfl ?_
         | refine AppW.noneB hasM leM rfl rfl rfl leM leM ?_
         | refine AppW.rowB hasM leM rfl rfl holeM leM leM ?_
         | refine AppW.blkB hasM leM rfl rfl holeM rfl rfl leM leM ?_
         | refine AppW.rowS hasM leM rfl rfl holeM (by omega) leM ?_
         | refine AppW.arrS hasM leM rfl rfl rfl holeM (by first | omega | (simp; omega)) leM ?_
         | refine ⟨sideM, ?_⟩
         | fail)
    all_goals (try conv => whnf)
    all_goals exact EndX.mk (g, c) hs0 (by rw [he]; rfl) (by rw [he]; exact entM)
theorem MoveB_w (b : BridgeV) (ps : List PortV) (p : PortV) (n j : Nat) (h1 : p.Ready = true) (h2 : p.Update = false) (h3 : ¬ p.Selected = p.Role) (h4 : ¬ (p.Selected = 1 ∨ p.Selected = 2)) (h5 : 0 ≤ p.Selected ∧ p.Selected ≤ 4) (hn : ps.length = n) (hp : ps[j]? = some p) (h0 : rightB b = true) (A : Option Addr) (c0 : Nat) (w : World) (hs : SlAt w A 61 (ps.map PortV.enc)) (hlen : n ≤ 1000) :
    FnX Try.prog 76 [.agg ⟨b.enc⟩, .slice A n c0, .int .i64 j] [] (fun s : Nat × Nat => n ≤ s.2) (fun s => .tuple ⟨[.slice (some ⟨s.1, 0, none⟩) n s.2, .bool (firstM (mvB (timesOf b) ps j p)).isSome]⟩) (fun s => [.arr (.slice (some ⟨s.1, 0, none⟩) n s.2) 28 61 (((firstM (mvB (timesOf b) ps j p)).getD ps).map PortV.enc)]) w := by
  refine funcR_x tyOk wide Try.func76 ok_tMove (Nat.le_of_ble_eq_true rfl) (St.start0 w) ?_
  have hj : j < ps.length := (List.getElem?_eq_some_iff.1 hp).1
  have hx : (ps.map PortV.enc)[j]? = some p.enc := by rw [List.getElem?_map, hp]; rfl
  have hC := fun w hw => PClone_ne ps A c0 w hw (by omega) (by omega)
  rw [hn] at hC
  repeat' first
    | (conv => whnf
       first
       | (refine condNo ?_ ?_; · (simp [h0]; omega))
       | intro _
       | (first | refine selSplit (fun h => ?_) (fun h => ?_) | refine condSplit (fun h => ?_) (fun h => ?_)) <;> first | exact (clash (by assumption) h).elim | exact (clash h (by assumption)).elim | (simp only [decide_eq_true_eq, decide_eq_false_iff_not, Bool.not_eq_true', Bool.not_eq_false', Bool.not_true, Bool.not_false, Bool.or_eq_true, Bool.and_eq_true, Bool.or_eq_false_iff, Bool.and_eq_false_iff, beq_iff_eq, beq_eq_false_iff_ne, ne_eq] at h; first | (exfalso; omega) | skip) | skip
       | (first | refine drM (.quiet 0 (.quiet 1 (.quiet 2 (.quiet 3 (.quiet 4 (.quiet 5 (.quiet 6 (.quiet 7 (.alloc 8 (.last 9 false .done)))))))))) (SubL.refl _) ?_)
       | refine AltP.mk ?_ ?_
       | refine kpM ?_
       | refine SeqP.go ?_
       | refine cdM ?_
       | exact IsV.mk
       | apply GuardP.mk
       | (refine callX takeM en_PClone (fun w hw => hC w (hs.later hw)) ?_)
       | ((first | apply callPure' en_infoRight | apply callQuiet' en_infoRight); · exact fun w _ => infoRight_w b w)
       | (refine callX takeM en_moves (fun w hw => movesB_w (timesOf b) (ps.map PortV.enc) p _ n _ j _ h1 h2 h3 h4 h5 w hx (hw.sub2 takeM)) ?_)
       | refine Or.inl ⟨_, _, hasM, ?_⟩
       | refine Or.inl ⟨_, _, _, holeM, rfl, rfl, ?_⟩
       | refine lA ?_
       | refine lA0 ?_
       | refine lA1 ?_
       | refine lO ?_
       | refine lO0 ?_
       | refine lO1 ?_
       | refine lR ?_
       | refine lG ?_
       | refine lG0 ?_
       | refine tA ?_
       | refine tA0 ?_
       | refine tA1 ?_
       | refine BytW.ofBlk hasM rfl rfl ?_
       | refine AppW.noneB hasM leM rfl rfl rfl leM leM ?_
       | refine AppW.rowB hasM leM rfl rfl holeM leM leM ?_
       | refine AppW.blkB hasM leM rfl rfl holeM rfl rfl leM leM ?_
       | refine AppW.rowS hasM leM rfl rfl holeM (by omega) leM ?_
       | refine AppW.arrS hasM leM rfl rfl rfl holeM (by first | omega | (simp; omega)) leM ?_
       | refine ⟨sideM, ?_⟩
       | fail)
  all_goals (try conv => whnf)
  rename_i b3 s0 hs0 bv s hs1
  obtain ⟨g, c⟩ := s0
  refine .mk Nat (fun k S H => (k ≤ 1 ∧ firstM (mvB (timesOf b) ps j p) = firstM ((mvB (timesOf b) ps j p).drop k)) ∧ S = [(40, .int .i64 k), (39, .int .i64 1), (38, .slice (some ⟨s.gs, 0, none⟩) 1 1), (8, .slice (some ⟨g, 0, none⟩) n c)] ∧ H = [.blk s.gs [.func (.func 101) #[] #[], .func (.func 102) #[] #[.pointer (some ⟨s.bp, 0, none⟩)]] 130, .blk s.bp [.pointer (some ⟨g, 0 + j * 61, none⟩)] 76, .blk s.bm [.pointer (some ⟨bv, 0, none⟩)] 124, .blk bv (moverE (timesOf b) g n c j) 126, .arr (.slice (some ⟨g, 0, none⟩) n c) 28 61 (ps.map PortV.enc), .blk b3 b.enc 33]) (fun k => 1 - k) 0 _ _ ⟨⟨by omega, rfl⟩, rfl, rfl⟩ subM entM ?_
  rintro k S1 H1 ⟨⟨hk, he⟩, rfl, rfl⟩
  rcases (show k = 0 ∨ k = 1 by omega) with rfl | rfl
  · have he : firstM (mvB (timesOf b) ps j p) = some (ps.set j { p with Role := p.Selected, Learn := false, Forward := false }) := he
    repeat' first
      | (conv => whnf
         first
         | intro _
         | (first | refine selSplit (fun h => ?_) (fun h => ?_) | refine condSplit (fun h => ?_) (fun h => ?_)) <;> first | exact (clash (by assumption) h).elim | exact (clash h (by assumption)).elim | (simp only [decide_eq_true_eq, decide_eq_false_iff_not, Bool.not_eq_true', Bool.not_eq_false', Bool.not_true, Bool.not_false, Bool.or_eq_true, Bool.and_eq_true, Bool.or_eq_false_iff, Bool.and_eq_false_iff, beq_iff_eq, beq_eq_false_iff_ne, ne_eq] at h; first | (exfalso; omega) | skip) | skip
         | (first | refine drM (.quiet 0 (.quiet 1 (.quiet 2 (.quiet 3 (.quiet 4 (.quiet 5 (.quiet 6 (.quiet 7 (.alloc 8 (.last 9 false .done)))))))))) (SubL.refl _) ?_)
         | refine AltP.mk ?_ ?_
         | refine kpM ?_
         | refine SeqP.go ?_
         | refine cdM ?_
         | exact IsV.mk
         | apply GuardP.mk
         | ((first | apply callPure' en_wMove3 | apply callQuiet' en_wMove3); · exact fun w _ => wMove3_w w)
         | (refine callX takeM en_dMove4 (fun w hw => dMove4_w _ p g n c j s.bp w hx (hw.sub2 takeM)) ?_)
         | (refine loadRow hasM ?_)
         | refine Or.inl ⟨_, _, hasM, ?_⟩
         | refine Or.inl ⟨_, _, _, holeM, rfl, rfl, ?_⟩
         | refine lA ?_
         | refine lA0 ?_
         | refine lA1 ?_
         | refine lO ?_
         | refine lO0 ?_
         | refine lO1 ?_
         | refine lR ?_
         | refine lG ?_
         | refine lG0 ?_
         | refine tA ?_
         | refine tA0 ?_
         | refine tA1 ?_
         | refine BytW.ofBlk hasM rfl rfl ?_
         | refine AppW.noneB hasM leM rfl rfl rfl leM leM ?_
         | refine AppW.rowB hasM leM rfl rfl holeM leM leM ?_
         | refine AppW.blkB hasM leM rfl rfl holeM rfl rfl leM leM ?_
         | refine AppW.rowS hasM leM rfl rfl holeM (by omega) leM ?_
         | refine AppW.arrS hasM leM rfl rfl rfl holeM (by first | omega | (simp; omega)) leM ?_
         | refine ⟨sideM, ?_⟩
         | fail)
    all_goals (try conv => whnf)
    all_goals exact EndX.mk (g, c) hs0 (by rw [he]; rfl) (by rw [he]; simp only [Option.getD_some, List.map_set]; exact entM)
  · have he : firstM (mvB (timesOf b) ps j p) = none := he
    repeat' first
      | (conv => whnf
         first
         | intro _
         | (first | refine selSplit (fun h => ?_) (fun h => ?_) | refine condSplit (fun h => ?_) (fun h => ?_)) <;> first | exact (clash (by assumption) h).elim | exact (clash h (by assumption)).elim | (simp only [decide_eq_true_eq, decide_eq_false_iff_not, Bool.not_eq_true', Bool.not_eq_false', Bool.not_true, Bool.not_false, Bool.or_eq_true, Bool.and_eq_true, Bool.or_eq_false_iff, Bool.and_eq_false_iff, beq_iff_eq, beq_eq_false_iff_ne, ne_eq] at h; first | (exfalso; omega) | skip) | skip
         | (first | refine drM (.quiet 0 (.quiet 1 (.quiet 2 (.quiet 3 (.quiet 4 (.quiet 5 (.quiet 6 (.quiet 7 (.alloc 8 (.last 9 false .done)))))))))) (SubL.refl _) ?_)
         | refine AltP.mk ?_ ?_
         | refine kpM ?_
         | refine SeqP.go ?_
         | refine cdM ?_
         | exact IsV.mk
         | apply GuardP.mk
         | refine Or.inl ⟨_, _, hasM, ?_⟩
         | refine Or.inl ⟨_, _, _, holeM, rfl, rfl, ?_⟩
         | refine lA ?_
         | refine lA0 ?_
         | refine lA1 ?_
         | refine lO ?_
         | refine lO0 ?_
         | refine lO1 ?_
         | refine lR ?_
         | refine lG ?_
         | refine lG0 ?_
         | refine tA ?_
         | refine tA0 ?_
         | refine tA1 ?_
         | refine BytW.ofBlk hasM rfl rfl ?_
         | refine AppW.noneB hasM leM rfl rfl rfl leM leM ?_
         | refine AppW.rowB hasM leM rfl rfl holeM leM leM ?_
         | refine AppW.blkB hasM leM rfl rfl holeM rfl rfl leM leM ?_
         | refine AppW.rowS hasM leM rfl rfl holeM (by omega) leM ?_
         | refine AppW.arrS hasM leM rfl rfl rfl holeM (by first | omega | (simp; omega)) leM ?_
         | refine ⟨sideM, ?_⟩
         | fail)
    all_goals (try conv => whnf)
    all_goals exact EndX.mk (g, c) hs0 (by rw [he]; rfl) (by rw [he]; exact entM)
theorem MoveR_w (b : BridgeV) (ps : List PortV) (p : PortV) (n j : Nat) (h1 : p.Ready = true) (h2 : p.Update = false) (h3 : p.Selected = p.Role) (h4 : p.Role = 1) (hn : ps.length = n) (hp : ps[j]? = some p) (h0 : rightB b = true) (A : Option Addr) (c0 : Nat) (w : World) (hs : SlAt w A 61 (ps.map PortV.enc)) (hlen : n ≤ 1000) :
    FnX Try.prog 76 [.agg ⟨b.enc⟩, .slice A n c0, .int .i64 j] [] (fun s : Nat × Nat => n ≤ s.2) (fun s => .tuple ⟨[.slice (some ⟨s.1, 0, none⟩) n s.2, .bool (firstM (mvR (timesOf b) ps j p)).isSome]⟩) (fun s => [.arr (.slice (some ⟨s.1, 0, none⟩) n s.2) 28 61 (((firstM (mvR (timesOf b) ps j p)).getD ps).map PortV.enc)]) w := by
  refine funcR_x tyOk wide Try.func76 ok_tMove (Nat.le_of_ble_eq_true rfl) (St.start0 w) ?_
  have hj : j < ps.length := (List.getElem?_eq_some_iff.1 hp).1
  have hx : (ps.map PortV.enc)[j]? = some p.enc := by rw [List.getElem?_map, hp]; rfl
  have hC := fun w hw => PClone_ne ps A c0 w hw (by omega) (by omega)
  rw [hn] at hC
  repeat' first
    | (conv => whnf
       first
       | (refine condNo ?_ ?_; · (simp [h0]; omega))
       | intro _
       | (first | refine selSplit (fun h => ?_) (fun h => ?_) | refine condSplit (fun h => ?_) (fun h => ?_)) <;> first | exact (clash (by assumption) h).elim | exact (clash h (by assumption)).elim | (simp only [decide_eq_true_eq, decide_eq_false_iff_not, Bool.not_eq_true', Bool.not_eq_false', Bool.not_true, Bool.not_false, Bool.or_eq_true, Bool.and_eq_true, Bool.or_eq_false_iff, Bool.and_eq_false_iff, beq_iff_eq, beq_eq_false_iff_ne, ne_eq] at h; first | (exfalso; omega) | skip) | skip
       | (first | refine drM (.quiet 0 (.quiet 1 (.quiet 2 (.quiet 3 (.quiet 4 (.quiet 5 (.quiet 6 (.quiet 7 (.alloc 8 (.last 9 false .done)))))))))) (SubL.refl _) ?_)
       | refine AltP.mk ?_ ?_
       | refine kpM ?_
       | refine SeqP.go ?_
       | refine cdM ?_
       | exact IsV.mk
       | apply GuardP.mk
       | (refine callX takeM en_PClone (fun w hw => hC w (hs.later hw)) ?_)
       | ((first | apply callPure' en_infoRight | apply callQuiet' en_infoRight); · exact fun w _ => infoRight_w b w)
       | (refine callX takeM en_moves (fun w hw => movesR_w (timesOf b) (ps.map PortV.enc) p _ n _ j _ h1 h2 h3 h4 w hx (hw.sub2 takeM)) ?_)
       | refine Or.inl ⟨_, _, hasM, ?_⟩
       | refine Or.inl ⟨_, _, _, holeM, rfl, rfl, ?_⟩
       | refine lA ?_
       | refine lA0 ?_
       | refine lA1 ?_
       | refine lO ?_
       | refine lO0 ?_
       | refine lO1 ?_
       | refine lR ?_
       | refine lG ?_
       | refine lG0 ?_
       | refine tA ?_
       | refine tA0 ?_
       | refine tA1 ?_
       | refine BytW.ofBlk hasM rfl rfl ?_
       | refine AppW.noneB hasM leM rfl rfl rfl leM leM ?_
       | refine AppW.rowB hasM leM rfl rfl holeM leM leM ?_
       | refine AppW.blkB hasM leM rfl rfl holeM rfl rfl leM leM ?_
       | refine AppW.rowS hasM leM rfl rfl holeM (by omega) leM ?_
       | refine AppW.arrS hasM leM rfl rfl rfl holeM (by first | omega | (simp; omega)) leM ?_
       | refine ⟨sideM, ?_⟩
       | fail)
  all_goals (try conv => whnf)
  rename_i b3 s0 hs0 bv s hs1
  obtain ⟨g, c⟩ := s0
  refine .mk Nat (fun k S H => (k ≤ 8 ∧ firstM (mvR (timesOf b) ps j p) = firstM ((mvR (timesOf b) ps j p).drop k)) ∧ S = [(40, .int .i64 k), (39, .int .i64 8), (38, .slice (some ⟨s.gr, 0, none⟩) 8 s.q), (8, .slice (some ⟨g, 0, none⟩) n c)] ∧ H = [.row (.slice (some ⟨s.gr, 0, none⟩) 8 s.q) 130 2 8 (propE s.pm s.pp bv ++ rootE s.bm s.bp ++ stepE s.sm s.sw s.st s.sp), .blk s.bp [.pointer (some ⟨g, 0 + j * 61, none⟩)] 76, .blk s.bm [.pointer (some ⟨bv, 0, none⟩)] 124, .blk s.pp [.pointer (some ⟨g, 0 + j * 61, none⟩)] 76, .blk s.pm [.pointer (some ⟨bv, 0, none⟩)] 124, .blk s.sp [.pointer (some ⟨g, 0 + j * 61, none⟩)] 76, .blk s.st [.func (.func 119) #[] #[]] 1, .blk s.sw (boxF2 117 s.bp s.bm) 29, .blk s.sm [.pointer (some ⟨bv, 0, none⟩)] 124, .blk bv (moverE (timesOf b) g n c j) 126, .arr (.slice (some ⟨g, 0, none⟩) n c) 28 61 (ps.map PortV.enc), .blk b3 b.enc 33]) (fun k => 8 - k) 0 _ _ ⟨⟨by omega, rfl⟩, rfl, rfl⟩ subM entM ?_
  rintro k S1 H1 ⟨⟨hk, he⟩, rfl, rfl⟩
  rcases (show k = 0 ∨ k = 1 ∨ k = 2 ∨ k = 3 ∨ k = 4 ∨ k = 5 ∨ k = 6 ∨ k = 7 ∨ k = 8 by omega) with rfl | rfl | rfl | rfl | rfl | rfl | rfl | rfl | rfl
  · obtain ⟨wk, hwk⟩ : ∃ wk, (p.Proposed && !p.Agree) = wk := ⟨_, rfl⟩
    have he : firstM (mvR (timesOf b) ps j p) = if (p.Proposed && !p.Agree) = true then some (askV ps j p) else firstM ((mvR (timesOf b) ps j p).drop 1) := he
    rw [hwk] at he
    repeat' first
      | (conv => whnf
         first
         | intro _
         | (first | refine selSplit (fun h => ?_) (fun h => ?_) | refine condSplit (fun h => ?_) (fun h => ?_)) <;> first | exact (clash (by assumption) h).elim | exact (clash h (by assumption)).elim | (simp only [decide_eq_true_eq, decide_eq_false_iff_not, Bool.not_eq_true', Bool.not_eq_false', Bool.not_true, Bool.not_false, Bool.or_eq_true, Bool.and_eq_true, Bool.or_eq_false_iff, Bool.and_eq_false_iff, beq_iff_eq, beq_eq_false_iff_ne, ne_eq] at h; first | (exfalso; omega) | skip) | skip
         | (first | refine drM (.quiet 0 (.quiet 1 (.quiet 2 (.quiet 3 (.quiet 4 (.quiet 5 (.quiet 6 (.quiet 7 (.alloc 8 (.last 9 false .done)))))))))) (SubL.refl _) ?_)
         | refine AltP.mk ?_ ?_
         | refine kpM ?_
         | refine SeqP.go ?_
         | refine cdM ?_
         | exact IsV.mk
         | apply GuardP.mk
         | ((first | apply callPure' en_wProp1 | apply callQuiet' en_wProp1); · exact fun w hw => PuAt.to (wProp1_w p g j s.pp w (hw.range hasM) (hw.elem hasM hx)) (congrArg Value.bool hwk))
         | (refine callX takeM en_tAsk (fun w hw => tAsk_w ps p g n c j (timesOf b) bv hn hlen hp w (hw.sub2 takeM)) ?_)
         | (refine loadRow hasM ?_)
         | refine Or.inl ⟨_, _, hasM, ?_⟩
         | refine Or.inl ⟨_, _, _, holeM, rfl, rfl, ?_⟩
         | refine lA ?_
         | refine lA0 ?_
         | refine lA1 ?_
         | refine lO ?_
         | refine lO0 ?_
         | refine lO1 ?_
         | refine lR ?_
         | refine lG ?_
         | refine lG0 ?_
         | refine tA ?_
         | refine tA0 ?_
         | refine tA1 ?_
         | refine BytW.ofBlk hasM rfl rfl ?_
         | refine AppW.noneB hasM leM rfl rfl rfl leM leM ?_
         | refine AppW.rowB hasM leM rfl rfl holeM leM leM ?_
         | refine AppW.blkB hasM leM rfl rfl holeM rfl rfl leM leM ?_
         | refine AppW.rowS hasM leM rfl rfl holeM (by omega) leM ?_
         | refine AppW.arrS hasM leM rfl rfl rfl holeM (by first | omega | (simp; omega)) leM ?_
         | refine ⟨sideM, ?_⟩
         | fail)
    all_goals (try conv => whnf)
    all_goals first
      | (rw [if_pos h] at he; exact EndX.mk (g, c) hs0 (by rw [he]; rfl) (by rw [he]; simp only [Option.getD_some, List.map_set]; exact entM))
      | (rw [if_neg (by rw [h]; decide)] at he; exact .mk 1 _ _ (by decide) ⟨⟨by omega, he⟩, rfl, rfl⟩ subM entM)
  · obtain ⟨wk, hwk⟩ : ∃ wk, (!p.Agree && syncedB ps j || p.Proposed && p.Agree) = wk := ⟨_, rfl⟩
    have he : firstM (mvR (timesOf b) ps j p) = if (!p.Agree && syncedB ps j || p.Proposed && p.Agree) = true then some (ps.set j { agreeV p with Sync := p.Sync && !decide (p.Role = 1) }) else firstM ((mvR (timesOf b) ps j p).drop 2) := he
    rw [hwk] at he
    repeat' first
      | (conv => whnf
         first
         | intro _
         | (first | refine selSplit (fun h => ?_) (fun h => ?_) | refine condSplit (fun h => ?_) (fun h => ?_)) <;> first | exact (clash (by assumption) h).elim | exact (clash h (by assumption)).elim | (simp only [decide_eq_true_eq, decide_eq_false_iff_not, Bool.not_eq_true', Bool.not_eq_false', Bool.not_true, Bool.not_false, Bool.or_eq_true, Bool.and_eq_true, Bool.or_eq_false_iff, Bool.and_eq_false_iff, beq_iff_eq, beq_eq_false_iff_ne, ne_eq] at h; first | (exfalso; omega) | skip) | skip
         | (first | refine drM (.quiet 0 (.quiet 1 (.quiet 2 (.quiet 3 (.quiet 4 (.quiet 5 (.quiet 6 (.quiet 7 (.alloc 8 (.last 9 false .done)))))))))) (SubL.refl _) ?_)
         | refine AltP.mk ?_ ?_
         | refine kpM ?_
         | refine SeqP.go ?_
         | refine cdM ?_
         | exact IsV.mk
         | apply GuardP.mk
         | ((first | apply callPure' en_wProp2 | apply callQuiet' en_wProp2); · exact fun w hw => PuAt.to (wProp2_w p g j s.pp (timesOf b) n c s.pm bv ps hn hlen w (hw.range hasM) (hw.elem hasM hx) (hw.range hasM) (hw.range hasM) (hw.arrSl hasM)) (congrArg Value.bool hwk))
         | (refine callX takeM en_dProp3 (fun w hw => dProp3_w _ p g n c j s.pp (timesOf b) s.pm bv w hx (hw.sub2 takeM)) ?_)
         | (refine loadRow hasM ?_)
         | refine Or.inl ⟨_, _, hasM, ?_⟩
         | refine Or.inl ⟨_, _, _, holeM, rfl, rfl, ?_⟩
         | refine lA ?_
         | refine lA0 ?_
         | refine lA1 ?_
         | refine lO ?_
         | refine lO0 ?_
         | refine lO1 ?_
         | refine lR ?_
         | refine lG ?_
         | refine lG0 ?_
         | refine tA ?_
         | refine tA0 ?_
         | refine tA1 ?_
         | refine BytW.ofBlk hasM rfl rfl ?_
         | refine AppW.noneB hasM leM rfl rfl rfl leM leM ?_
         | refine AppW.rowB hasM leM rfl rfl holeM leM leM ?_
         | refine AppW.blkB hasM leM rfl rfl holeM rfl rfl leM leM ?_
         | refine AppW.rowS hasM leM rfl rfl holeM (by omega) leM ?_
         | refine AppW.arrS hasM leM rfl rfl rfl holeM (by first | omega | (simp; omega)) leM ?_
         | refine ⟨sideM, ?_⟩
         | fail)
    all_goals (try conv => whnf)
    all_goals first
      | (rw [if_pos h] at he; exact EndX.mk (g, c) hs0 (by rw [he]; rfl) (by rw [he]; simp only [Option.getD_some, List.map_set]; exact entM))
      | (rw [if_neg (by rw [h]; decide)] at he; exact .mk 2 _ _ (by decide) ⟨⟨by omega, he⟩, rfl, rfl⟩ subM entM)
  · obtain ⟨wk, hwk⟩ : ∃ wk, (p.Agreed && !p.Synced || p.Sync && p.Synced) = wk := ⟨_, rfl⟩
    have he : firstM (mvR (timesOf b) ps j p) = if (p.Agreed && !p.Synced || p.Sync && p.Synced) = true then some (ps.set j { p with Synced := true, Sync := false }) else firstM ((mvR (timesOf b) ps j p).drop 3) := he
    rw [hwk] at he
    repeat' first
      | (conv => whnf
         first
         | intro _
         | (first | refine selSplit (fun h => ?_) (fun h => ?_) | refine condSplit (fun h => ?_) (fun h => ?_)) <;> first | exact (clash (by assumption) h).elim | exact (clash h (by assumption)).elim | (simp only [decide_eq_true_eq, decide_eq_false_iff_not, Bool.not_eq_true', Bool.not_eq_false', Bool.not_true, Bool.not_false, Bool.or_eq_true, Bool.and_eq_true, Bool.or_eq_false_iff, Bool.and_eq_false_iff, beq_iff_eq, beq_eq_false_iff_ne, ne_eq] at h; first | (exfalso; omega) | skip) | skip
         | (first | refine drM (.quiet 0 (.quiet 1 (.quiet 2 (.quiet 3 (.quiet 4 (.quiet 5 (.quiet 6 (.quiet 7 (.alloc 8 (.last 9 false .done)))))))))) (SubL.refl _) ?_)
         | refine AltP.mk ?_ ?_
         | refine kpM ?_
         | refine SeqP.go ?_
         | refine cdM ?_
         | exact IsV.mk
         | apply GuardP.mk
         | ((first | apply callPure' en_wRoot1 | apply callQuiet' en_wRoot1); · exact fun w hw => PuAt.to (wRoot1_w p g j s.bp w (hw.range hasM) (hw.elem hasM hx)) (congrArg Value.bool hwk))
         | (refine callX takeM en_dRoot2 (fun w hw => dRoot2_w _ p g n c j s.bp w hx (hw.sub2 takeM)) ?_)
         | (refine loadRow hasM ?_)
         | refine Or.inl ⟨_, _, hasM, ?_⟩
         | refine Or.inl ⟨_, _, _, holeM, rfl, rfl, ?_⟩
         | refine lA ?_
         | refine lA0 ?_
         | refine lA1 ?_
         | refine lO ?_
         | refine lO0 ?_
         | refine lO1 ?_
         | refine lR ?_
         | refine lG ?_
         | refine lG0 ?_
         | refine tA ?_
         | refine tA0 ?_
         | refine tA1 ?_
         | refine BytW.ofBlk hasM rfl rfl ?_
         | refine AppW.noneB hasM leM rfl rfl rfl leM leM ?_
         | refine AppW.rowB hasM leM rfl rfl holeM leM leM ?_
         | refine AppW.blkB hasM leM rfl rfl holeM rfl rfl leM leM ?_
         | refine AppW.rowS hasM leM rfl rfl holeM (by omega) leM ?_
         | refine AppW.arrS hasM leM rfl rfl rfl holeM (by first | omega | (simp; omega)) leM ?_
         | refine ⟨sideM, ?_⟩
         | fail)
    all_goals (try conv => whnf)
    all_goals first
      | (rw [if_pos h] at he; exact EndX.mk (g, c) hs0 (by rw [he]; rfl) (by rw [he]; simp only [Option.getD_some, List.map_set]; exact entM))
      | (rw [if_neg (by rw [h]; decide)] at he; exact .mk 3 _ _ (by decide) ⟨⟨by omega, he⟩, rfl, rfl⟩ subM entM)
  · obtain ⟨wk, hwk⟩ : ∃ wk, (!p.Forward && !p.Reroot) = wk := ⟨_, rfl⟩
    have he : firstM (mvR (timesOf b) ps j p) = if (!p.Forward && !p.Reroot) = true then some (rootAll ps) else firstM ((mvR (timesOf b) ps j p).drop 4) := he
    rw [hwk] at he
    repeat' first
      | (conv => whnf
         first
         | intro _
         | (first | refine selSplit (fun h => ?_) (fun h => ?_) | refine condSplit (fun h => ?_) (fun h => ?_)) <;> first | exact (clash (by assumption) h).elim | exact (clash h (by assumption)).elim | (simp only [decide_eq_true_eq, decide_eq_false_iff_not, Bool.not_eq_true', Bool.not_eq_false', Bool.not_true, Bool.not_false, Bool.or_eq_true, Bool.and_eq_true, Bool.or_eq_false_iff, Bool.and_eq_false_iff, beq_iff_eq, beq_eq_false_iff_ne, ne_eq] at h; first | (exfalso; omega) | skip) | skip
         | (first | refine drM (.quiet 0 (.quiet 1 (.quiet 2 (.quiet 3 (.quiet 4 (.quiet 5 (.quiet 6 (.quiet 7 (.alloc 8 (.last 9 false .done)))))))))) (SubL.refl _) ?_)
         | refine AltP.mk ?_ ?_
         | refine kpM ?_
         | refine SeqP.go ?_
         | refine cdM ?_
         | exact IsV.mk
         | apply GuardP.mk
         | ((first | apply callPure' en_wRoot3 | apply callQuiet' en_wRoot3); · exact fun w hw => PuAt.to (wRoot3_w p g j s.bp w (hw.range hasM) (hw.elem hasM hx)) (congrArg Value.bool hwk))
         | (refine callX takeM en_dRoot4 (fun w hw => dRoot4_w ps g n c j (timesOf b) s.bm bv hn hlen w (hw.sub2 takeM)) ?_)
         | (refine loadRow hasM ?_)
         | refine Or.inl ⟨_, _, hasM, ?_⟩
         | refine Or.inl ⟨_, _, _, holeM, rfl, rfl, ?_⟩
         | refine lA ?_
         | refine lA0 ?_
         | refine lA1 ?_
         | refine lO ?_
         | refine lO0 ?_
         | refine lO1 ?_
         | refine lR ?_
         | refine lG ?_
         | refine lG0 ?_
         | refine tA ?_
         | refine tA0 ?_
         | refine tA1 ?_
         | refine BytW.ofBlk hasM rfl rfl ?_
         | refine AppW.noneB hasM leM rfl rfl rfl leM leM ?_
         | refine AppW.rowB hasM leM rfl rfl holeM leM leM ?_
         | refine AppW.blkB hasM leM rfl rfl holeM rfl rfl leM leM ?_
         | refine AppW.rowS hasM leM rfl rfl holeM (by omega) leM ?_
         | refine AppW.arrS hasM leM rfl rfl rfl holeM (by first | omega | (simp; omega)) leM ?_
         | refine ⟨sideM, ?_⟩
         | fail)
    all_goals (try conv => whnf)
    all_goals first
      | (rw [if_pos h] at he; exact EndX.mk (g, c) hs0 (by rw [he]; rfl) (by rw [he]; simp only [Option.getD_some, List.map_set]; exact entM))
      | (rw [if_neg (by rw [h]; decide)] at he; exact .mk 4 _ _ (by decide) ⟨⟨by omega, he⟩, rfl, rfl⟩ subM entM)
  · obtain ⟨wk, hwk⟩ : ∃ wk, (!decide (p.Rr = (timesOf b).Delay)) = wk := ⟨_, rfl⟩
    have he : firstM (mvR (timesOf b) ps j p) = if (!decide (p.Rr = (timesOf b).Delay)) = true then some (ps.set j { p with Rr := (timesOf b).Delay }) else firstM ((mvR (timesOf b) ps j p).drop 5) := he
    rw [hwk] at he
    repeat' first
      | (conv => whnf
         first
         | intro _
         | (first | refine selSplit (fun h => ?_) (fun h => ?_) | refine condSplit (fun h => ?_) (fun h => ?_)) <;> first | exact (clash (by assumption) h).elim | exact (clash h (by assumption)).elim | (simp only [decide_eq_true_eq, decide_eq_false_iff_not, Bool.not_eq_true', Bool.not_eq_false', Bool.not_true, Bool.not_false, Bool.or_eq_true, Bool.and_eq_true, Bool.or_eq_false_iff, Bool.and_eq_false_iff, beq_iff_eq, beq_eq_false_iff_ne, ne_eq] at h; first | (exfalso; omega) | skip) | skip
         | (first | refine drM (.quiet 0 (.quiet 1 (.quiet 2 (.quiet 3 (.quiet 4 (.quiet 5 (.quiet 6 (.quiet 7 (.alloc 8 (.last 9 false .done)))))))))) (SubL.refl _) ?_)
         | refine AltP.mk ?_ ?_
         | refine kpM ?_
         | refine SeqP.go ?_
         | refine cdM ?_
         | exact IsV.mk
         | apply GuardP.mk
         | ((first | apply callPure' en_wRoot5 | apply callQuiet' en_wRoot5); · exact fun w hw => PuAt.to (wRoot5_w p g j s.bp (timesOf b) n c s.bm bv w (hw.range hasM) (hw.elem hasM hx) (hw.range hasM) (hw.range hasM)) (congrArg Value.bool hwk))
         | (refine callX takeM en_dRoot6 (fun w hw => dRoot6_w _ p g n c j s.bp (timesOf b) s.bm bv w hx (hw.sub2 takeM)) ?_)
         | (refine loadRow hasM ?_)
         | refine Or.inl ⟨_, _, hasM, ?_⟩
         | refine Or.inl ⟨_, _, _, holeM, rfl, rfl, ?_⟩
         | refine lA ?_
         | refine lA0 ?_
         | refine lA1 ?_
         | refine lO ?_
         | refine lO0 ?_
         | refine lO1 ?_
         | refine lR ?_
         | refine lG ?_
         | refine lG0 ?_
         | refine tA ?_
         | refine tA0 ?_
         | refine tA1 ?_
         | refine BytW.ofBlk hasM rfl rfl ?_
         | refine AppW.noneB hasM leM rfl rfl rfl leM leM ?_
         | refine AppW.rowB hasM leM rfl rfl holeM leM leM ?_
         | refine AppW.blkB hasM leM rfl rfl holeM rfl rfl leM leM ?_
         | refine AppW.rowS hasM leM rfl rfl holeM (by omega) leM ?_
         | refine AppW.arrS hasM leM rfl rfl rfl holeM (by first | omega | (simp; omega)) leM ?_
         | refine ⟨sideM, ?_⟩
         | fail)
    all_goals (try conv => whnf)
    all_goals first
      | (rw [if_pos h] at he; exact EndX.mk (g, c) hs0 (by rw [he]; rfl) (by rw [he]; simp only [Option.getD_some, List.map_set]; exact entM))
      | (rw [if_neg (by rw [h]; decide)] at he; exact .mk 5 _ _ (by decide) ⟨⟨by omega, he⟩, rfl, rfl⟩ subM entM)
  · obtain ⟨wk, hwk⟩ : ∃ wk, (p.Reroot && p.Forward) = wk := ⟨_, rfl⟩
    have he : firstM (mvR (timesOf b) ps j p) = if (p.Reroot && p.Forward) = true then some (ps.set j { p with Reroot := false }) else firstM ((mvR (timesOf b) ps j p).drop 6) := he
    rw [hwk] at he
    repeat' first
      | (conv => whnf
         first
         | intro _
         | (first | refine selSplit (fun h => ?_) (fun h => ?_) | refine condSplit (fun h => ?_) (fun h => ?_)) <;> first | exact (clash (by assumption) h).elim | exact (clash h (by assumption)).elim | (simp only [decide_eq_true_eq, decide_eq_false_iff_not, Bool.not_eq_true', Bool.not_eq_false', Bool.not_true, Bool.not_false, Bool.or_eq_true, Bool.and_eq_true, Bool.or_eq_false_iff, Bool.and_eq_false_iff, beq_iff_eq, beq_eq_false_iff_ne, ne_eq] at h; first | (exfalso; omega) | skip) | skip
         | (first | refine drM (.quiet 0 (.quiet 1 (.quiet 2 (.quiet 3 (.quiet 4 (.quiet 5 (.quiet 6 (.quiet 7 (.alloc 8 (.last 9 false .done)))))))))) (SubL.refl _) ?_)
         | refine AltP.mk ?_ ?_
         | refine kpM ?_
         | refine SeqP.go ?_
         | refine cdM ?_
         | exact IsV.mk
         | apply GuardP.mk
         | ((first | apply callPure' en_wRoot7 | apply callQuiet' en_wRoot7); · exact fun w hw => PuAt.to (wRoot7_w p g j s.bp w (hw.range hasM) (hw.elem hasM hx)) (congrArg Value.bool hwk))
         | (refine callX takeM en_dRoot8 (fun w hw => dRoot8_w _ p g n c j s.bp w hx (hw.sub2 takeM)) ?_)
         | (refine loadRow hasM ?_)
         | refine Or.inl ⟨_, _, hasM, ?_⟩
         | refine Or.inl ⟨_, _, _, holeM, rfl, rfl, ?_⟩
         | refine lA ?_
         | refine lA0 ?_
         | refine lA1 ?_
         | refine lO ?_
         | refine lO0 ?_
         | refine lO1 ?_
         | refine lR ?_
         | refine lG ?_
         | refine lG0 ?_
         | refine tA ?_
         | refine tA0 ?_
         | refine tA1 ?_
         | refine BytW.ofBlk hasM rfl rfl ?_
         | refine AppW.noneB hasM leM rfl rfl rfl leM leM ?_
         | refine AppW.rowB hasM leM rfl rfl holeM leM leM ?_
         | refine AppW.blkB hasM leM rfl rfl holeM rfl rfl leM leM ?_
         | refine AppW.rowS hasM leM rfl rfl holeM (by omega) leM ?_
         | refine AppW.arrS hasM leM rfl rfl rfl holeM (by first | omega | (simp; omega)) leM ?_
         | refine ⟨sideM, ?_⟩
         | fail)
    all_goals (try conv => whnf)
    all_goals first
      | (rw [if_pos h] at he; exact EndX.mk (g, c) hs0 (by rw [he]; rfl) (by rw [he]; simp only [Option.getD_some, List.map_set]; exact entM))
      | (rw [if_neg (by rw [h]; decide)] at he; exact .mk 6 _ _ (by decide) ⟨⟨by omega, he⟩, rfl, rfl⟩ subM entM)
  · obtain ⟨wk, hwk⟩ : ∃ wk, (!p.Learn && mayRo ps j p) = wk := ⟨_, rfl⟩
    have he : firstM (mvR (timesOf b) ps j p) = if (!p.Learn && mayRo ps j p) = true then some (ps.set j { p with Learn := true, Fd := (timesOf b).Delay }) else firstM ((mvR (timesOf b) ps j p).drop 7) := he
    rw [hwk] at he
    repeat' first
      | (conv => whnf
         first
         | intro _
         | (first | refine selSplit (fun h => ?_) (fun h => ?_) | refine condSplit (fun h => ?_) (fun h => ?_)) <;> first | exact (clash (by assumption) h).elim | exact (clash h (by assumption)).elim | (simp only [decide_eq_true_eq, decide_eq_false_iff_not, Bool.not_eq_true', Bool.not_eq_false', Bool.not_true, Bool.not_false, Bool.or_eq_true, Bool.and_eq_true, Bool.or_eq_false_iff, Bool.and_eq_false_iff, beq_iff_eq, beq_eq_false_iff_ne, ne_eq] at h; first | (exfalso; omega) | skip) | skip
         | (first | refine drM (.quiet 0 (.quiet 1 (.quiet 2 (.quiet 3 (.quiet 4 (.quiet 5 (.quiet 6 (.quiet 7 (.alloc 8 (.last 9 false .done)))))))))) (SubL.refl _) ?_)
         | refine AltP.mk ?_ ?_
         | refine kpM ?_
         | refine SeqP.go ?_
         | refine cdM ?_
         | exact IsV.mk
         | apply GuardP.mk
         | ((first | apply callPure' en_wStep1 | apply callQuiet' en_wStep1); · exact fun w hw => PuAt.to (wStep1R_w p g j s.sp s.bp s.sw (timesOf b) n c s.bm bv ps hn hlen w (hw.range hasM) (hw.range hasM) (hw.elem hasM hx) (hw.range hasM) (hw.range hasM) (hw.range hasM) (hw.arrSl hasM)) (congrArg Value.bool hwk))
         | (refine callX takeM en_dStep2 (fun w hw => dStep2_w _ p g n c j s.sp (timesOf b) s.sm bv w hx (hw.sub2 takeM)) ?_)
         | (refine loadRow hasM ?_)
         | refine Or.inl ⟨_, _, hasM, ?_⟩
         | refine Or.inl ⟨_, _, _, holeM, rfl, rfl, ?_⟩
         | refine lA ?_
         | refine lA0 ?_
         | refine lA1 ?_
         | refine lO ?_
         | refine lO0 ?_
         | refine lO1 ?_
         | refine lR ?_
         | refine lG ?_
         | refine lG0 ?_
         | refine tA ?_
         | refine tA0 ?_
         | refine tA1 ?_
         | refine BytW.ofBlk hasM rfl rfl ?_
         | refine AppW.noneB hasM leM rfl rfl rfl leM leM ?_
         | refine AppW.rowB hasM leM rfl rfl holeM leM leM ?_
         | refine AppW.blkB hasM leM rfl rfl holeM rfl rfl leM leM ?_
         | refine AppW.rowS hasM leM rfl rfl holeM (by omega) leM ?_
         | refine AppW.arrS hasM leM rfl rfl rfl holeM (by first | omega | (simp; omega)) leM ?_
         | refine ⟨sideM, ?_⟩
         | fail)
    all_goals (try conv => whnf)
    all_goals first
      | (rw [if_pos h] at he; exact EndX.mk (g, c) hs0 (by rw [he]; rfl) (by rw [he]; simp only [Option.getD_some, List.map_set]; exact entM))
      | (rw [if_neg (by rw [h]; decide)] at he; exact .mk 7 _ _ (by decide) ⟨⟨by omega, he⟩, rfl, rfl⟩ subM entM)
  · obtain ⟨wk, hwk⟩ : ∃ wk, (p.Learn && !p.Forward && mayRo ps j p) = wk := ⟨_, rfl⟩
    have he : firstM (mvR (timesOf b) ps j p) = if (p.Learn && !p.Forward && mayRo ps j p) = true then some (ps.set j { p with Forward := true, Fd := 0 }) else firstM ((mvR (timesOf b) ps j p).drop 8) := he
    rw [hwk] at he
    repeat' first
      | (conv => whnf
         first
         | intro _
         | (first | refine selSplit (fun h => ?_) (fun h => ?_) | refine condSplit (fun h => ?_) (fun h => ?_)) <;> first | exact (clash (by assumption) h).elim | exact (clash h (by assumption)).elim | (simp only [decide_eq_true_eq, decide_eq_false_iff_not, Bool.not_eq_true', Bool.not_eq_false', Bool.not_true, Bool.not_false, Bool.or_eq_true, Bool.and_eq_true, Bool.or_eq_false_iff, Bool.and_eq_false_iff, beq_iff_eq, beq_eq_false_iff_ne, ne_eq] at h; first | (exfalso; omega) | skip) | skip
         | (first | refine drM (.quiet 0 (.quiet 1 (.quiet 2 (.quiet 3 (.quiet 4 (.quiet 5 (.quiet 6 (.quiet 7 (.alloc 8 (.last 9 false .done)))))))))) (SubL.refl _) ?_)
         | refine AltP.mk ?_ ?_
         | refine kpM ?_
         | refine SeqP.go ?_
         | refine cdM ?_
         | exact IsV.mk
         | apply GuardP.mk
         | ((first | apply callPure' en_wStep3 | apply callQuiet' en_wStep3); · exact fun w hw => PuAt.to (wStep3R_w p g j s.sp s.bp s.sw (timesOf b) n c s.bm bv ps hn hlen w (hw.range hasM) (hw.range hasM) (hw.elem hasM hx) (hw.range hasM) (hw.range hasM) (hw.range hasM) (hw.arrSl hasM)) (congrArg Value.bool hwk))
         | (refine callX takeM en_dStep4 (fun w hw => dStep4R_w _ p g n c j s.sp s.st w hx (hw.sub2 takeM)) ?_)
         | (refine loadRow hasM ?_)
         | refine Or.inl ⟨_, _, hasM, ?_⟩
         | refine Or.inl ⟨_, _, _, holeM, rfl, rfl, ?_⟩
         | refine lA ?_
         | refine lA0 ?_
         | refine lA1 ?_
         | refine lO ?_
         | refine lO0 ?_
         | refine lO1 ?_
         | refine lR ?_
         | refine lG ?_
         | refine lG0 ?_
         | refine tA ?_
         | refine tA0 ?_
         | refine tA1 ?_
         | refine BytW.ofBlk hasM rfl rfl ?_
         | refine AppW.noneB hasM leM rfl rfl rfl leM leM ?_
         | refine AppW.rowB hasM leM rfl rfl holeM leM leM ?_
         | refine AppW.blkB hasM leM rfl rfl holeM rfl rfl leM leM ?_
         | refine AppW.rowS hasM leM rfl rfl holeM (by omega) leM ?_
         | refine AppW.arrS hasM leM rfl rfl rfl holeM (by first | omega | (simp; omega)) leM ?_
         | refine ⟨sideM, ?_⟩
         | fail)
    all_goals (try conv => whnf)
    all_goals first
      | (rw [if_pos h] at he; exact EndX.mk (g, c) hs0 (by rw [he]; rfl) (by rw [he]; simp only [Option.getD_some, List.map_set]; exact entM))
      | (rw [if_neg (by rw [h]; decide)] at he; exact .mk 8 _ _ (by decide) ⟨⟨by omega, he⟩, rfl, rfl⟩ subM entM)
  · have he : firstM (mvR (timesOf b) ps j p) = none := he
    repeat' first
      | (conv => whnf
         first
         | intro _
         | (first | refine selSplit (fun h => ?_) (fun h => ?_) | refine condSplit (fun h => ?_) (fun h => ?_)) <;> first | exact (clash (by assumption) h).elim | exact (clash h (by assumption)).elim | (simp only [decide_eq_true_eq, decide_eq_false_iff_not, Bool.not_eq_true', Bool.not_eq_false', Bool.not_true, Bool.not_false, Bool.or_eq_true, Bool.and_eq_true, Bool.or_eq_false_iff, Bool.and_eq_false_iff, beq_iff_eq, beq_eq_false_iff_ne, ne_eq] at h; first | (exfalso; omega) | skip) | skip
         | (first | refine drM (.quiet 0 (.quiet 1 (.quiet 2 (.quiet 3 (.quiet 4 (.quiet 5 (.quiet 6 (.quiet 7 (.alloc 8 (.last 9 false .done)))))))))) (SubL.refl _) ?_)
         | refine AltP.mk ?_ ?_
         | refine kpM ?_
         | refine SeqP.go ?_
         | refine cdM ?_
         | exact IsV.mk
         | apply GuardP.mk
         | refine Or.inl ⟨_, _, hasM, ?_⟩
         | refine Or.inl ⟨_, _, _, holeM, rfl, rfl, ?_⟩
         | refine lA ?_
         | refine lA0 ?_
         | refine lA1 ?_
         | refine lO ?_
         | refine lO0 ?_
         | refine lO1 ?_
         | refine lR ?_
         | refine lG ?_
         | refine lG0 ?_
         | refine tA ?_
         | refine tA0 ?_
         | refine tA1 ?_
         | refine BytW.ofBlk hasM rfl rfl ?_
         | refine AppW.noneB hasM leM rfl rfl rfl leM leM ?_
         | refine AppW.rowB hasM leM rfl rfl holeM leM leM ?_
         | refine AppW.blkB hasM leM rfl rfl holeM rfl rfl leM leM ?_
         | refine AppW.rowS hasM leM rfl rfl holeM (by omega) leM ?_
         | refine AppW.arrS hasM leM rfl rfl rfl holeM (by first | omega | (simp; omega)) leM ?_
         | refine ⟨sideM, ?_⟩
         | fail)
    all_goals (try conv => whnf)
    all_goals exact EndX.mk (g, c) hs0 (by rw [he]; rfl) (by rw [he]; exact entM)
theorem MoveT_w (b : BridgeV) (ps : List PortV) (p : PortV) (n j : Nat) (h1 : p.Ready = true) (h2 : p.Update = false) (h3 : p.Selected = p.Role) (h4 : p.Role = 2) (hn : ps.length = n) (hp : ps[j]? = some p) (h0 : rightB b = true) (A : Option Addr) (c0 : Nat) (w : World) (hs : SlAt w A 61 (ps.map PortV.enc)) (hlen : n ≤ 1000) :
    FnX Try.prog 76 [.agg ⟨b.enc⟩, .slice A n c0, .int .i64 j] [] (fun s : Nat × Nat => n ≤ s.2) (fun s => .tuple ⟨[.slice (some ⟨s.1, 0, none⟩) n s.2, .bool (firstM (mvT (timesOf b) ps j p)).isSome]⟩) (fun s => [.arr (.slice (some ⟨s.1, 0, none⟩) n s.2) 28 61 (((firstM (mvT (timesOf b) ps j p)).getD ps).map PortV.enc)]) w := by
  refine funcR_x tyOk wide Try.func76 ok_tMove (Nat.le_of_ble_eq_true rfl) (St.start0 w) ?_
  have hj : j < ps.length := (List.getElem?_eq_some_iff.1 hp).1
  have hx : (ps.map PortV.enc)[j]? = some p.enc := by rw [List.getElem?_map, hp]; rfl
  have hC := fun w hw => PClone_ne ps A c0 w hw (by omega) (by omega)
  rw [hn] at hC
  repeat' first
    | (conv => whnf
       first
       | (refine condNo ?_ ?_; · (simp [h0]; omega))
       | intro _
       | (first | refine selSplit (fun h => ?_) (fun h => ?_) | refine condSplit (fun h => ?_) (fun h => ?_)) <;> first | exact (clash (by assumption) h).elim | exact (clash h (by assumption)).elim | (simp only [decide_eq_true_eq, decide_eq_false_iff_not, Bool.not_eq_true', Bool.not_eq_false', Bool.not_true, Bool.not_false, Bool.or_eq_true, Bool.and_eq_true, Bool.or_eq_false_iff, Bool.and_eq_false_iff, beq_iff_eq, beq_eq_false_iff_ne, ne_eq] at h; first | (exfalso; omega) | skip) | skip
       | (first | refine drM (.quiet 0 (.quiet 1 (.quiet 2 (.quiet 3 (.quiet 4 (.quiet 5 (.quiet 6 (.quiet 7 (.alloc 8 (.last 9 false .done)))))))))) (SubL.refl _) ?_)
       | refine AltP.mk ?_ ?_
       | refine kpM ?_
       | refine SeqP.go ?_
       | refine cdM ?_
       | exact IsV.mk
       | apply GuardP.mk
       | (refine callX takeM en_PClone (fun w hw => hC w (hs.later hw)) ?_)
       | ((first | apply callPure' en_infoRight | apply callQuiet' en_infoRight); · exact fun w _ => infoRight_w b w)
       | (refine callX takeM en_moves (fun w hw => movesT_w (timesOf b) (ps.map PortV.enc) p _ n _ j _ h1 h2 h3 h4 w hx (hw.sub2 takeM)) ?_)
       | refine Or.inl ⟨_, _, hasM, ?_⟩
       | refine Or.inl ⟨_, _, _, holeM, rfl, rfl, ?_⟩
       | refine lA ?_
       | refine lA0 ?_
       | refine lA1 ?_
       | refine lO ?_
       | refine lO0 ?_
       | refine lO1 ?_
       | refine lR ?_
       | refine lG ?_
       | refine lG0 ?_
       | refine tA ?_
       | refine tA0 ?_
       | refine tA1 ?_
       | refine BytW.ofBlk hasM rfl rfl ?_
       | refine AppW.noneB hasM leM rfl rfl rfl leM leM ?_
       | refine AppW.rowB hasM leM rfl rfl holeM leM leM ?_
       | refine AppW.blkB hasM leM rfl rfl holeM rfl rfl leM leM ?_
       | refine AppW.rowS hasM leM rfl rfl holeM (by omega) leM ?_
       | refine AppW.arrS hasM leM rfl rfl rfl holeM (by first | omega | (simp; omega)) leM ?_
       | refine ⟨sideM, ?_⟩
       | fail)
  all_goals (try conv => whnf)
  rename_i b3 s0 hs0 bv s hs1
  obtain ⟨g, c⟩ := s0
  refine .mk Nat (fun k S H => (k ≤ 6 ∧ firstM (mvT (timesOf b) ps j p) = firstM ((mvT (timesOf b) ps j p).drop k)) ∧ S = [(40, .int .i64 k), (39, .int .i64 6), (38, .slice (some ⟨s.gr, 0, none⟩) 6 s.q), (8, .slice (some ⟨g, 0, none⟩) n c)] ∧ H = [.row (.slice (some ⟨s.gr, 0, none⟩) 6 s.q) 130 2 6 (toldE s.bm s.bp ++ stepE s.sm s.sw s.st s.sp), .blk s.bp [.pointer (some ⟨g, 0 + j * 61, none⟩)] 76, .blk s.bm [.pointer (some ⟨bv, 0, none⟩)] 124, .blk s.sp [.pointer (some ⟨g, 0 + j * 61, none⟩)] 76, .blk s.st (boxF 130 s.bp) 1, .blk s.sw (boxF 129 s.bp) 29, .blk s.sm [.pointer (some ⟨bv, 0, none⟩)] 124, .blk bv (moverE (timesOf b) g n c j) 126, .arr (.slice (some ⟨g, 0, none⟩) n c) 28 61 (ps.map PortV.enc), .blk b3 b.enc 33]) (fun k => 6 - k) 0 _ _ ⟨⟨by omega, rfl⟩, rfl, rfl⟩ subM entM ?_
  rintro k S1 H1 ⟨⟨hk, he⟩, rfl, rfl⟩
  rcases (show k = 0 ∨ k = 1 ∨ k = 2 ∨ k = 3 ∨ k = 4 ∨ k = 5 ∨ k = 6 by omega) with rfl | rfl | rfl | rfl | rfl | rfl | rfl
  · obtain ⟨wk, hwk⟩ : ∃ wk, (!p.Forward && !p.Agreed && !p.Proposing && !p.Oper && p.SendRstp) = wk := ⟨_, rfl⟩
    have he : firstM (mvT (timesOf b) ps j p) = if (!p.Forward && !p.Agreed && !p.Proposing && !p.Oper && p.SendRstp) = true then some (ps.set j { p with Proposing := true, NewInfo := true, Edge := 3 }) else firstM ((mvT (timesOf b) ps j p).drop 1) := he
    rw [hwk] at he
    repeat' first
      | (conv => whnf
         first
         | intro _
         | (first | refine selSplit (fun h => ?_) (fun h => ?_) | refine condSplit (fun h => ?_) (fun h => ?_)) <;> first | exact (clash (by assumption) h).elim | exact (clash h (by assumption)).elim | (simp only [decide_eq_true_eq, decide_eq_false_iff_not, Bool.not_eq_true', Bool.not_eq_false', Bool.not_true, Bool.not_false, Bool.or_eq_true, Bool.and_eq_true, Bool.or_eq_false_iff, Bool.and_eq_false_iff, beq_iff_eq, beq_eq_false_iff_ne, ne_eq] at h; first | (exfalso; omega) | skip) | skip
         | (first | refine drM (.quiet 0 (.quiet 1 (.quiet 2 (.quiet 3 (.quiet 4 (.quiet 5 (.quiet 6 (.quiet 7 (.alloc 8 (.last 9 false .done)))))))))) (SubL.refl _) ?_)
         | refine AltP.mk ?_ ?_
         | refine kpM ?_
         | refine SeqP.go ?_
         | refine cdM ?_
         | exact IsV.mk
         | apply GuardP.mk
         | ((first | apply callPure' en_wTold1 | apply callQuiet' en_wTold1); · exact fun w hw => PuAt.to (wTold1_w p g j s.bp w (hw.range hasM) (hw.elem hasM hx)) (congrArg Value.bool hwk))
         | (refine callX takeM en_dTold2 (fun w hw => dTold2_w _ p g n c j s.bp w hx (hw.sub2 takeM)) ?_)
         | (refine loadRow hasM ?_)
         | refine Or.inl ⟨_, _, hasM, ?_⟩
         | refine Or.inl ⟨_, _, _, holeM, rfl, rfl, ?_⟩
         | refine lA ?_
         | refine lA0 ?_
         | refine lA1 ?_
         | refine lO ?_
         | refine lO0 ?_
         | refine lO1 ?_
         | refine lR ?_
         | refine lG ?_
         | refine lG0 ?_
         | refine tA ?_
         | refine tA0 ?_
         | refine tA1 ?_
         | refine BytW.ofBlk hasM rfl rfl ?_
         | refine AppW.noneB hasM leM rfl rfl rfl leM leM ?_
         | refine AppW.rowB hasM leM rfl rfl holeM leM leM ?_
         | refine AppW.blkB hasM leM rfl rfl holeM rfl rfl leM leM ?_
         | refine AppW.rowS hasM leM rfl rfl holeM (by omega) leM ?_
         | refine AppW.arrS hasM leM rfl rfl rfl holeM (by first | omega | (simp; omega)) leM ?_
         | refine ⟨sideM, ?_⟩
         | fail)
    all_goals (try conv => whnf)
    all_goals first
      | (rw [if_pos h] at he; exact EndX.mk (g, c) hs0 (by rw [he]; rfl) (by rw [he]; simp only [Option.getD_some, List.map_set]; exact entM))
      | (rw [if_neg (by rw [h]; decide)] at he; exact .mk 1 _ _ (by decide) ⟨⟨by omega, he⟩, rfl, rfl⟩ subM entM)
  · obtain ⟨wk, hwk⟩ : ∃ wk, (!p.Synced && (stillB p || p.Agreed || p.Oper) || p.Sync && p.Synced) = wk := ⟨_, rfl⟩
    have he : firstM (mvT (timesOf b) ps j p) = if (!p.Synced && (stillB p || p.Agreed || p.Oper) || p.Sync && p.Synced) = true then some (ps.set j { p with Rr := 0, Synced := true, Sync := false }) else firstM ((mvT (timesOf b) ps j p).drop 2) := he
    rw [hwk] at he
    repeat' first
      | (conv => whnf
         first
         | intro _
         | (first | refine selSplit (fun h => ?_) (fun h => ?_) | refine condSplit (fun h => ?_) (fun h => ?_)) <;> first | exact (clash (by assumption) h).elim | exact (clash h (by assumption)).elim | (simp only [decide_eq_true_eq, decide_eq_false_iff_not, Bool.not_eq_true', Bool.not_eq_false', Bool.not_true, Bool.not_false, Bool.or_eq_true, Bool.and_eq_true, Bool.or_eq_false_iff, Bool.and_eq_false_iff, beq_iff_eq, beq_eq_false_iff_ne, ne_eq] at h; first | (exfalso; omega) | skip) | skip
         | (first | refine drM (.quiet 0 (.quiet 1 (.quiet 2 (.quiet 3 (.quiet 4 (.quiet 5 (.quiet 6 (.quiet 7 (.alloc 8 (.last 9 false .done)))))))))) (SubL.refl _) ?_)
         | refine AltP.mk ?_ ?_
         | refine kpM ?_
         | refine SeqP.go ?_
         | refine cdM ?_
         | exact IsV.mk
         | apply GuardP.mk
         | ((first | apply callPure' en_wTold3 | apply callQuiet' en_wTold3); · exact fun w hw => PuAt.to (wTold3_w p g j s.bp w (hw.range hasM) (hw.elem hasM hx)) (congrArg Value.bool hwk))
         | (refine callX takeM en_dTold4 (fun w hw => dTold4_w _ p g n c j s.bp w hx (hw.sub2 takeM)) ?_)
         | (refine loadRow hasM ?_)
         | refine Or.inl ⟨_, _, hasM, ?_⟩
         | refine Or.inl ⟨_, _, _, holeM, rfl, rfl, ?_⟩
         | refine lA ?_
         | refine lA0 ?_
         | refine lA1 ?_
         | refine lO ?_
         | refine lO0 ?_
         | refine lO1 ?_
         | refine lR ?_
         | refine lG ?_
         | refine lG0 ?_
         | refine tA ?_
         | refine tA0 ?_
         | refine tA1 ?_
         | refine BytW.ofBlk hasM rfl rfl ?_
         | refine AppW.noneB hasM leM rfl rfl rfl leM leM ?_
         | refine AppW.rowB hasM leM rfl rfl holeM leM leM ?_
         | refine AppW.blkB hasM leM rfl rfl holeM rfl rfl leM leM ?_
         | refine AppW.rowS hasM leM rfl rfl holeM (by omega) leM ?_
         | refine AppW.arrS hasM leM rfl rfl rfl holeM (by first | omega | (simp; omega)) leM ?_
         | refine ⟨sideM, ?_⟩
         | fail)
    all_goals (try conv => whnf)
    all_goals first
      | (rw [if_pos h] at he; exact EndX.mk (g, c) hs0 (by rw [he]; rfl) (by rw [he]; simp only [Option.getD_some, List.map_set]; exact entM))
      | (rw [if_neg (by rw [h]; decide)] at he; exact .mk 2 _ _ (by decide) ⟨⟨by omega, he⟩, rfl, rfl⟩ subM entM)
  · obtain ⟨wk, hwk⟩ : ∃ wk, (decide (p.Rr = 0) && p.Reroot) = wk := ⟨_, rfl⟩
    have he : firstM (mvT (timesOf b) ps j p) = if (decide (p.Rr = 0) && p.Reroot) = true then some (ps.set j { p with Reroot := false }) else firstM ((mvT (timesOf b) ps j p).drop 3) := he
    rw [hwk] at he
    repeat' first
      | (conv => whnf
         first
         | intro _
         | (first | refine selSplit (fun h => ?_) (fun h => ?_) | refine condSplit (fun h => ?_) (fun h => ?_)) <;> first | exact (clash (by assumption) h).elim | exact (clash h (by assumption)).elim | (simp only [decide_eq_true_eq, decide_eq_false_iff_not, Bool.not_eq_true', Bool.not_eq_false', Bool.not_true, Bool.not_false, Bool.or_eq_true, Bool.and_eq_true, Bool.or_eq_false_iff, Bool.and_eq_false_iff, beq_iff_eq, beq_eq_false_iff_ne, ne_eq] at h; first | (exfalso; omega) | skip) | skip
         | (first | refine drM (.quiet 0 (.quiet 1 (.quiet 2 (.quiet 3 (.quiet 4 (.quiet 5 (.quiet 6 (.quiet 7 (.alloc 8 (.last 9 false .done)))))))))) (SubL.refl _) ?_)
         | refine AltP.mk ?_ ?_
         | refine kpM ?_
         | refine SeqP.go ?_
         | refine cdM ?_
         | exact IsV.mk
         | apply GuardP.mk
         | ((first | apply callPure' en_wTold5 | apply callQuiet' en_wTold5); · exact fun w hw => PuAt.to (wTold5_w p g j s.bp w (hw.range hasM) (hw.elem hasM hx)) (congrArg Value.bool hwk))
         | (refine callX takeM en_dTold6 (fun w hw => dTold6_w _ p g n c j s.bp w hx (hw.sub2 takeM)) ?_)
         | (refine loadRow hasM ?_)
         | refine Or.inl ⟨_, _, hasM, ?_⟩
         | refine Or.inl ⟨_, _, _, holeM, rfl, rfl, ?_⟩
         | refine lA ?_
         | refine lA0 ?_
         | refine lA1 ?_
         | refine lO ?_
         | refine lO0 ?_
         | refine lO1 ?_
         | refine lR ?_
         | refine lG ?_
         | refine lG0 ?_
         | refine tA ?_
         | refine tA0 ?_
         | refine tA1 ?_
         | refine BytW.ofBlk hasM rfl rfl ?_
         | refine AppW.noneB hasM leM rfl rfl rfl leM leM ?_
         | refine AppW.rowB hasM leM rfl rfl holeM leM leM ?_
         | refine AppW.blkB hasM leM rfl rfl holeM rfl rfl leM leM ?_
         | refine AppW.rowS hasM leM rfl rfl holeM (by omega) leM ?_
         | refine AppW.arrS hasM leM rfl rfl rfl holeM (by first | omega | (simp; omega)) leM ?_
         | refine ⟨sideM, ?_⟩
         | fail)
    all_goals (try conv => whnf)
    all_goals first
      | (rw [if_pos h] at he; exact EndX.mk (g, c) hs0 (by rw [he]; rfl) (by rw [he]; simp only [Option.getD_some, List.map_set]; exact entM))
      | (rw [if_neg (by rw [h]; decide)] at he; exact .mk 3 _ _ (by decide) ⟨⟨by omega, he⟩, rfl, rfl⟩ subM entM)
  · obtain ⟨wk, hwk⟩ : ∃ wk, ((p.Sync && !p.Synced || p.Reroot && !decide (p.Rr = 0) || p.Disputed) && !p.Oper && (p.Learn || p.Forward)) = wk := ⟨_, rfl⟩
    have he : firstM (mvT (timesOf b) ps j p) = if ((p.Sync && !p.Synced || p.Reroot && !decide (p.Rr = 0) || p.Disputed) && !p.Oper && (p.Learn || p.Forward)) = true then some (ps.set j { p with Learn := false, Forward := false, Disputed := false, Fd := (timesOf b).Delay }) else firstM ((mvT (timesOf b) ps j p).drop 4) := he
    rw [hwk] at he
    repeat' first
      | (conv => whnf
         first
         | intro _
         | (first | refine selSplit (fun h => ?_) (fun h => ?_) | refine condSplit (fun h => ?_) (fun h => ?_)) <;> first | exact (clash (by assumption) h).elim | exact (clash h (by assumption)).elim | (simp only [decide_eq_true_eq, decide_eq_false_iff_not, Bool.not_eq_true', Bool.not_eq_false', Bool.not_true, Bool.not_false, Bool.or_eq_true, Bool.and_eq_true, Bool.or_eq_false_iff, Bool.and_eq_false_iff, beq_iff_eq, beq_eq_false_iff_ne, ne_eq] at h; first | (exfalso; omega) | skip) | skip
         | (first | refine drM (.quiet 0 (.quiet 1 (.quiet 2 (.quiet 3 (.quiet 4 (.quiet 5 (.quiet 6 (.quiet 7 (.alloc 8 (.last 9 false .done)))))))))) (SubL.refl _) ?_)
         | refine AltP.mk ?_ ?_
         | refine kpM ?_
         | refine SeqP.go ?_
         | refine cdM ?_
         | exact IsV.mk
         | apply GuardP.mk
         | ((first | apply callPure' en_wTold7 | apply callQuiet' en_wTold7); · exact fun w hw => PuAt.to (wTold7_w p g j s.bp w (hw.range hasM) (hw.elem hasM hx)) (congrArg Value.bool hwk))
         | (refine callX takeM en_dTold8 (fun w hw => dTold8_w _ p g n c j s.bp (timesOf b) s.bm bv w hx (hw.sub2 takeM)) ?_)
         | (refine loadRow hasM ?_)
         | refine Or.inl ⟨_, _, hasM, ?_⟩
         | refine Or.inl ⟨_, _, _, holeM, rfl, rfl, ?_⟩
         | refine lA ?_
         | refine lA0 ?_
         | refine lA1 ?_
         | refine lO ?_
         | refine lO0 ?_
         | refine lO1 ?_
         | refine lR ?_
         | refine lG ?_
         | refine lG0 ?_
         | refine tA ?_
         | refine tA0 ?_
         | refine tA1 ?_
         | refine BytW.ofBlk hasM rfl rfl ?_
         | refine AppW.noneB hasM leM rfl rfl rfl leM leM ?_
         | refine AppW.rowB hasM leM rfl rfl holeM leM leM ?_
         | refine AppW.blkB hasM leM rfl rfl holeM rfl rfl leM leM ?_
         | refine AppW.rowS hasM leM rfl rfl holeM (by omega) leM ?_
         | refine AppW.arrS hasM leM rfl rfl rfl holeM (by first | omega | (simp; omega)) leM ?_
         | refine ⟨sideM, ?_⟩
         | fail)
    all_goals (try conv => whnf)
    all_goals first
      | (rw [if_pos h] at he; exact EndX.mk (g, c) hs0 (by rw [he]; rfl) (by rw [he]; simp only [Option.getD_some, List.map_set]; exact entM))
      | (rw [if_neg (by rw [h]; decide)] at he; exact .mk 4 _ _ (by decide) ⟨⟨by omega, he⟩, rfl, rfl⟩ subM entM)
  · obtain ⟨wk, hwk⟩ : ∃ wk, (!p.Learn && maySt p) = wk := ⟨_, rfl⟩
    have he : firstM (mvT (timesOf b) ps j p) = if (!p.Learn && maySt p) = true then some (ps.set j { p with Learn := true, Fd := (timesOf b).Delay }) else firstM ((mvT (timesOf b) ps j p).drop 5) := he
    rw [hwk] at he
    repeat' first
      | (conv => whnf
         first
         | intro _
         | (first | refine selSplit (fun h => ?_) (fun h => ?_) | refine condSplit (fun h => ?_) (fun h => ?_)) <;> first | exact (clash (by assumption) h).elim | exact (clash h (by assumption)).elim | (simp only [decide_eq_true_eq, decide_eq_false_iff_not, Bool.not_eq_true', Bool.not_eq_false', Bool.not_true, Bool.not_false, Bool.or_eq_true, Bool.and_eq_true, Bool.or_eq_false_iff, Bool.and_eq_false_iff, beq_iff_eq, beq_eq_false_iff_ne, ne_eq] at h; first | (exfalso; omega) | skip) | skip
         | (first | refine drM (.quiet 0 (.quiet 1 (.quiet 2 (.quiet 3 (.quiet 4 (.quiet 5 (.quiet 6 (.quiet 7 (.alloc 8 (.last 9 false .done)))))))))) (SubL.refl _) ?_)
         | refine AltP.mk ?_ ?_
         | refine kpM ?_
         | refine SeqP.go ?_
         | refine cdM ?_
         | exact IsV.mk
         | apply GuardP.mk
         | ((first | apply callPure' en_wStep1 | apply callQuiet' en_wStep1); · exact fun w hw => PuAt.to (wStep1T_w p g j s.sp s.bp s.sw w (hw.range hasM) (hw.range hasM) (hw.elem hasM hx) (hw.range hasM)) (congrArg Value.bool hwk))
         | (refine callX takeM en_dStep2 (fun w hw => dStep2_w _ p g n c j s.sp (timesOf b) s.sm bv w hx (hw.sub2 takeM)) ?_)
         | (refine loadRow hasM ?_)
         | refine Or.inl ⟨_, _, hasM, ?_⟩
         | refine Or.inl ⟨_, _, _, holeM, rfl, rfl, ?_⟩
         | refine lA ?_
         | refine lA0 ?_
         | refine lA1 ?_
         | refine lO ?_
         | refine lO0 ?_
         | refine lO1 ?_
         | refine lR ?_
         | refine lG ?_
         | refine lG0 ?_
         | refine tA ?_
         | refine tA0 ?_
         | refine tA1 ?_
         | refine BytW.ofBlk hasM rfl rfl ?_
         | refine AppW.noneB hasM leM rfl rfl rfl leM leM ?_
         | refine AppW.rowB hasM leM rfl rfl holeM leM leM ?_
         | refine AppW.blkB hasM leM rfl rfl holeM rfl rfl leM leM ?_
         | refine AppW.rowS hasM leM rfl rfl holeM (by omega) leM ?_
         | refine AppW.arrS hasM leM rfl rfl rfl holeM (by first | omega | (simp; omega)) leM ?_
         | refine ⟨sideM, ?_⟩
         | fail)
    all_goals (try conv => whnf)
    all_goals first
      | (rw [if_pos h] at he; exact EndX.mk (g, c) hs0 (by rw [he]; rfl) (by rw [he]; simp only [Option.getD_some, List.map_set]; exact entM))
      | (rw [if_neg (by rw [h]; decide)] at he; exact .mk 5 _ _ (by decide) ⟨⟨by omega, he⟩, rfl, rfl⟩ subM entM)
  · obtain ⟨wk, hwk⟩ : ∃ wk, (p.Learn && !p.Forward && maySt p) = wk := ⟨_, rfl⟩
    have he : firstM (mvT (timesOf b) ps j p) = if (p.Learn && !p.Forward && maySt p) = true then some (ps.set j { p with Forward := true, Fd := 0, Agreed := p.SendRstp }) else firstM ((mvT (timesOf b) ps j p).drop 6) := he
    rw [hwk] at he
    repeat' first
      | (conv => whnf
         first
         | intro _
         | (first | refine selSplit (fun h => ?_) (fun h => ?_) | refine condSplit (fun h => ?_) (fun h => ?_)) <;> first | exact (clash (by assumption) h).elim | exact (clash h (by assumption)).elim | (simp only [decide_eq_true_eq, decide_eq_false_iff_not, Bool.not_eq_true', Bool.not_eq_false', Bool.not_true, Bool.not_false, Bool.or_eq_true, Bool.and_eq_true, Bool.or_eq_false_iff, Bool.and_eq_false_iff, beq_iff_eq, beq_eq_false_iff_ne, ne_eq] at h; first | (exfalso; omega) | skip) | skip
         | (first | refine drM (.quiet 0 (.quiet 1 (.quiet 2 (.quiet 3 (.quiet 4 (.quiet 5 (.quiet 6 (.quiet 7 (.alloc 8 (.last 9 false .done)))))))))) (SubL.refl _) ?_)
         | refine AltP.mk ?_ ?_
         | refine kpM ?_
         | refine SeqP.go ?_
         | refine cdM ?_
         | exact IsV.mk
         | apply GuardP.mk
         | ((first | apply callPure' en_wStep3 | apply callQuiet' en_wStep3); · exact fun w hw => PuAt.to (wStep3T_w p g j s.sp s.bp s.sw w (hw.range hasM) (hw.range hasM) (hw.elem hasM hx) (hw.range hasM)) (congrArg Value.bool hwk))
         | (refine callX takeM en_dStep4 (fun w hw => dStep4T_w _ p g n c j s.sp s.st s.bp w hx (hw.sub2 takeM)) ?_)
         | (refine loadRow hasM ?_)
         | refine Or.inl ⟨_, _, hasM, ?_⟩
         | refine Or.inl ⟨_, _, _, holeM, rfl, rfl, ?_⟩
         | refine lA ?_
         | refine lA0 ?_
         | refine lA1 ?_
         | refine lO ?_
         | refine lO0 ?_
         | refine lO1 ?_
         | refine lR ?_
         | refine lG ?_
         | refine lG0 ?_
         | refine tA ?_
         | refine tA0 ?_
         | refine tA1 ?_
         | refine BytW.ofBlk hasM rfl rfl ?_
         | refine AppW.noneB hasM leM rfl rfl rfl leM leM ?_
         | refine AppW.rowB hasM leM rfl rfl holeM leM leM ?_
         | refine AppW.blkB hasM leM rfl rfl holeM rfl rfl leM leM ?_
         | refine AppW.rowS hasM leM rfl rfl holeM (by omega) leM ?_
         | refine AppW.arrS hasM leM rfl rfl rfl holeM (by first | omega | (simp; omega)) leM ?_
         | refine ⟨sideM, ?_⟩
         | fail)
    all_goals (try conv => whnf)
    all_goals first
      | (rw [if_pos h] at he; exact EndX.mk (g, c) hs0 (by rw [he]; rfl) (by rw [he]; simp only [Option.getD_some, List.map_set]; exact entM))
      | (rw [if_neg (by rw [h]; decide)] at he; exact .mk 6 _ _ (by decide) ⟨⟨by omega, he⟩, rfl, rfl⟩ subM entM)
  · have he : firstM (mvT (timesOf b) ps j p) = none := he
    repeat' first
      | (conv => whnf
         first
         | intro _
         | (first | refine selSplit (fun h => ?_) (fun h => ?_) | refine condSplit (fun h => ?_) (fun h => ?_)) <;> first | exact (clash (by assumption) h).elim | exact (clash h (by assumption)).elim | (simp only [decide_eq_true_eq, decide_eq_false_iff_not, Bool.not_eq_true', Bool.not_eq_false', Bool.not_true, Bool.not_false, Bool.or_eq_true, Bool.and_eq_true, Bool.or_eq_false_iff, Bool.and_eq_false_iff, beq_iff_eq, beq_eq_false_iff_ne, ne_eq] at h; first | (exfalso; omega) | skip) | skip
         | (first | refine drM (.quiet 0 (.quiet 1 (.quiet 2 (.quiet 3 (.quiet 4 (.quiet 5 (.quiet 6 (.quiet 7 (.alloc 8 (.last 9 false .done)))))))))) (SubL.refl _) ?_)
         | refine AltP.mk ?_ ?_
         | refine kpM ?_
         | refine SeqP.go ?_
         | refine cdM ?_
         | exact IsV.mk
         | apply GuardP.mk
         | refine Or.inl ⟨_, _, hasM, ?_⟩
         | refine Or.inl ⟨_, _, _, holeM, rfl, rfl, ?_⟩
         | refine lA ?_
         | refine lA0 ?_
         | refine lA1 ?_
         | refine lO ?_
         | refine lO0 ?_
         | refine lO1 ?_
         | refine lR ?_
         | refine lG ?_
         | refine lG0 ?_
         | refine tA ?_
         | refine tA0 ?_
         | refine tA1 ?_
         | refine BytW.ofBlk hasM rfl rfl ?_
         | refine AppW.noneB hasM leM rfl rfl rfl leM leM ?_
         | refine AppW.rowB hasM leM rfl rfl holeM leM leM ?_
         | refine AppW.blkB hasM leM rfl rfl holeM rfl rfl leM leM ?_
         | refine AppW.rowS hasM leM rfl rfl holeM (by omega) leM ?_
         | refine AppW.arrS hasM leM rfl rfl rfl holeM (by first | omega | (simp; omega)) leM ?_
         | refine ⟨sideM, ?_⟩
         | fail)
    all_goals (try conv => whnf)
    all_goals exact EndX.mk (g, c) hs0 (by rw [he]; rfl) (by rw [he]; exact entM)
theorem MoveZ_w (b : BridgeV) (ps : List PortV) (p : PortV) (n j : Nat) (h1 : p.Ready = true) (h2 : p.Update = false) (h3 : p.Selected = p.Role) (h4 : p.Role = 0) (hn : ps.length = n) (hp : ps[j]? = some p) (h0 : rightB b = true) (A : Option Addr) (c0 : Nat) (w : World) (hs : SlAt w A 61 (ps.map PortV.enc)) (hlen : n ≤ 1000) :
    FnX Try.prog 76 [.agg ⟨b.enc⟩, .slice A n c0, .int .i64 j] [] (fun s : Nat × Nat => n ≤ s.2) (fun s => .tuple ⟨[.slice (some ⟨s.1, 0, none⟩) n s.2, .bool (firstM (mvZ (timesOf b) ps j p)).isSome]⟩) (fun s => [.arr (.slice (some ⟨s.1, 0, none⟩) n s.2) 28 61 (((firstM (mvZ (timesOf b) ps j p)).getD ps).map PortV.enc)]) w := by
  refine funcR_x tyOk wide Try.func76 ok_tMove (Nat.le_of_ble_eq_true rfl) (St.start0 w) ?_
  have hj : j < ps.length := (List.getElem?_eq_some_iff.1 hp).1
  have hx : (ps.map PortV.enc)[j]? = some p.enc := by rw [List.getElem?_map, hp]; rfl
  have hC := fun w hw => PClone_ne ps A c0 w hw (by omega) (by omega)
  rw [hn] at hC
  repeat' first
    | (conv => whnf
       first
       | (refine condNo ?_ ?_; · (simp [h0]; omega))
       | intro _
       | (first | refine selSplit (fun h => ?_) (fun h => ?_) | refine condSplit (fun h => ?_) (fun h => ?_)) <;> first | exact (clash (by assumption) h).elim | exact (clash h (by assumption)).elim | (simp only [decide_eq_true_eq, decide_eq_false_iff_not, Bool.not_eq_true', Bool.not_eq_false', Bool.not_true, Bool.not_false, Bool.or_eq_true, Bool.and_eq_true, Bool.or_eq_false_iff, Bool.and_eq_false_iff, beq_iff_eq, beq_eq_false_iff_ne, ne_eq] at h; first | (exfalso; omega) | skip) | skip
       | (first | refine drM (.quiet 0 (.quiet 1 (.quiet 2 (.quiet 3 (.quiet 4 (.quiet 5 (.quiet 6 (.quiet 7 (.alloc 8 (.last 9 false .done)))))))))) (SubL.refl _) ?_)
       | refine AltP.mk ?_ ?_
       | refine kpM ?_
       | refine SeqP.go ?_
       | refine cdM ?_
       | exact IsV.mk
       | apply GuardP.mk
       | (refine callX takeM en_PClone (fun w hw => hC w (hs.later hw)) ?_)
       | ((first | apply callPure' en_infoRight | apply callQuiet' en_infoRight); · exact fun w _ => infoRight_w b w)
       | (refine callX takeM en_moves (fun w hw => movesZ_w (timesOf b) (ps.map PortV.enc) p _ n _ j _ h1 h2 h3 h4 w hx (hw.sub2 takeM)) ?_)
       | refine Or.inl ⟨_, _, hasM, ?_⟩
       | refine Or.inl ⟨_, _, _, holeM, rfl, rfl, ?_⟩
       | refine lA ?_
       | refine lA0 ?_
       | refine lA1 ?_
       | refine lO ?_
       | refine lO0 ?_
       | refine lO1 ?_
       | refine lR ?_
       | refine lG ?_
       | refine lG0 ?_
       | refine tA ?_
       | refine tA0 ?_
       | refine tA1 ?_
       | refine BytW.ofBlk hasM rfl rfl ?_
       | refine AppW.noneB hasM leM rfl rfl rfl leM leM ?_
       | refine AppW.rowB hasM leM rfl rfl holeM leM leM ?_
       | refine AppW.blkB hasM leM rfl rfl holeM rfl rfl leM leM ?_
       | refine AppW.rowS hasM leM rfl rfl holeM (by omega) leM ?_
       | refine AppW.arrS hasM leM rfl rfl rfl holeM (by first | omega | (simp; omega)) leM ?_
       | refine ⟨sideM, ?_⟩
       | fail)
  all_goals (try conv => whnf)
  rename_i b3 s0 hs0 bv s hs1
  obtain ⟨g, c⟩ := s0
  refine .mk Nat (fun k S H => (k ≤ 1 ∧ firstM (mvZ (timesOf b) ps j p) = firstM ((mvZ (timesOf b) ps j p).drop k)) ∧ S = [(40, .int .i64 k), (39, .int .i64 1), (38, .slice (some ⟨s.gs, 0, none⟩) 1 1), (8, .slice (some ⟨g, 0, none⟩) n c)] ∧ H = [.blk s.gs [.func (.func 131) #[] #[.pointer (some ⟨s.bp, 0, none⟩), .pointer (some ⟨s.bf, 0, none⟩)], .func (.func 132) #[] #[.pointer (some ⟨s.bf, 0, none⟩), .pointer (some ⟨s.bp, 0, none⟩)]] 130, .blk s.bf [.int .i64 (timesOf b).Max] 3, .blk s.bp [.pointer (some ⟨g, 0 + j * 61, none⟩)] 76, .blk s.bm [.pointer (some ⟨bv, 0, none⟩)] 124, .blk bv (moverE (timesOf b) g n c j) 126, .arr (.slice (some ⟨g, 0, none⟩) n c) 28 61 (ps.map PortV.enc), .blk b3 b.enc 33]) (fun k => 1 - k) 0 _ _ ⟨⟨by omega, rfl⟩, rfl, rfl⟩ subM entM ?_
  rintro k S1 H1 ⟨⟨hk, he⟩, rfl, rfl⟩
  rcases (show k = 0 ∨ k = 1 by omega) with rfl | rfl
  · obtain ⟨wk, hwk⟩ : ∃ wk, (stillB p && (!decide (p.Fd = (timesOf b).Max) || p.Sync || p.Reroot || !p.Synced)) = wk := ⟨_, rfl⟩
    have he : firstM (mvZ (timesOf b) ps j p) = if (stillB p && (!decide (p.Fd = (timesOf b).Max) || p.Sync || p.Reroot || !p.Synced)) = true then some (ps.set j { p with Fd := (timesOf b).Max, Synced := true, Rr := 0, Sync := false, Reroot := false }) else firstM ((mvZ (timesOf b) ps j p).drop 1) := he
    rw [hwk] at he
    repeat' first
      | (conv => whnf
         first
         | intro _
         | (first | refine selSplit (fun h => ?_) (fun h => ?_) | refine condSplit (fun h => ?_) (fun h => ?_)) <;> first | exact (clash (by assumption) h).elim | exact (clash h (by assumption)).elim | (simp only [decide_eq_true_eq, decide_eq_false_iff_not, Bool.not_eq_true', Bool.not_eq_false', Bool.not_true, Bool.not_false, Bool.or_eq_true, Bool.and_eq_true, Bool.or_eq_false_iff, Bool.and_eq_false_iff, beq_iff_eq, beq_eq_false_iff_ne, ne_eq] at h; first | (exfalso; omega) | skip) | skip
         | (first | refine drM (.quiet 0 (.quiet 1 (.quiet 2 (.quiet 3 (.quiet 4 (.quiet 5 (.quiet 6 (.quiet 7 (.alloc 8 (.last 9 false .done)))))))))) (SubL.refl _) ?_)
         | refine AltP.mk ?_ ?_
         | refine kpM ?_
         | refine SeqP.go ?_
         | refine cdM ?_
         | exact IsV.mk
         | apply GuardP.mk
         | ((first | apply callPure' en_wBlk1 | apply callQuiet' en_wBlk1); · exact fun w hw => PuAt.to (wBlk1_w p g j s.bp s.bf (timesOf b).Max w (hw.range hasM) (hw.elem hasM hx) (hw.range hasM)) (congrArg Value.bool hwk))
         | (refine callX takeM en_dBlk2 (fun w hw => dBlk2_w _ p g n c j s.bp s.bf (timesOf b).Max w hx (hw.sub2 takeM)) ?_)
         | (refine loadRow hasM ?_)
         | refine Or.inl ⟨_, _, hasM, ?_⟩
         | refine Or.inl ⟨_, _, _, holeM, rfl, rfl, ?_⟩
         | refine lA ?_
         | refine lA0 ?_
         | refine lA1 ?_
         | refine lO ?_
         | refine lO0 ?_
         | refine lO1 ?_
         | refine lR ?_
         | refine lG ?_
         | refine lG0 ?_
         | refine tA ?_
         | refine tA0 ?_
         | refine tA1 ?_
         | refine BytW.ofBlk hasM rfl rfl ?_
         | refine AppW.noneB hasM leM rfl rfl rfl leM leM ?_
         | refine AppW.rowB hasM leM rfl rfl holeM leM leM ?_
         | refine AppW.blkB hasM leM rfl rfl holeM rfl rfl leM leM ?_
         | refine AppW.rowS hasM leM rfl rfl holeM (by omega) leM ?_
         | refine AppW.arrS hasM leM rfl rfl rfl holeM (by first | omega | (simp; omega)) leM ?_
         | refine ⟨sideM, ?_⟩
         | fail)
    all_goals (try conv => whnf)
    all_goals first
      | (rw [if_pos h] at he; exact EndX.mk (g, c) hs0 (by rw [he]; rfl) (by rw [he]; simp only [Option.getD_some, List.map_set]; exact entM))
      | (rw [if_neg (by rw [h]; decide)] at he; exact .mk 1 _ _ (by decide) ⟨⟨by omega, he⟩, rfl, rfl⟩ subM entM)
  · have he : firstM (mvZ (timesOf b) ps j p) = none := he
    repeat' first
      | (conv => whnf
         first
         | intro _
         | (first | refine selSplit (fun h => ?_) (fun h => ?_) | refine condSplit (fun h => ?_) (fun h => ?_)) <;> first | exact (clash (by assumption) h).elim | exact (clash h (by assumption)).elim | (simp only [decide_eq_true_eq, decide_eq_false_iff_not, Bool.not_eq_true', Bool.not_eq_false', Bool.not_true, Bool.not_false, Bool.or_eq_true, Bool.and_eq_true, Bool.or_eq_false_iff, Bool.and_eq_false_iff, beq_iff_eq, beq_eq_false_iff_ne, ne_eq] at h; first | (exfalso; omega) | skip) | skip
         | (first | refine drM (.quiet 0 (.quiet 1 (.quiet 2 (.quiet 3 (.quiet 4 (.quiet 5 (.quiet 6 (.quiet 7 (.alloc 8 (.last 9 false .done)))))))))) (SubL.refl _) ?_)
         | refine AltP.mk ?_ ?_
         | refine kpM ?_
         | refine SeqP.go ?_
         | refine cdM ?_
         | exact IsV.mk
         | apply GuardP.mk
         | refine Or.inl ⟨_, _, hasM, ?_⟩
         | refine Or.inl ⟨_, _, _, holeM, rfl, rfl, ?_⟩
         | refine lA ?_
         | refine lA0 ?_
         | refine lA1 ?_
         | refine lO ?_
         | refine lO0 ?_
         | refine lO1 ?_
         | refine lR ?_
         | refine lG ?_
         | refine lG0 ?_
         | refine tA ?_
         | refine tA0 ?_
         | refine tA1 ?_
         | refine BytW.ofBlk hasM rfl rfl ?_
         | refine AppW.noneB hasM leM rfl rfl rfl leM leM ?_
         | refine AppW.rowB hasM leM rfl rfl holeM leM leM ?_
         | refine AppW.blkB hasM leM rfl rfl holeM rfl rfl leM leM ?_
         | refine AppW.rowS hasM leM rfl rfl holeM (by omega) leM ?_
         | refine AppW.arrS hasM leM rfl rfl rfl holeM (by first | omega | (simp; omega)) leM ?_
         | refine ⟨sideM, ?_⟩
         | fail)
    all_goals (try conv => whnf)
    all_goals exact EndX.mk (g, c) hs0 (by rw [he]; rfl) (by rw [he]; exact entM)
theorem MoveL_w (b : BridgeV) (ps : List PortV) (p : PortV) (n j : Nat) (h1 : p.Ready = true) (h2 : p.Update = false) (h3 : p.Selected = p.Role) (h4 : p.Role = 3) (hn : ps.length = n) (hp : ps[j]? = some p) (h0 : rightB b = true) (A : Option Addr) (c0 : Nat) (w : World) (hs : SlAt w A 61 (ps.map PortV.enc)) (hlen : n ≤ 1000) :
    FnX Try.prog 76 [.agg ⟨b.enc⟩, .slice A n c0, .int .i64 j] [] (fun s : Nat × Nat => n ≤ s.2) (fun s => .tuple ⟨[.slice (some ⟨s.1, 0, none⟩) n s.2, .bool (firstM (mvL (timesOf b) ps j p)).isSome]⟩) (fun s => [.arr (.slice (some ⟨s.1, 0, none⟩) n s.2) 28 61 (((firstM (mvL (timesOf b) ps j p)).getD ps).map PortV.enc)]) w := by
  refine funcR_x tyOk wide Try.func76 ok_tMove (Nat.le_of_ble_eq_true rfl) (St.start0 w) ?_
  have hj : j < ps.length := (List.getElem?_eq_some_iff.1 hp).1
  have hx : (ps.map PortV.enc)[j]? = some p.enc := by rw [List.getElem?_map, hp]; rfl
  have hC := fun w hw => PClone_ne ps A c0 w hw (by omega) (by omega)
  rw [hn] at hC
  repeat' first
    | (conv => whnf
       first
       | (refine condNo ?_ ?_; · (simp [h0]; omega))
       | intro _
       | (first | refine selSplit (fun h => ?_) (fun h => ?_) | refine condSplit (fun h => ?_) (fun h => ?_)) <;> first | exact (clash (by assumption) h).elim | exact (clash h (by assumption)).elim | (simp only [decide_eq_true_eq, decide_eq_false_iff_not, Bool.not_eq_true', Bool.not_eq_false', Bool.not_true, Bool.not_false, Bool.or_eq_true, Bool.and_eq_true, Bool.or_eq_false_iff, Bool.and_eq_false_iff, beq_iff_eq, beq_eq_false_iff_ne, ne_eq] at h; first | (exfalso; omega) | skip) | skip
       | (first | refine drM (.quiet 0 (.quiet 1 (.quiet 2 (.quiet 3 (.quiet 4 (.quiet 5 (.quiet 6 (.quiet 7 (.alloc 8 (.last 9 false .done)))))))))) (SubL.refl _) ?_)
       | refine AltP.mk ?_ ?_
       | refine kpM ?_
       | refine SeqP.go ?_
       | refine cdM ?_
       | exact IsV.mk
       | apply GuardP.mk
       | (refine callX takeM en_PClone (fun w hw => hC w (hs.later hw)) ?_)
       | ((first | apply callPure' en_infoRight | apply callQuiet' en_infoRight); · exact fun w _ => infoRight_w b w)
       | (refine callX takeM en_moves (fun w hw => movesL_w (timesOf b) (ps.map PortV.enc) p _ n _ j _ h1 h2 h3 h4 w hx (hw.sub2 takeM)) ?_)
       | refine Or.inl ⟨_, _, hasM, ?_⟩
       | refine Or.inl ⟨_, _, _, holeM, rfl, rfl, ?_⟩
       | refine lA ?_
       | refine lA0 ?_
       | refine lA1 ?_
       | refine lO ?_
       | refine lO0 ?_
       | refine lO1 ?_
       | refine lR ?_
       | refine lG ?_
       | refine lG0 ?_
       | refine tA ?_
       | refine tA0 ?_
       | refine tA1 ?_
       | refine BytW.ofBlk hasM rfl rfl ?_
       | refine AppW.noneB hasM leM rfl rfl rfl leM leM ?_
       | refine AppW.rowB hasM leM rfl rfl holeM leM leM ?_
       | refine AppW.blkB hasM leM rfl rfl holeM rfl rfl leM leM ?_
       | refine AppW.rowS hasM leM rfl rfl holeM (by omega) leM ?_
       | refine AppW.arrS hasM leM rfl rfl rfl holeM (by first | omega | (simp; omega)) leM ?_
       | refine ⟨sideM, ?_⟩
       | fail)
  all_goals (try conv => whnf)
  rename_i b3 s0 hs0 bv s hs1
  obtain ⟨g, c⟩ := s0
  refine .mk Nat (fun k S H => (k ≤ 3 ∧ firstM (mvL (timesOf b) ps j p) = firstM ((mvL (timesOf b) ps j p).drop k)) ∧ S = [(40, .int .i64 k), (39, .int .i64 3), (38, .slice (some ⟨s.gr, 0, none⟩) 3 s.q), (8, .slice (some ⟨g, 0, none⟩) n c)] ∧ H = [.row (.slice (some ⟨s.gr, 0, none⟩) 3 s.q) 130 2 3 [.func (.func 133) #[] #[.pointer (some ⟨s.bp, 0, none⟩), .pointer (some ⟨s.b7, 0, none⟩)], .func (.func 138) #[.pointer (some ⟨bv, 0, none⟩)] #[], .func (.func 139) #[] #[.pointer (some ⟨s.pp, 0, none⟩), .pointer (some ⟨s.pm, 0, none⟩)], .func (.func 141) #[] #[.pointer (some ⟨s.pm, 0, none⟩), .pointer (some ⟨s.pp, 0, none⟩)], .func (.func 131) #[] #[.pointer (some ⟨s.bp, 0, none⟩), .pointer (some ⟨s.bf, 0, none⟩)], .func (.func 132) #[] #[.pointer (some ⟨s.bf, 0, none⟩), .pointer (some ⟨s.bp, 0, none⟩)]], .blk s.b7 (boxF 137 s.pp) 29, .blk s.bf [.int .i64 (timesOf b).Delay] 3, .blk s.bp [.pointer (some ⟨g, 0 + j * 61, none⟩)] 76, .blk s.pp [.pointer (some ⟨g, 0 + j * 61, none⟩)] 76, .blk s.pm [.pointer (some ⟨bv, 0, none⟩)] 124, .blk s.bm [.pointer (some ⟨bv, 0, none⟩)] 124, .blk bv (moverE (timesOf b) g n c j) 126, .arr (.slice (some ⟨g, 0, none⟩) n c) 28 61 (ps.map PortV.enc), .blk b3 b.enc 33]) (fun k => 3 - k) 0 _ _ ⟨⟨by omega, rfl⟩, rfl, rfl⟩ subM entM ?_
  rintro k S1 H1 ⟨⟨hk, he⟩, rfl, rfl⟩
  rcases (show k = 0 ∨ k = 1 ∨ k = 2 ∨ k = 3 by omega) with rfl | rfl | rfl | rfl
  · obtain ⟨wk, hwk⟩ : ∃ wk, (stillB p && (p.Proposed && !p.Agree)) = wk := ⟨_, rfl⟩
    have he : firstM (mvL (timesOf b) ps j p) = if (stillB p && (p.Proposed && !p.Agree)) = true then some (askV ps j p) else firstM ((mvL (timesOf b) ps j p).drop 1) := he
    rw [hwk] at he
    repeat' first
      | (conv => whnf
         first
         | intro _
         | (first | refine selSplit (fun h => ?_) (fun h => ?_) | refine condSplit (fun h => ?_) (fun h => ?_)) <;> first | exact (clash (by assumption) h).elim | exact (clash h (by assumption)).elim | (simp only [decide_eq_true_eq, decide_eq_false_iff_not, Bool.not_eq_true', Bool.not_eq_false', Bool.not_true, Bool.not_false, Bool.or_eq_true, Bool.and_eq_true, Bool.or_eq_false_iff, Bool.and_eq_false_iff, beq_iff_eq, beq_eq_false_iff_ne, ne_eq] at h; first | (exfalso; omega) | skip) | skip
         | (first | refine drM (.quiet 0 (.quiet 1 (.quiet 2 (.quiet 3 (.quiet 4 (.quiet 5 (.quiet 6 (.quiet 7 (.alloc 8 (.last 9 false .done)))))))))) (SubL.refl _) ?_)
         | refine AltP.mk ?_ ?_
         | refine kpM ?_
         | refine SeqP.go ?_
         | refine cdM ?_
         | exact IsV.mk
         | apply GuardP.mk
         | ((first | apply callPure' en_wBlk3 | apply callQuiet' en_wBlk3); · exact fun w hw => PuAt.to (wBlk3_w p g j s.bp s.pp s.b7 w (hw.range hasM) (hw.range hasM) (hw.elem hasM hx) (hw.range hasM)) (congrArg Value.bool hwk))
         | (refine callX takeM en_tAsk (fun w hw => tAsk_w ps p g n c j (timesOf b) bv hn hlen hp w (hw.sub2 takeM)) ?_)
         | (refine loadRow hasM ?_)
         | refine Or.inl ⟨_, _, hasM, ?_⟩
         | refine Or.inl ⟨_, _, _, holeM, rfl, rfl, ?_⟩
         | refine lA ?_
         | refine lA0 ?_
         | refine lA1 ?_
         | refine lO ?_
         | refine lO0 ?_
         | refine lO1 ?_
         | refine lR ?_
         | refine lG ?_
         | refine lG0 ?_
         | refine tA ?_
         | refine tA0 ?_
         | refine tA1 ?_
         | refine BytW.ofBlk hasM rfl rfl ?_
         | refine AppW.noneB hasM leM rfl rfl rfl leM leM ?_
         | refine AppW.rowB hasM leM rfl rfl holeM leM leM ?_
         | refine AppW.blkB hasM leM rfl rfl holeM rfl rfl leM leM ?_
         | refine AppW.rowS hasM leM rfl rfl holeM (by omega) leM ?_
         | refine AppW.arrS hasM leM rfl rfl rfl holeM (by first | omega | (simp; omega)) leM ?_
         | refine ⟨sideM, ?_⟩
         | fail)
    all_goals (try conv => whnf)
    all_goals first
      | (rw [if_pos h] at he; exact EndX.mk (g, c) hs0 (by rw [he]; rfl) (by rw [he]; simp only [Option.getD_some, List.map_set]; exact entM))
      | (rw [if_neg (by rw [h]; decide)] at he; exact .mk 1 _ _ (by decide) ⟨⟨by omega, he⟩, rfl, rfl⟩ subM entM)
  · obtain ⟨wk, hwk⟩ : ∃ wk, (!p.Agree && syncedB ps j || p.Proposed && p.Agree) = wk := ⟨_, rfl⟩
    have he : firstM (mvL (timesOf b) ps j p) = if (!p.Agree && syncedB ps j || p.Proposed && p.Agree) = true then some (ps.set j { agreeV p with Sync := p.Sync && !decide (p.Role = 1) }) else firstM ((mvL (timesOf b) ps j p).drop 2) := he
    rw [hwk] at he
    repeat' first
      | (conv => whnf
         first
         | intro _
         | (first | refine selSplit (fun h => ?_) (fun h => ?_) | refine condSplit (fun h => ?_) (fun h => ?_)) <;> first | exact (clash (by assumption) h).elim | exact (clash h (by assumption)).elim | (simp only [decide_eq_true_eq, decide_eq_false_iff_not, Bool.not_eq_true', Bool.not_eq_false', Bool.not_true, Bool.not_false, Bool.or_eq_true, Bool.and_eq_true, Bool.or_eq_false_iff, Bool.and_eq_false_iff, beq_iff_eq, beq_eq_false_iff_ne, ne_eq] at h; first | (exfalso; omega) | skip) | skip
         | (first | refine drM (.quiet 0 (.quiet 1 (.quiet 2 (.quiet 3 (.quiet 4 (.quiet 5 (.quiet 6 (.quiet 7 (.alloc 8 (.last 9 false .done)))))))))) (SubL.refl _) ?_)
         | refine AltP.mk ?_ ?_
         | refine kpM ?_
         | refine SeqP.go ?_
         | refine cdM ?_
         | exact IsV.mk
         | apply GuardP.mk
         | ((first | apply callPure' en_wProp2 | apply callQuiet' en_wProp2); · exact fun w hw => PuAt.to (wProp2_w p g j s.pp (timesOf b) n c s.pm bv ps hn hlen w (hw.range hasM) (hw.elem hasM hx) (hw.range hasM) (hw.range hasM) (hw.arrSl hasM)) (congrArg Value.bool hwk))
         | (refine callX takeM en_dProp3 (fun w hw => dProp3_w _ p g n c j s.pp (timesOf b) s.pm bv w hx (hw.sub2 takeM)) ?_)
         | (refine loadRow hasM ?_)
         | refine Or.inl ⟨_, _, hasM, ?_⟩
         | refine Or.inl ⟨_, _, _, holeM, rfl, rfl, ?_⟩
         | refine lA ?_
         | refine lA0 ?_
         | refine lA1 ?_
         | refine lO ?_
         | refine lO0 ?_
         | refine lO1 ?_
         | refine lR ?_
         | refine lG ?_
         | refine lG0 ?_
         | refine tA ?_
         | refine tA0 ?_
         | refine tA1 ?_
         | refine BytW.ofBlk hasM rfl rfl ?_
         | refine AppW.noneB hasM leM rfl rfl rfl leM leM ?_
         | refine AppW.rowB hasM leM rfl rfl holeM leM leM ?_
         | refine AppW.blkB hasM leM rfl rfl holeM rfl rfl leM leM ?_
         | refine AppW.rowS hasM leM rfl rfl holeM (by omega) leM ?_
         | refine AppW.arrS hasM leM rfl rfl rfl holeM (by first | omega | (simp; omega)) leM ?_
         | refine ⟨sideM, ?_⟩
         | fail)
    all_goals (try conv => whnf)
    all_goals first
      | (rw [if_pos h] at he; exact EndX.mk (g, c) hs0 (by rw [he]; rfl) (by rw [he]; simp only [Option.getD_some, List.map_set]; exact entM))
      | (rw [if_neg (by rw [h]; decide)] at he; exact .mk 2 _ _ (by decide) ⟨⟨by omega, he⟩, rfl, rfl⟩ subM entM)
  · obtain ⟨wk, hwk⟩ : ∃ wk, (stillB p && (!decide (p.Fd = (timesOf b).Delay) || p.Sync || p.Reroot || !p.Synced)) = wk := ⟨_, rfl⟩
    have he : firstM (mvL (timesOf b) ps j p) = if (stillB p && (!decide (p.Fd = (timesOf b).Delay) || p.Sync || p.Reroot || !p.Synced)) = true then some (ps.set j { p with Fd := (timesOf b).Delay, Synced := true, Rr := 0, Sync := false, Reroot := false }) else firstM ((mvL (timesOf b) ps j p).drop 3) := he
    rw [hwk] at he
    repeat' first
      | (conv => whnf
         first
         | intro _
         | (first | refine selSplit (fun h => ?_) (fun h => ?_) | refine condSplit (fun h => ?_) (fun h => ?_)) <;> first | exact (clash (by assumption) h).elim | exact (clash h (by assumption)).elim | (simp only [decide_eq_true_eq, decide_eq_false_iff_not, Bool.not_eq_true', Bool.not_eq_false', Bool.not_true, Bool.not_false, Bool.or_eq_true, Bool.and_eq_true, Bool.or_eq_false_iff, Bool.and_eq_false_iff, beq_iff_eq, beq_eq_false_iff_ne, ne_eq] at h; first | (exfalso; omega) | skip) | skip
         | (first | refine drM (.quiet 0 (.quiet 1 (.quiet 2 (.quiet 3 (.quiet 4 (.quiet 5 (.quiet 6 (.quiet 7 (.alloc 8 (.last 9 false .done)))))))))) (SubL.refl _) ?_)
         | refine AltP.mk ?_ ?_
         | refine kpM ?_
         | refine SeqP.go ?_
         | refine cdM ?_
         | exact IsV.mk
         | apply GuardP.mk
         | ((first | apply callPure' en_wBlk1 | apply callQuiet' en_wBlk1); · exact fun w hw => PuAt.to (wBlk1_w p g j s.bp s.bf (timesOf b).Delay w (hw.range hasM) (hw.elem hasM hx) (hw.range hasM)) (congrArg Value.bool hwk))
         | (refine callX takeM en_dBlk2 (fun w hw => dBlk2_w _ p g n c j s.bp s.bf (timesOf b).Delay w hx (hw.sub2 takeM)) ?_)
         | (refine loadRow hasM ?_)
         | refine Or.inl ⟨_, _, hasM, ?_⟩
         | refine Or.inl ⟨_, _, _, holeM, rfl, rfl, ?_⟩
         | refine lA ?_
         | refine lA0 ?_
         | refine lA1 ?_
         | refine lO ?_
         | refine lO0 ?_
         | refine lO1 ?_
         | refine lR ?_
         | refine lG ?_
         | refine lG0 ?_
         | refine tA ?_
         | refine tA0 ?_
         | refine tA1 ?_
         | refine BytW.ofBlk hasM rfl rfl ?_
         | refine AppW.noneB hasM leM rfl rfl rfl leM leM ?_
         | refine AppW.rowB hasM leM rfl rfl holeM leM leM ?_
         | refine AppW.blkB hasM leM rfl rfl holeM rfl rfl leM leM ?_
         | refine AppW.rowS hasM leM rfl rfl holeM (by omega) leM ?_
         | refine AppW.arrS hasM leM rfl rfl rfl holeM (by first | omega | (simp; omega)) leM ?_
         | refine ⟨sideM, ?_⟩
         | fail)
    all_goals (try conv => whnf)
    all_goals first
      | (rw [if_pos h] at he; exact EndX.mk (g, c) hs0 (by rw [he]; rfl) (by rw [he]; simp only [Option.getD_some, List.map_set]; exact entM))
      | (rw [if_neg (by rw [h]; decide)] at he; exact .mk 3 _ _ (by decide) ⟨⟨by omega, he⟩, rfl, rfl⟩ subM entM)
  · have he : firstM (mvL (timesOf b) ps j p) = none := he
    repeat' first
      | (conv => whnf
         first
         | intro _
         | (first | refine selSplit (fun h => ?_) (fun h => ?_) | refine condSplit (fun h => ?_) (fun h => ?_)) <;> first | exact (clash (by assumption) h).elim | exact (clash h (by assumption)).elim | (simp only [decide_eq_true_eq, decide_eq_false_iff_not, Bool.not_eq_true', Bool.not_eq_false', Bool.not_true, Bool.not_false, Bool.or_eq_true, Bool.and_eq_true, Bool.or_eq_false_iff, Bool.and_eq_false_iff, beq_iff_eq, beq_eq_false_iff_ne, ne_eq] at h; first | (exfalso; omega) | skip) | skip
         | (first | refine drM (.quiet 0 (.quiet 1 (.quiet 2 (.quiet 3 (.quiet 4 (.quiet 5 (.quiet 6 (.quiet 7 (.alloc 8 (.last 9 false .done)))))))))) (SubL.refl _) ?_)
         | refine AltP.mk ?_ ?_
         | refine kpM ?_
         | refine SeqP.go ?_
         | refine cdM ?_
         | exact IsV.mk
         | apply GuardP.mk
         | refine Or.inl ⟨_, _, hasM, ?_⟩
         | refine Or.inl ⟨_, _, _, holeM, rfl, rfl, ?_⟩
         | refine lA ?_
         | refine lA0 ?_
         | refine lA1 ?_
         | refine lO ?_
         | refine lO0 ?_
         | refine lO1 ?_
         | refine lR ?_
         | refine lG ?_
         | refine lG0 ?_
         | refine tA ?_
         | refine tA0 ?_
         | refine tA1 ?_
         | refine BytW.ofBlk hasM rfl rfl ?_
         | refine AppW.noneB hasM leM rfl rfl rfl leM leM ?_
         | refine AppW.rowB hasM leM rfl rfl holeM leM leM ?_
         | refine AppW.blkB hasM leM rfl rfl holeM rfl rfl leM leM ?_
         | refine AppW.rowS hasM leM rfl rfl holeM (by omega) leM ?_
         | refine AppW.arrS hasM leM rfl rfl rfl holeM (by first | omega | (simp; omega)) leM ?_
         | refine ⟨sideM, ?_⟩
         | fail)
    all_goals (try conv => whnf)
    all_goals exact EndX.mk (g, c) hs0 (by rw [he]; rfl) (by rw [he]; exact entM)
theorem MoveK_w (b : BridgeV) (ps : List PortV) (p : PortV) (n j : Nat) (h1 : p.Ready = true) (h2 : p.Update = false) (h3 : p.Selected = p.Role) (h4 : p.Role = 4) (hn : ps.length = n) (hp : ps[j]? = some p) (h0 : rightB b = true) (A : Option Addr) (c0 : Nat) (w : World) (hs : SlAt w A 61 (ps.map PortV.enc)) (hlen : n ≤ 1000) :
    FnX Try.prog 76 [.agg ⟨b.enc⟩, .slice A n c0, .int .i64 j] [] (fun s : Nat × Nat => n ≤ s.2) (fun s => .tuple ⟨[.slice (some ⟨s.1, 0, none⟩) n s.2, .bool (firstM (mvK (timesOf b) ps j p)).isSome]⟩) (fun s => [.arr (.slice (some ⟨s.1, 0, none⟩) n s.2) 28 61 (((firstM (mvK (timesOf b) ps j p)).getD ps).map PortV.enc)]) w := by
  refine funcR_x tyOk wide Try.func76 ok_tMove (Nat.le_of_ble_eq_true rfl) (St.start0 w) ?_
  have hj : j < ps.length := (List.getElem?_eq_some_iff.1 hp).1
  have hx : (ps.map PortV.enc)[j]? = some p.enc := by rw [List.getElem?_map, hp]; rfl
  have hC := fun w hw => PClone_ne ps A c0 w hw (by omega) (by omega)
  rw [hn] at hC
  repeat' first
    | (conv => whnf
       first
       | (refine condNo ?_ ?_; · (simp [h0]; omega))
       | intro _
       | (first | refine selSplit (fun h => ?_) (fun h => ?_) | refine condSplit (fun h => ?_) (fun h => ?_)) <;> first | exact (clash (by assumption) h).elim | exact (clash h (by assumption)).elim | (simp only [decide_eq_true_eq, decide_eq_false_iff_not, Bool.not_eq_true', Bool.not_eq_false', Bool.not_true, Bool.not_false, Bool.or_eq_true, Bool.and_eq_true, Bool.or_eq_false_iff, Bool.and_eq_false_iff, beq_iff_eq, beq_eq_false_iff_ne, ne_eq] at h; first | (exfalso; omega) | skip) | skip
       | (first | refine drM (.quiet 0 (.quiet 1 (.quiet 2 (.quiet 3 (.quiet 4 (.quiet 5 (.quiet 6 (.quiet 7 (.alloc 8 (.last 9 false .done)))))))))) (SubL.refl _) ?_)
       | refine AltP.mk ?_ ?_
       | refine kpM ?_
       | refine SeqP.go ?_
       | refine cdM ?_
       | exact IsV.mk
       | apply GuardP.mk
       | (refine callX takeM en_PClone (fun w hw => hC w (hs.later hw)) ?_)
       | ((first | apply callPure' en_infoRight | apply callQuiet' en_infoRight); · exact fun w _ => infoRight_w b w)
       | (refine callX takeM en_moves (fun w hw => movesK_w (timesOf b) (ps.map PortV.enc) p _ n _ j _ h1 h2 h3 h4 w hx (hw.sub2 takeM)) ?_)
       | refine Or.inl ⟨_, _, hasM, ?_⟩
       | refine Or.inl ⟨_, _, _, holeM, rfl, rfl, ?_⟩
       | refine lA ?_
       | refine lA0 ?_
       | refine lA1 ?_
       | refine lO ?_
       | refine lO0 ?_
       | refine lO1 ?_
       | refine lR ?_
       | refine lG ?_
       | refine lG0 ?_
       | refine tA ?_
       | refine tA0 ?_
       | refine tA1 ?_
       | refine BytW.ofBlk hasM rfl rfl ?_
       | refine AppW.noneB hasM leM rfl rfl rfl leM leM ?_
       | refine AppW.rowB hasM leM rfl rfl holeM leM leM ?_
       | refine AppW.blkB hasM leM rfl rfl holeM rfl rfl leM leM ?_
       | refine AppW.rowS hasM leM rfl rfl holeM (by omega) leM ?_
       | refine AppW.arrS hasM leM rfl rfl rfl holeM (by first | omega | (simp; omega)) leM ?_
       | refine ⟨sideM, ?_⟩
       | fail)
  all_goals (try conv => whnf)
  rename_i b3 s0 hs0 bv s hs1
  obtain ⟨g, c⟩ := s0
  refine .mk Nat (fun k S H => (k ≤ 4 ∧ firstM (mvK (timesOf b) ps j p) = firstM ((mvK (timesOf b) ps j p).drop k)) ∧ S = [(40, .int .i64 k), (39, .int .i64 4), (38, .slice (some ⟨s.gr, 0, none⟩) 4 s.q), (8, .slice (some ⟨g, 0, none⟩) n c)] ∧ H = [.row (.slice (some ⟨s.gr, 0, none⟩) 4 s.q) 130 2 4 [.func (.func 133) #[] #[.pointer (some ⟨s.bp, 0, none⟩), .pointer (some ⟨s.b7, 0, none⟩)], .func (.func 138) #[.pointer (some ⟨bv, 0, none⟩)] #[], .func (.func 139) #[] #[.pointer (some ⟨s.pp, 0, none⟩), .pointer (some ⟨s.pm, 0, none⟩)], .func (.func 141) #[] #[.pointer (some ⟨s.pm, 0, none⟩), .pointer (some ⟨s.pp, 0, none⟩)], .func (.func 131) #[] #[.pointer (some ⟨s.bp, 0, none⟩), .pointer (some ⟨s.bf, 0, none⟩)], .func (.func 132) #[] #[.pointer (some ⟨s.bf, 0, none⟩), .pointer (some ⟨s.bp, 0, none⟩)], .func (.func 134) #[] #[.pointer (some ⟨s.bp, 0, none⟩), .pointer (some ⟨s.bm, 0, none⟩)], .func (.func 135) #[] #[.pointer (some ⟨s.bm, 0, none⟩), .pointer (some ⟨s.bp, 0, none⟩)]], .blk s.b7 (boxF 137 s.pp) 29, .blk s.bf [.int .i64 (timesOf b).Delay] 3, .blk s.bp [.pointer (some ⟨g, 0 + j * 61, none⟩)] 76, .blk s.pp [.pointer (some ⟨g, 0 + j * 61, none⟩)] 76, .blk s.pm [.pointer (some ⟨bv, 0, none⟩)] 124, .blk s.bm [.pointer (some ⟨bv, 0, none⟩)] 124, .blk bv (moverE (timesOf b) g n c j) 126, .arr (.slice (some ⟨g, 0, none⟩) n c) 28 61 (ps.map PortV.enc), .blk b3 b.enc 33]) (fun k => 4 - k) 0 _ _ ⟨⟨by omega, rfl⟩, rfl, rfl⟩ subM entM ?_
  rintro k S1 H1 ⟨⟨hk, he⟩, rfl, rfl⟩
  rcases (show k = 0 ∨ k = 1 ∨ k = 2 ∨ k = 3 ∨ k = 4 by omega) with rfl | rfl | rfl | rfl | rfl
  · obtain ⟨wk, hwk⟩ : ∃ wk, (stillB p && (p.Proposed && !p.Agree)) = wk := ⟨_, rfl⟩
    have he : firstM (mvK (timesOf b) ps j p) = if (stillB p && (p.Proposed && !p.Agree)) = true then some (askV ps j p) else firstM ((mvK (timesOf b) ps j p).drop 1) := he
    rw [hwk] at he
    repeat' first
      | (conv => whnf
         first
         | intro _
         | (first | refine selSplit (fun h => ?_) (fun h => ?_) | refine condSplit (fun h => ?_) (fun h => ?_)) <;> first | exact (clash (by assumption) h).elim | exact (clash h (by assumption)).elim | (simp only [decide_eq_true_eq, decide_eq_false_iff_not, Bool.not_eq_true', Bool.not_eq_false', Bool.not_true, Bool.not_false, Bool.or_eq_true, Bool.and_eq_true, Bool.or_eq_false_iff, Bool.and_eq_false_iff, beq_iff_eq, beq_eq_false_iff_ne, ne_eq] at h; first | (exfalso; omega) | skip) | skip
         | (first | refine drM (.quiet 0 (.quiet 1 (.quiet 2 (.quiet 3 (.quiet 4 (.quiet 5 (.quiet 6 (.quiet 7 (.alloc 8 (.last 9 false .done)))))))))) (SubL.refl _) ?_)
         | refine AltP.mk ?_ ?_
         | refine kpM ?_
         | refine SeqP.go ?_
         | refine cdM ?_
         | exact IsV.mk
         | apply GuardP.mk
         | ((first | apply callPure' en_wBlk3 | apply callQuiet' en_wBlk3); · exact fun w hw => PuAt.to (wBlk3_w p g j s.bp s.pp s.b7 w (hw.range hasM) (hw.range hasM) (hw.elem hasM hx) (hw.range hasM)) (congrArg Value.bool hwk))
         | (refine callX takeM en_tAsk (fun w hw => tAsk_w ps p g n c j (timesOf b) bv hn hlen hp w (hw.sub2 takeM)) ?_)
         | (refine loadRow hasM ?_)
         | refine Or.inl ⟨_, _, hasM, ?_⟩
         | refine Or.inl ⟨_, _, _, holeM, rfl, rfl, ?_⟩
         | refine lA ?_
         | refine lA0 ?_
         | refine lA1 ?_
         | refine lO ?_
         | refine lO0 ?_
         | refine lO1 ?_
         | refine lR ?_
         | refine lG ?_
         | refine lG0 ?_
         | refine tA ?_
         | refine tA0 ?_
         | refine tA1 ?_
         | refine BytW.ofBlk hasM rfl rfl ?_
         | refine AppW.noneB hasM leM rfl rfl rfl leM leM ?_
         | refine AppW.rowB hasM leM rfl rfl holeM leM leM ?_
         | refine AppW.blkB hasM leM rfl rfl holeM rfl rfl leM leM ?_
         | refine AppW.rowS hasM leM rfl rfl holeM (by omega) leM ?_
         | refine AppW.arrS hasM leM rfl rfl rfl holeM (by first | omega | (simp; omega)) leM ?_
         | refine ⟨sideM, ?_⟩
         | fail)
    all_goals (try conv => whnf)
    all_goals first
      | (rw [if_pos h] at he; exact EndX.mk (g, c) hs0 (by rw [he]; rfl) (by rw [he]; simp only [Option.getD_some, List.map_set]; exact entM))
      | (rw [if_neg (by rw [h]; decide)] at he; exact .mk 1 _ _ (by decide) ⟨⟨by omega, he⟩, rfl, rfl⟩ subM entM)
  · obtain ⟨wk, hwk⟩ : ∃ wk, (!p.Agree && syncedB ps j || p.Proposed && p.Agree) = wk := ⟨_, rfl⟩
    have he : firstM (mvK (timesOf b) ps j p) = if (!p.Agree && syncedB ps j || p.Proposed && p.Agree) = true then some (ps.set j { agreeV p with Sync := p.Sync && !decide (p.Role = 1) }) else firstM ((mvK (timesOf b) ps j p).drop 2) := he
    rw [hwk] at he
    repeat' first
      | (conv => whnf
         first
         | intro _
         | (first | refine selSplit (fun h => ?_) (fun h => ?_) | refine condSplit (fun h => ?_) (fun h => ?_)) <;> first | exact (clash (by assumption) h).elim | exact (clash h (by assumption)).elim | (simp only [decide_eq_true_eq, decide_eq_false_iff_not, Bool.not_eq_true', Bool.not_eq_false', Bool.not_true, Bool.not_false, Bool.or_eq_true, Bool.and_eq_true, Bool.or_eq_false_iff, Bool.and_eq_false_iff, beq_iff_eq, beq_eq_false_iff_ne, ne_eq] at h; first | (exfalso; omega) | skip) | skip
         | (first | refine drM (.quiet 0 (.quiet 1 (.quiet 2 (.quiet 3 (.quiet 4 (.quiet 5 (.quiet 6 (.quiet 7 (.alloc 8 (.last 9 false .done)))))))))) (SubL.refl _) ?_)
         | refine AltP.mk ?_ ?_
         | refine kpM ?_
         | refine SeqP.go ?_
         | refine cdM ?_
         | exact IsV.mk
         | apply GuardP.mk
         | ((first | apply callPure' en_wProp2 | apply callQuiet' en_wProp2); · exact fun w hw => PuAt.to (wProp2_w p g j s.pp (timesOf b) n c s.pm bv ps hn hlen w (hw.range hasM) (hw.elem hasM hx) (hw.range hasM) (hw.range hasM) (hw.arrSl hasM)) (congrArg Value.bool hwk))
         | (refine callX takeM en_dProp3 (fun w hw => dProp3_w _ p g n c j s.pp (timesOf b) s.pm bv w hx (hw.sub2 takeM)) ?_)
         | (refine loadRow hasM ?_)
         | refine Or.inl ⟨_, _, hasM, ?_⟩
         | refine Or.inl ⟨_, _, _, holeM, rfl, rfl, ?_⟩
         | refine lA ?_
         | refine lA0 ?_
         | refine lA1 ?_
         | refine lO ?_
         | refine lO0 ?_
         | refine lO1 ?_
         | refine lR ?_
         | refine lG ?_
         | refine lG0 ?_
         | refine tA ?_
         | refine tA0 ?_
         | refine tA1 ?_
         | refine BytW.ofBlk hasM rfl rfl ?_
         | refine AppW.noneB hasM leM rfl rfl rfl leM leM ?_
         | refine AppW.rowB hasM leM rfl rfl holeM leM leM ?_
         | refine AppW.blkB hasM leM rfl rfl holeM rfl rfl leM leM ?_
         | refine AppW.rowS hasM leM rfl rfl holeM (by omega) leM ?_
         | refine AppW.arrS hasM leM rfl rfl rfl holeM (by first | omega | (simp; omega)) leM ?_
         | refine ⟨sideM, ?_⟩
         | fail)
    all_goals (try conv => whnf)
    all_goals first
      | (rw [if_pos h] at he; exact EndX.mk (g, c) hs0 (by rw [he]; rfl) (by rw [he]; simp only [Option.getD_some, List.map_set]; exact entM))
      | (rw [if_neg (by rw [h]; decide)] at he; exact .mk 2 _ _ (by decide) ⟨⟨by omega, he⟩, rfl, rfl⟩ subM entM)
  · obtain ⟨wk, hwk⟩ : ∃ wk, (stillB p && (!decide (p.Fd = (timesOf b).Delay) || p.Sync || p.Reroot || !p.Synced)) = wk := ⟨_, rfl⟩
    have he : firstM (mvK (timesOf b) ps j p) = if (stillB p && (!decide (p.Fd = (timesOf b).Delay) || p.Sync || p.Reroot || !p.Synced)) = true then some (ps.set j { p with Fd := (timesOf b).Delay, Synced := true, Rr := 0, Sync := false, Reroot := false }) else firstM ((mvK (timesOf b) ps j p).drop 3) := he
    rw [hwk] at he
    repeat' first
      | (conv => whnf
         first
         | intro _
         | (first | refine selSplit (fun h => ?_) (fun h => ?_) | refine condSplit (fun h => ?_) (fun h => ?_)) <;> first | exact (clash (by assumption) h).elim | exact (clash h (by assumption)).elim | (simp only [decide_eq_true_eq, decide_eq_false_iff_not, Bool.not_eq_true', Bool.not_eq_false', Bool.not_true, Bool.not_false, Bool.or_eq_true, Bool.and_eq_true, Bool.or_eq_false_iff, Bool.and_eq_false_iff, beq_iff_eq, beq_eq_false_iff_ne, ne_eq] at h; first | (exfalso; omega) | skip) | skip
         | (first | refine drM (.quiet 0 (.quiet 1 (.quiet 2 (.quiet 3 (.quiet 4 (.quiet 5 (.quiet 6 (.quiet 7 (.alloc 8 (.last 9 false .done)))))))))) (SubL.refl _) ?_)
         | refine AltP.mk ?_ ?_
         | refine kpM ?_
         | refine SeqP.go ?_
         | refine cdM ?_
         | exact IsV.mk
         | apply GuardP.mk
         | ((first | apply callPure' en_wBlk1 | apply callQuiet' en_wBlk1); · exact fun w hw => PuAt.to (wBlk1_w p g j s.bp s.bf (timesOf b).Delay w (hw.range hasM) (hw.elem hasM hx) (hw.range hasM)) (congrArg Value.bool hwk))
         | (refine callX takeM en_dBlk2 (fun w hw => dBlk2_w _ p g n c j s.bp s.bf (timesOf b).Delay w hx (hw.sub2 takeM)) ?_)
         | (refine loadRow hasM ?_)
         | refine Or.inl ⟨_, _, hasM, ?_⟩
         | refine Or.inl ⟨_, _, _, holeM, rfl, rfl, ?_⟩
         | refine lA ?_
         | refine lA0 ?_
         | refine lA1 ?_
         | refine lO ?_
         | refine lO0 ?_
         | refine lO1 ?_
         | refine lR ?_
         | refine lG ?_
         | refine lG0 ?_
         | refine tA ?_
         | refine tA0 ?_
         | refine tA1 ?_
         | refine BytW.ofBlk hasM rfl rfl ?_
         | refine AppW.noneB hasM leM rfl rfl rfl leM leM ?_
         | refine AppW.rowB hasM leM rfl rfl holeM leM leM ?_
         | refine AppW.blkB hasM leM rfl rfl holeM rfl rfl leM leM ?_
         | refine AppW.rowS hasM leM rfl rfl holeM (by omega) leM ?_
         | refine AppW.arrS hasM leM rfl rfl rfl holeM (by first | omega | (simp; omega)) leM ?_
         | refine ⟨sideM, ?_⟩
         | fail)
    all_goals (try conv => whnf)
    all_goals first
      | (rw [if_pos h] at he; exact EndX.mk (g, c) hs0 (by rw [he]; rfl) (by rw [he]; simp only [Option.getD_some, List.map_set]; exact entM))
      | (rw [if_neg (by rw [h]; decide)] at he; exact .mk 3 _ _ (by decide) ⟨⟨by omega, he⟩, rfl, rfl⟩ subM entM)
  · obtain ⟨wk, hwk⟩ : ∃ wk, (!decide (p.Rb = IntKind.i64.wrap (2 * (timesOf b).Hello))) = wk := ⟨_, rfl⟩
    have he : firstM (mvK (timesOf b) ps j p) = if (!decide (p.Rb = IntKind.i64.wrap (2 * (timesOf b).Hello))) = true then some (ps.set j { p with Rb := IntKind.i64.wrap (2 * (timesOf b).Hello) }) else firstM ((mvK (timesOf b) ps j p).drop 4) := he
    rw [hwk] at he
    repeat' first
      | (conv => whnf
         first
         | intro _
         | (first | refine selSplit (fun h => ?_) (fun h => ?_) | refine condSplit (fun h => ?_) (fun h => ?_)) <;> first | exact (clash (by assumption) h).elim | exact (clash h (by assumption)).elim | (simp only [decide_eq_true_eq, decide_eq_false_iff_not, Bool.not_eq_true', Bool.not_eq_false', Bool.not_true, Bool.not_false, Bool.or_eq_true, Bool.and_eq_true, Bool.or_eq_false_iff, Bool.and_eq_false_iff, beq_iff_eq, beq_eq_false_iff_ne, ne_eq] at h; first | (exfalso; omega) | skip) | skip
         | (first | refine drM (.quiet 0 (.quiet 1 (.quiet 2 (.quiet 3 (.quiet 4 (.quiet 5 (.quiet 6 (.quiet 7 (.alloc 8 (.last 9 false .done)))))))))) (SubL.refl _) ?_)
         | refine AltP.mk ?_ ?_
         | refine kpM ?_
         | refine SeqP.go ?_
         | refine cdM ?_
         | exact IsV.mk
         | apply GuardP.mk
         | ((first | apply callPure' en_wBlk4 | apply callQuiet' en_wBlk4); · exact fun w hw => PuAt.to (wBlk4_w p g j s.bp (timesOf b) n c s.bm bv w (hw.range hasM) (hw.elem hasM hx) (hw.range hasM) (hw.range hasM)) (congrArg Value.bool hwk))
         | (refine callX takeM en_dBlk5 (fun w hw => dBlk5_w _ p g n c j s.bp (timesOf b) s.bm bv w hx (hw.sub2 takeM)) ?_)
         | (refine loadRow hasM ?_)
         | refine Or.inl ⟨_, _, hasM, ?_⟩
         | refine Or.inl ⟨_, _, _, holeM, rfl, rfl, ?_⟩
         | refine lA ?_
         | refine lA0 ?_
         | refine lA1 ?_
         | refine lO ?_
         | refine lO0 ?_
         | refine lO1 ?_
         | refine lR ?_
         | refine lG ?_
         | refine lG0 ?_
         | refine tA ?_
         | refine tA0 ?_
         | refine tA1 ?_
         | refine BytW.ofBlk hasM rfl rfl ?_
         | refine AppW.noneB hasM leM rfl rfl rfl leM leM ?_
         | refine AppW.rowB hasM leM rfl rfl holeM leM leM ?_
         | refine AppW.blkB hasM leM rfl rfl holeM rfl rfl leM leM ?_
         | refine AppW.rowS hasM leM rfl rfl holeM (by omega) leM ?_
         | refine AppW.arrS hasM leM rfl rfl rfl holeM (by first | omega | (simp; omega)) leM ?_
         | refine ⟨sideM, ?_⟩
         | fail)
    all_goals (try conv => whnf)
    all_goals first
      | (rw [if_pos h] at he; exact EndX.mk (g, c) hs0 (by rw [he]; rfl) (by rw [he]; simp only [Option.getD_some, List.map_set]; exact entM))
      | (rw [if_neg (by rw [h]; decide)] at he; exact .mk 4 _ _ (by decide) ⟨⟨by omega, he⟩, rfl, rfl⟩ subM entM)
  · have he : firstM (mvK (timesOf b) ps j p) = none := he
    repeat' first
      | (conv => whnf
         first
         | intro _
         | (first | refine selSplit (fun h => ?_) (fun h => ?_) | refine condSplit (fun h => ?_) (fun h => ?_)) <;> first | exact (clash (by assumption) h).elim | exact (clash h (by assumption)).elim | (simp only [decide_eq_true_eq, decide_eq_false_iff_not, Bool.not_eq_true', Bool.not_eq_false', Bool.not_true, Bool.not_false, Bool.or_eq_true, Bool.and_eq_true, Bool.or_eq_false_iff, Bool.and_eq_false_iff, beq_iff_eq, beq_eq_false_iff_ne, ne_eq] at h; first | (exfalso; omega) | skip) | skip
         | (first | refine drM (.quiet 0 (.quiet 1 (.quiet 2 (.quiet 3 (.quiet 4 (.quiet 5 (.quiet 6 (.quiet 7 (.alloc 8 (.last 9 false .done)))))))))) (SubL.refl _) ?_)
         | refine AltP.mk ?_ ?_
         | refine kpM ?_
         | refine SeqP.go ?_
         | refine cdM ?_
         | exact IsV.mk
         | apply GuardP.mk
         | refine Or.inl ⟨_, _, hasM, ?_⟩
         | refine Or.inl ⟨_, _, _, holeM, rfl, rfl, ?_⟩
         | refine lA ?_
         | refine lA0 ?_
         | refine lA1 ?_
         | refine lO ?_
         | refine lO0 ?_
         | refine lO1 ?_
         | refine lR ?_
         | refine lG ?_
         | refine lG0 ?_
         | refine tA ?_
         | refine tA0 ?_
         | refine tA1 ?_
         | refine BytW.ofBlk hasM rfl rfl ?_
         | refine AppW.noneB hasM leM rfl rfl rfl leM leM ?_
         | refine AppW.rowB hasM leM rfl rfl holeM leM leM ?_
         | refine AppW.blkB hasM leM rfl rfl holeM rfl rfl leM leM ?_
         | refine AppW.rowS hasM leM rfl rfl holeM (by omega) leM ?_
         | refine AppW.arrS hasM leM rfl rfl rfl holeM (by first | omega | (simp; omega)) leM ?_
         | refine ⟨sideM, ?_⟩
         | fail)
    all_goals (try conv => whnf)
    all_goals exact EndX.mk (g, c) hs0 (by rw [he]; rfl) (by rw [he]; exact entM)
theorem MoveN1_w (b : BridgeV) (ps : List PortV) (p : PortV) (n j : Nat) (h1 : p.Ready = false ∨ p.Update = true) (hn : ps.length = n) (hp : ps[j]? = some p) (h0 : rightB b = true) (A : Option Addr) (c0 : Nat) (w : World) (hs : SlAt w A 61 (ps.map PortV.enc)) (hlen : n ≤ 1000) :
    FnX Try.prog 76 [.agg ⟨b.enc⟩, .slice A n c0, .int .i64 j] [] (fun s : Nat × Nat => n ≤ s.2) (fun s => .tuple ⟨[.slice (some ⟨s.1, 0, none⟩) n s.2, .bool false]⟩) (fun s => [.arr (.slice (some ⟨s.1, 0, none⟩) n s.2) 28 61 (ps.map PortV.enc)]) w := by
  refine funcR_x tyOk wide Try.func76 ok_tMove (Nat.le_of_ble_eq_true rfl) (St.start0 w) ?_
  have hj : j < ps.length := (List.getElem?_eq_some_iff.1 hp).1
  have hx : (ps.map PortV.enc)[j]? = some p.enc := by rw [List.getElem?_map, hp]; rfl
  have hC := fun w hw => PClone_ne ps A c0 w hw (by omega) (by omega)
  rw [hn] at hC
  repeat' first
    | (conv => whnf
       first
       | (refine condNo ?_ ?_; · (simp [h0]; omega))
       | intro _
       | (first | refine selSplit (fun h => ?_) (fun h => ?_) | refine condSplit (fun h => ?_) (fun h => ?_)) <;> first | exact (clash (by assumption) h).elim | exact (clash h (by assumption)).elim | (simp only [decide_eq_true_eq, decide_eq_false_iff_not, Bool.not_eq_true', Bool.not_eq_false', Bool.not_true, Bool.not_false, Bool.or_eq_true, Bool.and_eq_true, Bool.or_eq_false_iff, Bool.and_eq_false_iff, beq_iff_eq, beq_eq_false_iff_ne, ne_eq] at h; first | (exfalso; omega) | skip) | skip
       | (first | refine drM (.quiet 0 (.quiet 1 (.quiet 2 (.quiet 3 (.quiet 4 (.quiet 5 (.quiet 6 (.quiet 7 (.alloc 8 (.last 9 false .done)))))))))) (SubL.refl _) ?_)
       | refine AltP.mk ?_ ?_
       | refine kpM ?_
       | refine SeqP.go ?_
       | refine cdM ?_
       | exact IsV.mk
       | apply GuardP.mk
       | (refine callX takeM en_PClone (fun w hw => hC w (hs.later hw)) ?_)
       | ((first | apply callPure' en_infoRight | apply callQuiet' en_infoRight); · exact fun w _ => infoRight_w b w)
       | (refine callX takeM en_moves (fun w hw => movesN1_w (timesOf b) (ps.map PortV.enc) p _ n _ j _ h1 w hx (hw.sub2 takeM)) ?_)
       | refine Or.inl ⟨_, _, hasM, ?_⟩
       | refine Or.inl ⟨_, _, _, holeM, rfl, rfl, ?_⟩
       | refine lA ?_
       | refine lA0 ?_
       | refine lA1 ?_
       | refine lO ?_
       | refine lO0 ?_
       | refine lO1 ?_
       | refine lR ?_
       | refine lG ?_
       | refine lG0 ?_
       | refine tA ?_
       | refine tA0 ?_
       | refine tA1 ?_
       | refine BytW.ofBlk hasM rfl rfl ?_
       | refine AppW.noneB hasM leM rfl rfl rfl leM leM ?_
       | refine AppW.rowB hasM leM rfl rfl holeM leM leM ?_
       | refine AppW.blkB hasM leM rfl rfl holeM rfl rfl leM leM ?_
       | refine AppW.rowS hasM leM rfl rfl holeM (by omega) leM ?_
       | refine AppW.arrS hasM leM rfl rfl rfl holeM (by first | omega | (simp; omega)) leM ?_
       | refine ⟨sideM, ?_⟩
       | fail)
  all_goals (try conv => whnf)
  rename_i b3 s0 hs0 bv s hs1
  obtain ⟨g, c⟩ := s0
  refine .mk Unit (fun _ S H => S = [(40, .int .i64 0), (39, .int .i64 0), (8, .slice (some ⟨g, 0, none⟩) n c)] ∧ H = [.arr (.slice (some ⟨g, 0, none⟩) n c) 28 61 (ps.map PortV.enc)]) (fun _ => 0) () _ _ ⟨rfl, rfl⟩ subM entM ?_
  rintro _ S1 H1 ⟨rfl, rfl⟩
  repeat' first
    | (conv => whnf
       first
       | intro _
       | (first | refine selSplit (fun h => ?_) (fun h => ?_) | refine condSplit (fun h => ?_) (fun h => ?_)) <;> first | exact (clash (by assumption) h).elim | exact (clash h (by assumption)).elim | (simp only [decide_eq_true_eq, decide_eq_false_iff_not, Bool.not_eq_true', Bool.not_eq_false', Bool.not_true, Bool.not_false, Bool.or_eq_true, Bool.and_eq_true, Bool.or_eq_false_iff, Bool.and_eq_false_iff, beq_iff_eq, beq_eq_false_iff_ne, ne_eq] at h; first | (exfalso; omega) | skip) | skip
       | (first | refine drM (.quiet 0 (.quiet 1 (.quiet 2 (.quiet 3 (.quiet 4 (.quiet 5 (.quiet 6 (.quiet 7 (.alloc 8 (.last 9 false .done)))))))))) (SubL.refl _) ?_)
       | refine AltP.mk ?_ ?_
       | refine kpM ?_
       | refine SeqP.go ?_
       | refine cdM ?_
       | exact IsV.mk
       | apply GuardP.mk
       | refine Or.inl ⟨_, _, hasM, ?_⟩
       | refine Or.inl ⟨_, _, _, holeM, rfl, rfl, ?_⟩
       | refine lA ?_
       | refine lA0 ?_
       | refine lA1 ?_
       | refine lO ?_
       | refine lO0 ?_
       | refine lO1 ?_
       | refine lR ?_
       | refine lG ?_
       | refine lG0 ?_
       | refine tA ?_
       | refine tA0 ?_
       | refine tA1 ?_
       | refine BytW.ofBlk hasM rfl rfl ?_
       | refine AppW.noneB hasM leM rfl rfl rfl leM leM ?_
       | refine AppW.rowB hasM leM rfl rfl holeM leM leM ?_
       | refine AppW.blkB hasM leM rfl rfl holeM rfl rfl leM leM ?_
       | refine AppW.rowS hasM leM rfl rfl holeM (by omega) leM ?_
       | refine AppW.arrS hasM leM rfl rfl rfl holeM (by first | omega | (simp; omega)) leM ?_
       | refine ⟨sideM, ?_⟩
       | fail)
  all_goals (try conv => whnf)
  all_goals exact EndX.mk (g, c) hs0 rfl entM
theorem MoveN2_w (b : BridgeV) (ps : List PortV) (p : PortV) (n j : Nat) (h1 : p.Ready = true) (h2 : p.Update = false) (h3 : ¬ p.Selected = p.Role) (h4 : ¬ (p.Selected = 1 ∨ p.Selected = 2)) (h5 : 0 ≤ p.Selected → ¬ p.Selected ≤ 4) (hn : ps.length = n) (hp : ps[j]? = some p) (h0 : rightB b = true) (A : Option Addr) (c0 : Nat) (w : World) (hs : SlAt w A 61 (ps.map PortV.enc)) (hlen : n ≤ 1000) :
    FnX Try.prog 76 [.agg ⟨b.enc⟩, .slice A n c0, .int .i64 j] [] (fun s : Nat × Nat => n ≤ s.2) (fun s => .tuple ⟨[.slice (some ⟨s.1, 0, none⟩) n s.2, .bool false]⟩) (fun s => [.arr (.slice (some ⟨s.1, 0, none⟩) n s.2) 28 61 (ps.map PortV.enc)]) w := by
  refine funcR_x tyOk wide Try.func76 ok_tMove (Nat.le_of_ble_eq_true rfl) (St.start0 w) ?_
  have hj : j < ps.length := (List.getElem?_eq_some_iff.1 hp).1
  have hx : (ps.map PortV.enc)[j]? = some p.enc := by rw [List.getElem?_map, hp]; rfl
  have hC := fun w hw => PClone_ne ps A c0 w hw (by omega) (by omega)
  rw [hn] at hC
  repeat' first
    | (conv => whnf
       first
       | (refine condNo ?_ ?_; · (simp [h0]; omega))
       | intro _
       | (first | refine selSplit (fun h => ?_) (fun h => ?_) | refine condSplit (fun h => ?_) (fun h => ?_)) <;> first | exact (clash (by assumption) h).elim | exact (clash h (by assumption)).elim | (simp only [decide_eq_true_eq, decide_eq_false_iff_not, Bool.not_eq_true', Bool.not_eq_false', Bool.not_true, Bool.not_false, Bool.or_eq_true, Bool.and_eq_true, Bool.or_eq_false_iff, Bool.and_eq_false_iff, beq_iff_eq, beq_eq_false_iff_ne, ne_eq] at h; first | (exfalso; omega) | skip) | skip
       | (first | refine drM (.quiet 0 (.quiet 1 (.quiet 2 (.quiet 3 (.quiet 4 (.quiet 5 (.quiet 6 (.quiet 7 (.alloc 8 (.last 9 false .done)))))))))) (SubL.refl _) ?_)
       | refine AltP.mk ?_ ?_
       | refine kpM ?_
       | refine SeqP.go ?_
       | refine cdM ?_
       | exact IsV.mk
       | apply GuardP.mk
       | (refine callX takeM en_PClone (fun w hw => hC w (hs.later hw)) ?_)
       | ((first | apply callPure' en_infoRight | apply callQuiet' en_infoRight); · exact fun w _ => infoRight_w b w)
       | (refine callX takeM en_moves (fun w hw => movesN2_w (timesOf b) (ps.map PortV.enc) p _ n _ j _ h1 h2 h3 h4 h5 w hx (hw.sub2 takeM)) ?_)
       | refine Or.inl ⟨_, _, hasM, ?_⟩
       | refine Or.inl ⟨_, _, _, holeM, rfl, rfl, ?_⟩
       | refine lA ?_
       | refine lA0 ?_
       | refine lA1 ?_
       | refine lO ?_
       | refine lO0 ?_
       | refine lO1 ?_
       | refine lR ?_
       | refine lG ?_
       | refine lG0 ?_
       | refine tA ?_
       | refine tA0 ?_
       | refine tA1 ?_
       | refine BytW.ofBlk hasM rfl rfl ?_
       | refine AppW.noneB hasM leM rfl rfl rfl leM leM ?_
       | refine AppW.rowB hasM leM rfl rfl holeM leM leM ?_
       | refine AppW.blkB hasM leM rfl rfl holeM rfl rfl leM leM ?_
       | refine AppW.rowS hasM leM rfl rfl holeM (by omega) leM ?_
       | refine AppW.arrS hasM leM rfl rfl rfl holeM (by first | omega | (simp; omega)) leM ?_
       | refine ⟨sideM, ?_⟩
       | fail)
  all_goals (try conv => whnf)
  rename_i b3 s0 hs0 bv s hs1
  obtain ⟨g, c⟩ := s0
  refine .mk Unit (fun _ S H => S = [(40, .int .i64 0), (39, .int .i64 0), (8, .slice (some ⟨g, 0, none⟩) n c)] ∧ H = [.arr (.slice (some ⟨g, 0, none⟩) n c) 28 61 (ps.map PortV.enc)]) (fun _ => 0) () _ _ ⟨rfl, rfl⟩ subM entM ?_
  rintro _ S1 H1 ⟨rfl, rfl⟩
  repeat' first
    | (conv => whnf
       first
       | intro _
       | (first | refine selSplit (fun h => ?_) (fun h => ?_) | refine condSplit (fun h => ?_) (fun h => ?_)) <;> first | exact (clash (by assumption) h).elim | exact (clash h (by assumption)).elim | (simp only [decide_eq_true_eq, decide_eq_false_iff_not, Bool.not_eq_true', Bool.not_eq_false', Bool.not_true, Bool.not_false, Bool.or_eq_true, Bool.and_eq_true, Bool.or_eq_false_iff, Bool.and_eq_false_iff, beq_iff_eq, beq_eq_false_iff_ne, ne_eq] at h; first | (exfalso; omega) | skip) | skip
       | (first | refine drM (.quiet 0 (.quiet 1 (.quiet 2 (.quiet 3 (.quiet 4 (.quiet 5 (.quiet 6 (.quiet 7 (.alloc 8 (.last 9 false .done)))))))))) (SubL.refl _) ?_)
       | refine AltP.mk ?_ ?_
       | refine kpM ?_
       | refine SeqP.go ?_
       | refine cdM ?_
       | exact IsV.mk
       | apply GuardP.mk
       | refine Or.inl ⟨_, _, hasM, ?_⟩
       | refine Or.inl ⟨_, _, _, holeM, rfl, rfl, ?_⟩
       | refine lA ?_
       | refine lA0 ?_
       | refine lA1 ?_
       | refine lO ?_
       | refine lO0 ?_
       | refine lO1 ?_
       | refine lR ?_
       | refine lG ?_
       | refine lG0 ?_
       | refine tA ?_
       | refine tA0 ?_
       | refine tA1 ?_
       | refine BytW.ofBlk hasM rfl rfl ?_
       | refine AppW.noneB hasM leM rfl rfl rfl leM leM ?_
       | refine AppW.rowB hasM leM rfl rfl holeM leM leM ?_
       | refine AppW.blkB hasM leM rfl rfl holeM rfl rfl leM leM ?_
       | refine AppW.rowS hasM leM rfl rfl holeM (by omega) leM ?_
       | refine AppW.arrS hasM leM rfl rfl rfl holeM (by first | omega | (simp; omega)) leM ?_
       | refine ⟨sideM, ?_⟩
       | fail)
  all_goals (try conv => whnf)
  all_goals exact EndX.mk (g, c) hs0 rfl entM
theorem MoveN3_w (b : BridgeV) (ps : List PortV) (p : PortV) (n j : Nat) (h1 : p.Ready = true) (h2 : p.Update = false) (h3 : p.Selected = p.Role) (h4 : (¬ p.Role = 1 ∧ ¬ p.Role = 2) ∧ ¬ p.Role = 0 ∧ ¬ p.Role = 3 ∧ ¬ p.Role = 4) (hn : ps.length = n) (hp : ps[j]? = some p) (h0 : rightB b = true) (A : Option Addr) (c0 : Nat) (w : World) (hs : SlAt w A 61 (ps.map PortV.enc)) (hlen : n ≤ 1000) :
    FnX Try.prog 76 [.agg ⟨b.enc⟩, .slice A n c0, .int .i64 j] [] (fun s : Nat × Nat => n ≤ s.2) (fun s => .tuple ⟨[.slice (some ⟨s.1, 0, none⟩) n s.2, .bool false]⟩) (fun s => [.arr (.slice (some ⟨s.1, 0, none⟩) n s.2) 28 61 (ps.map PortV.enc)]) w := by
  refine funcR_x tyOk wide Try.func76 ok_tMove (Nat.le_of_ble_eq_true rfl) (St.start0 w) ?_
  have hj : j < ps.length := (List.getElem?_eq_some_iff.1 hp).1
  have hx : (ps.map PortV.enc)[j]? = some p.enc := by rw [List.getElem?_map, hp]; rfl
  have hC := fun w hw => PClone_ne ps A c0 w hw (by omega) (by omega)
  rw [hn] at hC
  repeat' first
    | (conv => whnf
       first
       | (refine condNo ?_ ?_; · (simp [h0]; omega))
       | intro _
       | (first | refine selSplit (fun h => ?_) (fun h => ?_) | refine condSplit (fun h => ?_) (fun h => ?_)) <;> first | exact (clash (by assumption) h).elim | exact (clash h (by assumption)).elim | (simp only [decide_eq_true_eq, decide_eq_false_iff_not, Bool.not_eq_true', Bool.not_eq_false', Bool.not_true, Bool.not_false, Bool.or_eq_true, Bool.and_eq_true, Bool.or_eq_false_iff, Bool.and_eq_false_iff, beq_iff_eq, beq_eq_false_iff_ne, ne_eq] at h; first | (exfalso; omega) | skip) | skip
       | (first | refine drM (.quiet 0 (.quiet 1 (.quiet 2 (.quiet 3 (.quiet 4 (.quiet 5 (.quiet 6 (.quiet 7 (.alloc 8 (.last 9 false .done)))))))))) (SubL.refl _) ?_)
       | refine AltP.mk ?_ ?_
       | refine kpM ?_
       | refine SeqP.go ?_
       | refine cdM ?_
       | exact IsV.mk
       | apply GuardP.mk
       | (refine callX takeM en_PClone (fun w hw => hC w (hs.later hw)) ?_)
       | ((first | apply callPure' en_infoRight | apply callQuiet' en_infoRight); · exact fun w _ => infoRight_w b w)
       | (refine callX takeM en_moves (fun w hw => movesN3_w (timesOf b) (ps.map PortV.enc) p _ n _ j _ h1 h2 h3 h4 w hx (hw.sub2 takeM)) ?_)
       | refine Or.inl ⟨_, _, hasM, ?_⟩
       | refine Or.inl ⟨_, _, _, holeM, rfl, rfl, ?_⟩
       | refine lA ?_
       | refine lA0 ?_
       | refine lA1 ?_
       | refine lO ?_
       | refine lO0 ?_
       | refine lO1 ?_
       | refine lR ?_
       | refine lG ?_
       | refine lG0 ?_
       | refine tA ?_
       | refine tA0 ?_
       | refine tA1 ?_
       | refine BytW.ofBlk hasM rfl rfl ?_
       | refine AppW.noneB hasM leM rfl rfl rfl leM leM ?_
       | refine AppW.rowB hasM leM rfl rfl holeM leM leM ?_
       | refine AppW.blkB hasM leM rfl rfl holeM rfl rfl leM leM ?_
       | refine AppW.rowS hasM leM rfl rfl holeM (by omega) leM ?_
       | refine AppW.arrS hasM leM rfl rfl rfl holeM (by first | omega | (simp; omega)) leM ?_
       | refine ⟨sideM, ?_⟩
       | fail)
  all_goals (try conv => whnf)
  rename_i b3 s0 hs0 bv s hs1
  obtain ⟨g, c⟩ := s0
  refine .mk Unit (fun _ S H => S = [(40, .int .i64 0), (39, .int .i64 0), (8, .slice (some ⟨g, 0, none⟩) n c)] ∧ H = [.arr (.slice (some ⟨g, 0, none⟩) n c) 28 61 (ps.map PortV.enc)]) (fun _ => 0) () _ _ ⟨rfl, rfl⟩ subM entM ?_
  rintro _ S1 H1 ⟨rfl, rfl⟩
  repeat' first
    | (conv => whnf
       first
       | intro _
       | (first | refine selSplit (fun h => ?_) (fun h => ?_) | refine condSplit (fun h => ?_) (fun h => ?_)) <;> first | exact (clash (by assumption) h).elim | exact (clash h (by assumption)).elim | (simp only [decide_eq_true_eq, decide_eq_false_iff_not, Bool.not_eq_true', Bool.not_eq_false', Bool.not_true, Bool.not_false, Bool.or_eq_true, Bool.and_eq_true, Bool.or_eq_false_iff, Bool.and_eq_false_iff, beq_iff_eq, beq_eq_false_iff_ne, ne_eq] at h; first | (exfalso; omega) | skip) | skip
       | (first | refine drM (.quiet 0 (.quiet 1 (.quiet 2 (.quiet 3 (.quiet 4 (.quiet 5 (.quiet 6 (.quiet 7 (.alloc 8 (.last 9 false .done)))))))))) (SubL.refl _) ?_)
       | refine AltP.mk ?_ ?_
       | refine kpM ?_
       | refine SeqP.go ?_
       | refine cdM ?_
       | exact IsV.mk
       | apply GuardP.mk
       | refine Or.inl ⟨_, _, hasM, ?_⟩
       | refine Or.inl ⟨_, _, _, holeM, rfl, rfl, ?_⟩
       | refine lA ?_
       | refine lA0 ?_
       | refine lA1 ?_
       | refine lO ?_
       | refine lO0 ?_
       | refine lO1 ?_
       | refine lR ?_
       | refine lG ?_
       | refine lG0 ?_
       | refine tA ?_
       | refine tA0 ?_
       | refine tA1 ?_
       | refine BytW.ofBlk hasM rfl rfl ?_
       | refine AppW.noneB hasM leM rfl rfl rfl leM leM ?_
       | refine AppW.rowB hasM leM rfl rfl holeM leM leM ?_
       | refine AppW.blkB hasM leM rfl rfl holeM rfl rfl leM leM ?_
       | refine AppW.rowS hasM leM rfl rfl holeM (by omega) leM ?_
       | refine AppW.arrS hasM leM rfl rfl rfl holeM (by first | omega | (simp; omega)) leM ?_
       | refine ⟨sideM, ?_⟩
       | fail)
  all_goals (try conv => whnf)
  all_goals exact EndX.mk (g, c) hs0 rfl entM
theorem MoveNo_w (b : BridgeV) (ps : List PortV) (n j : Nat) (hn : ps.length = n) (h : rightB b = false ∨ n ≤ j) (A : Option Addr) (c0 : Nat) (w : World) (hs : SlAt w A 61 (ps.map PortV.enc)) (hlen : n ≤ 1000) :
    FnX Try.prog 76 [.agg ⟨b.enc⟩, .slice A n c0, .int .i64 j] [] (fun s : Option Addr × Nat => IsRow (.slice s.1 n s.2) n) (fun s => .tuple ⟨[.slice s.1 n s.2, .bool false]⟩) (fun s => [.arr (.slice s.1 n s.2) 28 61 (ps.map PortV.enc)]) w := by
  refine funcR_x tyOk wide Try.func76 ok_tMove (Nat.le_of_ble_eq_true rfl) (St.start0 w) ?_
  have hC := fun w hw => PClone_w ps A c0 w hw (by omega)
  rw [hn] at hC
  have hq : (n ≤ j) = ((n : Int) ≤ (j : Int)) := by simp
  rw [hq] at h
  repeat' first
    | (conv => whnf
       first
       | (refine condYes ?_ ?_; · (rcases h with h | h <;> simp [h]; done))
       | intro _
       | (first | refine selSplit (fun h => ?_) (fun h => ?_) | refine condSplit (fun h => ?_) (fun h => ?_)) <;> first | exact (clash (by assumption) h).elim | exact (clash h (by assumption)).elim | (simp only [decide_eq_true_eq, decide_eq_false_iff_not, Bool.not_eq_true', Bool.not_eq_false', Bool.not_true, Bool.not_false, Bool.or_eq_true, Bool.and_eq_true, Bool.or_eq_false_iff, Bool.and_eq_false_iff, beq_iff_eq, beq_eq_false_iff_ne, ne_eq] at h; first | (exfalso; omega) | skip) | skip
       | (first | refine drM (.quiet 0 (.quiet 1 (.quiet 2 (.quiet 3 (.quiet 4 (.quiet 5 (.quiet 6 (.quiet 7 (.alloc 8 (.last 9 false .done)))))))))) (SubL.refl _) ?_)
       | refine AltP.mk ?_ ?_
       | refine kpM ?_
       | refine SeqP.go ?_
       | refine cdM ?_
       | exact IsV.mk
       | apply GuardP.mk
       | (refine callX takeM en_PClone (fun w hw => hC w (hs.later hw)) ?_)
       | ((first | apply callPure' en_infoRight | apply callQuiet' en_infoRight); · exact fun w _ => infoRight_w b w)
       | refine Or.inl ⟨_, _, hasM, ?_⟩
       | refine Or.inl ⟨_, _, _, holeM, rfl, rfl, ?_⟩
       | refine lA ?_
       | refine lA0 ?_
       | refine lA1 ?_
       | refine lO ?_
       | refine lO0 ?_
       | refine lO1 ?_
       | refine lR ?_
       | refine lG ?_
       | refine lG0 ?_
       | refine tA ?_
       | refine tA0 ?_
       | refine tA1 ?_
       | refine BytW.ofBlk hasM rfl rfl ?_
       | refine AppW.noneB hasM leM rfl rfl rfl leM leM ?_
       | refine AppW.rowB hasM leM rfl rfl holeM leM leM ?_
       | refine AppW.blkB hasM leM rfl rfl holeM rfl rfl leM leM ?_
       | refine AppW.rowS hasM leM rfl rfl holeM (by omega) leM ?_
       | refine AppW.arrS hasM leM rfl rfl rfl holeM (by first | omega | (simp; omega)) leM ?_
       | refine ⟨sideM, ?_⟩
       | fail)
  all_goals (try conv => whnf)
  all_goals exact EndX.mk _ (by assumption) rfl entM
end Go.Proofs.Ytmgoahmbdpoikaa.Am
