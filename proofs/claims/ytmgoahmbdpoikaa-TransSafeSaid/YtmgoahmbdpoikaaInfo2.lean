/- Package info: roles are chosen. -/
import Derived.Test.YtmgoahmbdpoikaaInfo
import Derived.Test.YtmgoahmbdpoikaaPClone
set_option linter.unusedVariables false
set_option linter.unusedSimpArgs false
set_option maxRecDepth 100000
set_option maxHeartbeats 4000000
namespace Go.Proofs.Ytmgoahmbdpoikaa.Am
open Go Go.RowKit
theorem ok_isRe : (match Try.f73.body with | some c => codeOk Try.f73.ntmps c | none => false) = true := by kernel_rfl
theorem en_isRe : ∃ fn, Try.prog.funcs[73]? = some fn ∧ (fn.name == "runtime.NumGoroutine") = false ∧ fn.body.isNone = false := ⟨_, Try.func73, by kernel_rfl, by kernel_rfl⟩
theorem isRe_w (p : PortV) (w : World) : PuAt Try.prog 73 [.agg ⟨p.enc⟩] (.bool p.Reselect) w := by
  refine funcR_pure tyOk wide Try.func73 ok_isRe (Nat.le_of_ble_eq_true rfl) ?_
  repeat' first
    | (conv => whnf
       first
       | intro _
       | (first | refine selSplit (fun h => ?_) (fun h => ?_) | refine condSplit (fun h => ?_) (fun h => ?_)) <;> first | exact (clash (by assumption) h).elim | exact (clash h (by assumption)).elim | (simp only [decide_eq_true_eq, decide_eq_false_iff_not, Bool.not_eq_true', Bool.not_eq_false', Bool.not_true, Bool.not_false, Bool.or_eq_true, Bool.and_eq_true, Bool.or_eq_false_iff, Bool.and_eq_false_iff, beq_iff_eq, beq_eq_false_iff_ne, ne_eq] at h; first | (exfalso; omega) | skip) | skip
       | refine SeqP.go ?_
       | refine cdM ?_
       | exact IsV.mk
       | apply GuardP.mk
       | (first | refine eqlW eqS24 rfl rfl rfl fitM fitM ?_ | refine neqW eqS24 rfl rfl rfl fitM fitM ?_ | refine eqlW eqS26 rfl rfl rfl fitM fitM ?_ | refine neqW eqS26 rfl rfl rfl fitM fitM ?_)
       | refine Or.inl ⟨_, _, hasM, ?_⟩
       | refine Or.inl ⟨_, _, _, holeM, rfl, rfl, ?_⟩
       | refine lA ?_
       | refine lA0 ?_
       | refine lA1 ?_
       | refine lO ?_
       | refine lO0 ?_
       | refine lO1 ?_
       | refine lR ?_
       | refine lG ?_
       | refine lG0 ?_
       | refine tA ?_
       | refine tA0 ?_
       | refine tA1 ?_
       | refine BytW.ofBlk hasM rfl rfl ?_
       | refine AppW.noneB hasM leM rfl rfl rfl leM leM ?_
       | refine AppW.rowB hasM leM rfl rfl holeM leM leM ?_
       | refine AppW.blkB hasM leM rfl rfl holeM rfl rfl leM leM ?_
       | refine AppW.rowS hasM leM rfl rfl holeM (by omega) leM ?_
       | refine AppW.arrS hasM leM rfl rfl rfl holeM (by first | omega | (simp; omega)) leM ?_
       | refine ⟨sideM, ?_⟩
       | fail)
  all_goals (try conv => whnf)
  all_goals rfl
def idxRe : List PortV → Nat → Int
  | [], _ => -1
  | p :: r, k => if p.Reselect = true then (k : Int) else idxRe r (k + 1)
theorem idxRe_drop (ps : List PortV) (k : Nat) (h : k < ps.length) : idxRe (ps.drop k) k = if ps[k].Reselect = true then (k : Int) else idxRe (ps.drop (k + 1)) (k + 1) := by
  rw [List.drop_eq_getElem_cons h]; rfl
def anyRe (ps : List PortV) : Bool := decide (0 ≤ idxRe ps 0)
theorem ok_IdxP : (match Try.f90.body with | some c => codeOk Try.f90.ntmps c | none => false) = true := by kernel_rfl
theorem en_IdxP : ∃ fn, Try.prog.funcs[90]? = some fn ∧ (fn.name == "runtime.NumGoroutine") = false ∧ fn.body.isNone = false := ⟨_, Try.func90, by kernel_rfl, by kernel_rfl⟩
theorem IdxP_w (ps : List PortV) (n : Nat) (hn : ps.length = n) (A : Option Addr) (c : Nat) (w : World) (hs : SlAt w A 61 (ps.map PortV.enc)) (hl : n ≤ 1000) : PuAt Try.prog 90 [.slice A n c, .func (.func 73) #[] #[]] (.int .i64 (idxRe ps 0)) w := by
  subst hn
  refine funcR_pure tyOk wide Try.func90 ok_IdxP (Nat.le_of_ble_eq_true rfl) ?_
  repeat' first
    | (conv => whnf
       first
       | intro _
       | (first | refine selSplit (fun h => ?_) (fun h => ?_) | refine condSplit (fun h => ?_) (fun h => ?_)) <;> first | exact (clash (by assumption) h).elim | exact (clash h (by assumption)).elim | (simp only [decide_eq_true_eq, decide_eq_false_iff_not, Bool.not_eq_true', Bool.not_eq_false', Bool.not_true, Bool.not_false, Bool.or_eq_true, Bool.and_eq_true, Bool.or_eq_false_iff, Bool.and_eq_false_iff, beq_iff_eq, beq_eq_false_iff_ne, ne_eq] at h; first | (exfalso; omega) | skip) | skip
       | refine SeqP.go ?_
       | refine cdM ?_
       | exact IsV.mk
       | apply GuardP.mk
       | (first | refine eqlW eqS24 rfl rfl rfl fitM fitM ?_ | refine neqW eqS24 rfl rfl rfl fitM fitM ?_ | refine eqlW eqS26 rfl rfl rfl fitM fitM ?_ | refine neqW eqS26 rfl rfl rfl fitM fitM ?_)
       | refine Or.inl ⟨_, _, hasM, ?_⟩
       | refine Or.inl ⟨_, _, _, holeM, rfl, rfl, ?_⟩
       | refine lA ?_
       | refine lA0 ?_
       | refine lA1 ?_
       | refine lO ?_
       | refine lO0 ?_
       | refine lO1 ?_
       | refine lR ?_
       | refine lG ?_
       | refine lG0 ?_
       | refine tA ?_
       | refine tA0 ?_
       | refine tA1 ?_
       | refine BytW.ofBlk hasM rfl rfl ?_
       | refine AppW.noneB hasM leM rfl rfl rfl leM leM ?_
       | refine AppW.rowB hasM leM rfl rfl holeM leM leM ?_
       | refine AppW.blkB hasM leM rfl rfl holeM rfl rfl leM leM ?_
       | refine AppW.rowS hasM leM rfl rfl holeM (by omega) leM ?_
       | refine AppW.arrS hasM leM rfl rfl rfl holeM (by first | omega | (simp; omega)) leM ?_
       | refine ⟨sideM, ?_⟩
       | fail)
  all_goals (try conv => whnf)
  refine .mk Nat (fun k S H => (k ≤ ps.length ∧ idxRe ps 0 = idxRe (ps.drop k) k) ∧ S = [(8, .int .i64 k), (7, .int .i64 ps.length), (0, .slice A ps.length c), (1, .func (.func 73) #[] #[])] ∧ H = []) (fun k => ps.length - k) 0 _ _ ⟨⟨by omega, rfl⟩, rfl, rfl⟩ subM entM ?_
  rintro k S1 H1 ⟨⟨hk, he⟩, rfl, rfl⟩
  by_cases hk2 : k < ps.length
  · obtain ⟨b, o, e, _⟩ := hs.at_ (by simp; omega)
    subst e
    have o1 := hs.old (X := []) (by simp; omega) (by simp)
    have hd := idxRe_drop ps k hk2
    obtain ⟨x, hx⟩ : ∃ x, ps[k] = x := ⟨_, rfl⟩
    have g1 : (ps.map PortV.enc)[k]? = some x.enc := by rw [← hx]; exact mapGet hk2
    rw [hx] at hd
    repeat' first
      | (conv => whnf
         first
         | intro _
         | (first | refine selSplit (fun h => ?_) (fun h => ?_) | refine condSplit (fun h => ?_) (fun h => ?_)) <;> first | exact (clash (by assumption) h).elim | exact (clash h (by assumption)).elim | (simp only [decide_eq_true_eq, decide_eq_false_iff_not, Bool.not_eq_true', Bool.not_eq_false', Bool.not_true, Bool.not_false, Bool.or_eq_true, Bool.and_eq_true, Bool.or_eq_false_iff, Bool.and_eq_false_iff, beq_iff_eq, beq_eq_false_iff_ne, ne_eq] at h; first | (exfalso; omega) | skip) | skip
         | refine SeqP.go ?_
         | refine cdM ?_
         | exact IsV.mk
         | apply GuardP.mk
         | ((first | apply callPure' en_isRe | apply callQuiet' en_isRe); · exact fun w _ => isRe_w x w)
         | (first | refine eqlW eqS24 rfl rfl rfl fitM fitM ?_ | refine neqW eqS24 rfl rfl rfl fitM fitM ?_ | refine eqlW eqS26 rfl rfl rfl fitM fitM ?_ | refine neqW eqS26 rfl rfl rfl fitM fitM ?_)
         | refine Or.inl ⟨_, _, hasM, ?_⟩
         | refine Or.inl ⟨_, _, _, holeM, rfl, rfl, ?_⟩
         | refine lA ?_
         | refine lA0 ?_
         | refine lA1 ?_
         | refine lO ?_
         | refine lO0 ?_
         | refine lO1 ?_
         | refine lR ?_
         | refine lG ?_
         | refine lG0 ?_
         | refine tA ?_
         | refine tA0 ?_
         | refine tA1 ?_
         | refine BytW.ofBlk hasM rfl rfl ?_
         | refine AppW.noneB hasM leM rfl rfl rfl leM leM ?_
         | refine AppW.rowB hasM leM rfl rfl holeM leM leM ?_
         | refine AppW.blkB hasM leM rfl rfl holeM rfl rfl leM leM ?_
         | refine AppW.rowS hasM leM rfl rfl holeM (by omega) leM ?_
         | refine AppW.arrS hasM leM rfl rfl rfl holeM (by first | omega | (simp; omega)) leM ?_
         | refine ⟨sideM, ?_⟩
         | fail)
    all_goals (try conv => whnf)
    all_goals first
      | (exfalso; omega)
      | (rw [if_pos h] at hd; refine v_int ?_; rw [he, hd])
      | (rw [if_neg (by rw [h]; decide)] at hd; exact .mk (k + 1) _ _ (by omega) ⟨⟨hk2, by rw [he, hd]⟩, rfl, rfl⟩ subM entM)
  · skip
    repeat' first
      | (conv => whnf
         first
         | intro _
         | (first | refine selSplit (fun h => ?_) (fun h => ?_) | refine condSplit (fun h => ?_) (fun h => ?_)) <;> first | exact (clash (by assumption) h).elim | exact (clash h (by assumption)).elim | (simp only [decide_eq_true_eq, decide_eq_false_iff_not, Bool.not_eq_true', Bool.not_eq_false', Bool.not_true, Bool.not_false, Bool.or_eq_true, Bool.and_eq_true, Bool.or_eq_false_iff, Bool.and_eq_false_iff, beq_iff_eq, beq_eq_false_iff_ne, ne_eq] at h; first | (exfalso; omega) | skip) | skip
         | refine SeqP.go ?_
         | refine cdM ?_
         | exact IsV.mk
         | apply GuardP.mk
         | (first | refine eqlW eqS24 rfl rfl rfl fitM fitM ?_ | refine neqW eqS24 rfl rfl rfl fitM fitM ?_ | refine eqlW eqS26 rfl rfl rfl fitM fitM ?_ | refine neqW eqS26 rfl rfl rfl fitM fitM ?_)
         | refine Or.inl ⟨_, _, hasM, ?_⟩
         | refine Or.inl ⟨_, _, _, holeM, rfl, rfl, ?_⟩
         | refine lA ?_
         | refine lA0 ?_
         | refine lA1 ?_
         | refine lO ?_
         | refine lO0 ?_
         | refine lO1 ?_
         | refine lR ?_
         | refine lG ?_
         | refine lG0 ?_
         | refine tA ?_
         | refine tA0 ?_
         | refine tA1 ?_
         | refine BytW.ofBlk hasM rfl rfl ?_
         | refine AppW.noneB hasM leM rfl rfl rfl leM leM ?_
         | refine AppW.rowB hasM leM rfl rfl holeM leM leM ?_
         | refine AppW.blkB hasM leM rfl rfl holeM rfl rfl leM leM ?_
         | refine AppW.rowS hasM leM rfl rfl holeM (by omega) leM ?_
         | refine AppW.arrS hasM leM rfl rfl rfl holeM (by first | omega | (simp; omega)) leM ?_
         | refine ⟨sideM, ?_⟩
         | fail)
    all_goals (try conv => whnf)
    all_goals first
      | (exfalso; omega)
      | (refine v_int ?_; rw [he, List.drop_of_length_le (by omega)]; rfl)
theorem ok_ConP : (match Try.f72.body with | some c => codeOk Try.f72.ntmps c | none => false) = true := by kernel_rfl
theorem en_ConP : ∃ fn, Try.prog.funcs[72]? = some fn ∧ (fn.name == "runtime.NumGoroutine") = false ∧ fn.body.isNone = false := ⟨_, Try.func72, by kernel_rfl, by kernel_rfl⟩
theorem ConP_w (ps : List PortV) (n : Nat) (hn : ps.length = n) (A : Option Addr) (c : Nat) (w : World) (hs : SlAt w A 61 (ps.map PortV.enc)) (hl : n ≤ 1000) : PuAt Try.prog 72 [.slice A n c, .func (.func 73) #[] #[]] (.bool (anyRe ps)) w := by
  refine funcR_pure tyOk wide Try.func72 ok_ConP (Nat.le_of_ble_eq_true rfl) ?_
  repeat' first
    | (conv => whnf
       first
       | intro _
       | (first | refine selSplit (fun h => ?_) (fun h => ?_) | refine condSplit (fun h => ?_) (fun h => ?_)) <;> first | exact (clash (by assumption) h).elim | exact (clash h (by assumption)).elim | (simp only [decide_eq_true_eq, decide_eq_false_iff_not, Bool.not_eq_true', Bool.not_eq_false', Bool.not_true, Bool.not_false, Bool.or_eq_true, Bool.and_eq_true, Bool.or_eq_false_iff, Bool.and_eq_false_iff, beq_iff_eq, beq_eq_false_iff_ne, ne_eq] at h; first | (exfalso; omega) | skip) | skip
       | refine SeqP.go ?_
       | refine cdM ?_
       | exact IsV.mk
       | apply GuardP.mk
       | ((first | apply callPure' en_IdxP | apply callQuiet' en_IdxP); · exact fun w hw => IdxP_w ps n hn A c w (hs.later hw) hl)
       | (first | refine eqlW eqS24 rfl rfl rfl fitM fitM ?_ | refine neqW eqS24 rfl rfl rfl fitM fitM ?_ | refine eqlW eqS26 rfl rfl rfl fitM fitM ?_ | refine neqW eqS26 rfl rfl rfl fitM fitM ?_)
       | refine Or.inl ⟨_, _, hasM, ?_⟩
       | refine Or.inl ⟨_, _, _, holeM, rfl, rfl, ?_⟩
       | refine lA ?_
       | refine lA0 ?_
       | refine lA1 ?_
       | refine lO ?_
       | refine lO0 ?_
       | refine lO1 ?_
       | refine lR ?_
       | refine lG ?_
       | refine lG0 ?_
       | refine tA ?_
       | refine tA0 ?_
       | refine tA1 ?_
       | refine BytW.ofBlk hasM rfl rfl ?_
       | refine AppW.noneB hasM leM rfl rfl rfl leM leM ?_
       | refine AppW.rowB hasM leM rfl rfl holeM leM leM ?_
       | refine AppW.blkB hasM leM rfl rfl holeM rfl rfl leM leM ?_
       | refine AppW.rowS hasM leM rfl rfl holeM (by omega) leM ?_
       | refine AppW.arrS hasM leM rfl rfl rfl holeM (by first | omega | (simp; omega)) leM ?_
       | refine ⟨sideM, ?_⟩
       | fail)
  all_goals (try conv => whnf)
  all_goals rfl
theorem Select_ne (bridge : Int) (ps : List InfoV) (n : Nat) (hn : ps.length = n) (A : Option Addr) (c : Nat) (w : World) (hs : SlAt w A 7 (ps.map InfoV.enc)) (hl : n ≤ 1000) (hyes : rightI ps = true) (hp : 0 < n) :
    FnX Try.prog 71 [.int .u64 bridge, .slice A n c] [] (fun s : (Nat × Nat) × (Nat × Nat) => n ≤ s.1.2 ∧ n ≤ s.2.2) (fun s => .tuple ⟨[.agg ⟨encV (bestV bridge ps).1 ++ [.int .i64 (bestV bridge ps).2, .slice (some ⟨s.1.1, 0, none⟩) n s.1.2, .slice (some ⟨s.2.1, 0, none⟩) n s.2.2]⟩, .int .i64 0]⟩)
      (fun s => [.row (.slice (some ⟨s.1.1, 0, none⟩) n s.1.2) 3 1 n ((rolesV bridge ps).map (Value.int .i64)), .arr (.slice (some ⟨s.2.1, 0, none⟩) n s.2.2) 24 4 ((offersV bridge ps).map encV)]) w :=
  (Select_w bridge ps n hn A c w hs hl hyes).map fun s h => by
    obtain ⟨⟨A1, c1⟩, ⟨A2, c2⟩⟩ := s
    obtain ⟨g1, rfl, h1⟩ := h.1.at_ hp
    obtain ⟨g2, rfl, h2⟩ := h.2.at_ hp
    exact ⟨((g1, c1), (g2, c2)), ⟨h1, h2⟩, rfl, Ent.refl⟩
def infosV (ps : List PortV) : List InfoV := ps.map knownV
def chooseOk (b : BridgeV) (ps : List PortV) : Bool := rightI (infosV ps) && rightB b && anyRe ps
def timesB (b : BridgeV) : TimesV := ⟨b.Times_Age, b.Times_Max, b.Times_Hello, b.Times_Delay⟩
def portAt (ps : List PortV) (i : Int) : PortV := (ps[i.toNat]?).getD PortV.zero
def givenV (b : BridgeV) (ps : List PortV) (r : V4 × Int) : TimesV :=
  if 0 ≤ r.2 then ⟨IntKind.i64.wrap ((portAt ps r.2).Times_Age + 1), (portAt ps r.2).Times_Max, (portAt ps r.2).Times_Hello, (portAt ps r.2).Times_Delay⟩ else timesB b
def updV (p : PortV) (o : V4) (t : TimesV) (role : Int) : Bool :=
  if (knownV p).Source = 0 then false else if (knownV p).Source = 1 then true
  else if (knownV p).Source = 2 then (!allEq (encV p.v4) (encV o)) || !allEq p.times.enc t.enc
  else if (knownV p).Source = 3 then decide (role = 2) else p.Update
def choseB (p : PortV) (o : V4) (t : TimesV) (role : Int) (u : Bool) : PortV :=
  { p with Reselect := false, Ready := true, Offer_Root := o.1, Offer_Cost := o.2.1, Offer_Bridge := o.2.2.1, Offer_Port := o.2.2.2, Given_Age := t.Age, Given_Max := t.Max, Given_Hello := t.Hello, Given_Delay := t.Delay, Selected := role, Update := u }
def choseV (p : PortV) (o : V4) (t : TimesV) (role : Int) : PortV := choseB p o t role (updV p o t role)
def choseF (b : BridgeV) (ps : List PortV) (r : V4 × Int) (i : Nat) (p : PortV) : PortV := choseV p (offV r.1 b.Id (knownV p)) (givenV b ps r) (roleI b.Id r i (knownV p))
def chooseV (b : BridgeV) (ps : List PortV) : List PortV × Bool :=
  if chooseOk b ps = true then (ps.mapIdx (choseF b ps (bestV b.Id (infosV ps))), true) else (ps, false)
theorem ok_Choose : (match Try.f38.body with | some c => codeOk Try.f38.ntmps c | none => false) = true := by kernel_rfl
theorem en_Choose : ∃ fn, Try.prog.funcs[38]? = some fn ∧ (fn.name == "runtime.NumGoroutine") = false ∧ fn.body.isNone = false := ⟨_, Try.func38, by kernel_rfl, by kernel_rfl⟩
theorem Choose_no (b : BridgeV) (ps : List PortV) (n : Nat) (hn : ps.length = n) (A : Option Addr) (c : Nat) (w : World) (hs : SlAt w A 61 (ps.map PortV.enc)) (hlen : n ≤ 1000) (hno : chooseOk b ps = false) :
    FnX Try.prog 38 [.agg ⟨b.enc⟩, .slice A n c] [] (fun s : Option Addr × Nat => IsRow (.slice s.1 n s.2) n) (fun s => .tuple ⟨[.slice s.1 n s.2, .bool false]⟩) (fun s => [.arr (.slice s.1 n s.2) 28 61 (ps.map PortV.enc)]) w := by
  subst hn
  refine funcR_x tyOk wide Try.func38 ok_Choose (Nat.le_of_ble_eq_true rfl) (St.start0 w) ?_
  repeat' first
    | (conv => whnf
       first
       | intro _
       | (first | refine selSplit (fun h => ?_) (fun h => ?_) | refine condSplit (fun h => ?_) (fun h => ?_)) <;> first | exact (clash (by assumption) h).elim | exact (clash h (by assumption)).elim | (simp only [decide_eq_true_eq, decide_eq_false_iff_not, Bool.not_eq_true', Bool.not_eq_false', Bool.not_true, Bool.not_false, Bool.or_eq_true, Bool.and_eq_true, Bool.or_eq_false_iff, Bool.and_eq_false_iff, beq_iff_eq, beq_eq_false_iff_ne, ne_eq] at h; first | (exfalso; omega) | skip) | skip
       | (first | refine drM (.quiet 0 (.quiet 1 (.quiet 2 (.quiet 3 (.quiet 4 (.quiet 5 (.quiet 6 (.quiet 7 (.quiet 8 (.quiet 9 (.quiet 10 (.quiet 11 (.quiet 12 (.quiet 13 (.quiet 14 (.quiet 15 (.last 16 true (.last 17 true (.last 18 true (.last 19 true (.last 20 false (.last 21 false (.last 22 false .done))))))))))))))))))))))) (SubL.of (List.Sublist.cons _ (List.Sublist.refl _))) ?_ | refine drC (.quiet 0 (.quiet 1 (.quiet 2 (.quiet 3 (.quiet 4 (.quiet 5 (.quiet 6 (.quiet 7 (.quiet 8 (.quiet 9 (.quiet 10 (.quiet 11 (.quiet 12 (.quiet 13 (.quiet 14 (.quiet 15 (.quiet 16 (.quiet 17 (.quiet 18 (.quiet 19 (.quiet 20 (.quiet 21 (.quiet 22 (.last 23 false .done)))))))))))))))))))))))) (SubL.refl _) ?_)
       | refine AltP.mk ?_ ?_
       | refine kpM ?_
       | refine SeqP.go ?_
       | refine cdM ?_
       | exact IsV.mk
       | apply GuardP.mk
       | (first | refine eqlW eqS24 rfl rfl rfl fitM fitM ?_ | refine neqW eqS24 rfl rfl rfl fitM fitM ?_ | refine eqlW eqS26 rfl rfl rfl fitM fitM ?_ | refine neqW eqS26 rfl rfl rfl fitM fitM ?_)
       | refine Or.inl ⟨_, _, hasM, ?_⟩
       | refine Or.inl ⟨_, _, _, holeM, rfl, rfl, ?_⟩
       | refine lA ?_
       | refine lA0 ?_
       | refine lA1 ?_
       | refine lO ?_
       | refine lO0 ?_
       | refine lO1 ?_
       | refine lR ?_
       | refine lG ?_
       | refine lG0 ?_
       | refine tA ?_
       | refine tA0 ?_
       | refine tA1 ?_
       | refine BytW.ofBlk hasM rfl rfl ?_
       | refine AppW.noneB hasM leM rfl rfl rfl leM leM ?_
       | refine AppW.rowB hasM leM rfl rfl holeM leM leM ?_
       | refine AppW.blkB hasM leM rfl rfl holeM rfl rfl leM leM ?_
       | refine AppW.rowS hasM leM rfl rfl holeM (by omega) leM ?_
       | refine AppW.arrS hasM leM rfl rfl rfl holeM (by first | omega | (simp; omega)) leM ?_
       | refine ⟨sideM, ?_⟩
       | fail)
  all_goals (try conv => whnf)
  rename_i b2
  refine .mk (Nat × Option Addr × Nat) (fun ⟨k, A1, c1⟩ S H => (k ≤ ps.length ∧ IsRow (.slice A1 k c1) k) ∧ S = [(17, .int .i64 k), (16, .int .i64 ps.length), (15, .slice A ps.length c), (6, .slice A1 k c1), (1, .slice A ps.length c), (2, .pointer (some ⟨b2, 0, none⟩))] ∧ H = [.arr (.slice A1 k c1) 100 7 (((ps.take k).map knownV).map InfoV.enc), .blk b2 b.enc 33]) (fun s => ps.length - s.1) (0, none, 0) _ _ ⟨⟨by omega, .inl ⟨rfl, rfl⟩⟩, rfl, rfl⟩ subM ((nilArr (E := 100) (sz := 7)).trans entM) ?_
  rintro ⟨k, A1, c1⟩ S1 H1 ⟨⟨hk, hr⟩, rfl, rfl⟩
  by_cases hk2 : k < ps.length
  · obtain ⟨b', o, e, _⟩ := hs.at_ (by simp; omega)
    subst e
    have o1 := hs.old (X := []) (by simp; omega) (by simp)
    obtain ⟨x, hx⟩ : ∃ x, ps[k] = x := ⟨_, rfl⟩
    have g1 : (ps.map PortV.enc)[k]? = some x.enc := by rw [← hx]; exact mapGet hk2
    have hlk : (((ps.take k).map knownV).map InfoV.enc).length = k := by rw [List.length_map, map_take_len (by omega)]
    repeat' first
      | (conv => whnf
         first
         | intro _
         | (first | refine selSplit (fun h => ?_) (fun h => ?_) | refine condSplit (fun h => ?_) (fun h => ?_)) <;> first | exact (clash (by assumption) h).elim | exact (clash h (by assumption)).elim | (simp only [decide_eq_true_eq, decide_eq_false_iff_not, Bool.not_eq_true', Bool.not_eq_false', Bool.not_true, Bool.not_false, Bool.or_eq_true, Bool.and_eq_true, Bool.or_eq_false_iff, Bool.and_eq_false_iff, beq_iff_eq, beq_eq_false_iff_ne, ne_eq] at h; first | (exfalso; omega) | skip) | skip
         | (first | refine drM (.quiet 0 (.quiet 1 (.quiet 2 (.quiet 3 (.quiet 4 (.quiet 5 (.quiet 6 (.quiet 7 (.quiet 8 (.quiet 9 (.quiet 10 (.quiet 11 (.quiet 12 (.quiet 13 (.quiet 14 (.quiet 15 (.last 16 true (.last 17 true (.last 18 true (.last 19 true (.last 20 false (.last 21 false (.last 22 false .done))))))))))))))))))))))) (SubL.of (List.Sublist.cons _ (List.Sublist.refl _))) ?_ | refine drC (.quiet 0 (.quiet 1 (.quiet 2 (.quiet 3 (.quiet 4 (.quiet 5 (.quiet 6 (.quiet 7 (.quiet 8 (.quiet 9 (.quiet 10 (.quiet 11 (.quiet 12 (.quiet 13 (.quiet 14 (.quiet 15 (.quiet 16 (.quiet 17 (.quiet 18 (.quiet 19 (.quiet 20 (.quiet 21 (.quiet 22 (.last 23 false .done)))))))))))))))))))))))) (SubL.refl _) ?_)
         | refine AltP.mk ?_ ?_
         | refine kpM ?_
         | refine SeqP.go ?_
         | refine cdM ?_
         | exact IsV.mk
         | apply GuardP.mk
         | ((first | apply callPure' en_known | apply callQuiet' en_known); · exact fun w _ => known_w x w)
         | (refine AppW.arrK hasM (Nat.le_of_ble_eq_true rfl) rfl rfl rfl holeM hlk (by omega) (Nat.le_of_ble_eq_true rfl) ?_)
         | (first | refine eqlW eqS24 rfl rfl rfl fitM fitM ?_ | refine neqW eqS24 rfl rfl rfl fitM fitM ?_ | refine eqlW eqS26 rfl rfl rfl fitM fitM ?_ | refine neqW eqS26 rfl rfl rfl fitM fitM ?_)
         | refine Or.inl ⟨_, _, hasM, ?_⟩
         | refine Or.inl ⟨_, _, _, holeM, rfl, rfl, ?_⟩
         | refine lA ?_
         | refine lA0 ?_
         | refine lA1 ?_
         | refine lO ?_
         | refine lO0 ?_
         | refine lO1 ?_
         | refine lR ?_
         | refine lG ?_
         | refine lG0 ?_
         | refine tA ?_
         | refine tA0 ?_
         | refine tA1 ?_
         | refine BytW.ofBlk hasM rfl rfl ?_
         | refine AppW.noneB hasM leM rfl rfl rfl leM leM ?_
         | refine AppW.rowB hasM leM rfl rfl holeM leM leM ?_
         | refine AppW.blkB hasM leM rfl rfl holeM rfl rfl leM leM ?_
         | refine AppW.rowS hasM leM rfl rfl holeM (by omega) leM ?_
         | refine AppW.arrS hasM leM rfl rfl rfl holeM (by first | omega | (simp; omega)) leM ?_
         | refine ⟨sideM, ?_⟩
         | fail)
    all_goals (try conv => whnf)
    all_goals first
      | (exfalso; omega)
      | exact .mk (k + 1, _, _) _ _ (by show _ - (k + 1) < _ - k; omega) ⟨⟨hk2, by assumption⟩, rfl, rfl⟩ subM (by rw [map_take_succ hk2, hx, List.map_append]; exact entM)
  · obtain rfl : k = ps.length := by omega
    have e1 : (ps.take ps.length).map knownV = infosV ps := by rw [List.take_length]; rfl
    rw [e1]
    have hil : (infosV ps).length = ps.length := by unfold infosV; rw [List.length_map]
    unfold chooseOk at hno
    by_cases hri : rightI (infosV ps) = true
    · rw [hri, Bool.true_and] at hno
      repeat' first
        | (conv => whnf
           first
           | intro _
           | (first | refine selSplit (fun h => ?_) (fun h => ?_) | refine condSplit (fun h => ?_) (fun h => ?_)) <;> first | exact (clash (by assumption) h).elim | exact (clash h (by assumption)).elim | (simp only [decide_eq_true_eq, decide_eq_false_iff_not, Bool.not_eq_true', Bool.not_eq_false', Bool.not_true, Bool.not_false, Bool.or_eq_true, Bool.and_eq_true, Bool.or_eq_false_iff, Bool.and_eq_false_iff, beq_iff_eq, beq_eq_false_iff_ne, ne_eq] at h; first | (exfalso; omega) | skip) | skip
           | (first | refine drM (.quiet 0 (.quiet 1 (.quiet 2 (.quiet 3 (.quiet 4 (.quiet 5 (.quiet 6 (.quiet 7 (.quiet 8 (.quiet 9 (.quiet 10 (.quiet 11 (.quiet 12 (.quiet 13 (.quiet 14 (.quiet 15 (.last 16 true (.last 17 true (.last 18 true (.last 19 true (.last 20 false (.last 21 false (.last 22 false .done))))))))))))))))))))))) (SubL.of (List.Sublist.cons _ (List.Sublist.refl _))) ?_ | refine drC (.quiet 0 (.quiet 1 (.quiet 2 (.quiet 3 (.quiet 4 (.quiet 5 (.quiet 6 (.quiet 7 (.quiet 8 (.quiet 9 (.quiet 10 (.quiet 11 (.quiet 12 (.quiet 13 (.quiet 14 (.quiet 15 (.quiet 16 (.quiet 17 (.quiet 18 (.quiet 19 (.quiet 20 (.quiet 21 (.quiet 22 (.last 23 false .done)))))))))))))))))))))))) (SubL.refl _) ?_)
           | refine AltP.mk ?_ ?_
           | refine kpM ?_
           | refine SeqP.go ?_
           | refine cdM ?_
           | exact IsV.mk
           | apply GuardP.mk
           | (refine callX takeM en_Select (fun w hw => Select_w b.Id (infosV ps) _ hil A1 c1 w (hw.arrSl hasM) hlen hri) ?_)
           | ((first | apply callPure' en_infoRight | apply callQuiet' en_infoRight); · exact fun w _ => infoRight_w b w)
           | ((first | apply callPure' en_ConP | apply callQuiet' en_ConP); · exact fun w hw => ConP_w ps _ rfl A c w (hs.later hw) hlen)
           | (refine callX takeM en_PClone (fun w hw => PClone_w ps A c w (hs.later hw) hlen) ?_)
           | (first | refine eqlW eqS24 rfl rfl rfl fitM fitM ?_ | refine neqW eqS24 rfl rfl rfl fitM fitM ?_ | refine eqlW eqS26 rfl rfl rfl fitM fitM ?_ | refine neqW eqS26 rfl rfl rfl fitM fitM ?_)
           | refine Or.inl ⟨_, _, hasM, ?_⟩
           | refine Or.inl ⟨_, _, _, holeM, rfl, rfl, ?_⟩
           | refine lA ?_
           | refine lA0 ?_
           | refine lA1 ?_
           | refine lO ?_
           | refine lO0 ?_
           | refine lO1 ?_
           | refine lR ?_
           | refine lG ?_
           | refine lG0 ?_
           | refine tA ?_
           | refine tA0 ?_
           | refine tA1 ?_
           | refine BytW.ofBlk hasM rfl rfl ?_
           | refine AppW.noneB hasM leM rfl rfl rfl leM leM ?_
           | refine AppW.rowB hasM leM rfl rfl holeM leM leM ?_
           | refine AppW.blkB hasM leM rfl rfl holeM rfl rfl leM leM ?_
           | refine AppW.rowS hasM leM rfl rfl holeM (by omega) leM ?_
           | refine AppW.arrS hasM leM rfl rfl rfl holeM (by first | omega | (simp; omega)) leM ?_
           | refine ⟨sideM, ?_⟩
           | fail)
      all_goals (try conv => whnf)
      all_goals first
        | exact EndX.mk _ (by assumption) rfl entM
        | (exfalso; grind)
    · have hri : rightI (infosV ps) = false := by simpa using hri
      repeat' first
        | (conv => whnf
           first
           | intro _
           | (first | refine selSplit (fun h => ?_) (fun h => ?_) | refine condSplit (fun h => ?_) (fun h => ?_)) <;> first | exact (clash (by assumption) h).elim | exact (clash h (by assumption)).elim | (simp only [decide_eq_true_eq, decide_eq_false_iff_not, Bool.not_eq_true', Bool.not_eq_false', Bool.not_true, Bool.not_false, Bool.or_eq_true, Bool.and_eq_true, Bool.or_eq_false_iff, Bool.and_eq_false_iff, beq_iff_eq, beq_eq_false_iff_ne, ne_eq] at h; first | (exfalso; omega) | skip) | skip
           | (first | refine drM (.quiet 0 (.quiet 1 (.quiet 2 (.quiet 3 (.quiet 4 (.quiet 5 (.quiet 6 (.quiet 7 (.quiet 8 (.quiet 9 (.quiet 10 (.quiet 11 (.quiet 12 (.quiet 13 (.quiet 14 (.quiet 15 (.last 16 true (.last 17 true (.last 18 true (.last 19 true (.last 20 false (.last 21 false (.last 22 false .done))))))))))))))))))))))) (SubL.of (List.Sublist.cons _ (List.Sublist.refl _))) ?_ | refine drC (.quiet 0 (.quiet 1 (.quiet 2 (.quiet 3 (.quiet 4 (.quiet 5 (.quiet 6 (.quiet 7 (.quiet 8 (.quiet 9 (.quiet 10 (.quiet 11 (.quiet 12 (.quiet 13 (.quiet 14 (.quiet 15 (.quiet 16 (.quiet 17 (.quiet 18 (.quiet 19 (.quiet 20 (.quiet 21 (.quiet 22 (.last 23 false .done)))))))))))))))))))))))) (SubL.refl _) ?_)
           | refine AltP.mk ?_ ?_
           | refine kpM ?_
           | refine SeqP.go ?_
           | refine cdM ?_
           | exact IsV.mk
           | apply GuardP.mk
           | ((first | apply callPure' en_Select | apply callQuiet' en_Select); · exact fun w hw => Select_no b.Id (infosV ps) _ hil A1 c1 w (hw.arrSl hasM) hlen hri)
           | ((first | apply callPure' en_infoRight | apply callQuiet' en_infoRight); · exact fun w _ => infoRight_w b w)
           | ((first | apply callPure' en_ConP | apply callQuiet' en_ConP); · exact fun w hw => ConP_w ps _ rfl A c w (hs.later hw) hlen)
           | (refine callX takeM en_PClone (fun w hw => PClone_w ps A c w (hs.later hw) hlen) ?_)
           | (first | refine eqlW eqS24 rfl rfl rfl fitM fitM ?_ | refine neqW eqS24 rfl rfl rfl fitM fitM ?_ | refine eqlW eqS26 rfl rfl rfl fitM fitM ?_ | refine neqW eqS26 rfl rfl rfl fitM fitM ?_)
           | refine Or.inl ⟨_, _, hasM, ?_⟩
           | refine Or.inl ⟨_, _, _, holeM, rfl, rfl, ?_⟩
           | refine lA ?_
           | refine lA0 ?_
           | refine lA1 ?_
           | refine lO ?_
           | refine lO0 ?_
           | refine lO1 ?_
           | refine lR ?_
           | refine lG ?_
           | refine lG0 ?_
           | refine tA ?_
           | refine tA0 ?_
           | refine tA1 ?_
           | refine BytW.ofBlk hasM rfl rfl ?_
           | refine AppW.noneB hasM leM rfl rfl rfl leM leM ?_
           | refine AppW.rowB hasM leM rfl rfl holeM leM leM ?_
           | refine AppW.blkB hasM leM rfl rfl holeM rfl rfl leM leM ?_
           | refine AppW.rowS hasM leM rfl rfl holeM (by omega) leM ?_
           | refine AppW.arrS hasM leM rfl rfl rfl holeM (by first | omega | (simp; omega)) leM ?_
           | refine ⟨sideM, ?_⟩
           | fail)
      all_goals (try conv => whnf)
      all_goals first
        | exact EndX.mk _ (by assumption) rfl entM
        | (exfalso; grind)
theorem Choose_yes (b : BridgeV) (ps : List PortV) (n : Nat) (hn : ps.length = n) (A : Option Addr) (c : Nat) (w : World) (hs : SlAt w A 61 (ps.map PortV.enc)) (hlen : n ≤ 1000) (hyes : chooseOk b ps = true) (hpos : 0 < n) :
    FnX Try.prog 38 [.agg ⟨b.enc⟩, .slice A n c] [] (fun s : Nat × Nat => n ≤ s.2) (fun s => .tuple ⟨[.slice (some ⟨s.1, 0, none⟩) n s.2, .bool true]⟩) (fun s => [.arr (.slice (some ⟨s.1, 0, none⟩) n s.2) 28 61 ((ps.mapIdx (choseF b ps (bestV b.Id (infosV ps)))).map PortV.enc)]) w := by
  subst hn
  refine funcR_x tyOk wide Try.func38 ok_Choose (Nat.le_of_ble_eq_true rfl) (St.start0 w) ?_
  repeat' first
    | (conv => whnf
       first
       | intro _
       | (first | refine selSplit (fun h => ?_) (fun h => ?_) | refine condSplit (fun h => ?_) (fun h => ?_)) <;> first | exact (clash (by assumption) h).elim | exact (clash h (by assumption)).elim | (simp only [decide_eq_true_eq, decide_eq_false_iff_not, Bool.not_eq_true', Bool.not_eq_false', Bool.not_true, Bool.not_false, Bool.or_eq_true, Bool.and_eq_true, Bool.or_eq_false_iff, Bool.and_eq_false_iff, beq_iff_eq, beq_eq_false_iff_ne, ne_eq] at h; first | (exfalso; omega) | skip) | skip
       | (first | refine drM (.quiet 0 (.quiet 1 (.quiet 2 (.quiet 3 (.quiet 4 (.quiet 5 (.quiet 6 (.quiet 7 (.quiet 8 (.quiet 9 (.quiet 10 (.quiet 11 (.quiet 12 (.quiet 13 (.quiet 14 (.quiet 15 (.last 16 true (.last 17 true (.last 18 true (.last 19 true (.last 20 false (.last 21 false (.last 22 false .done))))))))))))))))))))))) (SubL.of (List.Sublist.cons _ (List.Sublist.refl _))) ?_ | refine drC (.quiet 0 (.quiet 1 (.quiet 2 (.quiet 3 (.quiet 4 (.quiet 5 (.quiet 6 (.quiet 7 (.quiet 8 (.quiet 9 (.quiet 10 (.quiet 11 (.quiet 12 (.quiet 13 (.quiet 14 (.quiet 15 (.quiet 16 (.quiet 17 (.quiet 18 (.quiet 19 (.quiet 20 (.quiet 21 (.quiet 22 (.last 23 false .done)))))))))))))))))))))))) (SubL.refl _) ?_)
       | refine AltP.mk ?_ ?_
       | refine kpM ?_
       | refine SeqP.go ?_
       | refine cdM ?_
       | exact IsV.mk
       | apply GuardP.mk
       | (first | refine eqlW eqS24 rfl rfl rfl fitM fitM ?_ | refine neqW eqS24 rfl rfl rfl fitM fitM ?_ | refine eqlW eqS26 rfl rfl rfl fitM fitM ?_ | refine neqW eqS26 rfl rfl rfl fitM fitM ?_)
       | refine Or.inl ⟨_, _, hasM, ?_⟩
       | refine Or.inl ⟨_, _, _, holeM, rfl, rfl, ?_⟩
       | refine lA ?_
       | refine lA0 ?_
       | refine lA1 ?_
       | refine lO ?_
       | refine lO0 ?_
       | refine lO1 ?_
       | refine lR ?_
       | refine lG ?_
       | refine lG0 ?_
       | refine tA ?_
       | refine tA0 ?_
       | refine tA1 ?_
       | refine BytW.ofBlk hasM rfl rfl ?_
       | refine AppW.noneB hasM leM rfl rfl rfl leM leM ?_
       | refine AppW.rowB hasM leM rfl rfl holeM leM leM ?_
       | refine AppW.blkB hasM leM rfl rfl holeM rfl rfl leM leM ?_
       | refine AppW.rowS hasM leM rfl rfl holeM (by omega) leM ?_
       | refine AppW.arrS hasM leM rfl rfl rfl holeM (by first | omega | (simp; omega)) leM ?_
       | refine ⟨sideM, ?_⟩
       | fail)
  all_goals (try conv => whnf)
  rename_i b2
  refine .mk (Nat × Option Addr × Nat) (fun ⟨k, A1, c1⟩ S H => (k ≤ ps.length ∧ IsRow (.slice A1 k c1) k) ∧ S = [(17, .int .i64 k), (16, .int .i64 ps.length), (15, .slice A ps.length c), (6, .slice A1 k c1), (1, .slice A ps.length c), (2, .pointer (some ⟨b2, 0, none⟩))] ∧ H = [.arr (.slice A1 k c1) 100 7 (((ps.take k).map knownV).map InfoV.enc), .blk b2 b.enc 33]) (fun s => ps.length - s.1) (0, none, 0) _ _ ⟨⟨by omega, .inl ⟨rfl, rfl⟩⟩, rfl, rfl⟩ subM ((nilArr (E := 100) (sz := 7)).trans entM) ?_
  rintro ⟨k, A1, c1⟩ S1 H1 ⟨⟨hk, hr⟩, rfl, rfl⟩
  by_cases hk2 : k < ps.length
  · obtain ⟨b', o, e, _⟩ := hs.at_ (by simp; omega)
    subst e
    have o1 := hs.old (X := []) (by simp; omega) (by simp)
    obtain ⟨x, hx⟩ : ∃ x, ps[k] = x := ⟨_, rfl⟩
    have g1 : (ps.map PortV.enc)[k]? = some x.enc := by rw [← hx]; exact mapGet hk2
    have hlk : (((ps.take k).map knownV).map InfoV.enc).length = k := by rw [List.length_map, map_take_len (by omega)]
    repeat' first
      | (conv => whnf
         first
         | intro _
         | (first | refine selSplit (fun h => ?_) (fun h => ?_) | refine condSplit (fun h => ?_) (fun h => ?_)) <;> first | exact (clash (by assumption) h).elim | exact (clash h (by assumption)).elim | (simp only [decide_eq_true_eq, decide_eq_false_iff_not, Bool.not_eq_true', Bool.not_eq_false', Bool.not_true, Bool.not_false, Bool.or_eq_true, Bool.and_eq_true, Bool.or_eq_false_iff, Bool.and_eq_false_iff, beq_iff_eq, beq_eq_false_iff_ne, ne_eq] at h; first | (exfalso; omega) | skip) | skip
         | (first | refine drM (.quiet 0 (.quiet 1 (.quiet 2 (.quiet 3 (.quiet 4 (.quiet 5 (.quiet 6 (.quiet 7 (.quiet 8 (.quiet 9 (.quiet 10 (.quiet 11 (.quiet 12 (.quiet 13 (.quiet 14 (.quiet 15 (.last 16 true (.last 17 true (.last 18 true (.last 19 true (.last 20 false (.last 21 false (.last 22 false .done))))))))))))))))))))))) (SubL.of (List.Sublist.cons _ (List.Sublist.refl _))) ?_ | refine drC (.quiet 0 (.quiet 1 (.quiet 2 (.quiet 3 (.quiet 4 (.quiet 5 (.quiet 6 (.quiet 7 (.quiet 8 (.quiet 9 (.quiet 10 (.quiet 11 (.quiet 12 (.quiet 13 (.quiet 14 (.quiet 15 (.quiet 16 (.quiet 17 (.quiet 18 (.quiet 19 (.quiet 20 (.quiet 21 (.quiet 22 (.last 23 false .done)))))))))))))))))))))))) (SubL.refl _) ?_)
         | refine AltP.mk ?_ ?_
         | refine kpM ?_
         | refine SeqP.go ?_
         | refine cdM ?_
         | exact IsV.mk
         | apply GuardP.mk
         | ((first | apply callPure' en_known | apply callQuiet' en_known); · exact fun w _ => known_w x w)
         | (refine AppW.arrK hasM (Nat.le_of_ble_eq_true rfl) rfl rfl rfl holeM hlk (by omega) (Nat.le_of_ble_eq_true rfl) ?_)
         | (first | refine eqlW eqS24 rfl rfl rfl fitM fitM ?_ | refine neqW eqS24 rfl rfl rfl fitM fitM ?_ | refine eqlW eqS26 rfl rfl rfl fitM fitM ?_ | refine neqW eqS26 rfl rfl rfl fitM fitM ?_)
         | refine Or.inl ⟨_, _, hasM, ?_⟩
         | refine Or.inl ⟨_, _, _, holeM, rfl, rfl, ?_⟩
         | refine lA ?_
         | refine lA0 ?_
         | refine lA1 ?_
         | refine lO ?_
         | refine lO0 ?_
         | refine lO1 ?_
         | refine lR ?_
         | refine lG ?_
         | refine lG0 ?_
         | refine tA ?_
         | refine tA0 ?_
         | refine tA1 ?_
         | refine BytW.ofBlk hasM rfl rfl ?_
         | refine AppW.noneB hasM leM rfl rfl rfl leM leM ?_
         | refine AppW.rowB hasM leM rfl rfl holeM leM leM ?_
         | refine AppW.blkB hasM leM rfl rfl holeM rfl rfl leM leM ?_
         | refine AppW.rowS hasM leM rfl rfl holeM (by omega) leM ?_
         | refine AppW.arrS hasM leM rfl rfl rfl holeM (by first | omega | (simp; omega)) leM ?_
         | refine ⟨sideM, ?_⟩
         | fail)
    all_goals (try conv => whnf)
    all_goals first
      | (exfalso; omega)
      | exact .mk (k + 1, _, _) _ _ (by show _ - (k + 1) < _ - k; omega) ⟨⟨hk2, by assumption⟩, rfl, rfl⟩ subM (by rw [map_take_succ hk2, hx, List.map_append]; exact entM)
  · obtain rfl : k = ps.length := by omega
    have e1 : (ps.take ps.length).map knownV = infosV ps := by rw [List.take_length]; rfl
    rw [e1]
    have hil : (infosV ps).length = ps.length := by unfold infosV; rw [List.length_map]
    obtain ⟨gi, rfl, _⟩ := hr.at_ hpos
    unfold chooseOk at hyes
    simp only [Bool.and_eq_true] at hyes
    obtain ⟨⟨hri, hrb⟩, hre⟩ := hyes
    obtain ⟨bl, o, rfl, _⟩ := hs.at_ (by simp; omega)
    have o1 := hs.old (X := []) (by simp; omega) (by simp)
    have hS := fun w hw => Select_ne b.Id (infosV ps) _ hil (some ⟨gi, 0, none⟩) c1 w hw hlen hri hpos
    unfold rolesV offersV at hS
    have hat : (bestV b.Id (infosV ps)).2 < (ps.length : Int) := by
      have := (bestK_at b.Id (infosV ps) (infosV ps).length).2
      rw [hil] at this
      unfold bestV; rw [hil]; exact this
    generalize bestV b.Id (infosV ps) = r at *
    have hra : r.2.toNat < ps.length := by omega
    obtain ⟨y, hy⟩ : ∃ y, ps[r.2.toNat] = y := ⟨_, rfl⟩
    have gy : (ps.map PortV.enc)[r.2.toNat]? = some y.enc := by rw [← hy]; exact mapGet hra
    have hpa : portAt ps r.2 = y := by unfold portAt; rw [List.getElem?_eq_getElem hra, hy]; rfl
    repeat' first
      | (conv => whnf
         first
         | intro _
         | (first | refine selSplit (fun h => ?_) (fun h => ?_) | refine condSplit (fun h => ?_) (fun h => ?_)) <;> first | exact (clash (by assumption) h).elim | exact (clash h (by assumption)).elim | (simp only [decide_eq_true_eq, decide_eq_false_iff_not, Bool.not_eq_true', Bool.not_eq_false', Bool.not_true, Bool.not_false, Bool.or_eq_true, Bool.and_eq_true, Bool.or_eq_false_iff, Bool.and_eq_false_iff, beq_iff_eq, beq_eq_false_iff_ne, ne_eq] at h; first | (exfalso; omega) | skip) | skip
         | (first | refine drM (.quiet 0 (.quiet 1 (.quiet 2 (.quiet 3 (.quiet 4 (.quiet 5 (.quiet 6 (.quiet 7 (.quiet 8 (.quiet 9 (.quiet 10 (.quiet 11 (.quiet 12 (.quiet 13 (.quiet 14 (.quiet 15 (.last 16 true (.last 17 true (.last 18 true (.last 19 true (.last 20 false (.last 21 false (.last 22 false .done))))))))))))))))))))))) (SubL.of (List.Sublist.cons _ (List.Sublist.refl _))) ?_ | refine drC (.quiet 0 (.quiet 1 (.quiet 2 (.quiet 3 (.quiet 4 (.quiet 5 (.quiet 6 (.quiet 7 (.quiet 8 (.quiet 9 (.quiet 10 (.quiet 11 (.quiet 12 (.quiet 13 (.quiet 14 (.quiet 15 (.quiet 16 (.quiet 17 (.quiet 18 (.quiet 19 (.quiet 20 (.quiet 21 (.quiet 22 (.last 23 false .done)))))))))))))))))))))))) (SubL.refl _) ?_)
         | refine AltP.mk ?_ ?_
         | refine kpM ?_
         | (refine SeqP.cut (k := 14) (Nat × Nat × (Nat × Nat) × (Nat × Nat)) (fun ⟨b9, b11, ⟨g1, q1⟩, ⟨g2, q2⟩⟩ S H => (ps.length ≤ q1 ∧ ps.length ≤ q2) ∧ S = [(11, .pointer (some ⟨b11, 0, none⟩)), (9, .pointer (some ⟨b9, 0, none⟩)), (6, .slice (some ⟨gi, 0, none⟩) ps.length c1), (1, .slice (some ⟨bl, o, none⟩) ps.length c)] ∧ H = [.blk b11 (givenV b ps r).enc 26, .blk b9 (encV r.1 ++ [.int .i64 r.2, .slice (some ⟨g1, 0, none⟩) ps.length q1, .slice (some ⟨g2, 0, none⟩) ps.length q2]) 104, .row (.slice (some ⟨g1, 0, none⟩) ps.length q1) 3 1 ps.length (((infosV ps).mapIdx (roleI b.Id r)).map (Value.int .i64)), .arr (.slice (some ⟨g2, 0, none⟩) ps.length q2) 24 4 (((infosV ps).map (offV r.1 b.Id)).map encV), .arr (.slice (some ⟨gi, 0, none⟩) ps.length c1) 100 7 ((infosV ps).map InfoV.enc)]) ?_ ?_)
         | refine SeqP.go ?_
         | refine cdM ?_
         | exact IsV.mk
         | apply GuardP.mk
         | (refine callX takeM en_Select (fun w hw => hS w (hw.arrSl hasM)) ?_)
         | ((first | apply callPure' en_infoRight | apply callQuiet' en_infoRight); · exact fun w _ => infoRight_w b w)
         | ((first | apply callPure' en_ConP | apply callQuiet' en_ConP); · exact fun w hw => ConP_w ps _ rfl _ c w (hs.later hw) hlen)
         | (refine callX takeM en_PClone (fun w hw => PClone_ne ps _ c w (hs.later hw) hlen hpos) ?_)
         | (first | refine eqlW eqS24 rfl rfl rfl fitM fitM ?_ | refine neqW eqS24 rfl rfl rfl fitM fitM ?_ | refine eqlW eqS26 rfl rfl rfl fitM fitM ?_ | refine neqW eqS26 rfl rfl rfl fitM fitM ?_)
         | refine Or.inl ⟨_, _, hasM, ?_⟩
         | refine Or.inl ⟨_, _, _, holeM, rfl, rfl, ?_⟩
         | refine lA ?_
         | refine lA0 ?_
         | refine lA1 ?_
         | refine lO ?_
         | refine lO0 ?_
         | refine lO1 ?_
         | refine lR ?_
         | refine lG ?_
         | refine lG0 ?_
         | refine tA ?_
         | refine tA0 ?_
         | refine tA1 ?_
         | refine BytW.ofBlk hasM rfl rfl ?_
         | refine AppW.noneB hasM leM rfl rfl rfl leM leM ?_
         | refine AppW.rowB hasM leM rfl rfl holeM leM leM ?_
         | refine AppW.blkB hasM leM rfl rfl holeM rfl rfl leM leM ?_
         | refine AppW.rowS hasM leM rfl rfl holeM (by omega) leM ?_
         | refine AppW.arrS hasM leM rfl rfl rfl holeM (by first | omega | (simp; omega)) leM ?_
         | refine ⟨sideM, ?_⟩
         | fail)
    all_goals (try conv => whnf)
    · exfalso; simp [hrb, hre] at h
    · have eg : givenV b ps r = ⟨IntKind.i64.wrap (y.Times_Age + 1), y.Times_Max, y.Times_Hello, y.Times_Delay⟩ := by unfold givenV; rw [if_pos h, hpa]
      rw [eg]
      exact .mk (_, _, (_, _), (_, _)) _ _ ⟨by assumption, rfl, rfl⟩ subM entM
    · have eg : givenV b ps r = timesB b := by unfold givenV; rw [if_neg h]
      rw [eg]
      exact .mk (_, _, (_, _), (_, _)) _ _ ⟨by assumption, rfl, rfl⟩ subM entM
    · rename_i s S1 H1 hI
      obtain ⟨b9, b11, ⟨g1, q1⟩, ⟨g2, q2⟩⟩ := s
      obtain ⟨⟨hq1, hq2⟩, rfl, rfl⟩ := hI
      repeat' first
        | (conv => whnf
           first
           | intro _
           | (first | refine selSplit (fun h => ?_) (fun h => ?_) | refine condSplit (fun h => ?_) (fun h => ?_)) <;> first | exact (clash (by assumption) h).elim | exact (clash h (by assumption)).elim | (simp only [decide_eq_true_eq, decide_eq_false_iff_not, Bool.not_eq_true', Bool.not_eq_false', Bool.not_true, Bool.not_false, Bool.or_eq_true, Bool.and_eq_true, Bool.or_eq_false_iff, Bool.and_eq_false_iff, beq_iff_eq, beq_eq_false_iff_ne, ne_eq] at h; first | (exfalso; omega) | skip) | skip
           | (first | refine drM (.quiet 0 (.quiet 1 (.quiet 2 (.quiet 3 (.quiet 4 (.quiet 5 (.quiet 6 (.quiet 7 (.quiet 8 (.quiet 9 (.quiet 10 (.quiet 11 (.quiet 12 (.quiet 13 (.quiet 14 (.quiet 15 (.last 16 true (.last 17 true (.last 18 true (.last 19 true (.last 20 false (.last 21 false (.last 22 false .done))))))))))))))))))))))) (SubL.of (List.Sublist.cons _ (List.Sublist.refl _))) ?_ | refine drC (.quiet 0 (.quiet 1 (.quiet 2 (.quiet 3 (.quiet 4 (.quiet 5 (.quiet 6 (.quiet 7 (.quiet 8 (.quiet 9 (.quiet 10 (.quiet 11 (.quiet 12 (.quiet 13 (.quiet 14 (.quiet 15 (.quiet 16 (.quiet 17 (.quiet 18 (.quiet 19 (.quiet 20 (.quiet 21 (.quiet 22 (.last 23 false .done)))))))))))))))))))))))) (SubL.refl _) ?_)
           | refine AltP.mk ?_ ?_
           | refine kpM ?_
           | refine SeqP.go ?_
           | refine cdM ?_
           | exact IsV.mk
           | apply GuardP.mk
           | (refine callX takeM en_PClone (fun w hw => PClone_ne ps _ c w (hs.later hw) hlen hpos) ?_)
           | (first | refine eqlW eqS24 rfl rfl rfl fitM fitM ?_ | refine neqW eqS24 rfl rfl rfl fitM fitM ?_ | refine eqlW eqS26 rfl rfl rfl fitM fitM ?_ | refine neqW eqS26 rfl rfl rfl fitM fitM ?_)
           | refine Or.inl ⟨_, _, hasM, ?_⟩
           | refine Or.inl ⟨_, _, _, holeM, rfl, rfl, ?_⟩
           | refine lA ?_
           | refine lA0 ?_
           | refine lA1 ?_
           | refine lO ?_
           | refine lO0 ?_
           | refine lO1 ?_
           | refine lR ?_
           | refine lG ?_
           | refine lG0 ?_
           | refine tA ?_
           | refine tA0 ?_
           | refine tA1 ?_
           | refine BytW.ofBlk hasM rfl rfl ?_
           | refine AppW.noneB hasM leM rfl rfl rfl leM leM ?_
           | refine AppW.rowB hasM leM rfl rfl holeM leM leM ?_
           | refine AppW.blkB hasM leM rfl rfl holeM rfl rfl leM leM ?_
           | refine AppW.rowS hasM leM rfl rfl holeM (by omega) leM ?_
           | refine AppW.arrS hasM leM rfl rfl rfl holeM (by first | omega | (simp; omega)) leM ?_
           | refine ⟨sideM, ?_⟩
           | fail)
      all_goals (try conv => whnf)
      rename_i so hso
      obtain ⟨go, qo⟩ := so
      refine .mk Nat (fun k S H => k ≤ ps.length ∧ S = [(67, .int .i64 k), (66, .int .i64 ps.length), (12, .slice (some ⟨go, 0, none⟩) ps.length qo), (11, .pointer (some ⟨b11, 0, none⟩)), (9, .pointer (some ⟨b9, 0, none⟩)), (6, .slice (some ⟨gi, 0, none⟩) ps.length c1)] ∧ H = [.arr (.slice (some ⟨go, 0, none⟩) ps.length qo) 28 61 ((mapTo (choseF b ps r) ps k).map PortV.enc), .blk b11 (givenV b ps r).enc 26, .blk b9 (encV r.1 ++ [.int .i64 r.2, .slice (some ⟨g1, 0, none⟩) ps.length q1, .slice (some ⟨g2, 0, none⟩) ps.length q2]) 104, .row (.slice (some ⟨g1, 0, none⟩) ps.length q1) 3 1 ps.length (((infosV ps).mapIdx (roleI b.Id r)).map (Value.int .i64)), .arr (.slice (some ⟨g2, 0, none⟩) ps.length q2) 24 4 (((infosV ps).map (offV r.1 b.Id)).map encV), .arr (.slice (some ⟨gi, 0, none⟩) ps.length c1) 100 7 ((infosV ps).map InfoV.enc)]) (fun k => ps.length - k) 0 _ _ ⟨by omega, rfl, rfl⟩ subM (by rw [mapTo_zero]; exact entM) ?_
      rintro k S1 H1 ⟨hk, rfl, rfl⟩
      by_cases hk2 : k < ps.length
      · obtain ⟨x, hx⟩ : ∃ x, ps[k] = x := ⟨_, rfl⟩
        have hix : (infosV ps)[k]? = some (knownV x) := by unfold infosV; rw [List.getElem?_map, List.getElem?_eq_getElem hk2, hx]; rfl
        have g0 : ((mapTo (choseF b ps r) ps k).map PortV.enc)[k]? = some x.enc := by rw [← hx]; exact mapTo_enc hk2
        have g3 : (((infosV ps).mapIdx (roleI b.Id r)).map (Value.int .i64))[k]? = some (.int .i64 (roleI b.Id r k (knownV x))) := by rw [List.getElem?_map, List.getElem?_mapIdx, hix]; rfl
        have g4 : (((infosV ps).map (offV r.1 b.Id)).map encV)[k]? = some (encV (offV r.1 b.Id (knownV x))) := by rw [List.getElem?_map, List.getElem?_map, hix]; rfl
        have g5 : ((infosV ps).map InfoV.enc)[k]? = some (knownV x).enc := by rw [List.getElem?_map, hix]; rfl
        have hset := mapTo_set (enc := PortV.enc) (f := choseF b ps r) hk2
        have hcf : choseF b ps r k x = choseV x (offV r.1 b.Id (knownV x)) (givenV b ps r) (roleI b.Id r k (knownV x)) := rfl
        rw [hx, hcf] at hset
        generalize givenV b ps r = t at *
        generalize offV r.1 b.Id (knownV x) = o4 at *
        generalize roleI b.Id r k (knownV x) = rl at *
        repeat' first
          | (conv => whnf
             first
             | intro _
             | (first | refine selSplit (fun h => ?_) (fun h => ?_) | refine condSplit (fun h => ?_) (fun h => ?_)) <;> first | exact (clash (by assumption) h).elim | exact (clash h (by assumption)).elim | (simp only [decide_eq_true_eq, decide_eq_false_iff_not, Bool.not_eq_true', Bool.not_eq_false', Bool.not_true, Bool.not_false, Bool.or_eq_true, Bool.and_eq_true, Bool.or_eq_false_iff, Bool.and_eq_false_iff, beq_iff_eq, beq_eq_false_iff_ne, ne_eq] at h; first | (exfalso; omega) | skip) | skip
             | (first | refine drM (.quiet 0 (.quiet 1 (.quiet 2 (.quiet 3 (.quiet 4 (.quiet 5 (.quiet 6 (.quiet 7 (.quiet 8 (.quiet 9 (.quiet 10 (.quiet 11 (.quiet 12 (.quiet 13 (.quiet 14 (.quiet 15 (.last 16 true (.last 17 true (.last 18 true (.last 19 true (.last 20 false (.last 21 false (.last 22 false .done))))))))))))))))))))))) (SubL.of (List.Sublist.cons _ (List.Sublist.refl _))) ?_ | refine drC (.quiet 0 (.quiet 1 (.quiet 2 (.quiet 3 (.quiet 4 (.quiet 5 (.quiet 6 (.quiet 7 (.quiet 8 (.quiet 9 (.quiet 10 (.quiet 11 (.quiet 12 (.quiet 13 (.quiet 14 (.quiet 15 (.quiet 16 (.quiet 17 (.quiet 18 (.quiet 19 (.quiet 20 (.quiet 21 (.quiet 22 (.last 23 false .done)))))))))))))))))))))))) (SubL.refl _) ?_)
             | refine AltP.mk ?_ ?_
             | refine kpM ?_
             | refine SeqP.go ?_
             | refine cdM ?_
             | exact IsV.mk
             | apply GuardP.mk
             | (first | refine eqlW eqS24 rfl rfl rfl fitM fitM ?_ | refine neqW eqS24 rfl rfl rfl fitM fitM ?_ | refine eqlW eqS26 rfl rfl rfl fitM fitM ?_ | refine neqW eqS26 rfl rfl rfl fitM fitM ?_)
             | refine Or.inl ⟨_, _, hasM, ?_⟩
             | refine Or.inl ⟨_, _, _, holeM, rfl, rfl, ?_⟩
             | refine lA ?_
             | refine lA0 ?_
             | refine lA1 ?_
             | refine lO ?_
             | refine lO0 ?_
             | refine lO1 ?_
             | refine lR ?_
             | refine lG ?_
             | refine lG0 ?_
             | refine tA ?_
             | refine tA0 ?_
             | refine tA1 ?_
             | refine BytW.ofBlk hasM rfl rfl ?_
             | refine AppW.noneB hasM leM rfl rfl rfl leM leM ?_
             | refine AppW.rowB hasM leM rfl rfl holeM leM leM ?_
             | refine AppW.blkB hasM leM rfl rfl holeM rfl rfl leM leM ?_
             | refine AppW.rowS hasM leM rfl rfl holeM (by omega) leM ?_
             | refine AppW.arrS hasM leM rfl rfl rfl holeM (by first | omega | (simp; omega)) leM ?_
             | refine ⟨sideM, ?_⟩
             | fail)
        all_goals (try conv => whnf)
        all_goals first
          | (exfalso; omega)
          | (have e : updV x o4 t rl = false := by (unfold updV; (repeat (first | rw [if_pos (by first | assumption | grind | decide)] | rw [if_neg (by first | assumption | grind | decide)])))
             rw [show choseV x o4 t rl = choseB x o4 t rl (updV x o4 t rl) from rfl, e] at hset
             exact .mk (k + 1) _ _ (by omega) ⟨hk2, rfl, rfl⟩ subM (by rw [← hset]; simp only [List.set_set]; exact entM))
          | (have e : updV x o4 t rl = true := by (unfold updV; (repeat (first | rw [if_pos (by first | assumption | grind | decide)] | rw [if_neg (by first | assumption | grind | decide)])))
             rw [show choseV x o4 t rl = choseB x o4 t rl (updV x o4 t rl) from rfl, e] at hset
             exact .mk (k + 1) _ _ (by omega) ⟨hk2, rfl, rfl⟩ subM (by rw [← hset]; simp only [List.set_set]; exact entM))
          | (have e : updV x o4 t rl = ((!allEq (encV x.v4) (encV o4)) || !allEq x.times.enc t.enc) := by (unfold updV; (repeat (first | rw [if_pos (by first | assumption | grind | decide)] | rw [if_neg (by first | assumption | grind | decide)])))
             rw [show choseV x o4 t rl = choseB x o4 t rl (updV x o4 t rl) from rfl, e] at hset
             exact .mk (k + 1) _ _ (by omega) ⟨hk2, rfl, rfl⟩ subM (by rw [← hset]; simp only [List.set_set]; exact entM))
          | (have e : updV x o4 t rl = (decide (rl = 2)) := by (unfold updV; (repeat (first | rw [if_pos (by first | assumption | grind | decide)] | rw [if_neg (by first | assumption | grind | decide)])))
             rw [show choseV x o4 t rl = choseB x o4 t rl (updV x o4 t rl) from rfl, e] at hset
             exact .mk (k + 1) _ _ (by omega) ⟨hk2, rfl, rfl⟩ subM (by rw [← hset]; simp only [List.set_set]; exact entM))
          | (have e : updV x o4 t rl = x.Update := by (unfold updV; (repeat (first | rw [if_pos (by first | assumption | grind | decide)] | rw [if_neg (by first | assumption | grind | decide)])))
             rw [show choseV x o4 t rl = choseB x o4 t rl (updV x o4 t rl) from rfl, e] at hset
             exact .mk (k + 1) _ _ (by omega) ⟨hk2, rfl, rfl⟩ subM (by rw [← hset]; simp only [List.set_set]; exact entM))
      · skip
        repeat' first
          | (conv => whnf
             first
             | intro _
             | (first | refine selSplit (fun h => ?_) (fun h => ?_) | refine condSplit (fun h => ?_) (fun h => ?_)) <;> first | exact (clash (by assumption) h).elim | exact (clash h (by assumption)).elim | (simp only [decide_eq_true_eq, decide_eq_false_iff_not, Bool.not_eq_true', Bool.not_eq_false', Bool.not_true, Bool.not_false, Bool.or_eq_true, Bool.and_eq_true, Bool.or_eq_false_iff, Bool.and_eq_false_iff, beq_iff_eq, beq_eq_false_iff_ne, ne_eq] at h; first | (exfalso; omega) | skip) | skip
             | (first | refine drM (.quiet 0 (.quiet 1 (.quiet 2 (.quiet 3 (.quiet 4 (.quiet 5 (.quiet 6 (.quiet 7 (.quiet 8 (.quiet 9 (.quiet 10 (.quiet 11 (.quiet 12 (.quiet 13 (.quiet 14 (.quiet 15 (.last 16 true (.last 17 true (.last 18 true (.last 19 true (.last 20 false (.last 21 false (.last 22 false .done))))))))))))))))))))))) (SubL.of (List.Sublist.cons _ (List.Sublist.refl _))) ?_ | refine drC (.quiet 0 (.quiet 1 (.quiet 2 (.quiet 3 (.quiet 4 (.quiet 5 (.quiet 6 (.quiet 7 (.quiet 8 (.quiet 9 (.quiet 10 (.quiet 11 (.quiet 12 (.quiet 13 (.quiet 14 (.quiet 15 (.quiet 16 (.quiet 17 (.quiet 18 (.quiet 19 (.quiet 20 (.quiet 21 (.quiet 22 (.last 23 false .done)))))))))))))))))))))))) (SubL.refl _) ?_)
             | refine AltP.mk ?_ ?_
             | refine kpM ?_
             | refine SeqP.go ?_
             | refine cdM ?_
             | exact IsV.mk
             | apply GuardP.mk
             | (first | refine eqlW eqS24 rfl rfl rfl fitM fitM ?_ | refine neqW eqS24 rfl rfl rfl fitM fitM ?_ | refine eqlW eqS26 rfl rfl rfl fitM fitM ?_ | refine neqW eqS26 rfl rfl rfl fitM fitM ?_)
             | refine Or.inl ⟨_, _, hasM, ?_⟩
             | refine Or.inl ⟨_, _, _, holeM, rfl, rfl, ?_⟩
             | refine lA ?_
             | refine lA0 ?_
             | refine lA1 ?_
             | refine lO ?_
             | refine lO0 ?_
             | refine lO1 ?_
             | refine lR ?_
             | refine lG ?_
             | refine lG0 ?_
             | refine tA ?_
             | refine tA0 ?_
             | refine tA1 ?_
             | refine BytW.ofBlk hasM rfl rfl ?_
             | refine AppW.noneB hasM leM rfl rfl rfl leM leM ?_
             | refine AppW.rowB hasM leM rfl rfl holeM leM leM ?_
             | refine AppW.blkB hasM leM rfl rfl holeM rfl rfl leM leM ?_
             | refine AppW.rowS hasM leM rfl rfl holeM (by omega) leM ?_
             | refine AppW.arrS hasM leM rfl rfl rfl holeM (by first | omega | (simp; omega)) leM ?_
             | refine ⟨sideM, ?_⟩
             | fail)
        all_goals (try conv => whnf)
        all_goals first
          | (exfalso; omega)
          | (refine EndX.mk (go, qo) hso rfl ?_; rw [mapTo_all (by omega)]; exact entM)
end Go.Proofs.Ytmgoahmbdpoikaa.Am
