/- The law TransSafe. -/
import Derived.Test.YtmgoahmbdpoikaaTrans9
set_option linter.unusedVariables false
set_option linter.unusedSimpArgs false
set_option maxRecDepth 100000
set_option maxHeartbeats 4000000
namespace Go.Proofs.Ytmgoahmbdpoikaa.Am
open Go Go.RowKit
/-- What no move touches of a port. -/
def nameV (p : PortV) : PortV := { p with Role := 0, Learn := false, Learning := false, Forward := false, Forwarding := false, Agree := false, Agreed := false, Proposed := false, Proposing := false, Sync := false, Synced := false, Reroot := false, Disputed := false, NewInfo := false, Edge := 0, Fd := 0, Rr := 0, Rb := 0 }
structure Kept (q p : PortV) : Prop where
  name : nameV p = nameV q
  role : p.Role = q.Role ∨ p.Role = q.Selected
theorem Kept.refl (p : PortV) : Kept p p := ⟨rfl, .inl rfl⟩
theorem Kept.trans {a b c : PortV} (h : Kept a b) (h' : Kept b c) : Kept a c := by
  refine ⟨h'.name.trans h.name, ?_⟩
  have hs : b.Selected = a.Selected := by have := congrArg PortV.Selected h.name; exact this
  rcases h'.role with r | r
  · rw [r]; exact h.role
  · right; rw [r, hs]
structure SameL (q p : PortV) : Prop where
  a : p.Learn = q.Learn
  b : p.Learning = q.Learning
  c : p.Forward = q.Forward
  d : p.Forwarding = q.Forwarding
structure SafeP (p : PortV) : Prop where
  a : p.Learn = false → p.Learning = false ∧ p.Forwarding = false
  b : p.Forward = false → p.Forwarding = false
  c : p.Forwarding = true → p.Learning = true
theorem SafeP.of {q p : PortV} (h : SafeP q) (s : SameL q p) : SafeP p := ⟨fun g => by rw [s.b, s.d]; exact h.a (by rw [← s.a]; exact g), fun g => by rw [s.d]; exact h.b (by rw [← s.c]; exact g), fun g => by rw [s.b]; exact h.c (by rw [← s.d]; exact g)⟩
theorem state_safe (p : PortV) : SafeP (stateV p) := by
  unfold stateV
  by_cases h1 : p.Learn = false
  · rw [if_pos h1]
    exact ⟨fun _ => ⟨rfl, rfl⟩, fun _ => rfl, fun h => by cases h⟩
  · rw [if_neg h1]
    by_cases h2 : p.Learning = false
    · rw [if_pos h2]
      exact ⟨fun g => absurd g h1, fun g => by show (p.Forwarding && p.Forward) = false; have g : p.Forward = false := g; rw [g, Bool.and_false], fun _ => rfl⟩
    · rw [if_neg h2]
      exact ⟨fun g => absurd g h1, fun g => g, fun _ => by simpa using h2⟩
theorem state_kept (p : PortV) : Kept p (stateV p) := by
  unfold stateV
  split
  · exact ⟨rfl, .inl rfl⟩
  · split <;> exact ⟨rfl, .inl rfl⟩
/-- What a move does to a row: to the one port, and to others. -/
structure MoveRel (ps qs : List PortV) (j : Nat) : Prop where
  len : qs.length = ps.length
  at_ : ∀ (i : Nat) (q p : PortV), ps[i]? = some q → qs[i]? = some p → Kept q p ∧ (i ≠ j → SameL q p)
theorem MoveRel.refl (ps : List PortV) (j : Nat) : MoveRel ps ps j := ⟨rfl, fun i q p h1 h2 => by rw [h1] at h2; cases h2; exact ⟨Kept.refl _, fun _ => ⟨rfl, rfl, rfl, rfl⟩⟩⟩
theorem MoveRel.set {ps : List PortV} {j : Nat} {p x : PortV} (hp : ps[j]? = some p) (h : Kept p x) : MoveRel ps (ps.set j x) j := by
  refine ⟨List.length_set .., fun i q y h1 h2 => ?_⟩
  by_cases e : j = i
  · subst e
    rw [hp] at h1
    cases h1
    rw [List.getElem?_set_self (List.getElem?_eq_some_iff.1 hp).1] at h2
    cases h2
    exact ⟨h, fun g => absurd rfl g⟩
  · rw [List.getElem?_set_ne e, h1] at h2
    cases h2
    exact ⟨Kept.refl _, fun _ => ⟨rfl, rfl, rfl, rfl⟩⟩
theorem MoveRel.ask {ps : List PortV} {j : Nat} {p : PortV} (hp : ps[j]? = some p) : MoveRel ps (askV ps j p) j := by
  unfold askV
  refine ⟨by rw [List.length_set, List.length_mapIdx], fun i q y h1 h2 => ?_⟩
  by_cases e : j = i
  · subst e
    rw [hp] at h1
    cases h1
    rw [List.getElem?_set_self (by rw [List.length_mapIdx]; exact (List.getElem?_eq_some_iff.1 hp).1)] at h2
    cases h2
    exact ⟨⟨rfl, .inl rfl⟩, fun g => absurd rfl g⟩
  · rw [List.getElem?_set_ne e, List.getElem?_mapIdx, h1] at h2
    cases h2
    exact ⟨⟨rfl, .inl rfl⟩, fun _ => ⟨rfl, rfl, rfl, rfl⟩⟩
theorem MoveRel.root (ps : List PortV) (j : Nat) : MoveRel ps (rootAll ps) j := by
  unfold rootAll
  refine ⟨List.length_mapIdx, fun i q y h1 h2 => ?_⟩
  rw [List.getElem?_mapIdx, h1] at h2
  cases h2
  exact ⟨⟨rfl, .inl rfl⟩, fun _ => ⟨rfl, rfl, rfl, rfl⟩⟩
theorem firstM_rel {ps : List PortV} {j : Nat} : ∀ {L : List (Bool × List PortV)}, (∀ x ∈ L, MoveRel ps x.2 j) → MoveRel ps ((firstM L).getD ps) j
  | [], _ => MoveRel.refl ..
  | x :: r, h => by
    unfold firstM
    split
    · exact h x List.mem_cons_self
    · exact firstM_rel fun y hy => h y (List.mem_cons_of_mem _ hy)
theorem moveL_rel (t : TimesV) (ps : List PortV) (j : Nat) (p : PortV) (hp : ps[j]? = some p) : ∀ x ∈ moveL t ps j p, MoveRel ps x.2 j := by
  unfold moveL mvA mvB mvR mvT mvZ mvL mvK
  intro x hx
  repeat' split at hx
  all_goals (simp only [List.mem_cons, List.not_mem_nil, or_false] at hx)
  all_goals first
    | (rcases hx with rfl | rfl | rfl | rfl | rfl | rfl | rfl | rfl <;> first | exact MoveRel.ask hp | exact MoveRel.root ps j | exact MoveRel.set hp ⟨rfl, .inl rfl⟩)
    | (rcases hx with rfl | rfl | rfl | rfl | rfl | rfl <;> first | exact MoveRel.ask hp | exact MoveRel.set hp ⟨rfl, .inl rfl⟩)
    | (rcases hx with rfl | rfl | rfl | rfl <;> first | exact MoveRel.ask hp | exact MoveRel.set hp ⟨rfl, .inl rfl⟩)
    | (rcases hx with rfl | rfl | rfl <;> first | exact MoveRel.ask hp | exact MoveRel.set hp ⟨rfl, .inl rfl⟩)
    | (subst hx; first | exact MoveRel.set hp ⟨rfl, .inl rfl⟩ | exact MoveRel.set hp ⟨rfl, .inr rfl⟩)
theorem moveV_rel (b : BridgeV) (ps : List PortV) (j : Nat) : MoveRel ps (moveV b ps j).1 j := by
  unfold moveV
  split
  · exact MoveRel.refl ..
  · split
    · exact MoveRel.refl ..
    · rename_i p hp
      exact firstM_rel (moveL_rel _ _ _ _ hp)
theorem passK_safe (b : BridgeV) (ps : List PortV) : ∀ (k i : Nat) (q p : PortV), ps[i]? = some q → (passTK b ps k)[i]? = some p → Kept q p ∧ (i < k → SafeP p)
  | 0, i, q, p, h1, h2 => by
    rw [passTK, h1] at h2
    cases h2
    exact ⟨Kept.refl _, fun g => absurd g (by omega)⟩
  | k + 1, i, q, p, h1, h2 => by
    have hl := passTK_length b ps k
    have hr := moveV_rel b (passTK b ps k) k
    have hi : i < (passTK b ps k).length := by rw [hl]; exact (List.getElem?_eq_some_iff.1 h1).1
    obtain ⟨o, ho⟩ : ∃ o, (passTK b ps k)[i]? = some o := ⟨_, List.getElem?_eq_getElem hi⟩
    obtain ⟨m, hm⟩ : ∃ m, (moveV b (passTK b ps k) k).1[i]? = some m := ⟨_, List.getElem?_eq_getElem (by rw [hr.len]; exact hi)⟩
    have ih := passK_safe b ps k i q o h1 ho
    obtain ⟨r1, r2⟩ := hr.at_ i o m ho hm
    rw [passTK] at h2
    unfold passF at h2
    split at h2
    · rename_i x hx
      by_cases e : k = i
      · subst e
        rw [hm] at hx
        cases hx
        rw [List.getElem?_set_self (List.getElem?_eq_some_iff.1 hm).1] at h2
        cases h2
        exact ⟨(ih.1.trans r1).trans (state_kept _), fun _ => state_safe _⟩
      · rw [List.getElem?_set_ne e, hm] at h2
        cases h2
        exact ⟨ih.1.trans r1, fun g => (ih.2 (by omega)).of (r2 (fun e' => e e'.symm))⟩
    · rename_i hx
      rw [hm] at h2
      cases h2
      by_cases e : k = i
      · subst e; rw [hm] at hx; cases hx
      · exact ⟨ih.1.trans r1, fun g => (ih.2 (by omega)).of (r2 (fun e' => e e'.symm))⟩
theorem ok_TransSafe : (match Try.f10.body with | some c => codeOk Try.f10.ntmps c | none => false) = true := by kernel_rfl
theorem en_TransSafe : ∃ fn, Try.prog.funcs[10]? = some fn ∧ (fn.name == "runtime.NumGoroutine") = false ∧ fn.body.isNone = false := ⟨_, Try.func10, by kernel_rfl, by kernel_rfl⟩
theorem TransSafe_w (b : BridgeV) (ps : List PortV) (A : Option Addr) (c : Nat) (w : World) (hs : SlAt w A 61 (ps.map PortV.enc)) : PuAt Try.prog 10 [.agg ⟨b.enc⟩, .slice A ps.length c] (.bool true) w := by
  refine funcR_pure tyOk wide Try.func10 ok_TransSafe (Nat.le_of_ble_eq_true rfl) ?_
  by_cases hno : 20 < ps.length
  · skip
    repeat' first
      | (conv => whnf
         first
         | intro _
         | (first | refine selSplit (fun h => ?_) (fun h => ?_) | refine condSplit (fun h => ?_) (fun h => ?_)) <;> first | exact (clash (by assumption) h).elim | exact (clash h (by assumption)).elim | (simp only [decide_eq_true_eq, decide_eq_false_iff_not, Bool.not_eq_true', Bool.not_eq_false', Bool.not_true, Bool.not_false, Bool.or_eq_true, Bool.and_eq_true, Bool.or_eq_false_iff, Bool.and_eq_false_iff, beq_iff_eq, beq_eq_false_iff_ne, ne_eq] at h; first | (exfalso; omega) | skip) | skip
         | (first | refine drM (.quiet 0 (.quiet 1 (.quiet 2 (.quiet 3 (.quiet 4 (.quiet 5 (.quiet 6 (.quiet 7 (.alloc 8 (.alloc 9 (.last 10 true (.last 11 false .done)))))))))))) (SubL.refl _) ?_)
         | refine AltP.mk ?_ ?_
         | refine kpM ?_
         | refine SeqP.go ?_
         | refine cdM ?_
         | exact IsV.mk
         | apply GuardP.mk
         | ((first | apply callPure' en_awake12 | apply callQuiet' en_awake12); · exact fun w _ => awake12_w w)
         | (first | refine eqlW eqS28 rfl rfl rfl fitM fitM ?_ | refine neqW eqS28 rfl rfl rfl fitM fitM ?_ | refine eqlW eqS24 rfl rfl rfl fitM fitM ?_ | refine neqW eqS24 rfl rfl rfl fitM fitM ?_ | refine eqlW eqS26 rfl rfl rfl fitM fitM ?_ | refine neqW eqS26 rfl rfl rfl fitM fitM ?_)
         | refine Or.inl ⟨_, _, hasM, ?_⟩
         | refine Or.inl ⟨_, _, _, holeM, rfl, rfl, ?_⟩
         | refine lA ?_
         | refine lA0 ?_
         | refine lA1 ?_
         | refine lO ?_
         | refine lO0 ?_
         | refine lO1 ?_
         | refine lR ?_
         | refine lG ?_
         | refine lG0 ?_
         | refine tA ?_
         | refine tA0 ?_
         | refine tA1 ?_
         | refine BytW.ofBlk hasM rfl rfl ?_
         | refine AppW.noneB hasM leM rfl rfl rfl leM leM ?_
         | refine AppW.rowB hasM leM rfl rfl holeM leM leM ?_
         | refine AppW.blkB hasM leM rfl rfl holeM rfl rfl leM leM ?_
         | refine AppW.rowS hasM leM rfl rfl holeM (by omega) leM ?_
         | refine AppW.arrS hasM leM rfl rfl rfl holeM (by first | omega | (simp; omega)) leM ?_
         | refine ⟨sideM, ?_⟩
         | fail)
    all_goals (try conv => whnf)
    all_goals first | rfl | (exfalso; omega)
  have hl : ps.length ≤ 1000 := by omega
  have hP := fun w hw => tPass_w b ps _ rfl A c w hw hl
  have hlen := passTV_length b ps
  have hS : ∀ (i : Nat) (q p : PortV), ps[i]? = some q → (passTV b ps)[i]? = some p → Kept q p ∧ (i < ps.length → SafeP p) := passK_safe b ps ps.length
  generalize passTV b ps = xs at *
  repeat' first
    | (conv => whnf
       first
       | intro _
       | (first | refine selSplit (fun h => ?_) (fun h => ?_) | refine condSplit (fun h => ?_) (fun h => ?_)) <;> first | exact (clash (by assumption) h).elim | exact (clash h (by assumption)).elim | (simp only [decide_eq_true_eq, decide_eq_false_iff_not, Bool.not_eq_true', Bool.not_eq_false', Bool.not_true, Bool.not_false, Bool.or_eq_true, Bool.and_eq_true, Bool.or_eq_false_iff, Bool.and_eq_false_iff, beq_iff_eq, beq_eq_false_iff_ne, ne_eq] at h; first | (exfalso; omega) | skip) | skip
       | (first | refine drM (.quiet 0 (.quiet 1 (.quiet 2 (.quiet 3 (.quiet 4 (.quiet 5 (.quiet 6 (.quiet 7 (.alloc 8 (.alloc 9 (.last 10 true (.last 11 false .done)))))))))))) (SubL.refl _) ?_)
       | refine AltP.mk ?_ ?_
       | refine kpM ?_
       | refine SeqP.go ?_
       | refine cdM ?_
       | exact IsV.mk
       | apply GuardP.mk
       | ((first | apply callPure' en_awake12 | apply callQuiet' en_awake12); · exact fun w _ => awake12_w w)
       | (refine callX takeM en_tPass (fun w hw => hP w (hs.later hw)) ?_)
       | (first | refine eqlW eqS28 rfl rfl rfl fitM fitM ?_ | refine neqW eqS28 rfl rfl rfl fitM fitM ?_ | refine eqlW eqS24 rfl rfl rfl fitM fitM ?_ | refine neqW eqS24 rfl rfl rfl fitM fitM ?_ | refine eqlW eqS26 rfl rfl rfl fitM fitM ?_ | refine neqW eqS26 rfl rfl rfl fitM fitM ?_)
       | refine Or.inl ⟨_, _, hasM, ?_⟩
       | refine Or.inl ⟨_, _, _, holeM, rfl, rfl, ?_⟩
       | refine lA ?_
       | refine lA0 ?_
       | refine lA1 ?_
       | refine lO ?_
       | refine lO0 ?_
       | refine lO1 ?_
       | refine lR ?_
       | refine lG ?_
       | refine lG0 ?_
       | refine tA ?_
       | refine tA0 ?_
       | refine tA1 ?_
       | refine BytW.ofBlk hasM rfl rfl ?_
       | refine AppW.noneB hasM leM rfl rfl rfl leM leM ?_
       | refine AppW.rowB hasM leM rfl rfl holeM leM leM ?_
       | refine AppW.blkB hasM leM rfl rfl holeM rfl rfl leM leM ?_
       | refine AppW.rowS hasM leM rfl rfl holeM (by omega) leM ?_
       | refine AppW.arrS hasM leM rfl rfl rfl holeM (by first | omega | (simp; omega)) leM ?_
       | refine ⟨sideM, ?_⟩
       | fail)
  all_goals (try conv => whnf)
  · exact absurd trivial h
  · clear h
    rename_i b2 s1 hs1
    refine .mk Nat (fun k S H => k ≤ ps.length ∧ S = [(7, .int .i64 k), (5, .slice s1.1 ps.length s1.2), (1, .slice A ps.length c)] ∧ H = [.arr (.slice s1.1 ps.length s1.2) 28 61 (xs.map PortV.enc)]) (fun k => ps.length - k) 0 _ _ ⟨by omega, rfl, rfl⟩ subM entM ?_
    rintro k S1 H1 ⟨hk, rfl, rfl⟩
    obtain ⟨A1, c1⟩ := s1
    by_cases hk2 : k < ps.length
    · obtain ⟨g1, e, q1⟩ := hs1.at_ (by omega)
      dsimp only at e
      subst e
      obtain ⟨b, o, e, _⟩ := hs.at_ (by simp; omega)
      subst e
      have o1 := hs.old (X := []) (by simp; omega) (by simp)
      obtain ⟨q, hq⟩ : ∃ x, ps[k]? = some x := ⟨ps[k]'(by omega), List.getElem?_eq_getElem (by omega)⟩
      have y0 : (ps.map PortV.enc)[k]? = some q.enc := by rw [List.getElem?_map, hq]; rfl
      obtain ⟨p, hp⟩ : ∃ x, xs[k]? = some x := ⟨xs[k]'(by omega), List.getElem?_eq_getElem (by omega)⟩
      have y1 : (xs.map PortV.enc)[k]? = some p.enc := by rw [List.getElem?_map, hp]; rfl
      obtain ⟨hK, hF⟩ := hS k q p hq hp
      have hF := hF hk2
      have eq1 : p.Id = q.Id ∧ p.Cost = q.Cost ∧ p.On = q.On ∧ p.Source = q.Source ∧ p.Selected = q.Selected ∧ p.Update = q.Update ∧ p.Ready = q.Ready ∧ p.Reselect = q.Reselect ∧ p.Oper = q.Oper ∧ p.TxCount = q.TxCount := by
        have n := hK.name
        exact ⟨(by have := congrArg PortV.Id n; exact this), (by have := congrArg PortV.Cost n; exact this), (by have := congrArg PortV.On n; exact this), (by have := congrArg PortV.Source n; exact this), (by have := congrArg PortV.Selected n; exact this), (by have := congrArg PortV.Update n; exact this), (by have := congrArg PortV.Ready n; exact this), (by have := congrArg PortV.Reselect n; exact this), (by have := congrArg PortV.Oper n; exact this), (by have := congrArg PortV.TxCount n; exact this)⟩
      have eq2 : p.Vector_Root = q.Vector_Root ∧ p.Vector_Cost = q.Vector_Cost ∧ p.Vector_Bridge = q.Vector_Bridge ∧ p.Vector_Port = q.Vector_Port ∧ p.Times_Age = q.Times_Age ∧ p.Times_Max = q.Times_Max ∧ p.Times_Hello = q.Times_Hello ∧ p.Times_Delay = q.Times_Delay ∧ p.Offer_Root = q.Offer_Root ∧ p.Offer_Cost = q.Offer_Cost ∧ p.Offer_Bridge = q.Offer_Bridge ∧ p.Offer_Port = q.Offer_Port := by
        have n := hK.name
        exact ⟨(by have := congrArg PortV.Vector_Root n; exact this), (by have := congrArg PortV.Vector_Cost n; exact this), (by have := congrArg PortV.Vector_Bridge n; exact this), (by have := congrArg PortV.Vector_Port n; exact this), (by have := congrArg PortV.Times_Age n; exact this), (by have := congrArg PortV.Times_Max n; exact this), (by have := congrArg PortV.Times_Hello n; exact this), (by have := congrArg PortV.Times_Delay n; exact this), (by have := congrArg PortV.Offer_Root n; exact this), (by have := congrArg PortV.Offer_Cost n; exact this), (by have := congrArg PortV.Offer_Bridge n; exact this), (by have := congrArg PortV.Offer_Port n; exact this)⟩
      have hrole := hK.role
      clear hK hS hP
      repeat' first
        | (conv => whnf
           first
           | intro _
           | (first | refine selSplit (fun h => ?_) (fun h => ?_) | refine condSplit (fun h => ?_) (fun h => ?_)) <;> first | exact (clash (by assumption) h).elim | exact (clash h (by assumption)).elim | (simp only [decide_eq_true_eq, decide_eq_false_iff_not, Bool.not_eq_true', Bool.not_eq_false', Bool.not_true, Bool.not_false, Bool.or_eq_true, Bool.and_eq_true, Bool.or_eq_false_iff, Bool.and_eq_false_iff, beq_iff_eq, beq_eq_false_iff_ne, ne_eq] at h; first | (exfalso; omega) | skip) | skip
           | (first | refine drM (.quiet 0 (.quiet 1 (.quiet 2 (.quiet 3 (.quiet 4 (.quiet 5 (.quiet 6 (.quiet 7 (.alloc 8 (.alloc 9 (.last 10 true (.last 11 false .done)))))))))))) (SubL.refl _) ?_)
           | refine AltP.mk ?_ ?_
           | refine kpM ?_
           | refine SeqP.go ?_
           | refine cdM ?_
           | exact IsV.mk
           | apply GuardP.mk
           | (first | refine eqlW eqS28 rfl rfl rfl fitM fitM ?_ | refine neqW eqS28 rfl rfl rfl fitM fitM ?_ | refine eqlW eqS24 rfl rfl rfl fitM fitM ?_ | refine neqW eqS24 rfl rfl rfl fitM fitM ?_ | refine eqlW eqS26 rfl rfl rfl fitM fitM ?_ | refine neqW eqS26 rfl rfl rfl fitM fitM ?_)
           | refine Or.inl ⟨_, _, hasM, ?_⟩
           | refine Or.inl ⟨_, _, _, holeM, rfl, rfl, ?_⟩
           | refine lA ?_
           | refine lA0 ?_
           | refine lA1 ?_
           | refine lO ?_
           | refine lO0 ?_
           | refine lO1 ?_
           | refine lR ?_
           | refine lG ?_
           | refine lG0 ?_
           | refine tA ?_
           | refine tA0 ?_
           | refine tA1 ?_
           | refine BytW.ofBlk hasM rfl rfl ?_
           | refine AppW.noneB hasM leM rfl rfl rfl leM leM ?_
           | refine AppW.rowB hasM leM rfl rfl holeM leM leM ?_
           | refine AppW.blkB hasM leM rfl rfl holeM rfl rfl leM leM ?_
           | refine AppW.rowS hasM leM rfl rfl holeM (by omega) leM ?_
           | refine AppW.arrS hasM leM rfl rfl rfl holeM (by first | omega | (simp; omega)) leM ?_
           | refine ⟨sideM, ?_⟩
           | fail)
      all_goals (try conv => whnf)
      · exfalso
        rcases h with (⟨h1, h2⟩ | ⟨h1, h2⟩) | ⟨h1, h2⟩
        · obtain ⟨g1, g2⟩ := hF.a h1
          rcases h2 with h2 | h2
          · rw [g1] at h2; cases h2
          · rw [g2] at h2; cases h2
        · rw [hF.b h1] at h2; cases h2
        · rw [hF.c h1] at h2; cases h2
      · exfalso
        simp [allEq, cellEq, eq1, eq2] at h
      all_goals first
        | exact .mk (k + 1) _ _ (by omega) ⟨hk2, rfl, rfl⟩ subM entM
        | (exfalso
           rcases hrole with r | r
           · exact h.1 r
           · exact h.2 r)
    · obtain rfl : k = ps.length := by omega
      repeat' first
        | (conv => whnf
           first
           | intro _
           | (first | refine selSplit (fun h => ?_) (fun h => ?_) | refine condSplit (fun h => ?_) (fun h => ?_)) <;> first | exact (clash (by assumption) h).elim | exact (clash h (by assumption)).elim | (simp only [decide_eq_true_eq, decide_eq_false_iff_not, Bool.not_eq_true', Bool.not_eq_false', Bool.not_true, Bool.not_false, Bool.or_eq_true, Bool.and_eq_true, Bool.or_eq_false_iff, Bool.and_eq_false_iff, beq_iff_eq, beq_eq_false_iff_ne, ne_eq] at h; first | (exfalso; omega) | skip) | skip
           | (first | refine drM (.quiet 0 (.quiet 1 (.quiet 2 (.quiet 3 (.quiet 4 (.quiet 5 (.quiet 6 (.quiet 7 (.alloc 8 (.alloc 9 (.last 10 true (.last 11 false .done)))))))))))) (SubL.refl _) ?_)
           | refine AltP.mk ?_ ?_
           | refine kpM ?_
           | refine SeqP.go ?_
           | refine cdM ?_
           | exact IsV.mk
           | apply GuardP.mk
           | (first | refine eqlW eqS28 rfl rfl rfl fitM fitM ?_ | refine neqW eqS28 rfl rfl rfl fitM fitM ?_ | refine eqlW eqS24 rfl rfl rfl fitM fitM ?_ | refine neqW eqS24 rfl rfl rfl fitM fitM ?_ | refine eqlW eqS26 rfl rfl rfl fitM fitM ?_ | refine neqW eqS26 rfl rfl rfl fitM fitM ?_)
           | refine Or.inl ⟨_, _, hasM, ?_⟩
           | refine Or.inl ⟨_, _, _, holeM, rfl, rfl, ?_⟩
           | refine lA ?_
           | refine lA0 ?_
           | refine lA1 ?_
           | refine lO ?_
           | refine lO0 ?_
           | refine lO1 ?_
           | refine lR ?_
           | refine lG ?_
           | refine lG0 ?_
           | refine tA ?_
           | refine tA0 ?_
           | refine tA1 ?_
           | refine BytW.ofBlk hasM rfl rfl ?_
           | refine AppW.noneB hasM leM rfl rfl rfl leM leM ?_
           | refine AppW.rowB hasM leM rfl rfl holeM leM leM ?_
           | refine AppW.blkB hasM leM rfl rfl holeM rfl rfl leM leM ?_
           | refine AppW.rowS hasM leM rfl rfl holeM (by omega) leM ?_
           | refine AppW.arrS hasM leM rfl rfl rfl holeM (by first | omega | (simp; omega)) leM ?_
           | refine ⟨sideM, ?_⟩
           | fail)
      all_goals (try conv => whnf)
      all_goals first
        | (exfalso; omega)
        | rfl
theorem TransSafe_n (b : BridgeV) (ps : List PortV) (A : Option Addr) (n c : Nat) (w : World) (hn : n = ps.length) (hs : SlAt w A 61 (ps.map PortV.enc)) : PuAt Try.prog 10 [.agg ⟨b.enc⟩, .slice A n c] (.bool true) w := by
  subst hn; exact TransSafe_w b ps A c w hs
end Go.Proofs.Ytmgoahmbdpoikaa.Am
