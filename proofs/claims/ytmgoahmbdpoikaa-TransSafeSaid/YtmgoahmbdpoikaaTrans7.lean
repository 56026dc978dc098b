/- Package trans: a move, a port's state, a pass. -/
import Derived.Test.YtmgoahmbdpoikaaTrans6
import Derived.Test.YtmgoahmbdpoikaaPEq
set_option linter.unusedVariables false
set_option linter.unusedSimpArgs false
set_option maxRecDepth 100000
set_option maxHeartbeats 4000000
namespace Go.Proofs.Ytmgoahmbdpoikaa.Am
open Go Go.RowKit
def moveL (t : TimesV) (ps : List PortV) (j : Nat) (p : PortV) : List (Bool × List PortV) :=
  if p.Ready = false ∨ p.Update = true then []
  else if ¬ p.Selected = p.Role then if p.Selected = 1 ∨ p.Selected = 2 then mvA t ps j p else if 0 ≤ p.Selected ∧ p.Selected ≤ 4 then mvB t ps j p else []
  else if p.Role = 1 then mvR t ps j p else if p.Role = 2 then mvT t ps j p else if p.Role = 0 then mvZ t ps j p else if p.Role = 3 then mvL t ps j p else if p.Role = 4 then mvK t ps j p else []
def moveV (b : BridgeV) (ps : List PortV) (j : Nat) : List PortV × Bool :=
  if rightB b = false then (ps, false) else match ps[j]? with
    | none => (ps, false)
    | some p => ((firstM (moveL (timesOf b) ps j p)).getD ps, (firstM (moveL (timesOf b) ps j p)).isSome)
theorem Move_w (b : BridgeV) (ps : List PortV) (n j : Nat) (hn : ps.length = n) (A : Option Addr) (c0 : Nat) (w : World) (hs : SlAt w A 61 (ps.map PortV.enc)) (hlen : n ≤ 1000) :
    FnX Try.prog 76 [.agg ⟨b.enc⟩, .slice A n c0, .int .i64 j] [] (fun s : Option Addr × Nat => IsRow (.slice s.1 n s.2) n) (fun s => .tuple ⟨[.slice s.1 n s.2, .bool (moveV b ps j).2]⟩) (fun s => [.arr (.slice s.1 n s.2) 28 61 ((moveV b ps j).1.map PortV.enc)]) w := by
  have up : ∀ {e : Bool} {qs : List PortV}, FnX Try.prog 76 [.agg ⟨b.enc⟩, .slice A n c0, .int .i64 j] [] (fun s : Nat × Nat => n ≤ s.2) (fun s => .tuple ⟨[.slice (some ⟨s.1, 0, none⟩) n s.2, .bool e]⟩) (fun s => [.arr (.slice (some ⟨s.1, 0, none⟩) n s.2) 28 61 (qs.map PortV.enc)]) w →
      FnX Try.prog 76 [.agg ⟨b.enc⟩, .slice A n c0, .int .i64 j] [] (fun s : Option Addr × Nat => IsRow (.slice s.1 n s.2) n) (fun s => .tuple ⟨[.slice s.1 n s.2, .bool e]⟩) (fun s => [.arr (.slice s.1 n s.2) 28 61 (qs.map PortV.enc)]) w :=
    fun h => h.map fun s hs => ⟨(some ⟨s.1, 0, none⟩, s.2), .inr ⟨_, _, rfl, hs⟩, rfl, Ent.refl⟩
  by_cases h0 : rightB b = true
  · cases hp : ps[j]? with
    | none =>
      have e : moveV b ps j = (ps, false) := by unfold moveV; rw [if_neg (by rw [h0]; decide), hp]
      rw [e]
      exact MoveNo_w b ps n j hn (.inr (by rw [← hn]; exact List.getElem?_eq_none_iff.1 hp)) A c0 w hs hlen
    | some p =>
      have e : moveV b ps j = ((firstM (moveL (timesOf b) ps j p)).getD ps, (firstM (moveL (timesOf b) ps j p)).isSome) := by unfold moveV; rw [if_neg (by rw [h0]; decide), hp]
      rw [e]
      apply up
      unfold moveL
      by_cases c1 : p.Ready = false ∨ p.Update = true
      · rw [if_pos c1]; exact MoveN1_w b ps p n j c1 hn hp h0 A c0 w hs hlen
      rw [if_neg c1]
      have h1 : p.Ready = true := by simpa using fun q => c1 (.inl q)
      have h2 : p.Update = false := by simpa using fun q => c1 (.inr q)
      by_cases h3 : p.Selected = p.Role
      · rw [if_neg (fun q => q h3)]
        by_cases r1 : p.Role = 1
        · rw [if_pos r1]; exact MoveR_w b ps p n j h1 h2 h3 r1 hn hp h0 A c0 w hs hlen
        rw [if_neg r1]
        by_cases r2 : p.Role = 2
        · rw [if_pos r2]; exact MoveT_w b ps p n j h1 h2 h3 r2 hn hp h0 A c0 w hs hlen
        rw [if_neg r2]
        by_cases r0 : p.Role = 0
        · rw [if_pos r0]; exact MoveZ_w b ps p n j h1 h2 h3 r0 hn hp h0 A c0 w hs hlen
        rw [if_neg r0]
        by_cases r3 : p.Role = 3
        · rw [if_pos r3]; exact MoveL_w b ps p n j h1 h2 h3 r3 hn hp h0 A c0 w hs hlen
        rw [if_neg r3]
        by_cases r4 : p.Role = 4
        · rw [if_pos r4]; exact MoveK_w b ps p n j h1 h2 h3 r4 hn hp h0 A c0 w hs hlen
        rw [if_neg r4]
        exact MoveN3_w b ps p n j h1 h2 h3 ⟨⟨r1, r2⟩, r0, r3, r4⟩ hn hp h0 A c0 w hs hlen
      · rw [if_pos h3]
        by_cases c4 : p.Selected = 1 ∨ p.Selected = 2
        · rw [if_pos c4]; exact MoveA_w b ps p n j h1 h2 h3 c4 hn hp h0 A c0 w hs hlen
        rw [if_neg c4]
        by_cases c5 : 0 ≤ p.Selected ∧ p.Selected ≤ 4
        · rw [if_pos c5]; exact MoveB_w b ps p n j h1 h2 h3 c4 c5 hn hp h0 A c0 w hs hlen
        rw [if_neg c5]
        exact MoveN2_w b ps p n j h1 h2 h3 c4 (fun q q' => c5 ⟨q, q'⟩) hn hp h0 A c0 w hs hlen
  · have h0 : rightB b = false := by simpa using h0
    have e : moveV b ps j = (ps, false) := by unfold moveV; rw [if_pos h0]
    rw [e]
    exact MoveNo_w b ps n j hn (.inl h0) A c0 w hs hlen
def stateV (p : PortV) : PortV :=
  if p.Learn = false then { p with Learning := false, Forwarding := false } else if p.Learning = false then { p with Learning := true, Forwarding := p.Forwarding && p.Forward } else { p with Forwarding := p.Forward }
theorem ok_tState : (match Try.f77.body with | some c => codeOk Try.f77.ntmps c | none => false) = true := by kernel_rfl
theorem en_tState : ∃ fn, Try.prog.funcs[77]? = some fn ∧ (fn.name == "runtime.NumGoroutine") = false ∧ fn.body.isNone = false := ⟨_, Try.func77, by kernel_rfl, by kernel_rfl⟩
theorem tState_w (p : PortV) (w : World) : PuAt Try.prog 77 [.agg ⟨p.enc⟩] (.agg ⟨(stateV p).enc⟩) w := by
  refine funcR_pure tyOk wide Try.func77 ok_tState (Nat.le_of_ble_eq_true rfl) ?_
  repeat' first
    | (conv => whnf
       first
       | intro _
       | (first | refine selSplit (fun h => ?_) (fun h => ?_) | refine condSplit (fun h => ?_) (fun h => ?_)) <;> first | exact (clash (by assumption) h).elim | exact (clash h (by assumption)).elim | (simp only [decide_eq_true_eq, decide_eq_false_iff_not, Bool.not_eq_true', Bool.not_eq_false', Bool.not_true, Bool.not_false, Bool.or_eq_true, Bool.and_eq_true, Bool.or_eq_false_iff, Bool.and_eq_false_iff, beq_iff_eq, beq_eq_false_iff_ne, ne_eq] at h; first | (exfalso; omega) | skip) | skip
       | refine SeqP.go ?_
       | refine cdM ?_
       | exact IsV.mk
       | apply GuardP.mk
       | refine Or.inl ⟨_, _, hasM, ?_⟩
       | refine Or.inl ⟨_, _, _, holeM, rfl, rfl, ?_⟩
       | refine lA ?_
       | refine lA0 ?_
       | refine lA1 ?_
       | refine lO ?_
       | refine lO0 ?_
       | refine lO1 ?_
       | refine lR ?_
       | refine lG ?_
       | refine lG0 ?_
       | refine tA ?_
       | refine tA0 ?_
       | refine tA1 ?_
       | refine BytW.ofBlk hasM rfl rfl ?_
       | refine AppW.noneB hasM leM rfl rfl rfl leM leM ?_
       | refine AppW.rowB hasM leM rfl rfl holeM leM leM ?_
       | refine AppW.blkB hasM leM rfl rfl holeM rfl rfl leM leM ?_
       | refine AppW.rowS hasM leM rfl rfl holeM (by omega) leM ?_
       | refine AppW.arrS hasM leM rfl rfl rfl holeM (by first | omega | (simp; omega)) leM ?_
       | refine ⟨sideM, ?_⟩
       | fail)
  all_goals (try conv => whnf)
  all_goals (show Value.agg _ = _; unfold stateV; (repeat (first | rw [if_pos (by first | assumption | grind | decide)] | rw [if_neg (by first | assumption | grind | decide)])); rfl)
def passF (b : BridgeV) (out : List PortV) (i : Nat) : List PortV := match (moveV b out i).1[i]? with
  | some p => (moveV b out i).1.set i (stateV p)
  | none => (moveV b out i).1
def passTK (b : BridgeV) (ps : List PortV) : Nat → List PortV
  | 0 => ps
  | k + 1 => passF b (passTK b ps k) k
def passTV (b : BridgeV) (ps : List PortV) : List PortV := passTK b ps ps.length
theorem firstM_len {ps : List PortV} : ∀ {L : List (Bool × List PortV)}, (∀ x ∈ L, x.2.length = ps.length) → ((firstM L).getD ps).length = ps.length
  | [], _ => rfl
  | x :: r, h => by
    unfold firstM
    split
    · exact h x List.mem_cons_self
    · exact firstM_len fun y hy => h y (List.mem_cons_of_mem _ hy)
theorem moveL_len (t : TimesV) (ps : List PortV) (j : Nat) (p : PortV) : ∀ x ∈ moveL t ps j p, x.2.length = ps.length := by
  unfold moveL mvA mvB mvR mvT mvZ mvL mvK askV rootAll
  intro x hx
  repeat' split at hx
  all_goals (simp only [List.mem_cons, List.not_mem_nil, or_false] at hx)
  all_goals (try (rcases hx with rfl | rfl | rfl | rfl | rfl | rfl | rfl | rfl <;> simp))
  all_goals (try (rcases hx with rfl | rfl | rfl | rfl | rfl | rfl <;> simp))
  all_goals (try (rcases hx with rfl | rfl | rfl | rfl <;> simp))
  all_goals (try (rcases hx with rfl | rfl | rfl <;> simp))
  all_goals (try (subst hx; simp))
theorem moveV_length (b : BridgeV) (ps : List PortV) (j : Nat) : (moveV b ps j).1.length = ps.length := by
  unfold moveV
  split
  · rfl
  · split
    · rfl
    · exact firstM_len (moveL_len _ _ _ _)
theorem passF_length (b : BridgeV) (ps : List PortV) (i : Nat) : (passF b ps i).length = ps.length := by
  unfold passF
  split
  · rw [List.length_set, moveV_length]
  · exact moveV_length ..
theorem passTK_length (b : BridgeV) (ps : List PortV) : ∀ k, (passTK b ps k).length = ps.length
  | 0 => rfl
  | k + 1 => by rw [passTK, passF_length, passTK_length b ps k]
theorem ok_tPass : (match Try.f43.body with | some c => codeOk Try.f43.ntmps c | none => false) = true := by kernel_rfl
theorem en_tPass : ∃ fn, Try.prog.funcs[43]? = some fn ∧ (fn.name == "runtime.NumGoroutine") = false ∧ fn.body.isNone = false := ⟨_, Try.func43, by kernel_rfl, by kernel_rfl⟩
theorem tPass_w (b : BridgeV) (ps : List PortV) (n : Nat) (hn : ps.length = n) (A : Option Addr) (c : Nat) (w : World) (hs : SlAt w A 61 (ps.map PortV.enc)) (hlen : n ≤ 1000) :
    FnX Try.prog 43 [.agg ⟨b.enc⟩, .slice A n c] [] (fun s : Option Addr × Nat => IsRow (.slice s.1 n s.2) n) (fun s => .tuple ⟨[.slice s.1 n s.2, .bool (!eqPs (passTV b ps) ps)]⟩) (fun s => [.arr (.slice s.1 n s.2) 28 61 ((passTV b ps).map PortV.enc)]) w := by
  subst hn
  refine funcR_x tyOk wide Try.func43 ok_tPass (Nat.le_of_ble_eq_true rfl) (St.start0 w) ?_
  repeat' first
    | (conv => whnf
       first
       | intro _
       | (first | refine selSplit (fun h => ?_) (fun h => ?_) | refine condSplit (fun h => ?_) (fun h => ?_)) <;> first | exact (clash (by assumption) h).elim | exact (clash h (by assumption)).elim | (simp only [decide_eq_true_eq, decide_eq_false_iff_not, Bool.not_eq_true', Bool.not_eq_false', Bool.not_true, Bool.not_false, Bool.or_eq_true, Bool.and_eq_true, Bool.or_eq_false_iff, Bool.and_eq_false_iff, beq_iff_eq, beq_eq_false_iff_ne, ne_eq] at h; first | (exfalso; omega) | skip) | skip
       | refine SeqP.go ?_
       | refine cdM ?_
       | exact IsV.mk
       | apply GuardP.mk
       | (refine callX takeM en_PClone (fun w hw => PClone_w ps A c w (hs.later hw) hlen) ?_)
       | refine Or.inl ⟨_, _, hasM, ?_⟩
       | refine Or.inl ⟨_, _, _, holeM, rfl, rfl, ?_⟩
       | refine lA ?_
       | refine lA0 ?_
       | refine lA1 ?_
       | refine lO ?_
       | refine lO0 ?_
       | refine lO1 ?_
       | refine lR ?_
       | refine lG ?_
       | refine lG0 ?_
       | refine tA ?_
       | refine tA0 ?_
       | refine tA1 ?_
       | refine BytW.ofBlk hasM rfl rfl ?_
       | refine AppW.noneB hasM leM rfl rfl rfl leM leM ?_
       | refine AppW.rowB hasM leM rfl rfl holeM leM leM ?_
       | refine AppW.blkB hasM leM rfl rfl holeM rfl rfl leM leM ?_
       | refine AppW.rowS hasM leM rfl rfl holeM (by omega) leM ?_
       | refine AppW.arrS hasM leM rfl rfl rfl holeM (by first | omega | (simp; omega)) leM ?_
       | refine ⟨sideM, ?_⟩
       | fail)
  all_goals (try conv => whnf)
  rename_i bb s0 hs0
  refine .mk (Nat × Option Addr × Nat) (fun ⟨k, A1, c1⟩ S H => (k ≤ ps.length ∧ IsRow (.slice A1 ps.length c1) ps.length) ∧ S = [(12, .int .i64 k), (11, .int .i64 ps.length), (6, .slice A1 ps.length c1), (2, .pointer (some ⟨bb, 0, none⟩)), (1, .slice A ps.length c)] ∧ H = [.arr (.slice A1 ps.length c1) 28 61 ((passTK b ps k).map PortV.enc), Res.blk bb b.enc 33]) (fun s => ps.length - s.1) (0, s0.1, s0.2) _ _ ⟨⟨by omega, hs0⟩, rfl, rfl⟩ subM entM ?_
  rintro ⟨k, A1, c1⟩ S1 H1 ⟨⟨hk, hr⟩, rfl, rfl⟩
  by_cases hk2 : k < ps.length
  · have hM := fun w hw => Move_w b (passTK b ps k) _ k (passTK_length b ps k) A1 c1 w hw hlen
    have hl2 : (moveV b (passTK b ps k) k).1.length = ps.length := by rw [moveV_length, passTK_length]
    have hF : passTK b ps (k + 1) = passF b (passTK b ps k) k := rfl
    unfold passF at hF
    generalize (moveV b (passTK b ps k) k).1 = qs at *
    obtain ⟨x, hx⟩ : ∃ x, qs[k]? = some x := ⟨qs[k]'(by omega), List.getElem?_eq_getElem (by omega)⟩
    rw [hx] at hF
    dsimp only at hF
    have y1 : (qs.map PortV.enc)[k]? = some x.enc := by rw [List.getElem?_map, hx]; rfl
    have hM2 : ∀ w, SlAt w A1 61 ((passTK b ps k).map PortV.enc) → FnX _ _ _ _ (fun s : Nat × Nat => ps.length ≤ s.2) (fun s => .tuple ⟨[.slice (some ⟨s.1, 0, none⟩) ps.length s.2, .bool (moveV b (passTK b ps k) k).2]⟩) (fun s => [.arr (.slice (some ⟨s.1, 0, none⟩) ps.length s.2) 28 61 (qs.map PortV.enc)]) w := fun w hw => (hM w hw).map fun s h => by
      obtain ⟨A', c'⟩ := s
      obtain ⟨g, rfl, hq⟩ := h.at_ (by omega)
      exact ⟨(g, c'), hq, rfl, Ent.refl⟩
    repeat' first
      | (conv => whnf
         first
         | intro _
         | (first | refine selSplit (fun h => ?_) (fun h => ?_) | refine condSplit (fun h => ?_) (fun h => ?_)) <;> first | exact (clash (by assumption) h).elim | exact (clash h (by assumption)).elim | (simp only [decide_eq_true_eq, decide_eq_false_iff_not, Bool.not_eq_true', Bool.not_eq_false', Bool.not_true, Bool.not_false, Bool.or_eq_true, Bool.and_eq_true, Bool.or_eq_false_iff, Bool.and_eq_false_iff, beq_iff_eq, beq_eq_false_iff_ne, ne_eq] at h; first | (exfalso; omega) | skip) | skip
         | refine SeqP.go ?_
         | refine cdM ?_
         | exact IsV.mk
         | apply GuardP.mk
         | (refine callX takeM en_tMove (fun w hw => hM2 w (hw.arrSl hasM)) ?_)
         | ((first | apply callPure' en_tState | apply callQuiet' en_tState); · exact fun w _ => tState_w x w)
         | refine Or.inl ⟨_, _, hasM, ?_⟩
         | refine Or.inl ⟨_, _, _, holeM, rfl, rfl, ?_⟩
         | refine lA ?_
         | refine lA0 ?_
         | refine lA1 ?_
         | refine lO ?_
         | refine lO0 ?_
         | refine lO1 ?_
         | refine lR ?_
         | refine lG ?_
         | refine lG0 ?_
         | refine tA ?_
         | refine tA0 ?_
         | refine tA1 ?_
         | refine BytW.ofBlk hasM rfl rfl ?_
         | refine AppW.noneB hasM leM rfl rfl rfl leM leM ?_
         | refine AppW.rowB hasM leM rfl rfl holeM leM leM ?_
         | refine AppW.blkB hasM leM rfl rfl holeM rfl rfl leM leM ?_
         | refine AppW.rowS hasM leM rfl rfl holeM (by omega) leM ?_
         | refine AppW.arrS hasM leM rfl rfl rfl holeM (by first | omega | (simp; omega)) leM ?_
         | refine ⟨sideM, ?_⟩
         | fail)
    all_goals (try conv => whnf)
    all_goals first
      | (exfalso; omega)
      | (rename_i s1 hs1; exact .mk (k + 1, some ⟨s1.1, 0, none⟩, s1.2) _ _ (by show _ - (k + 1) < _ - k; omega) ⟨⟨hk2, .inr ⟨_, _, rfl, hs1⟩⟩, rfl, rfl⟩ subM (by rw [hF, List.map_set]; exact entM))
  · obtain rfl : k = ps.length := by omega
    repeat' first
      | (conv => whnf
         first
         | intro _
         | (first | refine selSplit (fun h => ?_) (fun h => ?_) | refine condSplit (fun h => ?_) (fun h => ?_)) <;> first | exact (clash (by assumption) h).elim | exact (clash h (by assumption)).elim | (simp only [decide_eq_true_eq, decide_eq_false_iff_not, Bool.not_eq_true', Bool.not_eq_false', Bool.not_true, Bool.not_false, Bool.or_eq_true, Bool.and_eq_true, Bool.or_eq_false_iff, Bool.and_eq_false_iff, beq_iff_eq, beq_eq_false_iff_ne, ne_eq] at h; first | (exfalso; omega) | skip) | skip
         | refine SeqP.go ?_
         | refine cdM ?_
         | exact IsV.mk
         | apply GuardP.mk
         | ((first | apply callPure' en_PEqual | apply callQuiet' en_PEqual); · exact fun w hw => PEqual_n (passTK b ps ps.length) ps _ _ (passTK_length ..) rfl A1 A c1 c w (hw.arrSl hasM) (hs.later hw) hlen hlen)
         | refine Or.inl ⟨_, _, hasM, ?_⟩
         | refine Or.inl ⟨_, _, _, holeM, rfl, rfl, ?_⟩
         | refine lA ?_
         | refine lA0 ?_
         | refine lA1 ?_
         | refine lO ?_
         | refine lO0 ?_
         | refine lO1 ?_
         | refine lR ?_
         | refine lG ?_
         | refine lG0 ?_
         | refine tA ?_
         | refine tA0 ?_
         | refine tA1 ?_
         | refine BytW.ofBlk hasM rfl rfl ?_
         | refine AppW.noneB hasM leM rfl rfl rfl leM leM ?_
         | refine AppW.rowB hasM leM rfl rfl holeM leM leM ?_
         | refine AppW.blkB hasM leM rfl rfl holeM rfl rfl leM leM ?_
         | refine AppW.rowS hasM leM rfl rfl holeM (by omega) leM ?_
         | refine AppW.arrS hasM leM rfl rfl rfl holeM (by first | omega | (simp; omega)) leM ?_
         | refine ⟨sideM, ?_⟩
         | fail)
    all_goals (try conv => whnf)
    all_goals first
      | (exfalso; omega)
      | exact EndX.mk (A1, c1) hr rfl entM
end Go.Proofs.Ytmgoahmbdpoikaa.Am
