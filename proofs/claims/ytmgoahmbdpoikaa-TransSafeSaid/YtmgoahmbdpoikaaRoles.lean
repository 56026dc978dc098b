/- Package roles: what may be a bridge's ports; the best way. -/
import Derived.Test.YtmgoahmbdpoikaaStr
import Derived.Test.YtmgoahmbdpoikaaLVec
set_option linter.unusedVariables false
set_option linter.unusedSimpArgs false
set_option maxRecDepth 100000
set_option maxHeartbeats 4000000
namespace Go.Proofs.Ytmgoahmbdpoikaa.Am
open Go Go.RowKit
theorem St.fresh {w0 w : World} {H0 H G : List Res} (hw : St w0 [] H0 w) (ht : Take H0 H G) {b : Nat} (hb : b < w0.heap.size) : b ∉ feet H := by
  intro h
  obtain ⟨r, hr, hf⟩ := mem_feet.1 h
  rcases hw.own r (ht.perm.subset (List.mem_append_left _ hr)) b hf with h | h
  · cases h
  · omega
theorem SlAt.lt {w : World} {b o sz : Nat} {l : List (List Value)} (h : SlAt w (some ⟨b, o, none⟩) sz l) (hp : 0 < l.length) (hz : 0 < sz) : b < w.heap.size := by
  obtain ⟨b', o', e, hr⟩ := h.at_ hp
  cases e
  have hl : 0 < l.flatten.length := by
    cases l with
    | nil => simp at hp
    | cons x r => have := h.len x List.mem_cons_self; simp; omega
  have h0 := hr 0 l.flatten[0] (by rw [List.getElem?_eq_getElem hl])
  exact World.block_lt_of_cell? w _ h0
def InfoV.v4 (p : InfoV) : V4 := (p.Vector_Root, p.Vector_Cost, p.Vector_Bridge, p.Vector_Port)
def mineV (bridge : Int) : V4 := (bridge, 0, bridge, 0)
theorem ok_Mine : (match Try.f96.body with | some c => codeOk Try.f96.ntmps c | none => false) = true := by kernel_rfl
theorem en_Mine : ∃ fn, Try.prog.funcs[96]? = some fn ∧ (fn.name == "runtime.NumGoroutine") = false ∧ fn.body.isNone = false := ⟨_, Try.func96, by kernel_rfl, by kernel_rfl⟩
theorem Mine_w (bridge : Int) (w : World) : PuAt Try.prog 96 [.int .u64 bridge] (.agg ⟨encV (mineV bridge)⟩) w := by
  refine funcR_pure tyOk wide Try.func96 ok_Mine (Nat.le_of_ble_eq_true rfl) ?_
  repeat' first
    | (conv => whnf
       first
       | intro _
       | (first | refine selSplit (fun h => ?_) (fun h => ?_) | refine condSplit (fun h => ?_) (fun h => ?_)) <;> first | exact (clash (by assumption) h).elim | exact (clash h (by assumption)).elim | (simp only [decide_eq_true_eq, decide_eq_false_iff_not, Bool.not_eq_true', Bool.not_eq_false', Bool.not_true, Bool.not_false, Bool.or_eq_true, Bool.and_eq_true, Bool.or_eq_false_iff, Bool.and_eq_false_iff, beq_iff_eq, beq_eq_false_iff_ne, ne_eq] at h; first | (exfalso; omega) | skip) | skip
       | refine SeqP.go ?_
       | refine cdM ?_
       | exact IsV.mk
       | apply GuardP.mk
       | (first | refine eqlW eqS24 rfl rfl rfl fitM fitM ?_ | refine neqW eqS24 rfl rfl rfl fitM fitM ?_)
       | refine Or.inl ⟨_, _, hasM, ?_⟩
       | refine Or.inl ⟨_, _, _, holeM, rfl, rfl, ?_⟩
       | refine lA ?_
       | refine lA0 ?_
       | refine lA1 ?_
       | refine lO ?_
       | refine lO0 ?_
       | refine lO1 ?_
       | refine lR ?_
       | refine lG ?_
       | refine lG0 ?_
       | refine tA ?_
       | refine tA0 ?_
       | refine tA1 ?_
       | refine BytW.ofBlk hasM rfl rfl ?_
       | refine AppW.noneB hasM leM rfl rfl rfl leM leM ?_
       | refine AppW.rowB hasM leM rfl rfl holeM leM leM ?_
       | refine AppW.blkB hasM leM rfl rfl holeM rfl rfl leM leM ?_
       | refine AppW.rowS hasM leM rfl rfl holeM (by omega) leM ?_
       | refine AppW.arrS hasM leM rfl rfl rfl holeM (by first | omega | (simp; omega)) leM ?_
       | refine ⟨sideM, ?_⟩
       | fail)
  all_goals (try conv => whnf)
  all_goals rfl
def ownV (v : V4) (bridge : Int) : Bool := decide (bits .and .u64 (bits .xor .u64 v.2.2.1 bridge) 281474976710655 = 0)
theorem ok_own : (match Try.f89.body with | some c => codeOk Try.f89.ntmps c | none => false) = true := by kernel_rfl
theorem en_own : ∃ fn, Try.prog.funcs[89]? = some fn ∧ (fn.name == "runtime.NumGoroutine") = false ∧ fn.body.isNone = false := ⟨_, Try.func89, by kernel_rfl, by kernel_rfl⟩
theorem own_w (v : V4) (bridge : Int) (w : World) : PuAt Try.prog 89 [.agg ⟨encV v⟩, .int .u64 bridge] (.bool (ownV v bridge)) w := by
  refine funcR_pure tyOk wide Try.func89 ok_own (Nat.le_of_ble_eq_true rfl) ?_
  repeat' first
    | (conv => whnf
       first
       | intro _
       | (first | refine selSplit (fun h => ?_) (fun h => ?_) | refine condSplit (fun h => ?_) (fun h => ?_)) <;> first | exact (clash (by assumption) h).elim | exact (clash h (by assumption)).elim | (simp only [decide_eq_true_eq, decide_eq_false_iff_not, Bool.not_eq_true', Bool.not_eq_false', Bool.not_true, Bool.not_false, Bool.or_eq_true, Bool.and_eq_true, Bool.or_eq_false_iff, Bool.and_eq_false_iff, beq_iff_eq, beq_eq_false_iff_ne, ne_eq] at h; first | (exfalso; omega) | skip) | skip
       | refine SeqP.go ?_
       | refine cdM ?_
       | exact IsV.mk
       | apply GuardP.mk
       | (first | refine eqlW eqS24 rfl rfl rfl fitM fitM ?_ | refine neqW eqS24 rfl rfl rfl fitM fitM ?_)
       | refine Or.inl ⟨_, _, hasM, ?_⟩
       | refine Or.inl ⟨_, _, _, holeM, rfl, rfl, ?_⟩
       | refine lA ?_
       | refine lA0 ?_
       | refine lA1 ?_
       | refine lO ?_
       | refine lO0 ?_
       | refine lO1 ?_
       | refine lR ?_
       | refine lG ?_
       | refine lG0 ?_
       | refine tA ?_
       | refine tA0 ?_
       | refine tA1 ?_
       | refine BytW.ofBlk hasM rfl rfl ?_
       | refine AppW.noneB hasM leM rfl rfl rfl leM leM ?_
       | refine AppW.rowB hasM leM rfl rfl holeM leM leM ?_
       | refine AppW.blkB hasM leM rfl rfl holeM rfl rfl leM leM ?_
       | refine AppW.rowS hasM leM rfl rfl holeM (by omega) leM ?_
       | refine AppW.arrS hasM leM rfl rfl rfl holeM (by first | omega | (simp; omega)) leM ?_
       | refine ⟨sideM, ?_⟩
       | fail)
  all_goals (try conv => whnf)
  all_goals rfl
theorem vCompare4 (x y : V4) (w : World) : PuAt Try.prog 82 [.agg ⟨encV x⟩, .agg ⟨encV y⟩] (.int .i64 (cmp4 x y)) w := vCompare_w _ _ _ _ _ _ _ _ w
theorem vSup4 (x y : V4) (w : World) : PuAt Try.prog 81 [.agg ⟨encV x⟩, .agg ⟨encV y⟩] (.bool (supB x.1 x.2.1 x.2.2.1 x.2.2.2 y.1 y.2.1 y.2.2.1 y.2.2.2)) w := vSupersedes_w _ _ _ _ _ _ _ _ w
def sup4 (x y : V4) : Bool := supB x.1 x.2.1 x.2.2.1 x.2.2.2 y.1 y.2.1 y.2.2.1 y.2.2.2
def raiseV (v : V4) (c : Int) : V4 := (v.1, raise v.2.1 c, v.2.2)
theorem Raise4 (v : V4) (c : Int) (w : World) : PuAt Try.prog 98 [.agg ⟨encV v⟩, .int .u64 c] (.agg ⟨encV (raiseV v c)⟩) w := Raise_w _ _ _ _ _ w
/-! What may be ports -/
def okI (seen : List Int) (p : InfoV) : Bool :=
  !(decide (p.Id < 1) || decide (65535 < p.Id) || decide (p.Id ∈ seen) || decide (4294967295 < p.Cost) || decide (p.Source < 0) || decide (3 < p.Source) || decide (4294967295 < p.Vector_Cost) || (!decide (p.Source = 3) && !allEq (encV p.v4) (encV (0, 0, 0, 0))))
def rightAll : List Int → List InfoV → Bool
  | _, [] => true
  | seen, p :: r => okI seen p && rightAll (seen ++ [p.Id]) r
def rightI (ps : List InfoV) : Bool := rightAll [] ps && decide (ps.length ≤ 16)
theorem rightAll_drop (ps : List InfoV) (k : Nat) (h : k < ps.length) : rightAll ((ps.take k).map InfoV.Id) (ps.drop k) = (okI ((ps.take k).map InfoV.Id) ps[k] && rightAll ((ps.take (k + 1)).map InfoV.Id) (ps.drop (k + 1))) := by
  rw [List.drop_eq_getElem_cons h]
  conv => rhs; rw [List.take_succ_eq_append_getElem h, List.map_append]
  rfl
theorem ok_iRight : (match Try.f87.body with | some c => codeOk Try.f87.ntmps c | none => false) = true := by kernel_rfl
theorem en_iRight : ∃ fn, Try.prog.funcs[87]? = some fn ∧ (fn.name == "runtime.NumGoroutine") = false ∧ fn.body.isNone = false := ⟨_, Try.func87, by kernel_rfl, by kernel_rfl⟩
theorem iRight_w (ps : List InfoV) (n : Nat) (hn : ps.length = n) (A : Option Addr) (c : Nat) (w : World) (hs : SlAt w A 7 (ps.map InfoV.enc)) (hl : n ≤ 1000) : PuAt Try.prog 87 [.slice A n c] (.bool (rightI ps)) w := by
  subst hn
  refine funcR_pure tyOk wide Try.func87 ok_iRight (Nat.le_of_ble_eq_true rfl) ?_
  repeat' first
    | (conv => whnf
       first
       | intro _
       | (first | refine selSplit (fun h => ?_) (fun h => ?_) | refine condSplit (fun h => ?_) (fun h => ?_)) <;> first | exact (clash (by assumption) h).elim | exact (clash h (by assumption)).elim | (simp only [decide_eq_true_eq, decide_eq_false_iff_not, Bool.not_eq_true', Bool.not_eq_false', Bool.not_true, Bool.not_false, Bool.or_eq_true, Bool.and_eq_true, Bool.or_eq_false_iff, Bool.and_eq_false_iff, beq_iff_eq, beq_eq_false_iff_ne, ne_eq] at h; first | (exfalso; omega) | skip) | skip
       | refine SeqP.go ?_
       | refine cdM ?_
       | exact IsV.mk
       | apply GuardP.mk
       | (refine mapMake rfl (fun m => ?_))
       | (first | refine eqlW eqS24 rfl rfl rfl fitM fitM ?_ | refine neqW eqS24 rfl rfl rfl fitM fitM ?_)
       | refine Or.inl ⟨_, _, hasM, ?_⟩
       | refine Or.inl ⟨_, _, _, holeM, rfl, rfl, ?_⟩
       | refine lA ?_
       | refine lA0 ?_
       | refine lA1 ?_
       | refine lO ?_
       | refine lO0 ?_
       | refine lO1 ?_
       | refine lR ?_
       | refine lG ?_
       | refine lG0 ?_
       | refine tA ?_
       | refine tA0 ?_
       | refine tA1 ?_
       | refine BytW.ofBlk hasM rfl rfl ?_
       | refine AppW.noneB hasM leM rfl rfl rfl leM leM ?_
       | refine AppW.rowB hasM leM rfl rfl holeM leM leM ?_
       | refine AppW.blkB hasM leM rfl rfl holeM rfl rfl leM leM ?_
       | refine AppW.rowS hasM leM rfl rfl holeM (by omega) leM ?_
       | refine AppW.arrS hasM leM rfl rfl rfl holeM (by first | omega | (simp; omega)) leM ?_
       | refine ⟨sideM, ?_⟩
       | fail)
  all_goals (try conv => whnf)
  refine .mk Nat (fun k S H => (k ≤ ps.length ∧ rightAll [] ps = rightAll ((ps.take k).map InfoV.Id) (ps.drop k)) ∧ S = [(9, .int .i64 k), (8, .int .i64 ps.length), (7, .slice A ps.length c), (3, .map (some m)), (0, .slice A ps.length c)] ∧ H = [.map m (setE .u64 ((ps.take k).map InfoV.Id))]) (fun k => ps.length - k) 0 _ _ ⟨⟨by omega, rfl⟩, rfl, rfl⟩ subM entM ?_
  rintro k S1 H1 ⟨⟨hk, he⟩, rfl, rfl⟩
  by_cases hk2 : k < ps.length
  · obtain ⟨b, o, e, _⟩ := hs.at_ (by simp; omega)
    subst e
    have o1 := hs.old (X := []) (by simp; omega) (by simp)
    obtain ⟨x, hx⟩ : ∃ x, ps[k] = x := ⟨_, rfl⟩
    have g1 : (ps.map InfoV.enc)[k]? = some x.enc := by rw [← hx]; exact mapGet hk2
    have hd := rightAll_drop ps k hk2
    have ht : (ps.take (k + 1)).map InfoV.Id = (ps.take k).map InfoV.Id ++ [x.Id] := by rw [List.take_succ_eq_append_getElem hk2, List.map_append, hx]; rfl
    rw [hx] at hd
    generalize (ps.take k).map InfoV.Id = seen at *
    repeat' first
      | (conv => whnf
         first
         | intro _
         | (first | refine selSplit (fun h => ?_) (fun h => ?_) | refine condSplit (fun h => ?_) (fun h => ?_)) <;> first | exact (clash (by assumption) h).elim | exact (clash h (by assumption)).elim | (simp only [decide_eq_true_eq, decide_eq_false_iff_not, Bool.not_eq_true', Bool.not_eq_false', Bool.not_true, Bool.not_false, Bool.or_eq_true, Bool.and_eq_true, Bool.or_eq_false_iff, Bool.and_eq_false_iff, beq_iff_eq, beq_eq_false_iff_ne, ne_eq] at h; first | (exfalso; omega) | skip) | skip
         | refine SeqP.go ?_
         | refine cdM ?_
         | exact IsV.mk
         | apply GuardP.mk
         | (refine mapLook hasM rfl Try.underlying140 (KeyT.int Try.underlying22) (z := .bool false) (by kernel_rfl) rfl rfl ⟨_, rfl⟩ (setE_good _ _) (setE_ans _ _ _) ?_)
         | (refine mapPut holeM rfl Try.underlying140 (KeyT.int Try.underlying22) rfl rfl rfl ⟨_, rfl⟩ (setE_good _ _) (setE_put _ _ _ h.1.1.1.1.1.2) ?_)
         | (first | refine eqlW eqS24 rfl rfl rfl fitM fitM ?_ | refine neqW eqS24 rfl rfl rfl fitM fitM ?_)
         | refine Or.inl ⟨_, _, hasM, ?_⟩
         | refine Or.inl ⟨_, _, _, holeM, rfl, rfl, ?_⟩
         | refine lA ?_
         | refine lA0 ?_
         | refine lA1 ?_
         | refine lO ?_
         | refine lO0 ?_
         | refine lO1 ?_
         | refine lR ?_
         | refine lG ?_
         | refine lG0 ?_
         | refine tA ?_
         | refine tA0 ?_
         | refine tA1 ?_
         | refine BytW.ofBlk hasM rfl rfl ?_
         | refine AppW.noneB hasM leM rfl rfl rfl leM leM ?_
         | refine AppW.rowB hasM leM rfl rfl holeM leM leM ?_
         | refine AppW.blkB hasM leM rfl rfl holeM rfl rfl leM leM ?_
         | refine AppW.rowS hasM leM rfl rfl holeM (by omega) leM ?_
         | refine AppW.arrS hasM leM rfl rfl rfl holeM (by first | omega | (simp; omega)) leM ?_
         | refine ⟨sideM, ?_⟩
         | fail)
    all_goals (try conv => whnf)
    · change _ ∨ (¬ x.Source = 3 ∧ allEq (encV x.v4) (encV (0, 0, 0, 0)) = false) at h
      have ho : okI seen x = false := by unfold okI; grind
      refine v_bool ?_
      unfold rightI
      rw [he, hd, ho]
      rfl
    · change _ ∧ (x.Source = 3 ∨ allEq (encV x.v4) (encV (0, 0, 0, 0)) = true) at h
      have ho : okI seen x = true := by unfold okI; grind
      rw [ho, Bool.true_and] at hd
      exact .mk (k + 1) _ _ (by omega) ⟨⟨hk2, by rw [he, hd]⟩, rfl, rfl⟩ subM (by rw [ht]; exact entM)
  · skip
    repeat' first
      | (conv => whnf
         first
         | intro _
         | (first | refine selSplit (fun h => ?_) (fun h => ?_) | refine condSplit (fun h => ?_) (fun h => ?_)) <;> first | exact (clash (by assumption) h).elim | exact (clash h (by assumption)).elim | (simp only [decide_eq_true_eq, decide_eq_false_iff_not, Bool.not_eq_true', Bool.not_eq_false', Bool.not_true, Bool.not_false, Bool.or_eq_true, Bool.and_eq_true, Bool.or_eq_false_iff, Bool.and_eq_false_iff, beq_iff_eq, beq_eq_false_iff_ne, ne_eq] at h; first | (exfalso; omega) | skip) | skip
         | refine SeqP.go ?_
         | refine cdM ?_
         | exact IsV.mk
         | apply GuardP.mk
         | (first | refine eqlW eqS24 rfl rfl rfl fitM fitM ?_ | refine neqW eqS24 rfl rfl rfl fitM fitM ?_)
         | refine Or.inl ⟨_, _, hasM, ?_⟩
         | refine Or.inl ⟨_, _, _, holeM, rfl, rfl, ?_⟩
         | refine lA ?_
         | refine lA0 ?_
         | refine lA1 ?_
         | refine lO ?_
         | refine lO0 ?_
         | refine lO1 ?_
         | refine lR ?_
         | refine lG ?_
         | refine lG0 ?_
         | refine tA ?_
         | refine tA0 ?_
         | refine tA1 ?_
         | refine BytW.ofBlk hasM rfl rfl ?_
         | refine AppW.noneB hasM leM rfl rfl rfl leM leM ?_
         | refine AppW.rowB hasM leM rfl rfl holeM leM leM ?_
         | refine AppW.blkB hasM leM rfl rfl holeM rfl rfl leM leM ?_
         | refine AppW.rowS hasM leM rfl rfl holeM (by omega) leM ?_
         | refine AppW.arrS hasM leM rfl rfl rfl holeM (by first | omega | (simp; omega)) leM ?_
         | refine ⟨sideM, ?_⟩
         | fail)
    all_goals (try conv => whnf)
    all_goals first
      | (exfalso; omega)
      | (refine v_bool ?_
         unfold rightI
         rw [he, List.drop_of_length_le (by omega)]
         simp [rightAll] <;> omega)
/-! The best way -/
def idAt (ps : List InfoV) (i : Int) : Int := (ps[i.toNat]?.map InfoV.Id).getD 0
def tryV (ps : List InfoV) (s : V4 × Int) (i : Int) (u : V4) : V4 × Int :=
  if cmp4 u s.1 < 0 ∨ cmp4 u s.1 = 0 ∧ 0 ≤ s.2 ∧ idAt ps i < idAt ps s.2 then (u, i) else s
theorem ok_tryF : (match Try.f97.body with | some c => codeOk Try.f97.ntmps c | none => false) = true := by kernel_rfl
theorem en_tryF : ∃ fn, Try.prog.funcs[97]? = some fn ∧ (fn.name == "runtime.NumGoroutine") = false ∧ fn.body.isNone = false := ⟨_, Try.func97, by kernel_rfl, by kernel_rfl⟩
theorem tryF_w (ps : List InfoV) (n : Nat) (hn : ps.length = n) (b0 o0 c : Nat) (s : V4 × Int) (i : Nat) (u : V4) (bv ba bl : Nat) (w : World) (hi : i < n) (hat : s.2 < n)
    (ho : Old w (feet [.blk bv (encV s.1) 24, .blk ba [.int .i64 s.2] 3, .blk bl [.slice (some ⟨b0, o0, none⟩) n c] 98]) b0 o0 7 (ps.map InfoV.enc))
    (hw : St w (feet [.blk bv (encV s.1) 24, .blk ba [.int .i64 s.2] 3, .blk bl [.slice (some ⟨b0, o0, none⟩) n c] 98]) [.blk bv (encV s.1) 24, .blk ba [.int .i64 s.2] 3, .blk bl [.slice (some ⟨b0, o0, none⟩) n c] 98] w) :
    FnX Try.prog 97 [.int .i64 i, .agg ⟨encV u⟩, .pointer (some ⟨bv, 0, none⟩), .pointer (some ⟨ba, 0, none⟩), .pointer (some ⟨bl, 0, none⟩)] [.blk bv (encV s.1) 24, .blk ba [.int .i64 s.2] 3, .blk bl [.slice (some ⟨b0, o0, none⟩) n c] 98] (fun _ : Unit => True) (fun _ => .tuple ⟨[]⟩)
      (fun _ => [.blk bv (encV (tryV ps s i u).1) 24, .blk ba [.int .i64 (tryV ps s i u).2] 3, .blk bl [.slice (some ⟨b0, o0, none⟩) n c] 98]) w := by
  subst hn
  refine funcR_x tyOk wide Try.func97 ok_tryF (Nat.le_of_ble_eq_true rfl) hw ?_
  obtain ⟨v, at_⟩ := s
  have ha : at_.toNat < ps.length := by dsimp only at hat; omega
  obtain ⟨x, hx⟩ : ∃ x, ps[i] = x := ⟨_, rfl⟩
  obtain ⟨y, hy⟩ : ∃ y, ps[at_.toNat] = y := ⟨_, rfl⟩
  have g1 : (ps.map InfoV.enc)[i]? = some x.enc := by rw [← hx]; exact mapGet hi
  have g2 : (ps.map InfoV.enc)[at_.toNat]? = some y.enc := by rw [← hy]; exact mapGet ha
  have e1 : idAt ps i = x.Id := by unfold idAt; rw [Int.toNat_natCast, List.getElem?_eq_getElem hi, hx]; rfl
  have e2 : idAt ps at_ = y.Id := by unfold idAt; rw [List.getElem?_eq_getElem ha, hy]; rfl
  repeat' first
    | (conv => whnf
       first
       | intro _
       | (first | refine selSplit (fun h => ?_) (fun h => ?_) | refine condSplit (fun h => ?_) (fun h => ?_)) <;> first | exact (clash (by assumption) h).elim | exact (clash h (by assumption)).elim | (simp only [decide_eq_true_eq, decide_eq_false_iff_not, Bool.not_eq_true', Bool.not_eq_false', Bool.not_true, Bool.not_false, Bool.or_eq_true, Bool.and_eq_true, Bool.or_eq_false_iff, Bool.and_eq_false_iff, beq_iff_eq, beq_eq_false_iff_ne, ne_eq] at h; first | (exfalso; omega) | skip) | skip
       | (first | refine drM (.quiet 0 (.quiet 1 (.quiet 2 (.quiet 3 (.quiet 4 (.quiet 5 (.quiet 6 (.quiet 7 (.quiet 8 (.quiet 9 (.quiet 10 (.quiet 11 (.quiet 12 (.quiet 13 (.quiet 14 (.quiet 15 (.quiet 16 (.quiet 17 (.quiet 18 (.quiet 19 (.quiet 20 (.quiet 21 (.quiet 22 .done))))))))))))))))))))))) (SubL.refl _) ?_)
       | refine AltP.mk ?_ ?_
       | refine kpM ?_
       | refine SeqP.go ?_
       | refine CondR.split ?_
       | exact IsV.mk
       | apply GuardP.mk
       | ((first | apply callPure' en_vCompare | apply callQuiet' en_vCompare); · exact fun w _ => vCompare4 _ _ w)
       | (first | refine eqlW eqS24 rfl rfl rfl fitM fitM ?_ | refine neqW eqS24 rfl rfl rfl fitM fitM ?_)
       | refine Or.inl ⟨_, _, hasM, ?_⟩
       | refine Or.inl ⟨_, _, _, holeM, rfl, rfl, ?_⟩
       | refine lA ?_
       | refine lA0 ?_
       | refine lA1 ?_
       | refine lO ?_
       | refine lO0 ?_
       | refine lO1 ?_
       | refine lR ?_
       | refine lG ?_
       | refine lG0 ?_
       | refine tA ?_
       | refine tA0 ?_
       | refine tA1 ?_
       | refine BytW.ofBlk hasM rfl rfl ?_
       | refine AppW.noneB hasM leM rfl rfl rfl leM leM ?_
       | refine AppW.rowB hasM leM rfl rfl holeM leM leM ?_
       | refine AppW.blkB hasM leM rfl rfl holeM rfl rfl leM leM ?_
       | refine AppW.rowS hasM leM rfl rfl holeM (by omega) leM ?_
       | refine AppW.arrS hasM leM rfl rfl rfl holeM (by first | omega | (simp; omega)) leM ?_
       | refine ⟨sideM, ?_⟩
       | fail)
  all_goals (try conv => whnf)
  all_goals first
    | (have e : tryV ps (v, at_) i u = (u, (i : Int)) := by (unfold tryV; rw [if_pos (by rw [e1, e2]; grind)])
       rw [e]
       exact EndX.mk () trivial rfl entM)
    | (have e : tryV ps (v, at_) i u = (v, at_) := by (unfold tryV; rw [if_neg (by rw [e1, e2]; grind)])
       rw [e]
       exact EndX.mk () trivial rfl entM)
def bestF (bridge : Int) (ps : List InfoV) (s : V4 × Int) (k : Nat) (p : InfoV) : V4 × Int := if p.Source = 3 ∧ ownV p.v4 bridge = false then tryV ps s k (raiseV p.v4 p.Cost) else s
def bestK (bridge : Int) (ps : List InfoV) : Nat → V4 × Int
  | 0 => (mineV bridge, -1)
  | k + 1 => match ps[k]? with
    | some p => bestF bridge ps (bestK bridge ps k) k p
    | none => bestK bridge ps k
def bestV (bridge : Int) (ps : List InfoV) : V4 × Int := bestK bridge ps ps.length
theorem bestK_at (bridge : Int) (ps : List InfoV) : ∀ k, -1 ≤ (bestK bridge ps k).2 ∧ (bestK bridge ps k).2 < k
  | 0 => by simp [bestK]
  | k + 1 => by
    have ih := bestK_at bridge ps k
    unfold bestK
    split
    · unfold bestF tryV
      split
      · split
        · push_cast; constructor <;> omega
        · push_cast; omega
      · push_cast; omega
    · push_cast; omega
theorem bestK_succ {bridge : Int} {ps : List InfoV} {k : Nat} {p : InfoV} (h : ps[k]? = some p) : bestK bridge ps (k + 1) = bestF bridge ps (bestK bridge ps k) k p := by conv => lhs; unfold bestK; rw [h]
theorem ok_best : (match Try.f88.body with | some c => codeOk Try.f88.ntmps c | none => false) = true := by kernel_rfl
theorem en_best : ∃ fn, Try.prog.funcs[88]? = some fn ∧ (fn.name == "runtime.NumGoroutine") = false ∧ fn.body.isNone = false := ⟨_, Try.func88, by kernel_rfl, by kernel_rfl⟩
theorem best_w (bridge : Int) (ps : List InfoV) (n : Nat) (hn : ps.length = n) (A : Option Addr) (c : Nat) (w : World) (hs : SlAt w A 7 (ps.map InfoV.enc)) (hl : n ≤ 1000) : PuAt Try.prog 88 [.int .u64 bridge, .slice A n c] (.tuple ⟨[.agg ⟨encV (bestV bridge ps).1⟩, .int .i64 (bestV bridge ps).2]⟩) w := by
  subst hn
  refine funcR_pure tyOk wide Try.func88 ok_best (Nat.le_of_ble_eq_true rfl) ?_
  repeat' first
    | (conv => whnf
       first
       | intro _
       | (first | refine selSplit (fun h => ?_) (fun h => ?_) | refine condSplit (fun h => ?_) (fun h => ?_)) <;> first | exact (clash (by assumption) h).elim | exact (clash h (by assumption)).elim | (simp only [decide_eq_true_eq, decide_eq_false_iff_not, Bool.not_eq_true', Bool.not_eq_false', Bool.not_true, Bool.not_false, Bool.or_eq_true, Bool.and_eq_true, Bool.or_eq_false_iff, Bool.and_eq_false_iff, beq_iff_eq, beq_eq_false_iff_ne, ne_eq] at h; first | (exfalso; omega) | skip) | skip
       | (first | refine drM (.quiet 0 (.quiet 1 (.last 2 true (.last 3 false .done)))) (SubL.of (List.Sublist.cons _ (List.Sublist.refl _))) ?_)
       | refine AltP.mk ?_ ?_
       | refine kpM ?_
       | refine SeqP.go ?_
       | refine cdM ?_
       | exact IsV.mk
       | apply GuardP.mk
       | ((first | apply callPure' en_Mine | apply callQuiet' en_Mine); · exact fun w _ => Mine_w bridge w)
       | (first | refine eqlW eqS24 rfl rfl rfl fitM fitM ?_ | refine neqW eqS24 rfl rfl rfl fitM fitM ?_)
       | refine Or.inl ⟨_, _, hasM, ?_⟩
       | refine Or.inl ⟨_, _, _, holeM, rfl, rfl, ?_⟩
       | refine lA ?_
       | refine lA0 ?_
       | refine lA1 ?_
       | refine lO ?_
       | refine lO0 ?_
       | refine lO1 ?_
       | refine lR ?_
       | refine lG ?_
       | refine lG0 ?_
       | refine tA ?_
       | refine tA0 ?_
       | refine tA1 ?_
       | refine BytW.ofBlk hasM rfl rfl ?_
       | refine AppW.noneB hasM leM rfl rfl rfl leM leM ?_
       | refine AppW.rowB hasM leM rfl rfl holeM leM leM ?_
       | refine AppW.blkB hasM leM rfl rfl holeM rfl rfl leM leM ?_
       | refine AppW.rowS hasM leM rfl rfl holeM (by omega) leM ?_
       | refine AppW.arrS hasM leM rfl rfl rfl holeM (by first | omega | (simp; omega)) leM ?_
       | refine ⟨sideM, ?_⟩
       | fail)
  all_goals (try conv => whnf)
  rename_i b3 b4 b6 b7
  refine .mk Nat (fun k S H => k ≤ ps.length ∧ S = [(16, .int .i64 k), (15, .int .i64 ps.length), (14, .slice A ps.length c), (8, .func (.func 97) #[] #[.pointer (some ⟨b6, 0, none⟩), .pointer (some ⟨b7, 0, none⟩), .pointer (some ⟨b3, 0, none⟩)]), (7, .pointer (some ⟨b7, 0, none⟩)), (6, .pointer (some ⟨b6, 0, none⟩)), (4, .pointer (some ⟨b4, 0, none⟩)), (0, .int .u64 bridge)] ∧ H = [.blk b6 (encV (bestK bridge ps k).1) 24, .blk b7 [.int .i64 (bestK bridge ps k).2] 3, .blk b3 [.slice A ps.length c] 98, .blk b4 td24.zero 24]) (fun k => ps.length - k) 0 _ _ ⟨by omega, rfl, rfl⟩ subM entM ?_
  rintro k S1 H1 ⟨hk, rfl, rfl⟩
  by_cases hk2 : k < ps.length
  · obtain ⟨b, o, e, _⟩ := hs.at_ (by simp; omega)
    subst e
    have hp : 0 < (ps.map InfoV.enc).length := by simp; omega
    have o1 := hs.old (X := []) hp (by simp)
    have hlt := hs.lt hp (by decide)
    obtain ⟨x, hx⟩ : ∃ x, ps[k] = x := ⟨_, rfl⟩
    have g1 : (ps.map InfoV.enc)[k]? = some x.enc := by rw [← hx]; exact mapGet hk2
    have hK : bestK bridge ps (k + 1) = bestF bridge ps (bestK bridge ps k) k x := bestK_succ (by rw [List.getElem?_eq_getElem hk2, hx])
    have hat := (bestK_at bridge ps k).2
    generalize bestK bridge ps k = s at *
    repeat' first
      | (conv => whnf
         first
         | intro _
         | (first | refine selSplit (fun h => ?_) (fun h => ?_) | refine condSplit (fun h => ?_) (fun h => ?_)) <;> first | exact (clash (by assumption) h).elim | exact (clash h (by assumption)).elim | (simp only [decide_eq_true_eq, decide_eq_false_iff_not, Bool.not_eq_true', Bool.not_eq_false', Bool.not_true, Bool.not_false, Bool.or_eq_true, Bool.and_eq_true, Bool.or_eq_false_iff, Bool.and_eq_false_iff, beq_iff_eq, beq_eq_false_iff_ne, ne_eq] at h; first | (exfalso; omega) | skip) | skip
         | (first | refine drM (.quiet 0 (.quiet 1 (.last 2 true (.last 3 false .done)))) (SubL.of (List.Sublist.cons _ (List.Sublist.refl _))) ?_)
         | refine AltP.mk ?_ ?_
         | refine kpM ?_
         | refine SeqP.go ?_
         | refine cdM ?_
         | exact IsV.mk
         | apply GuardP.mk
         | ((first | apply callPure' en_own | apply callQuiet' en_own); · exact fun w _ => own_w x.v4 bridge w)
         | ((first | apply callPure' en_Raise | apply callQuiet' en_Raise); · exact fun w _ => Raise4 x.v4 x.Cost w)
         | (refine callX takeM en_tryF (fun w hw => tryF_w ps _ rfl b o c s k (raiseV x.v4 x.Cost) _ _ _ w hk2 (by omega) ((hs.later hw).old hp (hw.fresh takeM hlt)) (hw.sub2 takeM)) ?_)
         | (first | refine eqlW eqS24 rfl rfl rfl fitM fitM ?_ | refine neqW eqS24 rfl rfl rfl fitM fitM ?_)
         | refine Or.inl ⟨_, _, hasM, ?_⟩
         | refine Or.inl ⟨_, _, _, holeM, rfl, rfl, ?_⟩
         | refine lA ?_
         | refine lA0 ?_
         | refine lA1 ?_
         | refine lO ?_
         | refine lO0 ?_
         | refine lO1 ?_
         | refine lR ?_
         | refine lG ?_
         | refine lG0 ?_
         | refine tA ?_
         | refine tA0 ?_
         | refine tA1 ?_
         | refine BytW.ofBlk hasM rfl rfl ?_
         | refine AppW.noneB hasM leM rfl rfl rfl leM leM ?_
         | refine AppW.rowB hasM leM rfl rfl holeM leM leM ?_
         | refine AppW.blkB hasM leM rfl rfl holeM rfl rfl leM leM ?_
         | refine AppW.rowS hasM leM rfl rfl holeM (by omega) leM ?_
         | refine AppW.arrS hasM leM rfl rfl rfl holeM (by first | omega | (simp; omega)) leM ?_
         | refine ⟨sideM, ?_⟩
         | fail)
    all_goals (try conv => whnf)
    all_goals first
      | (exfalso; omega)
      | (have e : bestF bridge ps s k x = tryV ps s k (raiseV x.v4 x.Cost) := by (unfold bestF; rw [if_pos (by assumption)])
         exact .mk (k + 1) _ _ (by omega) ⟨hk2, rfl, rfl⟩ subM (by rw [hK, e]; exact entM))
      | (have e : bestF bridge ps s k x = s := by (unfold bestF; rw [if_neg (by grind)])
         exact .mk (k + 1) _ _ (by omega) ⟨hk2, rfl, rfl⟩ subM (by rw [hK, e]; exact entM))
  · have e : bestK bridge ps k = bestV bridge ps := by (have : k = ps.length := by omega); subst this; rfl
    rw [e]
    repeat' first
      | (conv => whnf
         first
         | intro _
         | (first | refine selSplit (fun h => ?_) (fun h => ?_) | refine condSplit (fun h => ?_) (fun h => ?_)) <;> first | exact (clash (by assumption) h).elim | exact (clash h (by assumption)).elim | (simp only [decide_eq_true_eq, decide_eq_false_iff_not, Bool.not_eq_true', Bool.not_eq_false', Bool.not_true, Bool.not_false, Bool.or_eq_true, Bool.and_eq_true, Bool.or_eq_false_iff, Bool.and_eq_false_iff, beq_iff_eq, beq_eq_false_iff_ne, ne_eq] at h; first | (exfalso; omega) | skip) | skip
         | (first | refine drM (.quiet 0 (.quiet 1 (.last 2 true (.last 3 false .done)))) (SubL.of (List.Sublist.cons_cons _ (List.Sublist.cons_cons _ (List.Sublist.cons_cons _ (List.Sublist.cons _ (List.Sublist.refl _)))))) ?_)
         | refine AltP.mk ?_ ?_
         | refine kpM ?_
         | refine SeqP.go ?_
         | refine cdM ?_
         | exact IsV.mk
         | apply GuardP.mk
         | (first | refine eqlW eqS24 rfl rfl rfl fitM fitM ?_ | refine neqW eqS24 rfl rfl rfl fitM fitM ?_)
         | refine Or.inl ⟨_, _, hasM, ?_⟩
         | refine Or.inl ⟨_, _, _, holeM, rfl, rfl, ?_⟩
         | refine lA ?_
         | refine lA0 ?_
         | refine lA1 ?_
         | refine lO ?_
         | refine lO0 ?_
         | refine lO1 ?_
         | refine lR ?_
         | refine lG ?_
         | refine lG0 ?_
         | refine tA ?_
         | refine tA0 ?_
         | refine tA1 ?_
         | refine BytW.ofBlk hasM rfl rfl ?_
         | refine AppW.noneB hasM leM rfl rfl rfl leM leM ?_
         | refine AppW.rowB hasM leM rfl rfl holeM leM leM ?_
         | refine AppW.blkB hasM leM rfl rfl holeM rfl rfl leM leM ?_
         | refine AppW.rowS hasM leM rfl rfl holeM (by omega) leM ?_
         | refine AppW.arrS hasM leM rfl rfl rfl holeM (by first | omega | (simp; omega)) leM ?_
         | refine ⟨sideM, ?_⟩
         | fail)
    all_goals (try conv => whnf)
    all_goals first
      | (exfalso; omega)
      | rfl
end Go.Proofs.Ytmgoahmbdpoikaa.Am
