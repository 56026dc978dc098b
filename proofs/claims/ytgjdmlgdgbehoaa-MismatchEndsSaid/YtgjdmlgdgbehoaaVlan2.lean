/- Packages vlanport, treebridgeref06: of which VLAN a frame is, how it goes out. -/
import Derived.Test.YtgjdmlgdgbehoaaVlan
set_option linter.unusedVariables false
set_option linter.unusedSimpArgs false
set_option maxRecDepth 100000
set_option maxHeartbeats 4000000
namespace Go.Proofs.Ytgjdmlgdgbehoaa.Am
open Go Go.RowKit
def vHasB (t : Bool) (n : Int) (l : List Int) (v : Int) : Bool := vRightB t n l && ((t && decide (v ∈ l)) || (!t && decide (v = n)))
theorem ok_vHas : (match Try.f35.body with | some c => codeOk Try.f35.ntmps c | none => false) = true := by kernel_rfl
theorem en_vHas : ∃ fn, Try.prog.funcs[35]? = some fn ∧ (fn.name == "runtime.NumGoroutine") = false ∧ fn.body.isNone = false := ⟨_, Try.func35, by kernel_rfl, by kernel_rfl⟩
theorem vHas_w (t : Bool) (n : Int) (l : List Int) (v : Int) (A : Option Addr) (c : Nat) (w : World) (hs : SlAt w A 1 (ints l)) (hl : l.length ≤ 1000) : PuAt Try.prog 35 [.agg ⟨[.bool t, .int .i64 n, .slice A l.length c]⟩, .int .i64 v] (.bool (vHasB t n l v)) w := by
  refine funcR_pure tyOk wide Try.func35 ok_vHas (Nat.le_of_ble_eq_true rfl) ?_
  repeat' first
    | (conv => whnf
       first
       | intro _
       | (first | refine selSplit (fun h => ?_) (fun h => ?_) | refine condSplit (fun h => ?_) (fun h => ?_)) <;> first | exact (clash (by assumption) h).elim | exact (clash h (by assumption)).elim | (simp only [decide_eq_true_eq, decide_eq_false_iff_not, Bool.not_eq_true', Bool.not_eq_false', Bool.not_true, Bool.not_false, Bool.or_eq_true, Bool.and_eq_true, Bool.or_eq_false_iff, Bool.and_eq_false_iff, beq_iff_eq, beq_eq_false_iff_ne, ne_eq] at h; first | (exfalso; omega) | skip) | skip
       | refine SeqP.go ?_
       | refine cdM ?_
       | exact IsV.mk
       | apply GuardP.mk
       | ((first | apply callPure' en_vRight | apply callQuiet' en_vRight); · exact fun w hw => vRight_w t n l A c w (hs.later hw) hl)
       | ((first | apply callPure' en_sContains | apply callQuiet' en_sContains); · exact fun w hw => sContains_w l v A _ c rfl w (hs.later hw) (by omega))
       | (first | refine eqlW eqS50 rfl rfl rfl fitM fitM ?_ | refine neqW eqS50 rfl rfl rfl fitM fitM ?_)
       | refine Or.inl ⟨_, _, hasM, ?_⟩
       | refine Or.inl ⟨_, _, _, holeM, rfl, rfl, ?_⟩
       | refine lA ?_
       | refine lA0 ?_
       | refine lA1 ?_
       | refine lO ?_
       | refine lO0 ?_
       | refine lO1 ?_
       | refine lR ?_
       | refine lG ?_
       | refine lG0 ?_
       | refine tA ?_
       | refine tA0 ?_
       | refine tA1 ?_
       | refine BytW.ofBlk hasM rfl rfl ?_
       | refine AppW.noneB hasM leM rfl rfl rfl leM leM ?_
       | refine AppW.rowB hasM leM rfl rfl holeM leM leM ?_
       | refine AppW.blkB hasM leM rfl rfl holeM rfl rfl leM leM ?_
       | refine AppW.rowS hasM leM rfl rfl holeM (by omega) leM ?_
       | refine AppW.arrS hasM leM rfl rfl rfl holeM (by first | omega | (simp; omega)) leM ?_
       | refine ⟨sideM, ?_⟩
       | fail)
  all_goals (try conv => whnf)
  all_goals rfl
theorem ok_has6 : (match Try.f36.body with | some c => codeOk Try.f36.ntmps c | none => false) = true := by kernel_rfl
theorem en_has6 : ∃ fn, Try.prog.funcs[36]? = some fn ∧ (fn.name == "runtime.NumGoroutine") = false ∧ fn.body.isNone = false := ⟨_, Try.func36, by kernel_rfl, by kernel_rfl⟩
theorem has6_w (t : Bool) (n : Int) (l : List Int) (v : Int) (A : Option Addr) (c : Nat) (w : World) (hs : SlAt w A 1 (ints l)) (hl : l.length ≤ 1000) : PuAt Try.prog 36 [.agg ⟨[.bool t, .int .i64 n, .slice A l.length c]⟩, .int .i64 v] (.bool (vHasB t n l v)) w := by
  refine funcR_pure tyOk wide Try.func36 ok_has6 (Nat.le_of_ble_eq_true rfl) ?_
  repeat' first
    | (conv => whnf
       first
       | intro _
       | (first | refine selSplit (fun h => ?_) (fun h => ?_) | refine condSplit (fun h => ?_) (fun h => ?_)) <;> first | exact (clash (by assumption) h).elim | exact (clash h (by assumption)).elim | (simp only [decide_eq_true_eq, decide_eq_false_iff_not, Bool.not_eq_true', Bool.not_eq_false', Bool.not_true, Bool.not_false, Bool.or_eq_true, Bool.and_eq_true, Bool.or_eq_false_iff, Bool.and_eq_false_iff, beq_iff_eq, beq_eq_false_iff_ne, ne_eq] at h; first | (exfalso; omega) | skip) | skip
       | refine SeqP.go ?_
       | refine cdM ?_
       | exact IsV.mk
       | apply GuardP.mk
       | ((first | apply callPure' en_right6 | apply callQuiet' en_right6); · exact fun w hw => right6_w t n l A c w (hs.later hw) hl)
       | (first | refine eqlW eqS50 rfl rfl rfl fitM fitM ?_ | refine neqW eqS50 rfl rfl rfl fitM fitM ?_)
       | refine Or.inl ⟨_, _, hasM, ?_⟩
       | refine Or.inl ⟨_, _, _, holeM, rfl, rfl, ?_⟩
       | refine lA ?_
       | refine lA0 ?_
       | refine lA1 ?_
       | refine lO ?_
       | refine lO0 ?_
       | refine lO1 ?_
       | refine lR ?_
       | refine lG ?_
       | refine lG0 ?_
       | refine tA ?_
       | refine tA0 ?_
       | refine tA1 ?_
       | refine BytW.ofBlk hasM rfl rfl ?_
       | refine AppW.noneB hasM leM rfl rfl rfl leM leM ?_
       | refine AppW.rowB hasM leM rfl rfl holeM leM leM ?_
       | refine AppW.blkB hasM leM rfl rfl holeM rfl rfl leM leM ?_
       | refine AppW.rowS hasM leM rfl rfl holeM (by omega) leM ?_
       | refine AppW.arrS hasM leM rfl rfl rfl holeM (by first | omega | (simp; omega)) leM ?_
       | refine ⟨sideM, ?_⟩
       | fail)
  all_goals (try conv => whnf)
  · refine v_bool ?_; unfold vHasB; rw [h]; rfl
  · refine v_bool ?_
    have hR : vRightB t n l = true := by assumption
    unfold vHasB; rw [hR, h]; simp
  · rename_i b2 _
    have hR : vRightB t n l = true := by assumption
    have ht : t = true := h
    clear h
    refine .mk Nat (fun k S H => (k ≤ l.length ∧ ∀ (a : Nat), a < k → l[a]? ≠ some v) ∧ S = [(5, .int .i64 k), (2, .pointer (some ⟨b2, 0, none⟩)), (1, .int .i64 v)] ∧ H = [.blk b2 [.bool t, .int .i64 n, .slice A l.length c] 52]) (fun k => l.length - k) 0 _ _ ⟨⟨by omega, fun a ha => absurd ha (by omega)⟩, rfl, rfl⟩ subM entM ?_
    rintro k S1 H1 ⟨⟨hk, he⟩, rfl, rfl⟩
    by_cases hk2 : k < l.length
    · obtain ⟨b, o, e, _⟩ := hs.at_ (by rw [ints_len]; omega)
      subst e
      have o1 := hs.old (X := []) (by rw [ints_len]; omega) (by simp)
      obtain ⟨x, hx⟩ : ∃ x, l[k]? = some x := ⟨l[k], List.getElem?_eq_getElem hk2⟩
      have y1 := ints_at hx
      repeat' first
        | (conv => whnf
           first
           | intro _
           | (first | refine selSplit (fun h => ?_) (fun h => ?_) | refine condSplit (fun h => ?_) (fun h => ?_)) <;> first | exact (clash (by assumption) h).elim | exact (clash h (by assumption)).elim | (simp only [decide_eq_true_eq, decide_eq_false_iff_not, Bool.not_eq_true', Bool.not_eq_false', Bool.not_true, Bool.not_false, Bool.or_eq_true, Bool.and_eq_true, Bool.or_eq_false_iff, Bool.and_eq_false_iff, beq_iff_eq, beq_eq_false_iff_ne, ne_eq] at h; first | (exfalso; omega) | skip) | skip
           | refine SeqP.go ?_
           | refine cdM ?_
           | exact IsV.mk
           | apply GuardP.mk
           | (first | refine eqlW eqS50 rfl rfl rfl fitM fitM ?_ | refine neqW eqS50 rfl rfl rfl fitM fitM ?_)
           | refine Or.inl ⟨_, _, hasM, ?_⟩
           | refine Or.inl ⟨_, _, _, holeM, rfl, rfl, ?_⟩
           | refine lA ?_
           | refine lA0 ?_
           | refine lA1 ?_
           | refine lO ?_
           | refine lO0 ?_
           | refine lO1 ?_
           | refine lR ?_
           | refine lG ?_
           | refine lG0 ?_
           | refine tA ?_
           | refine tA0 ?_
           | refine tA1 ?_
           | refine BytW.ofBlk hasM rfl rfl ?_
           | refine AppW.noneB hasM leM rfl rfl rfl leM leM ?_
           | refine AppW.rowB hasM leM rfl rfl holeM leM leM ?_
           | refine AppW.blkB hasM leM rfl rfl holeM rfl rfl leM leM ?_
           | refine AppW.rowS hasM leM rfl rfl holeM (by omega) leM ?_
           | refine AppW.arrS hasM leM rfl rfl rfl holeM (by first | omega | (simp; omega)) leM ?_
           | refine ⟨sideM, ?_⟩
           | fail)
      all_goals (try conv => whnf)
      · refine v_bool ?_
        have hm : v ∈ l := List.mem_of_getElem? (by rw [hx, ← h]; try exact h)
        unfold vHasB; rw [hR, ht, decide_eq_true hm]; rfl
      · exact .mk (k + 1) _ _ (by omega) ⟨⟨hk2, fun a ha hz => by
          by_cases g : a = k
          · subst g; rw [hx] at hz; cases hz; exact absurd rfl h
          · exact he a (by omega) hz⟩, rfl, rfl⟩ subM entM
    · have hm : v ∉ l := fun q => by
        obtain ⟨a, ha⟩ := List.getElem?_of_mem q
        exact he a (by have := (List.getElem?_eq_some_iff.1 ha).1; omega) ha
      have hf : vHasB t n l v = false := by unfold vHasB; rw [hR, ht, decide_eq_false hm]; rfl
      repeat' first
        | (conv => whnf
           first
           | intro _
           | (first | refine selSplit (fun h => ?_) (fun h => ?_) | refine condSplit (fun h => ?_) (fun h => ?_)) <;> first | exact (clash (by assumption) h).elim | exact (clash h (by assumption)).elim | (simp only [decide_eq_true_eq, decide_eq_false_iff_not, Bool.not_eq_true', Bool.not_eq_false', Bool.not_true, Bool.not_false, Bool.or_eq_true, Bool.and_eq_true, Bool.or_eq_false_iff, Bool.and_eq_false_iff, beq_iff_eq, beq_eq_false_iff_ne, ne_eq] at h; first | (exfalso; omega) | skip) | skip
           | refine SeqP.go ?_
           | refine cdM ?_
           | exact IsV.mk
           | apply GuardP.mk
           | (first | refine eqlW eqS50 rfl rfl rfl fitM fitM ?_ | refine neqW eqS50 rfl rfl rfl fitM fitM ?_)
           | refine Or.inl ⟨_, _, hasM, ?_⟩
           | refine Or.inl ⟨_, _, _, holeM, rfl, rfl, ?_⟩
           | refine lA ?_
           | refine lA0 ?_
           | refine lA1 ?_
           | refine lO ?_
           | refine lO0 ?_
           | refine lO1 ?_
           | refine lR ?_
           | refine lG ?_
           | refine lG0 ?_
           | refine tA ?_
           | refine tA0 ?_
           | refine tA1 ?_
           | refine BytW.ofBlk hasM rfl rfl ?_
           | refine AppW.noneB hasM leM rfl rfl rfl leM leM ?_
           | refine AppW.rowB hasM leM rfl rfl holeM leM leM ?_
           | refine AppW.blkB hasM leM rfl rfl holeM rfl rfl leM leM ?_
           | refine AppW.rowS hasM leM rfl rfl holeM (by omega) leM ?_
           | refine AppW.arrS hasM leM rfl rfl rfl holeM (by first | omega | (simp; omega)) leM ?_
           | refine ⟨sideM, ?_⟩
           | fail)
      all_goals (try conv => whnf)
      all_goals first
        | (exfalso; omega)
        | (refine v_bool ?_; rw [hf])
def vInV (t : Bool) (n : Int) (l : List Int) (f : FrameV) : Int × Int :=
  if vRightB t n l = false ∨ fRightB f = false then (0, 2) else if ¬ f.Vlan = 0 ∧ t = false then (0, 5)
  else if vHasB t n l (if f.Vlan = 0 then n else f.Vlan) = false then (0, 5) else (if f.Vlan = 0 then n else f.Vlan, 0)
theorem ok_vIn : (match Try.f29.body with | some c => codeOk Try.f29.ntmps c | none => false) = true := by kernel_rfl
theorem en_vIn : ∃ fn, Try.prog.funcs[29]? = some fn ∧ (fn.name == "runtime.NumGoroutine") = false ∧ fn.body.isNone = false := ⟨_, Try.func29, by kernel_rfl, by kernel_rfl⟩
theorem vIn_w (t : Bool) (n : Int) (l : List Int) (f : FrameV) (A : Option Addr) (c : Nat) (w : World) (hs : SlAt w A 1 (ints l)) (hl : l.length ≤ 1000) : PuAt Try.prog 29 [.agg ⟨[.bool t, .int .i64 n, .slice A l.length c]⟩, .agg ⟨f.enc⟩] (.tuple ⟨[.int .i64 (vInV t n l f).1, .int .i64 (vInV t n l f).2]⟩) w := by
  refine funcR_pure tyOk wide Try.func29 ok_vIn (Nat.le_of_ble_eq_true rfl) ?_
  repeat' first
    | (conv => whnf
       first
       | intro _
       | (first | refine selSplit (fun h => ?_) (fun h => ?_) | refine condSplit (fun h => ?_) (fun h => ?_)) <;> first | exact (clash (by assumption) h).elim | exact (clash h (by assumption)).elim | (simp only [decide_eq_true_eq, decide_eq_false_iff_not, Bool.not_eq_true', Bool.not_eq_false', Bool.not_true, Bool.not_false, Bool.or_eq_true, Bool.and_eq_true, Bool.or_eq_false_iff, Bool.and_eq_false_iff, beq_iff_eq, beq_eq_false_iff_ne, ne_eq] at h; first | (exfalso; omega) | skip) | skip
       | refine SeqP.go ?_
       | refine cdM ?_
       | exact IsV.mk
       | apply GuardP.mk
       | ((first | apply callPure' en_vRight | apply callQuiet' en_vRight); · exact fun w hw => vRight_w t n l A c w (hs.later hw) hl)
       | ((first | apply callPure' en_fRight | apply callQuiet' en_fRight); · exact fun w _ => fRight_w f w)
       | ((first | apply callPure' en_vHas | apply callQuiet' en_vHas); · exact fun w hw => vHas_w t n l n A c w (hs.later hw) hl)
       | ((first | apply callPure' en_vHas | apply callQuiet' en_vHas); · exact fun w hw => vHas_w t n l f.Vlan A c w (hs.later hw) hl)
       | (first | refine eqlW eqS50 rfl rfl rfl fitM fitM ?_ | refine neqW eqS50 rfl rfl rfl fitM fitM ?_)
       | refine Or.inl ⟨_, _, hasM, ?_⟩
       | refine Or.inl ⟨_, _, _, holeM, rfl, rfl, ?_⟩
       | refine lA ?_
       | refine lA0 ?_
       | refine lA1 ?_
       | refine lO ?_
       | refine lO0 ?_
       | refine lO1 ?_
       | refine lR ?_
       | refine lG ?_
       | refine lG0 ?_
       | refine tA ?_
       | refine tA0 ?_
       | refine tA1 ?_
       | refine BytW.ofBlk hasM rfl rfl ?_
       | refine AppW.noneB hasM leM rfl rfl rfl leM leM ?_
       | refine AppW.rowB hasM leM rfl rfl holeM leM leM ?_
       | refine AppW.blkB hasM leM rfl rfl holeM rfl rfl leM leM ?_
       | refine AppW.rowS hasM leM rfl rfl holeM (by omega) leM ?_
       | refine AppW.arrS hasM leM rfl rfl rfl holeM (by first | omega | (simp; omega)) leM ?_
       | refine ⟨sideM, ?_⟩
       | fail)
  all_goals (try conv => whnf)
  all_goals (unfold vInV; (repeat (first | rw [if_pos (by first | assumption | grind | decide)] | rw [if_neg (by first | assumption | grind | decide)])); try rfl)
theorem ok_in6f : (match Try.f30.body with | some c => codeOk Try.f30.ntmps c | none => false) = true := by kernel_rfl
theorem en_in6f : ∃ fn, Try.prog.funcs[30]? = some fn ∧ (fn.name == "runtime.NumGoroutine") = false ∧ fn.body.isNone = false := ⟨_, Try.func30, by kernel_rfl, by kernel_rfl⟩
theorem in6f_w (t : Bool) (n : Int) (l : List Int) (f : FrameV) (A : Option Addr) (c : Nat) (w : World) (hs : SlAt w A 1 (ints l)) (hl : l.length ≤ 1000) : PuAt Try.prog 30 [.agg ⟨[.bool t, .int .i64 n, .slice A l.length c]⟩, .agg ⟨f.enc⟩] (.tuple ⟨[.int .i64 (vInV t n l f).1, .int .i64 (vInV t n l f).2]⟩) w := by
  refine funcR_pure tyOk wide Try.func30 ok_in6f (Nat.le_of_ble_eq_true rfl) ?_
  repeat' first
    | (conv => whnf
       first
       | intro _
       | (first | refine selSplit (fun h => ?_) (fun h => ?_) | refine condSplit (fun h => ?_) (fun h => ?_)) <;> first | exact (clash (by assumption) h).elim | exact (clash h (by assumption)).elim | (simp only [decide_eq_true_eq, decide_eq_false_iff_not, Bool.not_eq_true', Bool.not_eq_false', Bool.not_true, Bool.not_false, Bool.or_eq_true, Bool.and_eq_true, Bool.or_eq_false_iff, Bool.and_eq_false_iff, beq_iff_eq, beq_eq_false_iff_ne, ne_eq] at h; first | (exfalso; omega) | skip) | skip
       | refine SeqP.go ?_
       | refine cdM ?_
       | exact IsV.mk
       | apply GuardP.mk
       | ((first | apply callPure' en_right6 | apply callQuiet' en_right6); · exact fun w hw => right6_w t n l A c w (hs.later hw) hl)
       | ((first | apply callPure' en_rRight1 | apply callQuiet' en_rRight1); · exact fun w _ => rRight1_w f w)
       | ((first | apply callPure' en_has6 | apply callQuiet' en_has6); · exact fun w hw => has6_w t n l n A c w (hs.later hw) hl)
       | ((first | apply callPure' en_has6 | apply callQuiet' en_has6); · exact fun w hw => has6_w t n l f.Vlan A c w (hs.later hw) hl)
       | (first | refine eqlW eqS50 rfl rfl rfl fitM fitM ?_ | refine neqW eqS50 rfl rfl rfl fitM fitM ?_)
       | refine Or.inl ⟨_, _, hasM, ?_⟩
       | refine Or.inl ⟨_, _, _, holeM, rfl, rfl, ?_⟩
       | refine lA ?_
       | refine lA0 ?_
       | refine lA1 ?_
       | refine lO ?_
       | refine lO0 ?_
       | refine lO1 ?_
       | refine lR ?_
       | refine lG ?_
       | refine lG0 ?_
       | refine tA ?_
       | refine tA0 ?_
       | refine tA1 ?_
       | refine BytW.ofBlk hasM rfl rfl ?_
       | refine AppW.noneB hasM leM rfl rfl rfl leM leM ?_
       | refine AppW.rowB hasM leM rfl rfl holeM leM leM ?_
       | refine AppW.blkB hasM leM rfl rfl holeM rfl rfl leM leM ?_
       | refine AppW.rowS hasM leM rfl rfl holeM (by omega) leM ?_
       | refine AppW.arrS hasM leM rfl rfl rfl holeM (by first | omega | (simp; omega)) leM ?_
       | refine ⟨sideM, ?_⟩
       | fail)
  all_goals (try conv => whnf)
  all_goals (unfold vInV; (repeat (first | rw [if_pos (by first | assumption | grind | decide)] | rw [if_neg (by first | assumption | grind | decide)])); try rfl)
def vOutV (t : Bool) (n : Int) (l : List Int) (f : FrameV) (v : Int) : FrameV × Int :=
  if vRightB t n l = false ∨ fRightB f = false then (FrameV.zero, 2) else if vHasB t n l v = false then (FrameV.zero, 5)
  else if v = n then ({ f with Tagged := false, Priority := 0, Vlan := 0 }, 0) else ({ f with Tagged := true, Vlan := v }, 0)
theorem has_range {t : Bool} {n : Int} {l : List Int} {v : Int} (h : vHasB t n l v = true) : 1 ≤ v ∧ v ≤ 4094 := by
  unfold vHasB vRightB at h
  have key : ∀ x, vlanB x = true → 1 ≤ x ∧ x ≤ 4094 := by intro x hx; unfold vlanB at hx; simpa using hx
  simp only [Bool.and_eq_true, Bool.or_eq_true, decide_eq_true_eq] at h
  rcases h.2 with h2 | h2
  · exact key v ((incr_pair h.1.2).2 v h2.2)
  · rw [h2.2]; exact key n h.1.1.1.1
theorem ok_vOut : (match Try.f31.body with | some c => codeOk Try.f31.ntmps c | none => false) = true := by kernel_rfl
theorem en_vOut : ∃ fn, Try.prog.funcs[31]? = some fn ∧ (fn.name == "runtime.NumGoroutine") = false ∧ fn.body.isNone = false := ⟨_, Try.func31, by kernel_rfl, by kernel_rfl⟩
theorem vOut_w (t : Bool) (n : Int) (l : List Int) (f : FrameV) (v : Int) (A : Option Addr) (c : Nat) (w : World) (hs : SlAt w A 1 (ints l)) (hl : l.length ≤ 1000) : PuAt Try.prog 31 [.agg ⟨[.bool t, .int .i64 n, .slice A l.length c]⟩, .agg ⟨f.enc⟩, .int .i64 v] (.tuple ⟨[.agg ⟨(vOutV t n l f v).1.enc⟩, .int .i64 (vOutV t n l f v).2]⟩) w := by
  refine funcR_pure tyOk wide Try.func31 ok_vOut (Nat.le_of_ble_eq_true rfl) ?_
  have hr := has_range (t := t) (n := n) (l := l) (v := v)
  repeat' first
    | (conv => whnf
       first
       | intro _
       | (first | refine selSplit (fun h => ?_) (fun h => ?_) | refine condSplit (fun h => ?_) (fun h => ?_)) <;> first | exact (clash (by assumption) h).elim | exact (clash h (by assumption)).elim | (simp only [decide_eq_true_eq, decide_eq_false_iff_not, Bool.not_eq_true', Bool.not_eq_false', Bool.not_true, Bool.not_false, Bool.or_eq_true, Bool.and_eq_true, Bool.or_eq_false_iff, Bool.and_eq_false_iff, beq_iff_eq, beq_eq_false_iff_ne, ne_eq] at h; first | (exfalso; omega) | skip) | skip
       | refine SeqP.go ?_
       | refine cdM ?_
       | exact IsV.mk
       | apply GuardP.mk
       | ((first | apply callPure' en_vRight | apply callQuiet' en_vRight); · exact fun w hw => vRight_w t n l A c w (hs.later hw) hl)
       | ((first | apply callPure' en_fRight | apply callQuiet' en_fRight); · exact fun w _ => fRight_w f w)
       | ((first | apply callPure' en_vHas | apply callQuiet' en_vHas); · exact fun w hw => vHas_w t n l v A c w (hs.later hw) hl)
       | ((first | apply callPure' en_fWithout | apply callQuiet' en_fWithout); · exact fun w _ => fWithout_w f w)
       | ((first | apply callPure' en_fWith | apply callQuiet' en_fWith); · exact fun w _ => fWith_w f v w)
       | (first | refine eqlW eqS50 rfl rfl rfl fitM fitM ?_ | refine neqW eqS50 rfl rfl rfl fitM fitM ?_)
       | refine Or.inl ⟨_, _, hasM, ?_⟩
       | refine Or.inl ⟨_, _, _, holeM, rfl, rfl, ?_⟩
       | refine lA ?_
       | refine lA0 ?_
       | refine lA1 ?_
       | refine lO ?_
       | refine lO0 ?_
       | refine lO1 ?_
       | refine lR ?_
       | refine lG ?_
       | refine lG0 ?_
       | refine tA ?_
       | refine tA0 ?_
       | refine tA1 ?_
       | refine BytW.ofBlk hasM rfl rfl ?_
       | refine AppW.noneB hasM leM rfl rfl rfl leM leM ?_
       | refine AppW.rowB hasM leM rfl rfl holeM leM leM ?_
       | refine AppW.blkB hasM leM rfl rfl holeM rfl rfl leM leM ?_
       | refine AppW.rowS hasM leM rfl rfl holeM (by omega) leM ?_
       | refine AppW.arrS hasM leM rfl rfl rfl holeM (by first | omega | (simp; omega)) leM ?_
       | refine ⟨sideM, ?_⟩
       | fail)
  all_goals (try conv => whnf)
  · unfold vOutV; (repeat (first | rw [if_pos (by first | assumption | grind | decide)] | rw [if_neg (by first | assumption | grind | decide)])); rfl
  · unfold vOutV; (repeat (first | rw [if_pos (by first | assumption | grind | decide)] | rw [if_neg (by first | assumption | grind | decide)])); rfl
  · unfold vOutV fWithoutV; (repeat (first | rw [if_pos (by first | assumption | grind | decide)] | rw [if_neg (by first | assumption | grind | decide)])); rfl
  · have hr := hr (by assumption)
    unfold vOutV fWithV; (repeat (first | rw [if_pos (by first | assumption | grind | decide)] | rw [if_neg (by first | assumption | grind | decide)])); rfl
theorem ok_out6 : (match Try.f32.body with | some c => codeOk Try.f32.ntmps c | none => false) = true := by kernel_rfl
theorem en_out6 : ∃ fn, Try.prog.funcs[32]? = some fn ∧ (fn.name == "runtime.NumGoroutine") = false ∧ fn.body.isNone = false := ⟨_, Try.func32, by kernel_rfl, by kernel_rfl⟩
theorem out6_w (t : Bool) (n : Int) (l : List Int) (f : FrameV) (v : Int) (A : Option Addr) (c : Nat) (w : World) (hs : SlAt w A 1 (ints l)) (hl : l.length ≤ 1000) : PuAt Try.prog 32 [.agg ⟨[.bool t, .int .i64 n, .slice A l.length c]⟩, .agg ⟨f.enc⟩, .int .i64 v] (.tuple ⟨[.agg ⟨(vOutV t n l f v).1.enc⟩, .int .i64 (vOutV t n l f v).2]⟩) w := by
  refine funcR_pure tyOk wide Try.func32 ok_out6 (Nat.le_of_ble_eq_true rfl) ?_
  repeat' first
    | (conv => whnf
       first
       | intro _
       | (first | refine selSplit (fun h => ?_) (fun h => ?_) | refine condSplit (fun h => ?_) (fun h => ?_)) <;> first | exact (clash (by assumption) h).elim | exact (clash h (by assumption)).elim | (simp only [decide_eq_true_eq, decide_eq_false_iff_not, Bool.not_eq_true', Bool.not_eq_false', Bool.not_true, Bool.not_false, Bool.or_eq_true, Bool.and_eq_true, Bool.or_eq_false_iff, Bool.and_eq_false_iff, beq_iff_eq, beq_eq_false_iff_ne, ne_eq] at h; first | (exfalso; omega) | skip) | skip
       | refine SeqP.go ?_
       | refine cdM ?_
       | exact IsV.mk
       | apply GuardP.mk
       | ((first | apply callPure' en_right6 | apply callQuiet' en_right6); · exact fun w hw => right6_w t n l A c w (hs.later hw) hl)
       | ((first | apply callPure' en_rRight1 | apply callQuiet' en_rRight1); · exact fun w _ => rRight1_w f w)
       | ((first | apply callPure' en_has6 | apply callQuiet' en_has6); · exact fun w hw => has6_w t n l v A c w (hs.later hw) hl)
       | (first | refine eqlW eqS50 rfl rfl rfl fitM fitM ?_ | refine neqW eqS50 rfl rfl rfl fitM fitM ?_)
       | refine Or.inl ⟨_, _, hasM, ?_⟩
       | refine Or.inl ⟨_, _, _, holeM, rfl, rfl, ?_⟩
       | refine lA ?_
       | refine lA0 ?_
       | refine lA1 ?_
       | refine lO ?_
       | refine lO0 ?_
       | refine lO1 ?_
       | refine lR ?_
       | refine lG ?_
       | refine lG0 ?_
       | refine tA ?_
       | refine tA0 ?_
       | refine tA1 ?_
       | refine BytW.ofBlk hasM rfl rfl ?_
       | refine AppW.noneB hasM leM rfl rfl rfl leM leM ?_
       | refine AppW.rowB hasM leM rfl rfl holeM leM leM ?_
       | refine AppW.blkB hasM leM rfl rfl holeM rfl rfl leM leM ?_
       | refine AppW.rowS hasM leM rfl rfl holeM (by omega) leM ?_
       | refine AppW.arrS hasM leM rfl rfl rfl holeM (by first | omega | (simp; omega)) leM ?_
       | refine ⟨sideM, ?_⟩
       | fail)
  all_goals (try conv => whnf)
  · unfold vOutV; (repeat (first | rw [if_pos (by first | assumption | grind | decide)] | rw [if_neg (by first | assumption | grind | decide)])); rfl
  · unfold vOutV; (repeat (first | rw [if_pos (by first | assumption | grind | decide)] | rw [if_neg (by first | assumption | grind | decide)])); rfl
  · unfold vOutV; (repeat (first | rw [if_pos (by first | assumption | grind | decide)] | rw [if_neg (by first | assumption | grind | decide)])); rw [decide_eq_true h]; rfl
  · unfold vOutV; (repeat (first | rw [if_pos (by first | assumption | grind | decide)] | rw [if_neg (by first | assumption | grind | decide)])); rw [decide_eq_false h]; rfl
end Go.Proofs.Ytgjdmlgdgbehoaa.Am
