/- The law MismatchEnds. -/
import Derived.Test.YtgjdmlgdgbehoaaMism9
set_option linter.unusedVariables false
set_option linter.unusedSimpArgs false
set_option maxRecDepth 100000
set_option maxHeartbeats 4000000
namespace Go.Proofs.Ytgjdmlgdgbehoaa.Am
open Go Go.RowKit
/-- Are they blocked at all? -/
def endsB (t : Bool) (r d : Int) : Bool := !t || !decide (r = d)
/-- What the guard of the document is behind the hearing. -/
structure Ends (t : Bool) (n : Int) (l : List Int) (r d U : Int) (LL : List (Int × Int)) : Prop where
  one : ∀ T, blkB T LL r = (endsB t r d && decide (T < U))
  two : t = true → ∀ T, blkB T LL d = (endsB t r d && decide (T < U) && vHasB t n l d)
  all : ∀ T, decide (0 < ((upTo T LL 4094).length : Int)) = (endsB t r d && decide (T < U))
theorem ends_no {t : Bool} {n : Int} {l : List Int} {r d U : Int} (h : endsB t r d = false) : Ends t n l r d U [] := by
  refine ⟨fun T => by rw [h]; rfl, fun _ T => by rw [h]; rfl, fun T => ?_⟩
  rw [h]
  have : upTo T [] 4094 = [] := List.filter_eq_nil_iff.2 fun v _ => by simp [blkB]
  rw [this]; rfl
theorem ends_yes {t : Bool} {n : Int} {l : List Int} {r d U : Int} (hr : vHasB t n l r = true) (h : endsB t r d = true) : Ends t n l r d U (toldL t n l r d U) := by
  have hb : ∀ T v, blkB T (toldL t n l r d U) v = (decide (v ∈ (toldL t n l r d U).map (·.1)) && decide (T < U)) := fun T v => by
    have ht := told_mem (t := t) (n := n) (l := l) (r := r) (t' := d) (u := U) hr
    unfold blkB
    by_cases hv : v ∈ (toldL t n l r d U).map (·.1)
    · rw [decide_eq_true hv, Bool.true_and]
      obtain ⟨p, hp, rfl⟩ := List.mem_map.1 hv
      by_cases hT : T < U
      · rw [decide_eq_true hT]
        exact List.any_eq_true.2 ⟨p, hp, by have := (ht p hp).1; simp; omega⟩
      · rw [decide_eq_false hT]
        refine List.any_eq_false.2 fun q hq => ?_
        have := (ht q hq).1
        simp; omega
    · rw [decide_eq_false hv, Bool.false_and]
      refine List.any_eq_false.2 fun q hq => ?_
      have : q.1 ≠ v := fun e => hv (List.mem_map.2 ⟨q, hq, e⟩)
      simp [this]
  have h1 : r ∈ (toldL t n l r d U).map (·.1) := by
    cases t with
    | true => unfold toldL; rw [if_pos rfl]; simp
    | false =>
      have : r = n := by unfold vHasB at hr; simp at hr; exact hr.2
      unfold toldL; simp [this]
  have one : ∀ T, blkB T (toldL t n l r d U) r = (endsB t r d && decide (T < U)) := fun T => by rw [hb, h, decide_eq_true h1]
  refine ⟨one, fun ht T => ?_, fun T => ?_⟩
  · subst ht
    rw [hb, h]
    have hne : ¬ r = d := by simpa [endsB] using h
    have : decide (d ∈ (toldL true n l r d U).map (·.1)) = vHasB true n l d := by
      unfold toldL
      rw [if_pos rfl]
      cases hd : vHasB true n l d
      · simp [Ne.symm hne]
      · simp
    rw [this, Bool.true_and, Bool.and_comm]
  · have hm := upTo_mem T (toldL t n l r d U) 4094 r
    have hrg := has_range hr
    rw [one T] at hm
    rw [h, Bool.true_and] at hm ⊢
    by_cases hT : T < U
    · rw [decide_eq_true hT] at hm ⊢
      have := List.length_pos_of_mem (hm.2 ⟨⟨hrg.1, by omega⟩, rfl⟩)
      exact decide_eq_true (by omega)
    · rw [decide_eq_false hT]
      have : upTo T (toldL t n l r d U) 4094 = [] := List.filter_eq_nil_iff.2 fun v _ => by rw [hb, decide_eq_false hT]; simp
      rw [this]; rfl
theorem s9_at (s : S9) (T : Int) (h : timeB T = true) (hs : s.now ≤ T) : (s.at T).now = T := by
  rw [S9.at_is s T h]
  show (if T > s.now then T else s.now) = T
  split <;> omega
theorem at_heard (g : GuardV) (now : Int) : (g.at now).heard = g.heard := by unfold GuardV.at; split <;> rfl
structure L11 where
  k : Nat
  g : GuardV
  s : S9
theorem ok_Ends9 : (match Try.f9.body with | some c => codeOk Try.f9.ntmps c | none => false) = true := by kernel_rfl
theorem en_Ends9 : ∃ fn, Try.prog.funcs[9]? = some fn ∧ (fn.name == "runtime.NumGoroutine") = false ∧ fn.body.isNone = false := ⟨_, Try.func9, by kernel_rfl, by kernel_rfl⟩
theorem Ends9_w (t : Bool) (n : Int) (l : List Int) (hello r d now wait : Int) (A : Option Addr) (c : Nat) (w : World) (hs : SlAt w A 1 (ints l)) : PuAt Try.prog 9 [.agg ⟨[.bool t, .int .i64 n, .slice A l.length c]⟩, .int .i64 hello, .int .i64 r, .int .i64 d, .int .i64 now, .int .i64 wait] (.bool true) w := by
  refine funcR_pure tyOk wide Try.func9 ok_Ends9 (Nat.le_of_ble_eq_true rfl) ?_
  by_cases hbig : l.length > 40
  · skip
    repeat' first
      | (conv => whnf
         first
         | intro _
         | (first | refine selSplit (fun h => ?_) (fun h => ?_) | refine condSplit (fun h => ?_) (fun h => ?_)) <;> first | exact (clash (by assumption) h).elim | exact (clash h (by assumption)).elim | (simp only [decide_eq_true_eq, decide_eq_false_iff_not, Bool.not_eq_true', Bool.not_eq_false', Bool.not_true, Bool.not_false, Bool.or_eq_true, Bool.and_eq_true, Bool.or_eq_false_iff, Bool.and_eq_false_iff, beq_iff_eq, beq_eq_false_iff_ne, ne_eq] at h; first | (exfalso; omega) | skip) | skip
         | refine SeqP.go ?_
         | refine CondR.split ?_
         | exact IsV.mk
         | apply GuardP.mk
         | ((first | apply callPure' en_awake09 | apply callQuiet' en_awake09); · exact fun w _ => awake09_w w)
         | refine Or.inl ⟨_, _, hasM, ?_⟩
         | refine Or.inl ⟨_, _, _, holeM, rfl, rfl, ?_⟩
         | refine lA ?_
         | refine lA0 ?_
         | refine lA1 ?_
         | refine lO ?_
         | refine lO0 ?_
         | refine lO1 ?_
         | refine lR ?_
         | refine lG ?_
         | refine lG0 ?_
         | refine tA ?_
         | refine tA0 ?_
         | refine tA1 ?_
         | refine BytW.ofBlk hasM rfl rfl ?_
         | refine AppW.noneB hasM leM rfl rfl rfl leM leM ?_
         | refine AppW.rowB hasM leM rfl rfl holeM leM leM ?_
         | refine AppW.blkB hasM leM rfl rfl holeM rfl rfl leM leM ?_
         | refine AppW.rowS hasM leM rfl rfl holeM (by omega) leM ?_
         | refine AppW.arrS hasM leM rfl rfl rfl holeM (by first | omega | (simp; omega)) leM ?_
         | refine ⟨sideM, ?_⟩
         | fail)
    all_goals (try conv => whnf)
    all_goals first | rfl | (exfalso; omega) | (exfalso; simp at h; done)
  have hl : l.length ≤ 1000 := by omega
  have vR := fun w hs => vRight_w t n l A c w hs hl
  by_cases hok : vRightB t n l = true ∧ 1 ≤ hello ∧ hello ≤ 10 ∧ 0 ≤ now ∧ now ≤ 549755813888 ∧ 0 ≤ wait ∧ wait ≤ 100
  · obtain ⟨hr, hh1, hh2, hn1, hn2, hw1, hw2⟩ := hok
    have hT : timeB now = true := by simp [timeB]; omega
    rw [hr] at vR
    have n1 := fun w hs => gNew_w t n l A c hello w hs hl hr ⟨hh1, hh2⟩
    have vH := fun v w hs => vHas_w t n l v A c w hs hl
    repeat' first
      | (conv => whnf
         first
         | intro _
         | (first | refine selSplit (fun h => ?_) (fun h => ?_) | refine condSplit (fun h => ?_) (fun h => ?_)) <;> first | exact (clash (by assumption) h).elim | exact (clash h (by assumption)).elim | (simp only [decide_eq_true_eq, decide_eq_false_iff_not, Bool.not_eq_true', Bool.not_eq_false', Bool.not_true, Bool.not_false, Bool.or_eq_true, Bool.and_eq_true, Bool.or_eq_false_iff, Bool.and_eq_false_iff, beq_iff_eq, beq_eq_false_iff_ne, ne_eq] at h; first | (exfalso; omega) | skip) | skip
         | refine SeqP.go ?_
         | refine cdM ?_
         | exact IsV.mk
         | apply GuardP.mk
         | ((first | apply callPure' en_awake09 | apply callQuiet' en_awake09); · exact fun w _ => awake09_w w)
         | ((first | apply callPure' en_vRight | apply callQuiet' en_vRight); · exact fun w hw => vR w (hs.later hw))
         | (refine callX takeM en_gNew (fun w hw => n1 w (hs.later hw)) ?_)
         | (refine ptrEqNil rfl Try.underlying80 rfl rfl ?_)
         | refine Or.inl ⟨_, _, hasM, ?_⟩
         | refine Or.inl ⟨_, _, _, holeM, rfl, rfl, ?_⟩
         | refine lA ?_
         | refine lA0 ?_
         | refine lA1 ?_
         | refine lO ?_
         | refine lO0 ?_
         | refine lO1 ?_
         | refine lR ?_
         | refine lG ?_
         | refine lG0 ?_
         | refine tA ?_
         | refine tA0 ?_
         | refine tA1 ?_
         | refine BytW.ofBlk hasM rfl rfl ?_
         | refine AppW.noneB hasM leM rfl rfl rfl leM leM ?_
         | refine AppW.rowB hasM leM rfl rfl holeM leM leM ?_
         | refine AppW.blkB hasM leM rfl rfl holeM rfl rfl leM leM ?_
         | refine AppW.rowS hasM leM rfl rfl holeM (by omega) leM ?_
         | refine AppW.arrS hasM leM rfl rfl rfl holeM (by first | omega | (simp; omega)) leM ?_
         | refine ⟨sideM, ?_⟩
         | fail)
    all_goals (try conv => whnf)
    all_goals first | rfl | (exfalso; omega) | (exfalso; simp at h; omega) | (exfalso; simp at h; done) | skip
    rename_i bp sN _
    obtain ⟨b, mp, gA, gc⟩ := sN
    have R0 := rel0 t n l hello gA gc mp
    have gok := R0.ok hl ⟨hh1, hh2⟩ (show (0 : Int) ≤ 1000 by decide)
    have hG := fun w hS => gHear_w ⟨t, n, gA, l.length, gc, 3 * hello, 0, mp, 0, 0, 0, 0, 0, 0⟩ b l [] r d now w gok hS
    by_cases hv : vlanB r = true ∧ vlanB d = true ∧ timeB now = true
    · cases h4 : vHasB t n l r with
      | false =>
        rw [show hearG ⟨t, n, gA, l.length, gc, 3 * hello, 0, mp, 0, 0, 0, 0, 0, 0⟩ l [] r d now = (5, ⟨t, n, gA, l.length, gc, 3 * hello, 0, mp, 0, 0, 0, 0, 0, 0⟩, []) by unfold hearG; rw [if_neg (not_not_intro hv)]; rw [h4, if_pos rfl]] at hG
        have cL := fun w hS => gList_w ⟨t, n, gA, l.length, gc, 3 * hello, 0, mp, 0, 0, 0, 0, 0, 0⟩ b l [] now w hS hT (by decide)
        rw [show ∀ N, sortI (liveK N []) = [] from fun N => by simp [sortI, liveK]] at cL
        repeat' first
          | (conv => whnf
             first
             | intro _
             | (first | refine selSplit (fun h => ?_) (fun h => ?_) | refine condSplit (fun h => ?_) (fun h => ?_)) <;> first | exact (clash (by assumption) h).elim | exact (clash h (by assumption)).elim | (simp only [decide_eq_true_eq, decide_eq_false_iff_not, Bool.not_eq_true', Bool.not_eq_false', Bool.not_true, Bool.not_false, Bool.or_eq_true, Bool.and_eq_true, Bool.or_eq_false_iff, Bool.and_eq_false_iff, beq_iff_eq, beq_eq_false_iff_ne, ne_eq] at h; first | (exfalso; omega) | skip) | skip
             | refine SeqP.go ?_
             | refine cdM ?_
             | exact IsV.mk
             | apply GuardP.mk
             | (refine callX takeM en_gHear (fun w hw => hG w (hw.sub2 takeM)) ?_)
             | (refine callX takeM en_gList (fun w hw => cL w (hw.sub2 takeM)) ?_)
             | ((first | apply callPure' en_gHeard | apply callQuiet' en_gHeard); · exact fun w hw => gHeard_w (GuardV.at ⟨t, n, gA, l.length, gc, 3 * hello, 0, mp, 0, 0, 0, 0, 0, 0⟩ now) b w (hw.blkRg hasM))
             | refine Or.inl ⟨_, _, hasM, ?_⟩
             | refine Or.inl ⟨_, _, _, holeM, rfl, rfl, ?_⟩
             | refine lA ?_
             | refine lA0 ?_
             | refine lA1 ?_
             | refine lO ?_
             | refine lO0 ?_
             | refine lO1 ?_
             | refine lR ?_
             | refine lG ?_
             | refine lG0 ?_
             | refine tA ?_
             | refine tA0 ?_
             | refine tA1 ?_
             | refine BytW.ofBlk hasM rfl rfl ?_
             | refine AppW.noneB hasM leM rfl rfl rfl leM leM ?_
             | refine AppW.rowB hasM leM rfl rfl holeM leM leM ?_
             | refine AppW.blkB hasM leM rfl rfl holeM rfl rfl leM leM ?_
             | refine AppW.rowS hasM leM rfl rfl holeM (by omega) leM ?_
             | refine AppW.arrS hasM leM rfl rfl rfl holeM (by first | omega | (simp; omega)) leM ?_
             | refine ⟨sideM, ?_⟩
             | fail)
        all_goals (try conv => whnf)
        all_goals first | (exfalso; simp at h; done) | skip
        refine v_bool ?_
        rw [at_heard]; rfl
      | true =>
        obtain ⟨g1, M1, s1, hG1, R1, hEn, hb1, hm1⟩ : ∃ g1 M1 s1, hearG ⟨t, n, gA, l.length, gc, 3 * hello, 0, mp, 0, 0, 0, 0, 0, 0⟩ l [] r d now = (0, g1, M1) ∧ Rel9 t n l hello g1 M1 s1 ∧ Ends t n l r d (now + 3 * hello) s1.LL ∧ s1.now ≤ now ∧ s1.many = if endsB t r d = true then 1 else 0 := by
          have hnow : (S9.at ⟨0, [], 0, 0, 0⟩ now).now = now := s9_at _ now hT hn1
          by_cases h5 : t = true ∧ r = d
          · have he : endsB t r d = false := by unfold endsB; rw [h5.1, decide_eq_true h5.2]; rfl
            have eL : (S9.at ⟨0, [], 0, 0, 0⟩ now).LL = [] := by unfold S9.at; split <;> rfl
            have eM : (S9.at ⟨0, [], 0, 0, 0⟩ now).many = 0 := by unfold S9.at; split <;> rfl
            exact ⟨_, _, S9.at ⟨0, [], 0, 0, 0⟩ now, by unfold hearG; rw [if_neg (not_not_intro hv), h4, if_neg (by decide), if_pos h5], R0.at now, by rw [eL]; exact ends_no he, by omega, by rw [eM, he]; rfl⟩
          · have he : endsB t r d = true := by unfold endsB; cases t <;> simp_all
            refine ⟨_, _, S9.hear ⟨0, [], 0, 0, 0⟩ t n l hello r d now, by unfold hearG; rw [if_neg (not_not_intro hv), h4, if_neg (by decide), if_neg h5], R0.put (by omega) h4 hv.1, ?_, ?_, by rw [he]; rfl⟩
            · show Ends t n l r d _ ([] ++ toldL t n l r d ((S9.at ⟨0, [], 0, 0, 0⟩ now).now + 3 * hello))
              rw [hnow]; exact ends_yes h4 he
            · show (S9.at ⟨0, [], 0, 0, 0⟩ now).now ≤ now
              omega
        rw [hG1] at hG
        repeat' first
          | (conv => whnf
             first
             | intro _
             | (first | refine selSplit (fun h => ?_) (fun h => ?_) | refine condSplit (fun h => ?_) (fun h => ?_)) <;> first | exact (clash (by assumption) h).elim | exact (clash h (by assumption)).elim | (simp only [decide_eq_true_eq, decide_eq_false_iff_not, Bool.not_eq_true', Bool.not_eq_false', Bool.not_true, Bool.not_false, Bool.or_eq_true, Bool.and_eq_true, Bool.or_eq_false_iff, Bool.and_eq_false_iff, beq_iff_eq, beq_eq_false_iff_ne, ne_eq] at h; first | (exfalso; omega) | skip) | skip
             | refine SeqP.go ?_
             | refine cdM ?_
             | exact IsV.mk
             | apply GuardP.mk
             | (refine callX takeM en_gHear (fun w hw => hG w (hw.sub2 takeM)) ?_)
             | refine Or.inl ⟨_, _, hasM, ?_⟩
             | refine Or.inl ⟨_, _, _, holeM, rfl, rfl, ?_⟩
             | refine lA ?_
             | refine lA0 ?_
             | refine lA1 ?_
             | refine lO ?_
             | refine lO0 ?_
             | refine lO1 ?_
             | refine lR ?_
             | refine lG ?_
             | refine lG0 ?_
             | refine tA ?_
             | refine tA0 ?_
             | refine tA1 ?_
             | refine BytW.ofBlk hasM rfl rfl ?_
             | refine AppW.noneB hasM leM rfl rfl rfl leM leM ?_
             | refine AppW.rowB hasM leM rfl rfl holeM leM leM ?_
             | refine AppW.blkB hasM leM rfl rfl holeM rfl rfl leM leM ?_
             | refine AppW.rowS hasM leM rfl rfl holeM (by omega) leM ?_
             | refine AppW.arrS hasM leM rfl rfl rfl holeM (by first | omega | (simp; omega)) leM ?_
             | refine ⟨sideM, ?_⟩
             | fail)
        all_goals (try conv => whnf)
        all_goals first | (exfalso; simp at h; done) | skip
        obtain ⟨E, hE⟩ : ∃ E, endsB t r d = E := ⟨_, rfl⟩
        obtain ⟨e1, e2, e3⟩ := hEn
        rw [hE] at e1 e2 e3 hm1
        have hU : IntKind.i64.wrap (3 * hello) = 3 * hello := w64 (by omega) (by omega)
        have hU2 : IntKind.i64.wrap (now + 3 * hello) = now + 3 * hello := w64 (by omega) (by omega)
        have hW : IntKind.i64.wrap (now + wait) = now + wait := w64 (by omega) (by omega)
        refine .mk L11 (fun ⟨k, g, s⟩ S H => (((k : Int) ≤ wait + 1 ∧ Rel9 t n l hello g M1 s ∧ s.LL = s1.LL ∧ s.now ≤ now + k ∧ s.many = s1.many)) ∧ S = [(17, .int .i64 (now + k)), (16, .bool E), (13, .pointer (some ⟨b, 0, none⟩)), (6, .pointer (some ⟨bp, 0, none⟩)), (5, .int .i64 wait), (4, .int .i64 now), (3, .int .i64 d), (2, .int .i64 r), (1, .int .i64 hello)] ∧ H = .blk bp [.bool t, .int .i64 n, .slice A l.length c] 48 :: g.res b l M1) (fun ⟨k, g, s⟩ => (wait + 1 - k).toNat) ⟨0, g1, s1⟩ _ _ ⟨⟨by omega, R1, rfl, by omega, rfl⟩, rfl, rfl⟩ (by rw [← hE, Int.natCast_zero, Int.add_zero]; exact subM) entM ?_
        rintro ⟨k, g, s⟩ S1 H1 ⟨⟨hk, R, hL, hN, hM⟩, rfl, rfl⟩
        have hk1 : IntKind.i64.wrap (now + (k : Int) + 1) = now + ((k + 1 : Nat) : Int) := by rw [w64 (by omega) (by omega)]; omega
        by_cases hk2 : (k : Int) ≤ wait
        · have hTk : timeB (now + k) = true := by simp [timeB]; omega
          have hT' := hTk
          simp only [timeB, Bool.and_eq_true, decide_eq_true_eq] at hT'
          have hat := s9_at s (now + k) hTk hN
          have cB := fun w hS => ask_blocked R b r (now + k) w hS
          have cL := fun w hS => ask_list R b (now + k) w hS hTk
          have cD := fun w hS => ask_blocked (R.at (now + k)) b d (now + k) w hS
          have eL : (s.at (now + k)).LL = s.LL := by unfold S9.at; split <;> rfl
          have eM : (s.at (now + k)).many = s.many := by unfold S9.at; split <;> rfl
          have hat2 := s9_at (s.at (now + k)) (now + k) hTk (by omega)
          rw [hat, hL, hTk, Bool.true_and, e1] at cB
          rw [hat, hL] at cL
          rw [at_idem, hat2, eL, hL, hTk, Bool.true_and] at cD
          have R' := R.at (now + k)
          have h3 := e3 (now + k)
          generalize upTo (now + k) s1.LL 4094 = Q at *
          obtain ⟨N, hga⟩ : ∃ N, g.at (now + k) = { g with now := N } := ⟨_, by unfold GuardV.at; rw [if_pos hTk]⟩
          rw [hga] at cB cL cD R'
          have hU3 : IntKind.i64.wrap (now + IntKind.i64.wrap (3 * hello)) = now + 3 * hello := by rw [hU]; exact hU2
          have e2' := fun ht => e2 ht (now + k)
          have vD := fun w hs => vH d w hs
          obtain ⟨V, hV⟩ : ∃ V, (E && decide (now + (k : Int) < now + 3 * hello)) = V := ⟨_, rfl⟩
          rw [hV] at cB h3
          have hEV : (E = true ∧ now + (k : Int) < now + 3 * hello ∧ V = true) ∨ (E = true ∧ ¬ now + (k : Int) < now + 3 * hello ∧ V = false) ∨ (E = false ∧ V = false) := by
            rw [← hV]; cases E <;> simp
            omega
          cases t with
          | true =>
            rw [e2' rfl, hV] at cD
            clear e1 e2 e3 e2' hV
            rcases hEV with ⟨rfl, hlt, rfl⟩ | ⟨rfl, hlt, rfl⟩ | ⟨rfl, rfl⟩
            all_goals
              cases hd : vHasB true n l d <;> rw [hd] at vD cD
              all_goals (
                repeat' first
                  | (conv => whnf
                     first
                     | intro _
                     | (first | refine selSplit (fun h => ?_) (fun h => ?_) | refine condSplit (fun h => ?_) (fun h => ?_)) <;> first | exact (clash (by assumption) h).elim | exact (clash h (by assumption)).elim | (simp only [decide_eq_true_eq, decide_eq_false_iff_not, Bool.not_eq_true', Bool.not_eq_false', Bool.not_true, Bool.not_false, Bool.or_eq_true, Bool.and_eq_true, Bool.or_eq_false_iff, Bool.and_eq_false_iff, beq_iff_eq, beq_eq_false_iff_ne, ne_eq] at h; first | (exfalso; omega) | skip) | skip
                     | refine SeqP.go ?_
                     | refine CondR.split ?_
                     | exact IsV.mk
                     | apply GuardP.mk
                     | (refine callX takeM en_gBlocked (fun w hw => cB w (hw.sub2 takeM)) ?_)
                     | (refine callX takeM en_gBlocked (fun w hw => cD w (hw.sub2 takeM)) ?_)
                     | (refine callX takeM en_gList (fun w hw => cL w (hw.sub2 takeM)) ?_)
                     | ((first | apply callPure' en_vHas | apply callQuiet' en_vHas); · exact fun w hw => vD w (hs.later hw))
                     | refine Or.inl ⟨_, _, hasM, ?_⟩
                     | refine Or.inl ⟨_, _, _, holeM, rfl, rfl, ?_⟩
                     | refine lA ?_
                     | refine lA0 ?_
                     | refine lA1 ?_
                     | refine lO ?_
                     | refine lO0 ?_
                     | refine lO1 ?_
                     | refine lR ?_
                     | refine lG ?_
                     | refine lG0 ?_
                     | refine tA ?_
                     | refine tA0 ?_
                     | refine tA1 ?_
                     | refine BytW.ofBlk hasM rfl rfl ?_
                     | refine AppW.noneB hasM leM rfl rfl rfl leM leM ?_
                     | refine AppW.rowB hasM leM rfl rfl holeM leM leM ?_
                     | refine AppW.blkB hasM leM rfl rfl holeM rfl rfl leM leM ?_
                     | refine AppW.rowS hasM leM rfl rfl holeM (by omega) leM ?_
                     | refine AppW.arrS hasM leM rfl rfl rfl holeM (by first | omega | (simp; omega)) leM ?_
                     | refine ⟨sideM, ?_⟩
                     | fail)
                all_goals (try conv => whnf)
                )
              all_goals first | (exfalso; omega) | (exfalso; simp at h; done) | (exfalso; rw [hU3] at h; simp [hlt] at h; done) | (exfalso; rw [h3, hU3] at h; simp [hlt] at h; done) | (exfalso; have h9 := of_decide_eq_false h3; omega) | (exfalso; have h9 := of_decide_eq_true h3; omega) | skip
              all_goals exact .mk ⟨k + 1, { g with now := N }, s.at (now + k)⟩ _ _ (show (wait + 1 - ((k + 1 : Nat) : Int)).toNat < (wait + 1 - (k : Int)).toNat by omega) ⟨⟨by omega, R', by rw [eL, hL], by rw [hat]; omega, by rw [eM, hM]⟩, rfl, rfl⟩ (by rw [← hk1]; exact subM) entM
          | false =>
            clear e1 e2 e3 e2' hV
            rcases hEV with ⟨rfl, hlt, rfl⟩ | ⟨rfl, hlt, rfl⟩ | ⟨rfl, rfl⟩
            all_goals
              all_goals (
                repeat' first
                  | (conv => whnf
                     first
                     | intro _
                     | (first | refine selSplit (fun h => ?_) (fun h => ?_) | refine condSplit (fun h => ?_) (fun h => ?_)) <;> first | exact (clash (by assumption) h).elim | exact (clash h (by assumption)).elim | (simp only [decide_eq_true_eq, decide_eq_false_iff_not, Bool.not_eq_true', Bool.not_eq_false', Bool.not_true, Bool.not_false, Bool.or_eq_true, Bool.and_eq_true, Bool.or_eq_false_iff, Bool.and_eq_false_iff, beq_iff_eq, beq_eq_false_iff_ne, ne_eq] at h; first | (exfalso; omega) | skip) | skip
                     | refine SeqP.go ?_
                     | refine CondR.split ?_
                     | exact IsV.mk
                     | apply GuardP.mk
                     | (refine callX takeM en_gBlocked (fun w hw => cB w (hw.sub2 takeM)) ?_)
                     | (refine callX takeM en_gList (fun w hw => cL w (hw.sub2 takeM)) ?_)
                     | refine Or.inl ⟨_, _, hasM, ?_⟩
                     | refine Or.inl ⟨_, _, _, holeM, rfl, rfl, ?_⟩
                     | refine lA ?_
                     | refine lA0 ?_
                     | refine lA1 ?_
                     | refine lO ?_
                     | refine lO0 ?_
                     | refine lO1 ?_
                     | refine lR ?_
                     | refine lG ?_
                     | refine lG0 ?_
                     | refine tA ?_
                     | refine tA0 ?_
                     | refine tA1 ?_
                     | refine BytW.ofBlk hasM rfl rfl ?_
                     | refine AppW.noneB hasM leM rfl rfl rfl leM leM ?_
                     | refine AppW.rowB hasM leM rfl rfl holeM leM leM ?_
                     | refine AppW.blkB hasM leM rfl rfl holeM rfl rfl leM leM ?_
                     | refine AppW.rowS hasM leM rfl rfl holeM (by omega) leM ?_
                     | refine AppW.arrS hasM leM rfl rfl rfl holeM (by first | omega | (simp; omega)) leM ?_
                     | refine ⟨sideM, ?_⟩
                     | fail)
                all_goals (try conv => whnf)
                )
              all_goals first | (exfalso; omega) | (exfalso; simp at h; done) | (exfalso; rw [hU3] at h; simp [hlt] at h; done) | (exfalso; rw [h3, hU3] at h; simp [hlt] at h; done) | (exfalso; have h9 := of_decide_eq_false h3; omega) | (exfalso; have h9 := of_decide_eq_true h3; omega) | skip
              all_goals exact .mk ⟨k + 1, { g with now := N }, s.at (now + k)⟩ _ _ (show (wait + 1 - ((k + 1 : Nat) : Int)).toNat < (wait + 1 - (k : Int)).toNat by omega) ⟨⟨by omega, R', by rw [eL, hL], by rw [hat]; omega, by rw [eM, hM]⟩, rfl, rfl⟩ (by rw [← hk1]; exact subM) entM
        · skip
          repeat' first
            | (conv => whnf
               first
               | intro _
               | (first | refine selSplit (fun h => ?_) (fun h => ?_) | refine condSplit (fun h => ?_) (fun h => ?_)) <;> first | exact (clash (by assumption) h).elim | exact (clash h (by assumption)).elim | (simp only [decide_eq_true_eq, decide_eq_false_iff_not, Bool.not_eq_true', Bool.not_eq_false', Bool.not_true, Bool.not_false, Bool.or_eq_true, Bool.and_eq_true, Bool.or_eq_false_iff, Bool.and_eq_false_iff, beq_iff_eq, beq_eq_false_iff_ne, ne_eq] at h; first | (exfalso; omega) | skip) | skip
               | refine SeqP.go ?_
               | refine cdM ?_
               | exact IsV.mk
               | apply GuardP.mk
               | ((first | apply callPure' en_gHeard | apply callQuiet' en_gHeard); · exact fun w hw => gHeard_w g b w (hw.blkRg hasM))
               | refine Or.inl ⟨_, _, hasM, ?_⟩
               | refine Or.inl ⟨_, _, _, holeM, rfl, rfl, ?_⟩
               | refine lA ?_
               | refine lA0 ?_
               | refine lA1 ?_
               | refine lO ?_
               | refine lO0 ?_
               | refine lO1 ?_
               | refine lR ?_
               | refine lG ?_
               | refine lG0 ?_
               | refine tA ?_
               | refine tA0 ?_
               | refine tA1 ?_
               | refine BytW.ofBlk hasM rfl rfl ?_
               | refine AppW.noneB hasM leM rfl rfl rfl leM leM ?_
               | refine AppW.rowB hasM leM rfl rfl holeM leM leM ?_
               | refine AppW.blkB hasM leM rfl rfl holeM rfl rfl leM leM ?_
               | refine AppW.rowS hasM leM rfl rfl holeM (by omega) leM ?_
               | refine AppW.arrS hasM leM rfl rfl rfl holeM (by first | omega | (simp; omega)) leM ?_
               | refine ⟨sideM, ?_⟩
               | fail)
          all_goals (try conv => whnf)
          all_goals first | (exfalso; omega) | skip
          refine v_bool ?_
          rw [R.heard, hM, hm1]
          cases E <;> rfl
    · rw [show hearG ⟨t, n, gA, l.length, gc, 3 * hello, 0, mp, 0, 0, 0, 0, 0, 0⟩ l [] r d now = (1, ⟨t, n, gA, l.length, gc, 3 * hello, 0, mp, 0, 0, 0, 0, 0, 0⟩, []) by unfold hearG; rw [if_pos hv]] at hG
      have cL := fun w hS => gList_w ⟨t, n, gA, l.length, gc, 3 * hello, 0, mp, 0, 0, 0, 0, 0, 0⟩ b l [] now w hS hT (by decide)
      rw [show ∀ N, sortI (liveK N []) = [] from fun N => by simp [sortI, liveK]] at cL
      repeat' first
        | (conv => whnf
           first
           | intro _
           | (first | refine selSplit (fun h => ?_) (fun h => ?_) | refine condSplit (fun h => ?_) (fun h => ?_)) <;> first | exact (clash (by assumption) h).elim | exact (clash h (by assumption)).elim | (simp only [decide_eq_true_eq, decide_eq_false_iff_not, Bool.not_eq_true', Bool.not_eq_false', Bool.not_true, Bool.not_false, Bool.or_eq_true, Bool.and_eq_true, Bool.or_eq_false_iff, Bool.and_eq_false_iff, beq_iff_eq, beq_eq_false_iff_ne, ne_eq] at h; first | (exfalso; omega) | skip) | skip
           | refine SeqP.go ?_
           | refine cdM ?_
           | exact IsV.mk
           | apply GuardP.mk
           | (refine callX takeM en_gHear (fun w hw => hG w (hw.sub2 takeM)) ?_)
           | (refine callX takeM en_gList (fun w hw => cL w (hw.sub2 takeM)) ?_)
           | ((first | apply callPure' en_gHeard | apply callQuiet' en_gHeard); · exact fun w hw => gHeard_w (GuardV.at ⟨t, n, gA, l.length, gc, 3 * hello, 0, mp, 0, 0, 0, 0, 0, 0⟩ now) b w (hw.blkRg hasM))
           | refine Or.inl ⟨_, _, hasM, ?_⟩
           | refine Or.inl ⟨_, _, _, holeM, rfl, rfl, ?_⟩
           | refine lA ?_
           | refine lA0 ?_
           | refine lA1 ?_
           | refine lO ?_
           | refine lO0 ?_
           | refine lO1 ?_
           | refine lR ?_
           | refine lG ?_
           | refine lG0 ?_
           | refine tA ?_
           | refine tA0 ?_
           | refine tA1 ?_
           | refine BytW.ofBlk hasM rfl rfl ?_
           | refine AppW.noneB hasM leM rfl rfl rfl leM leM ?_
           | refine AppW.rowB hasM leM rfl rfl holeM leM leM ?_
           | refine AppW.blkB hasM leM rfl rfl holeM rfl rfl leM leM ?_
           | refine AppW.rowS hasM leM rfl rfl holeM (by omega) leM ?_
           | refine AppW.arrS hasM leM rfl rfl rfl holeM (by first | omega | (simp; omega)) leM ?_
           | refine ⟨sideM, ?_⟩
           | fail)
      all_goals (try conv => whnf)
      all_goals first | (exfalso; simp at h; done) | skip
      refine v_bool ?_
      rw [at_heard]; rfl
  · skip
    repeat' first
      | (conv => whnf
         first
         | intro _
         | (first | refine selSplit (fun h => ?_) (fun h => ?_) | refine condSplit (fun h => ?_) (fun h => ?_)) <;> first | exact (clash (by assumption) h).elim | exact (clash h (by assumption)).elim | (simp only [decide_eq_true_eq, decide_eq_false_iff_not, Bool.not_eq_true', Bool.not_eq_false', Bool.not_true, Bool.not_false, Bool.or_eq_true, Bool.and_eq_true, Bool.or_eq_false_iff, Bool.and_eq_false_iff, beq_iff_eq, beq_eq_false_iff_ne, ne_eq] at h; first | (exfalso; omega) | skip) | skip
         | refine SeqP.go ?_
         | refine cdM ?_
         | exact IsV.mk
         | apply GuardP.mk
         | ((first | apply callPure' en_awake09 | apply callQuiet' en_awake09); · exact fun w _ => awake09_w w)
         | ((first | apply callPure' en_vRight | apply callQuiet' en_vRight); · exact fun w hw => vR w (hs.later hw))
         | refine Or.inl ⟨_, _, hasM, ?_⟩
         | refine Or.inl ⟨_, _, _, holeM, rfl, rfl, ?_⟩
         | refine lA ?_
         | refine lA0 ?_
         | refine lA1 ?_
         | refine lO ?_
         | refine lO0 ?_
         | refine lO1 ?_
         | refine lR ?_
         | refine lG ?_
         | refine lG0 ?_
         | refine tA ?_
         | refine tA0 ?_
         | refine tA1 ?_
         | refine BytW.ofBlk hasM rfl rfl ?_
         | refine AppW.noneB hasM leM rfl rfl rfl leM leM ?_
         | refine AppW.rowB hasM leM rfl rfl holeM leM leM ?_
         | refine AppW.blkB hasM leM rfl rfl holeM rfl rfl leM leM ?_
         | refine AppW.rowS hasM leM rfl rfl holeM (by omega) leM ?_
         | refine AppW.arrS hasM leM rfl rfl rfl holeM (by first | omega | (simp; omega)) leM ?_
         | refine ⟨sideM, ?_⟩
         | fail)
    all_goals (try conv => whnf)
    all_goals first | rfl | (exfalso; omega) | (exfalso; refine hok ⟨?_, ?_⟩ <;> grind) | skip
theorem ints_of11 : ∀ (l : List (List Value)), (∀ e ∈ l, ∃ x : Int, e = [.int .i64 x]) → ∃ xs : List Int, l = ints xs
  | [], _ => ⟨[], rfl⟩
  | e :: l, h => by
    obtain ⟨x, hx⟩ := h e List.mem_cons_self
    obtain ⟨xs, hxs⟩ := ints_of11 l fun e he => h e (List.mem_cons_of_mem _ he)
    exact ⟨x :: xs, by rw [hx, hxs]; rfl⟩
theorem MismatchEnds_n (t : Bool) (n : Int) (L : List (List Value)) (hello r d now wait : Int) (A : Option Addr) (c : Nat) (w : World) (h : ∀ e ∈ L, e.length = 1 ∧ RInt .i64 w e) (hr : 0 < L.length → ∃ b o, A = some ⟨b, o, none⟩ ∧ ∀ i e, L[i]? = some e → w.rangeAt b (o + i * 1) e) : PuAt Try.prog 9 [.agg ⟨[.bool t, .int .i64 n, .slice A L.length c]⟩, .int .i64 hello, .int .i64 r, .int .i64 d, .int .i64 now, .int .i64 wait] (.bool true) w := by
  obtain ⟨l, rfl⟩ := ints_of11 L fun e he => by obtain ⟨x, hx, _⟩ := (h e he).2; exact ⟨x, hx⟩
  rw [ints_len]
  exact Ends9_w t n l hello r d now wait A c w (slAt_of (fun e he => (h e he).1) hr)
end Go.Proofs.Ytgjdmlgdgbehoaa.Am
