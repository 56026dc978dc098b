/- A guard that hears. -/
import Derived.Test.YtgjdmlgdgbehoaaMism2
set_option linter.unusedVariables false
set_option linter.unusedSimpArgs false
set_option maxRecDepth 100000
set_option maxHeartbeats 4000000
namespace Go.Proofs.Ytgjdmlgdgbehoaa.Am
open Go Go.RowKit
/-- What is put for the VLANs of a row. -/
def putL (t : Bool) (n : Int) (l : List Int) (u : Int) : List Int → List (Int × Int) → List (Int × Int)
  | [], M => M
  | v :: r, M => putL t n l u r (if vHasB t n l v then putM M v u else M)
theorem putM_keys (M : List (Int × Int)) (v u : Int) : ∀ x, x ∈ (putM M v u).map (·.1) ↔ x = v ∨ x ∈ M.map (·.1) := by
  induction M with
  | nil => intro x; simp [putM]
  | cons p r ih =>
    intro x
    by_cases hp : p.1 = v
    · simp only [putM, if_pos hp, List.map_cons, List.mem_cons, hp]; grind
    · simp only [putM, if_neg hp, List.map_cons, List.mem_cons, ih]; grind
theorem putM_nodup (M : List (Int × Int)) (h : (M.map (·.1)).Nodup) (v u : Int) : ((putM M v u).map (·.1)).Nodup := by
  induction M with
  | nil => simp [putM]
  | cons p r ih =>
    obtain ⟨h1, h2⟩ := List.nodup_cons.1 h
    by_cases hp : p.1 = v
    · simp only [putM, if_pos hp, List.map_cons]
      exact List.nodup_cons.2 ⟨hp ▸ h1, h2⟩
    · simp only [putM, if_neg hp, List.map_cons]
      refine List.nodup_cons.2 ⟨fun hm => ?_, ih h2⟩
      rcases (putM_keys r v u _).1 hm with h3 | h3
      · exact hp h3
      · exact h1 h3
theorem putL_nodup (t : Bool) (n : Int) (l : List Int) (u : Int) : ∀ (vs : List Int) (M : List (Int × Int)), (M.map (·.1)).Nodup → ((putL t n l u vs M).map (·.1)).Nodup
  | [], M, h => h
  | v :: r, M, h => putL_nodup t n l u r _ (by split; exact putM_nodup M h v u; exact h)
/-- A guard in memory: its block, its map, the VLANs that are allowed. -/
def GuardV.res (g : GuardV) (b : Nat) (l : List Int) (M : List (Int × Int)) : List Res := [.blk b g.enc 159, .map g.mp (mapE M), .arr (.slice g.A g.m g.c) 3 1 (ints l)]
theorem ok_gHear : (match Try.f42.body with | some c => codeOk Try.f42.ntmps c | none => false) = true := by kernel_rfl
theorem en_gHear : ∃ fn, Try.prog.funcs[42]? = some fn ∧ (fn.name == "runtime.NumGoroutine") = false ∧ fn.body.isNone = false := ⟨_, Try.func42, by kernel_rfl, by kernel_rfl⟩
theorem gHear_range (g : GuardV) (b : Nat) (l : List Int) (M : List (Int × Int)) (r t now : Int) (w : World) (hS : St w (feet (g.res b l M)) (g.res b l M) w) (hn : ¬ (vlanB r = true ∧ vlanB t = true ∧ timeB now = true)) :
    FnX Try.prog 42 [.pointer (some ⟨b, 0, none⟩), .int .i64 r, .int .i64 t, .int .i64 now] (g.res b l M) (fun _ : Unit => True) (fun _ => .int .i64 1) (fun _ => g.res b l M) w := by
  refine funcR_x tyOk wide Try.func42 ok_gHear (Nat.le_of_ble_eq_true rfl) hS ?_
  simp only [timeB, Bool.and_eq_true, decide_eq_true_eq] at hn
  cases h1 : vlanB r <;> cases h2 : vlanB t <;> simp only [h1, h2, true_and, false_and, and_false, and_true] at hn
  all_goals
    have c1 := gVlan_w r
    have c2 := gVlan_w t
    rw [h1] at c1
    rw [h2] at c2
  · skip
    repeat' first
      | (conv => whnf
         first
         | intro _
         | (first | refine selSplit (fun h => ?_) (fun h => ?_) | refine condSplit (fun h => ?_) (fun h => ?_)) <;> first | exact (clash (by assumption) h).elim | exact (clash h (by assumption)).elim | (simp only [decide_eq_true_eq, decide_eq_false_iff_not, Bool.not_eq_true', Bool.not_eq_false', Bool.not_true, Bool.not_false, Bool.or_eq_true, Bool.and_eq_true, Bool.or_eq_false_iff, Bool.and_eq_false_iff, beq_iff_eq, beq_eq_false_iff_ne, ne_eq] at h; first | (exfalso; omega) | skip) | skip
         | (first | refine drM (.quiet 0 (.quiet 1 (.quiet 2 (.quiet 3 (.quiet 4 (.quiet 5 (.quiet 6 (.quiet 7 .done)))))))) (SubL.refl _) ?_ | refine drM (.quiet 0 (.quiet 1 (.quiet 2 (.quiet 3 (.quiet 4 (.quiet 5 (.quiet 6 (.quiet 7 (.quiet 8 (.quiet 9 (.quiet 10 (.quiet 11 (.quiet 12 (.quiet 13 (.last 14 false .done))))))))))))))) (SubL.refl _) ?_)
         | refine AltP.mk ?_ ?_
         | refine kpM ?_
         | refine SeqP.go ?_
         | refine cdM ?_
         | exact IsV.mk
         | apply GuardP.mk
         | ((first | apply callPure' en_gVlan | apply callQuiet' en_gVlan); · exact fun w _ => c1 w)
         | ((first | apply callPure' en_gVlan | apply callQuiet' en_gVlan); · exact fun w _ => c2 w)
         | refine Or.inl ⟨_, _, hasM, ?_⟩
         | refine Or.inl ⟨_, _, _, holeM, rfl, rfl, ?_⟩
         | refine lA ?_
         | refine lA0 ?_
         | refine lA1 ?_
         | refine lO ?_
         | refine lO0 ?_
         | refine lO1 ?_
         | refine lR ?_
         | refine lG ?_
         | refine lG0 ?_
         | refine tA ?_
         | refine tA0 ?_
         | refine tA1 ?_
         | refine BytW.ofBlk hasM rfl rfl ?_
         | refine AppW.noneB hasM leM rfl rfl rfl leM leM ?_
         | refine AppW.rowB hasM leM rfl rfl holeM leM leM ?_
         | refine AppW.blkB hasM leM rfl rfl holeM rfl rfl leM leM ?_
         | refine AppW.rowS hasM leM rfl rfl holeM (by omega) leM ?_
         | refine AppW.arrS hasM leM rfl rfl rfl holeM (by first | omega | (simp; omega)) leM ?_
         | refine ⟨sideM, ?_⟩
         | fail)
    all_goals (try conv => whnf)
    all_goals exact EndX.mk () trivial rfl (Ent.of (.cons _ (.cons _ (.cons _ (List.Sublist.refl _)))))
  · skip
    repeat' first
      | (conv => whnf
         first
         | intro _
         | (first | refine selSplit (fun h => ?_) (fun h => ?_) | refine condSplit (fun h => ?_) (fun h => ?_)) <;> first | exact (clash (by assumption) h).elim | exact (clash h (by assumption)).elim | (simp only [decide_eq_true_eq, decide_eq_false_iff_not, Bool.not_eq_true', Bool.not_eq_false', Bool.not_true, Bool.not_false, Bool.or_eq_true, Bool.and_eq_true, Bool.or_eq_false_iff, Bool.and_eq_false_iff, beq_iff_eq, beq_eq_false_iff_ne, ne_eq] at h; first | (exfalso; omega) | skip) | skip
         | (first | refine drM (.quiet 0 (.quiet 1 (.quiet 2 (.quiet 3 (.quiet 4 (.quiet 5 (.quiet 6 (.quiet 7 .done)))))))) (SubL.refl _) ?_ | refine drM (.quiet 0 (.quiet 1 (.quiet 2 (.quiet 3 (.quiet 4 (.quiet 5 (.quiet 6 (.quiet 7 (.quiet 8 (.quiet 9 (.quiet 10 (.quiet 11 (.quiet 12 (.quiet 13 (.last 14 false .done))))))))))))))) (SubL.refl _) ?_)
         | refine AltP.mk ?_ ?_
         | refine kpM ?_
         | refine SeqP.go ?_
         | refine cdM ?_
         | exact IsV.mk
         | apply GuardP.mk
         | ((first | apply callPure' en_gVlan | apply callQuiet' en_gVlan); · exact fun w _ => c1 w)
         | ((first | apply callPure' en_gVlan | apply callQuiet' en_gVlan); · exact fun w _ => c2 w)
         | refine Or.inl ⟨_, _, hasM, ?_⟩
         | refine Or.inl ⟨_, _, _, holeM, rfl, rfl, ?_⟩
         | refine lA ?_
         | refine lA0 ?_
         | refine lA1 ?_
         | refine lO ?_
         | refine lO0 ?_
         | refine lO1 ?_
         | refine lR ?_
         | refine lG ?_
         | refine lG0 ?_
         | refine tA ?_
         | refine tA0 ?_
         | refine tA1 ?_
         | refine BytW.ofBlk hasM rfl rfl ?_
         | refine AppW.noneB hasM leM rfl rfl rfl leM leM ?_
         | refine AppW.rowB hasM leM rfl rfl holeM leM leM ?_
         | refine AppW.blkB hasM leM rfl rfl holeM rfl rfl leM leM ?_
         | refine AppW.rowS hasM leM rfl rfl holeM (by omega) leM ?_
         | refine AppW.arrS hasM leM rfl rfl rfl holeM (by first | omega | (simp; omega)) leM ?_
         | refine ⟨sideM, ?_⟩
         | fail)
    all_goals (try conv => whnf)
    all_goals exact EndX.mk () trivial rfl (Ent.of (.cons _ (.cons _ (.cons _ (List.Sublist.refl _)))))
  · skip
    repeat' first
      | (conv => whnf
         first
         | intro _
         | (first | refine selSplit (fun h => ?_) (fun h => ?_) | refine condSplit (fun h => ?_) (fun h => ?_)) <;> first | exact (clash (by assumption) h).elim | exact (clash h (by assumption)).elim | (simp only [decide_eq_true_eq, decide_eq_false_iff_not, Bool.not_eq_true', Bool.not_eq_false', Bool.not_true, Bool.not_false, Bool.or_eq_true, Bool.and_eq_true, Bool.or_eq_false_iff, Bool.and_eq_false_iff, beq_iff_eq, beq_eq_false_iff_ne, ne_eq] at h; first | (exfalso; omega) | skip) | skip
         | (first | refine drM (.quiet 0 (.quiet 1 (.quiet 2 (.quiet 3 (.quiet 4 (.quiet 5 (.quiet 6 (.quiet 7 .done)))))))) (SubL.refl _) ?_ | refine drM (.quiet 0 (.quiet 1 (.quiet 2 (.quiet 3 (.quiet 4 (.quiet 5 (.quiet 6 (.quiet 7 (.quiet 8 (.quiet 9 (.quiet 10 (.quiet 11 (.quiet 12 (.quiet 13 (.last 14 false .done))))))))))))))) (SubL.refl _) ?_)
         | refine AltP.mk ?_ ?_
         | refine kpM ?_
         | refine SeqP.go ?_
         | refine cdM ?_
         | exact IsV.mk
         | apply GuardP.mk
         | ((first | apply callPure' en_gVlan | apply callQuiet' en_gVlan); · exact fun w _ => c1 w)
         | ((first | apply callPure' en_gVlan | apply callQuiet' en_gVlan); · exact fun w _ => c2 w)
         | refine Or.inl ⟨_, _, hasM, ?_⟩
         | refine Or.inl ⟨_, _, _, holeM, rfl, rfl, ?_⟩
         | refine lA ?_
         | refine lA0 ?_
         | refine lA1 ?_
         | refine lO ?_
         | refine lO0 ?_
         | refine lO1 ?_
         | refine lR ?_
         | refine lG ?_
         | refine lG0 ?_
         | refine tA ?_
         | refine tA0 ?_
         | refine tA1 ?_
         | refine BytW.ofBlk hasM rfl rfl ?_
         | refine AppW.noneB hasM leM rfl rfl rfl leM leM ?_
         | refine AppW.rowB hasM leM rfl rfl holeM leM leM ?_
         | refine AppW.blkB hasM leM rfl rfl holeM rfl rfl leM leM ?_
         | refine AppW.rowS hasM leM rfl rfl holeM (by omega) leM ?_
         | refine AppW.arrS hasM leM rfl rfl rfl holeM (by first | omega | (simp; omega)) leM ?_
         | refine ⟨sideM, ?_⟩
         | fail)
    all_goals (try conv => whnf)
    all_goals exact EndX.mk () trivial rfl (Ent.of (.cons _ (.cons _ (.cons _ (List.Sublist.refl _)))))
  · skip
    repeat' first
      | (conv => whnf
         first
         | intro _
         | (first | refine selSplit (fun h => ?_) (fun h => ?_) | refine condSplit (fun h => ?_) (fun h => ?_)) <;> first | exact (clash (by assumption) h).elim | exact (clash h (by assumption)).elim | (simp only [decide_eq_true_eq, decide_eq_false_iff_not, Bool.not_eq_true', Bool.not_eq_false', Bool.not_true, Bool.not_false, Bool.or_eq_true, Bool.and_eq_true, Bool.or_eq_false_iff, Bool.and_eq_false_iff, beq_iff_eq, beq_eq_false_iff_ne, ne_eq] at h; first | (exfalso; omega) | skip) | skip
         | (first | refine drM (.quiet 0 (.quiet 1 (.quiet 2 (.quiet 3 (.quiet 4 (.quiet 5 (.quiet 6 (.quiet 7 .done)))))))) (SubL.refl _) ?_ | refine drM (.quiet 0 (.quiet 1 (.quiet 2 (.quiet 3 (.quiet 4 (.quiet 5 (.quiet 6 (.quiet 7 (.quiet 8 (.quiet 9 (.quiet 10 (.quiet 11 (.quiet 12 (.quiet 13 (.last 14 false .done))))))))))))))) (SubL.refl _) ?_)
         | refine AltP.mk ?_ ?_
         | refine kpM ?_
         | refine SeqP.go ?_
         | refine cdM ?_
         | exact IsV.mk
         | apply GuardP.mk
         | ((first | apply callPure' en_gVlan | apply callQuiet' en_gVlan); · exact fun w _ => c1 w)
         | ((first | apply callPure' en_gVlan | apply callQuiet' en_gVlan); · exact fun w _ => c2 w)
         | refine Or.inl ⟨_, _, hasM, ?_⟩
         | refine Or.inl ⟨_, _, _, holeM, rfl, rfl, ?_⟩
         | refine lA ?_
         | refine lA0 ?_
         | refine lA1 ?_
         | refine lO ?_
         | refine lO0 ?_
         | refine lO1 ?_
         | refine lR ?_
         | refine lG ?_
         | refine lG0 ?_
         | refine tA ?_
         | refine tA0 ?_
         | refine tA1 ?_
         | refine BytW.ofBlk hasM rfl rfl ?_
         | refine AppW.noneB hasM leM rfl rfl rfl leM leM ?_
         | refine AppW.rowB hasM leM rfl rfl holeM leM leM ?_
         | refine AppW.blkB hasM leM rfl rfl holeM rfl rfl leM leM ?_
         | refine AppW.rowS hasM leM rfl rfl holeM (by omega) leM ?_
         | refine AppW.arrS hasM leM rfl rfl rfl holeM (by first | omega | (simp; omega)) leM ?_
         | refine ⟨sideM, ?_⟩
         | fail)
    all_goals (try conv => whnf)
    all_goals exact EndX.mk () trivial rfl (Ent.of (.cons _ (.cons _ (.cons _ (List.Sublist.refl _)))))
theorem gHear_none (g : GuardV) (b : Nat) (l : List Int) (M : List (Int × Int)) (r t now : Int) (w : World) (hS : St w (feet (g.res b l M)) (g.res b l M) w) (hm : l.length = g.m) (hl : l.length ≤ 1000) (hn : vlanB r = true ∧ vlanB t = true ∧ timeB now = true) (hh : vHasB g.t g.n l r = false) :
    FnX Try.prog 42 [.pointer (some ⟨b, 0, none⟩), .int .i64 r, .int .i64 t, .int .i64 now] (g.res b l M) (fun _ : Unit => True) (fun _ => .int .i64 5) (fun _ => g.res b l M) w := by
  refine funcR_x tyOk wide Try.func42 ok_gHear (Nat.le_of_ble_eq_true rfl) hS ?_
  obtain ⟨h1, h2, h3⟩ := hn
  simp only [timeB, Bool.and_eq_true, decide_eq_true_eq] at h3
  have c1 := gVlan_w r
  have c2 := gVlan_w t
  rw [h1] at c1
  rw [h2] at c2
  have cH := fun w hw => vHas_w g.t g.n l r g.A g.c w hw hl
  rw [hh, hm] at cH
  repeat' first
    | (conv => whnf
       first
       | intro _
       | (first | refine selSplit (fun h => ?_) (fun h => ?_) | refine condSplit (fun h => ?_) (fun h => ?_)) <;> first | exact (clash (by assumption) h).elim | exact (clash h (by assumption)).elim | (simp only [decide_eq_true_eq, decide_eq_false_iff_not, Bool.not_eq_true', Bool.not_eq_false', Bool.not_true, Bool.not_false, Bool.or_eq_true, Bool.and_eq_true, Bool.or_eq_false_iff, Bool.and_eq_false_iff, beq_iff_eq, beq_eq_false_iff_ne, ne_eq] at h; first | (exfalso; omega) | skip) | skip
       | (first | refine drM (.quiet 0 (.quiet 1 (.quiet 2 (.quiet 3 (.quiet 4 (.quiet 5 (.quiet 6 (.quiet 7 .done)))))))) (SubL.refl _) ?_ | refine drM (.quiet 0 (.quiet 1 (.quiet 2 (.quiet 3 (.quiet 4 (.quiet 5 (.quiet 6 (.quiet 7 (.quiet 8 (.quiet 9 (.quiet 10 (.quiet 11 (.quiet 12 (.quiet 13 (.last 14 false .done))))))))))))))) (SubL.refl _) ?_)
       | refine AltP.mk ?_ ?_
       | refine kpM ?_
       | refine SeqP.go ?_
       | refine cdM ?_
       | exact IsV.mk
       | apply GuardP.mk
       | ((first | apply callPure' en_gVlan | apply callQuiet' en_gVlan); · exact fun w _ => c1 w)
       | ((first | apply callPure' en_gVlan | apply callQuiet' en_gVlan); · exact fun w _ => c2 w)
       | ((first | apply callPure' en_vHas | apply callQuiet' en_vHas); · exact fun w hw => cH w (hw.arrSl hasM))
       | refine Or.inl ⟨_, _, hasM, ?_⟩
       | refine Or.inl ⟨_, _, _, holeM, rfl, rfl, ?_⟩
       | refine lA ?_
       | refine lA0 ?_
       | refine lA1 ?_
       | refine lO ?_
       | refine lO0 ?_
       | refine lO1 ?_
       | refine lR ?_
       | refine lG ?_
       | refine lG0 ?_
       | refine tA ?_
       | refine tA0 ?_
       | refine tA1 ?_
       | refine BytW.ofBlk hasM rfl rfl ?_
       | refine AppW.noneB hasM leM rfl rfl rfl leM leM ?_
       | refine AppW.rowB hasM leM rfl rfl holeM leM leM ?_
       | refine AppW.blkB hasM leM rfl rfl holeM rfl rfl leM leM ?_
       | refine AppW.rowS hasM leM rfl rfl holeM (by omega) leM ?_
       | refine AppW.arrS hasM leM rfl rfl rfl holeM (by first | omega | (simp; omega)) leM ?_
       | refine ⟨sideM, ?_⟩
       | fail)
  all_goals (try conv => whnf)
  all_goals first | exact EndX.mk () trivial rfl (Ent.of (.cons _ (.cons _ (.cons _ (List.Sublist.refl _))))) | (exfalso; grind)
end Go.Proofs.Ytgjdmlgdgbehoaa.Am
