/- The law VectorOrder. -/
import Derived.Test.YticobcojmpakfaaLVec2
import Derived.Test.YticobcojmpakfaaOpa
set_option linter.unusedVariables false
set_option linter.unusedSimpArgs false
set_option maxRecDepth 100000
set_option maxHeartbeats 4000000
namespace Go.Proofs.Yticobcojmpakfaa.Am
open Go Go.RowKit
def lt4 (x y : V4) : Prop := x.1 < y.1 ∨ x.1 = y.1 ∧ (x.2.1 < y.2.1 ∨ x.2.1 = y.2.1 ∧ (x.2.2.1 < y.2.2.1 ∨ x.2.2.1 = y.2.2.1 ∧ x.2.2.2 < y.2.2.2))
theorem cmp4_val (x y : V4) : (cmp4 x y = -1 ∧ lt4 x y) ∨ (cmp4 x y = 1 ∧ lt4 y x) ∨ (cmp4 x y = 0 ∧ x = y) := by
  obtain ⟨a, b, c, d⟩ := x
  obtain ⟨a', b', c', d'⟩ := y
  simp only [cmp4, cmpV, cmpL, lt4, Prod.mk.injEq]
  split
  · left; omega
  · split
    · right; left; omega
    · split
      · left; omega
      · split
        · right; left; omega
        · split
          · left; omega
          · split
            · right; left; omega
            · split
              · left; omega
              · split
                · right; left; omega
                · right; right; omega
theorem lt4_irr (x : V4) : ¬ lt4 x x := by unfold lt4; omega
theorem lt4_asymm {x y : V4} (h : lt4 x y) : ¬ lt4 y x := by unfold lt4 at *; omega
theorem lt4_trans {x y z : V4} (h : lt4 x y) (h' : lt4 y z) : lt4 x z := by unfold lt4 at *; omega
theorem cmp4_neg {x y : V4} : cmp4 x y < 0 ↔ lt4 x y := by
  rcases cmp4_val x y with h | h | h
  · exact ⟨fun _ => h.2, fun _ => by omega⟩
  · exact ⟨fun _ => by omega, fun h' => absurd h' (lt4_asymm h.2)⟩
  · exact ⟨fun _ => by omega, fun h' => absurd h' (by rw [h.2]; exact lt4_irr _)⟩
theorem cmp4_zero {x y : V4} : cmp4 x y = 0 ↔ x = y := by
  rcases cmp4_val x y with h | h | h
  · exact ⟨fun _ => by omega, fun h' => absurd h.2 (by rw [h']; exact lt4_irr _)⟩
  · exact ⟨fun _ => by omega, fun h' => absurd h.2 (by rw [h']; exact lt4_irr _)⟩
  · exact ⟨fun _ => h.2, fun _ => h.1⟩
theorem cmp4_pos {x y : V4} : 0 < cmp4 x y ↔ lt4 y x := by
  rcases cmp4_val x y with h | h | h
  · exact ⟨fun _ => by omega, fun h' => absurd h' (lt4_asymm h.2)⟩
  · exact ⟨fun _ => h.2, fun _ => by omega⟩
  · exact ⟨fun _ => by omega, fun h' => absurd h' (by rw [h.2]; exact lt4_irr _)⟩
theorem minV_spec (m : V4) (l : List V4) : minV m l ∈ m :: l ∧ ∀ x ∈ m :: l, ¬ lt4 x (minV m l) := by
  induction l generalizing m with
  | nil => exact ⟨by simp [minV], fun x hx => by simp [minV] at hx ⊢; rw [hx]; exact lt4_irr _⟩
  | cons y l ih =>
    have e : minV m (y :: l) = minV (if cmp4 y m < 0 then y else m) l := rfl
    rw [e]
    obtain ⟨h1, h2⟩ := ih (if cmp4 y m < 0 then y else m)
    refine ⟨?_, fun x hx => ?_⟩
    · rcases List.mem_cons.1 h1 with h | h
      · rw [h]; split <;> simp
      · exact List.mem_cons_of_mem _ (List.mem_cons_of_mem _ h)
    · have hh := h2 _ List.mem_cons_self
      rcases List.mem_cons.1 hx with hx | hx
      · subst hx
        by_cases hc : cmp4 y x < 0
        · rw [if_pos hc] at hh ⊢
          intro hlt
          exact hh (lt4_trans (cmp4_neg.1 hc) hlt)
        · rw [if_neg hc] at hh ⊢
          exact hh
      · rcases List.mem_cons.1 hx with hx | hx
        · subst hx
          by_cases hc : cmp4 x m < 0
          · rw [if_pos hc] at hh ⊢
            exact hh
          · rw [if_neg hc] at hh ⊢
            intro hlt
            rcases cmp4_val x m with h | h | h
            · exact hc (by omega)
            · exact hh (lt4_trans h.2 hlt)
            · exact hh (h.2 ▸ hlt)
        · exact h2 x (List.mem_cons_of_mem _ hx)
theorem firstOf_spec (p : V4 → Bool) : ∀ (l : List V4) (k : Nat), (∃ x ∈ l, p x = true) → ∃ j : Nat, firstOf p l k = ((k + j : Nat) : Int) ∧ ∃ h : j < l.length, p (l[j]'h) = true ∧ ∀ i (hi : i < l.length), i < j → p (l[i]'hi) = false
  | [], k, h => by obtain ⟨x, hx, _⟩ := h; cases hx
  | x :: l, k, h => by
    unfold firstOf
    by_cases hx : p x = true
    · rw [if_pos hx]
      exact ⟨0, by simp, by simp, by simpa using hx, fun i _ h => by omega⟩
    · rw [if_neg hx]
      obtain ⟨j, h1, h2, h3, h4⟩ := firstOf_spec p l (k + 1) (by
        obtain ⟨y, hy, hp⟩ := h
        rcases List.mem_cons.1 hy with rfl | hy
        · exact absurd hp hx
        · exact ⟨y, hy, hp⟩)
      refine ⟨j + 1, by rw [h1]; congr 1; omega, by simp; exact h2, by simpa using h3, fun i hi hij => ?_⟩
      cases i with
      | zero => simpa using hx
      | succ i => simpa using h4 i (by simpa using hi) (by omega)
theorem cmpI_zero (a : Int) : (cmpI a 0 = 0) ↔ a = 0 := by unfold cmpI; split <;> (try split) <;> omega
theorem vBest_spec (l : List V4) (h : l ≠ []) : ∃ k : Nat, vBest l = k ∧ ∃ hk : k < l.length, ∀ i (hi : i < l.length), ¬ lt4 (l[i]'hi) (l[k]'hk) ∧ (l[k]'hk = l[i]'hi → k ≤ i) := by
  cases l with
  | nil => exact absurd rfl h
  | cons x l =>
    obtain ⟨h1, h2⟩ := minV_spec x l
    obtain ⟨j, e, hj, hp, hf⟩ := firstOf_spec (fun v => decide (cmpI (cmp4 v (minV x l)) 0 = 0)) (x :: l) 0 ⟨_, h1, by simp [cmpI_zero, cmp4_zero]⟩
    refine ⟨j, by simpa [vBest] using e, hj, fun i hi => ?_⟩
    have hjm : (x :: l)[j] = minV x l := by simpa [cmpI_zero, cmp4_zero] using hp
    refine ⟨by rw [hjm]; exact h2 _ (List.getElem_mem hi), fun he => ?_⟩
    rcases Nat.lt_or_ge i j with hij | hij
    · exfalso
      have := hf i hi hij
      rw [he] at hjm
      simp [cmpI_zero, cmp4_zero, hjm] at this
    · exact hij
theorem V4_ext {a b c d a' b' c' d' : Int} : allEq [Value.int .u64 a, .int .u64 b, .int .u64 c, .int .u64 d] [.int .u64 a', .int .u64 b', .int .u64 c', .int .u64 d'] = decide (((a, b, c, d) : V4) = (a', b', c', d')) := by
  rw [Bool.eq_iff_iff]
  simp [allEq, cellEq]
theorem ok_VectorOrder : (match Try.f11.body with | some c => codeOk Try.f11.ntmps c | none => false) = true := by kernel_rfl
theorem en_VectorOrder : ∃ fn, Try.prog.funcs[11]? = some fn ∧ (fn.name == "runtime.NumGoroutine") = false ∧ fn.body.isNone = false := ⟨_, Try.func11, by kernel_rfl, by kernel_rfl⟩
theorem VectorOrder_w (x y z : V4) (l : List V4) (A : Option Addr) (c : Nat) (w : World) (hs : SlAt w A 4 (l.map encV)) : PuAt Try.prog 11 [.agg ⟨encV x⟩, .agg ⟨encV y⟩, .agg ⟨encV z⟩, .slice A l.length c] (.bool true) w := by
  refine funcR_pure tyOk wide Try.func11 ok_VectorOrder (Nat.le_of_ble_eq_true rfl) ?_
  by_cases hl : 100 < l.length
  · skip
    repeat' first
      | (conv => whnf
         first
         | intro _
         | (first | refine selSplit (fun h => ?_) (fun h => ?_) | refine condSplit (fun h => ?_) (fun h => ?_)) <;> first | exact (clash (by assumption) h).elim | exact (clash h (by assumption)).elim | (simp only [decide_eq_true_eq, decide_eq_false_iff_not, Bool.not_eq_true', Bool.not_eq_false', Bool.not_true, Bool.not_false, Bool.or_eq_true, Bool.and_eq_true, Bool.or_eq_false_iff, Bool.and_eq_false_iff, beq_iff_eq, beq_eq_false_iff_ne, ne_eq] at h; first | (exfalso; omega) | skip) | skip
         | (first | refine DrawR.mk _ (.quiet 0 (.quiet 1 (.quiet 2 (.quiet 3 (.quiet 4 (.quiet 5 (.quiet 6 (.quiet 7 (.quiet 8 (.quiet 9 (.quiet 10 (.quiet 11 .done)))))))))))) (by decide +kernel) (SubL.refl _) ?_ | refine DrawR.mk _ (.quiet 0 (.quiet 1 (.quiet 2 (.quiet 3 (.quiet 4 (.quiet 5 (.quiet 6 (.quiet 7 (.quiet 8 (.quiet 9 .done)))))))))) (by decide +kernel) (SubL.refl _) ?_)
         | refine AltP.mk ?_ ?_
         | refine KeepP.mk (SubL.of (by repeat (first | exact List.Sublist.refl _ | exact List.nil_sublist _ | apply List.Sublist.cons_cons | apply List.Sublist.cons))) ?_
         | refine SeqP.go ?_
         | refine CondR.mk (by decide +kernel) ?_
         | exact IsV.mk
         | apply GuardP.mk
         | (apply callPure' en_awake05; · exact fun w _ => awake05_w w)
         | (apply callQuiet' en_awake05; · exact fun w _ => awake05_w w)
         | (first | refine eqlW eqS55 rfl rfl rfl (by repeat' first | exact trivial | apply And.intro | rfl) (by repeat' first | exact trivial | apply And.intro | rfl) ?_ | refine neqW eqS55 rfl rfl rfl (by repeat' first | exact trivial | apply And.intro | rfl) (by repeat' first | exact trivial | apply And.intro | rfl) ?_)
         | refine Or.inl ⟨_, _, (memHas (by repeat (first | apply Has.here | apply Has.there))), ?_⟩
         | refine Or.inl ⟨_, _, _, (by repeat (first | apply Hole.here | apply Hole.there)), rfl, rfl, ?_⟩
         | (apply loadArr; (· apply memHas; (repeat (first | apply Has.here | apply Has.there))); (· rfl); (· (first | assumption | exact getSelf (by assumption) | exact mapGet (by omega) | (simp; done))))
         | (apply loadArr0; (· apply memHas; (repeat (first | apply Has.here | apply Has.there))); (· rfl); (· (first | assumption | exact getSelf (by assumption) | exact mapGet (by omega) | (simp; done))))
         | (apply loadArr1; (· apply memHas; (repeat (first | apply Has.here | apply Has.there))); (· rfl); (· (first | assumption | exact getSelf (by assumption) | exact mapGet (by omega) | (simp; done))))
         | (apply loadOld; (· assumption); (· rfl); (· (first | assumption | exact getSelf (by assumption) | exact mapGet (by omega) | (simp; done))))
         | (apply loadOld0; (· assumption); (· rfl); (· (first | assumption | exact getSelf (by assumption) | exact mapGet (by omega) | (simp; done))))
         | (apply loadOld1; (· assumption); (· rfl); (· (first | assumption | exact getSelf (by assumption) | exact mapGet (by omega) | (simp; done))))
         | (apply loadRg; (· assumption); (· rfl))
         | (apply loadRg0; (· assumption))
         | (apply Or.inr; apply storeArr; (· (repeat (first | apply Hole.here | apply Hole.there))); (· rfl); (· (first | assumption | exact getSelf (by assumption) | exact mapGet (by omega) | (simp; done))); (· rfl); (· rfl))
         | (apply Or.inr; apply storeArr0; (· (repeat (first | apply Hole.here | apply Hole.there))); (· rfl); (· (first | assumption | exact getSelf (by assumption) | exact mapGet (by omega) | (simp; done))); (· rfl); (· rfl))
         | (apply Or.inr; apply storeArr1; (· (repeat (first | apply Hole.here | apply Hole.there))); (· rfl); (· (first | assumption | exact getSelf (by assumption) | exact mapGet (by omega) | (simp; done))); (· rfl); (· rfl))
         | refine BytW.ofBlk (memHas (by repeat (first | apply Has.here | apply Has.there))) rfl rfl ?_
         | refine AppW.noneB (memHas (by repeat (first | apply Has.here | apply Has.there))) (Nat.le_of_ble_eq_true rfl) rfl rfl rfl (Nat.le_of_ble_eq_true rfl) (Nat.le_of_ble_eq_true rfl) ?_
         | refine AppW.rowB (memHas (by repeat (first | apply Has.here | apply Has.there))) (Nat.le_of_ble_eq_true rfl) rfl rfl (by repeat (first | apply Hole.here | apply Hole.there)) (Nat.le_of_ble_eq_true rfl) (Nat.le_of_ble_eq_true rfl) ?_
         | refine AppW.blkB (memHas (by repeat (first | apply Has.here | apply Has.there))) (Nat.le_of_ble_eq_true rfl) rfl rfl (by repeat (first | apply Hole.here | apply Hole.there)) rfl rfl (Nat.le_of_ble_eq_true rfl) (Nat.le_of_ble_eq_true rfl) ?_
         | refine AppW.rowS (memHas (by repeat (first | apply Has.here | apply Has.there))) (Nat.le_of_ble_eq_true rfl) rfl rfl (by repeat (first | apply Hole.here | apply Hole.there)) (by omega) (Nat.le_of_ble_eq_true rfl) ?_
         | refine AppW.arrS (memHas (by repeat (first | apply Has.here | apply Has.there))) (Nat.le_of_ble_eq_true rfl) rfl rfl rfl (by repeat (first | apply Hole.here | apply Hole.there)) (by first | omega | (simp; omega)) (Nat.le_of_ble_eq_true rfl) ?_
         | refine ⟨(by first | rfl | omega | exact ⟨by omega, by omega⟩ | exact ⟨by omega, by omega, by omega⟩ | exact ⟨_, _, rfl⟩ | decide), ?_⟩
         | fail)
    all_goals (try conv => whnf)
    all_goals first | rfl | (exfalso; omega)
  · have hb : ∀ w1, St w [] [] w1 → (l ≠ [] → ∃ b o, A = some ⟨b, o, none⟩ ∧ w1.rangeAt b o (l.flatMap encV)) := fun w1 hw hne => by
      obtain ⟨b, o, e, hr⟩ := hs.at_ (by simpa using List.length_pos_iff.2 hne)
      exact ⟨b, o, e, Rd.old (X := []) hr (by simp) w1 hw⟩
    have hb' : ∀ {H : List Res} {w1 : World}, St w [] H w1 → (l ≠ [] → ∃ b o, A = some ⟨b, o, none⟩ ∧ w1.rangeAt b o (l.flatMap encV)) := fun hw => hb _ (hw.sub (List.nil_sublist _))
    repeat' first
      | (conv => whnf
         first
         | intro _
         | (first | refine selSplit (fun h => ?_) (fun h => ?_) | refine condSplit (fun h => ?_) (fun h => ?_)) <;> first | exact (clash (by assumption) h).elim | exact (clash h (by assumption)).elim | (simp only [decide_eq_true_eq, decide_eq_false_iff_not, Bool.not_eq_true', Bool.not_eq_false', Bool.not_true, Bool.not_false, Bool.or_eq_true, Bool.and_eq_true, Bool.or_eq_false_iff, Bool.and_eq_false_iff, beq_iff_eq, beq_eq_false_iff_ne, ne_eq] at h; first | (exfalso; omega) | skip) | skip
         | (first | refine DrawR.mk _ (.quiet 0 (.quiet 1 (.quiet 2 (.quiet 3 (.quiet 4 (.quiet 5 (.quiet 6 (.quiet 7 (.quiet 8 (.quiet 9 (.quiet 10 (.quiet 11 .done)))))))))))) (by decide +kernel) (SubL.refl _) ?_ | refine DrawR.mk _ (.quiet 0 (.quiet 1 (.quiet 2 (.quiet 3 (.quiet 4 (.quiet 5 (.quiet 6 (.quiet 7 (.quiet 8 (.quiet 9 .done)))))))))) (by decide +kernel) (SubL.refl _) ?_)
         | refine AltP.mk ?_ ?_
         | refine KeepP.mk (SubL.of (by repeat (first | exact List.Sublist.refl _ | exact List.nil_sublist _ | apply List.Sublist.cons_cons | apply List.Sublist.cons))) ?_
         | refine SeqP.go ?_
         | refine CondR.mk (by decide +kernel) ?_
         | exact IsV.mk
         | apply GuardP.mk
         | (apply callPure' en_awake05; · exact fun w _ => awake05_w w)
         | (apply callQuiet' en_awake05; · exact fun w _ => awake05_w w)
         | (apply callPure' en_vCompare; · exact fun w _ => vCompare_w _ _ _ _ _ _ _ _ w)
         | (apply callQuiet' en_vCompare; · exact fun w _ => vCompare_w _ _ _ _ _ _ _ _ w)
         | (apply callPure' en_vSupersedes; · exact fun w _ => vSupersedes_w _ _ _ _ _ _ _ _ w)
         | (apply callQuiet' en_vSupersedes; · exact fun w _ => vSupersedes_w _ _ _ _ _ _ _ _ w)
         | (apply callPure' en_vBest; · exact fun w hw => vBest_w A c l w (hb' hw) (by omega))
         | (apply callQuiet' en_vBest; · exact fun w hw => vBest_w A c l w (hb' hw) (by omega))
         | (first | refine eqlW eqS55 rfl rfl rfl (by repeat' first | exact trivial | apply And.intro | rfl) (by repeat' first | exact trivial | apply And.intro | rfl) ?_ | refine neqW eqS55 rfl rfl rfl (by repeat' first | exact trivial | apply And.intro | rfl) (by repeat' first | exact trivial | apply And.intro | rfl) ?_)
         | refine Or.inl ⟨_, _, (memHas (by repeat (first | apply Has.here | apply Has.there))), ?_⟩
         | refine Or.inl ⟨_, _, _, (by repeat (first | apply Hole.here | apply Hole.there)), rfl, rfl, ?_⟩
         | (apply loadArr; (· apply memHas; (repeat (first | apply Has.here | apply Has.there))); (· rfl); (· (first | assumption | exact getSelf (by assumption) | exact mapGet (by omega) | (simp; done))))
         | (apply loadArr0; (· apply memHas; (repeat (first | apply Has.here | apply Has.there))); (· rfl); (· (first | assumption | exact getSelf (by assumption) | exact mapGet (by omega) | (simp; done))))
         | (apply loadArr1; (· apply memHas; (repeat (first | apply Has.here | apply Has.there))); (· rfl); (· (first | assumption | exact getSelf (by assumption) | exact mapGet (by omega) | (simp; done))))
         | (apply loadOld; (· assumption); (· rfl); (· (first | assumption | exact getSelf (by assumption) | exact mapGet (by omega) | (simp; done))))
         | (apply loadOld0; (· assumption); (· rfl); (· (first | assumption | exact getSelf (by assumption) | exact mapGet (by omega) | (simp; done))))
         | (apply loadOld1; (· assumption); (· rfl); (· (first | assumption | exact getSelf (by assumption) | exact mapGet (by omega) | (simp; done))))
         | (apply loadRg; (· assumption); (· rfl))
         | (apply loadRg0; (· assumption))
         | (apply Or.inr; apply storeArr; (· (repeat (first | apply Hole.here | apply Hole.there))); (· rfl); (· (first | assumption | exact getSelf (by assumption) | exact mapGet (by omega) | (simp; done))); (· rfl); (· rfl))
         | (apply Or.inr; apply storeArr0; (· (repeat (first | apply Hole.here | apply Hole.there))); (· rfl); (· (first | assumption | exact getSelf (by assumption) | exact mapGet (by omega) | (simp; done))); (· rfl); (· rfl))
         | (apply Or.inr; apply storeArr1; (· (repeat (first | apply Hole.here | apply Hole.there))); (· rfl); (· (first | assumption | exact getSelf (by assumption) | exact mapGet (by omega) | (simp; done))); (· rfl); (· rfl))
         | refine BytW.ofBlk (memHas (by repeat (first | apply Has.here | apply Has.there))) rfl rfl ?_
         | refine AppW.noneB (memHas (by repeat (first | apply Has.here | apply Has.there))) (Nat.le_of_ble_eq_true rfl) rfl rfl rfl (Nat.le_of_ble_eq_true rfl) (Nat.le_of_ble_eq_true rfl) ?_
         | refine AppW.rowB (memHas (by repeat (first | apply Has.here | apply Has.there))) (Nat.le_of_ble_eq_true rfl) rfl rfl (by repeat (first | apply Hole.here | apply Hole.there)) (Nat.le_of_ble_eq_true rfl) (Nat.le_of_ble_eq_true rfl) ?_
         | refine AppW.blkB (memHas (by repeat (first | apply Has.here | apply Has.there))) (Nat.le_of_ble_eq_true rfl) rfl rfl (by repeat (first | apply Hole.here | apply Hole.there)) rfl rfl (Nat.le_of_ble_eq_true rfl) (Nat.le_of_ble_eq_true rfl) ?_
         | refine AppW.rowS (memHas (by repeat (first | apply Has.here | apply Has.there))) (Nat.le_of_ble_eq_true rfl) rfl rfl (by repeat (first | apply Hole.here | apply Hole.there)) (by omega) (Nat.le_of_ble_eq_true rfl) ?_
         | refine AppW.arrS (memHas (by repeat (first | apply Has.here | apply Has.there))) (Nat.le_of_ble_eq_true rfl) rfl rfl rfl (by repeat (first | apply Hole.here | apply Hole.there)) (by first | omega | (simp; omega)) (Nat.le_of_ble_eq_true rfl) ?_
         | refine ⟨(by first | rfl | omega | exact ⟨by omega, by omega⟩ | exact ⟨by omega, by omega, by omega⟩ | exact ⟨_, _, rfl⟩ | decide), ?_⟩
         | fail)
    all_goals (try conv => whnf)
    all_goals (try refine v_bool ?_)
    · exfalso
      have f1 := cmp4_val x y
      have f2 := cmp4_val y x
      have w1 : IntKind.i64.wrap (0 - cmp4 y x) = - cmp4 y x := by rw [w64 (by rcases f2 with f | f | f <;> omega) (by rcases f2 with f | f | f <;> omega)]; omega
      rcases h with (((h | h) | h) | h) | h
      · refine h ?_
        show cmp4 x y = IntKind.i64.wrap (0 - cmp4 y x)
        rw [w1]
        rcases f1 with f | f | f <;> rcases f2 with g | g | g
        all_goals first
          | omega
          | exact absurd g.2 (lt4_asymm f.2)
          | (exfalso; have := g.2; rw [f.2] at this; exact lt4_irr _ this)
          | (exfalso; have := f.2; rw [g.2] at this; exact lt4_irr _ this)
      · refine h ?_
        rw [V4_ext]
        exact decide_eq_decide.2 cmp4_zero
      · obtain ⟨⟨h1, h2⟩, h3⟩ := h
        have g1 := cmp4_neg.1 (show cmp4 x y < 0 from h1)
        have g2 := cmp4_neg.1 (show cmp4 y z < 0 from h2)
        have g3 := cmp4_neg.2 (lt4_trans g1 g2)
        have h3 : 0 ≤ cmp4 x z := h3
        omega
      · obtain ⟨h1, h2⟩ := h
        simp [supB, h1] at h2
      · simp [supB] at h
    · have : l = [] := List.length_eq_zero_iff.1 (by omega)
      subst this
      rfl
    · have hne : l ≠ [] := by intro e; subst e; simp at h
      obtain ⟨k, hk, hkl, hbest⟩ := vBest_spec l hne
      obtain ⟨b, o, rfl, hr⟩ := hs.at_ (by simpa using List.length_pos_iff.2 hne)
      have ho := hs.old (X := []) (by simpa using List.length_pos_iff.2 hne) (by simp)
      refine .mk Nat (fun i S H => i ≤ l.length ∧ S = [(13, .int .i64 i), (3, .slice (some ⟨b, o, none⟩) l.length c), (12, .int .i64 k)] ∧ H = []) (fun i => l.length - i) 0 _ _ ⟨by omega, rfl, rfl⟩ ⟨rfl, rfl, by rw [← hk]; rfl, trivial⟩ (Ent.of (by repeat (first | exact List.Sublist.refl _ | exact List.nil_sublist _ | apply List.Sublist.cons_cons | apply List.Sublist.cons))) ?_
      rintro i S1 H1 ⟨hi, rfl, rfl⟩
      by_cases hi2 : i < l.length
      · obtain ⟨hb1, hb2⟩ := hbest i hi2
        have g1 : (l.map encV)[k]? = some (encV l[k]) := mapGet hkl
        have g2 : (l.map encV)[i]? = some (encV l[i]) := mapGet hi2
        repeat' first
          | (conv => whnf
             first
             | intro _
             | (first | refine selSplit (fun h => ?_) (fun h => ?_) | refine condSplit (fun h => ?_) (fun h => ?_)) <;> first | exact (clash (by assumption) h).elim | exact (clash h (by assumption)).elim | (simp only [decide_eq_true_eq, decide_eq_false_iff_not, Bool.not_eq_true', Bool.not_eq_false', Bool.not_true, Bool.not_false, Bool.or_eq_true, Bool.and_eq_true, Bool.or_eq_false_iff, Bool.and_eq_false_iff, beq_iff_eq, beq_eq_false_iff_ne, ne_eq] at h; first | (exfalso; omega) | skip) | skip
             | (first | refine DrawR.mk _ (.quiet 0 (.quiet 1 (.quiet 2 (.quiet 3 (.quiet 4 (.quiet 5 (.quiet 6 (.quiet 7 (.quiet 8 (.quiet 9 (.quiet 10 (.quiet 11 .done)))))))))))) (by decide +kernel) (SubL.refl _) ?_ | refine DrawR.mk _ (.quiet 0 (.quiet 1 (.quiet 2 (.quiet 3 (.quiet 4 (.quiet 5 (.quiet 6 (.quiet 7 (.quiet 8 (.quiet 9 .done)))))))))) (by decide +kernel) (SubL.refl _) ?_)
             | refine AltP.mk ?_ ?_
             | refine KeepP.mk (SubL.of (by repeat (first | exact List.Sublist.refl _ | exact List.nil_sublist _ | apply List.Sublist.cons_cons | apply List.Sublist.cons))) ?_
             | refine SeqP.go ?_
             | refine CondR.mk (by decide +kernel) ?_
             | exact IsV.mk
             | apply GuardP.mk
             | (apply callPure' en_vCompare; · exact fun w _ => vCompare_w _ _ _ _ _ _ _ _ w)
             | (apply callQuiet' en_vCompare; · exact fun w _ => vCompare_w _ _ _ _ _ _ _ _ w)
             | (first | refine eqlW eqS55 rfl rfl rfl (by repeat' first | exact trivial | apply And.intro | rfl) (by repeat' first | exact trivial | apply And.intro | rfl) ?_ | refine neqW eqS55 rfl rfl rfl (by repeat' first | exact trivial | apply And.intro | rfl) (by repeat' first | exact trivial | apply And.intro | rfl) ?_)
             | refine Or.inl ⟨_, _, (memHas (by repeat (first | apply Has.here | apply Has.there))), ?_⟩
             | refine Or.inl ⟨_, _, _, (by repeat (first | apply Hole.here | apply Hole.there)), rfl, rfl, ?_⟩
             | (apply loadArr; (· apply memHas; (repeat (first | apply Has.here | apply Has.there))); (· rfl); (· (first | assumption | exact getSelf (by assumption) | exact mapGet (by omega) | (simp; done))))
             | (apply loadArr0; (· apply memHas; (repeat (first | apply Has.here | apply Has.there))); (· rfl); (· (first | assumption | exact getSelf (by assumption) | exact mapGet (by omega) | (simp; done))))
             | (apply loadArr1; (· apply memHas; (repeat (first | apply Has.here | apply Has.there))); (· rfl); (· (first | assumption | exact getSelf (by assumption) | exact mapGet (by omega) | (simp; done))))
             | (apply loadOld; (· assumption); (· rfl); (· (first | assumption | exact getSelf (by assumption) | exact mapGet (by omega) | (simp; done))))
             | (apply loadOld0; (· assumption); (· rfl); (· (first | assumption | exact getSelf (by assumption) | exact mapGet (by omega) | (simp; done))))
             | (apply loadOld1; (· assumption); (· rfl); (· (first | assumption | exact getSelf (by assumption) | exact mapGet (by omega) | (simp; done))))
             | (apply loadRg; (· assumption); (· rfl))
             | (apply loadRg0; (· assumption))
             | (apply Or.inr; apply storeArr; (· (repeat (first | apply Hole.here | apply Hole.there))); (· rfl); (· (first | assumption | exact getSelf (by assumption) | exact mapGet (by omega) | (simp; done))); (· rfl); (· rfl))
             | (apply Or.inr; apply storeArr0; (· (repeat (first | apply Hole.here | apply Hole.there))); (· rfl); (· (first | assumption | exact getSelf (by assumption) | exact mapGet (by omega) | (simp; done))); (· rfl); (· rfl))
             | (apply Or.inr; apply storeArr1; (· (repeat (first | apply Hole.here | apply Hole.there))); (· rfl); (· (first | assumption | exact getSelf (by assumption) | exact mapGet (by omega) | (simp; done))); (· rfl); (· rfl))
             | refine BytW.ofBlk (memHas (by repeat (first | apply Has.here | apply Has.there))) rfl rfl ?_
             | refine AppW.noneB (memHas (by repeat (first | apply Has.here | apply Has.there))) (Nat.le_of_ble_eq_true rfl) rfl rfl rfl (Nat.le_of_ble_eq_true rfl) (Nat.le_of_ble_eq_true rfl) ?_
             | refine AppW.rowB (memHas (by repeat (first | apply Has.here | apply Has.there))) (Nat.le_of_ble_eq_true rfl) rfl rfl (by repeat (first | apply Hole.here | apply Hole.there)) (Nat.le_of_ble_eq_true rfl) (Nat.le_of_ble_eq_true rfl) ?_
             | refine AppW.blkB (memHas (by repeat (first | apply Has.here | apply Has.there))) (Nat.le_of_ble_eq_true rfl) rfl rfl (by repeat (first | apply Hole.here | apply Hole.there)) rfl rfl (Nat.le_of_ble_eq_true rfl) (Nat.le_of_ble_eq_true rfl) ?_
             | refine AppW.rowS (memHas (by repeat (first | apply Has.here | apply Has.there))) (Nat.le_of_ble_eq_true rfl) rfl rfl (by repeat (first | apply Hole.here | apply Hole.there)) (by omega) (Nat.le_of_ble_eq_true rfl) ?_
             | refine AppW.arrS (memHas (by repeat (first | apply Has.here | apply Has.there))) (Nat.le_of_ble_eq_true rfl) rfl rfl rfl (by repeat (first | apply Hole.here | apply Hole.there)) (by first | omega | (simp; omega)) (Nat.le_of_ble_eq_true rfl) ?_
             | refine ⟨(by first | rfl | omega | exact ⟨by omega, by omega⟩ | exact ⟨by omega, by omega, by omega⟩ | exact ⟨_, _, rfl⟩ | decide), ?_⟩
             | fail)
        all_goals (try conv => whnf)
        · exfalso
          rcases h with h | ⟨h, h'⟩
          · exact hb1 (cmp4_pos.1 (show 0 < cmp4 l[k] l[i] from h))
          · have := hb2 (cmp4_zero.1 (show cmp4 l[k] l[i] = 0 from h)); omega
        · refine .mk (i + 1) _ _ (by omega) ⟨by omega, rfl, rfl⟩ (by repeat' first | exact trivial | apply And.intro | rfl | (refine eq_int ?_; first | omega | (rw [w64 (by omega) (by omega)]; omega))) (Ent.of (by repeat (first | exact List.Sublist.refl _ | exact List.nil_sublist _ | apply List.Sublist.cons_cons | apply List.Sublist.cons)))
      · skip
        repeat' first
          | (conv => whnf
             first
             | intro _
             | (first | refine selSplit (fun h => ?_) (fun h => ?_) | refine condSplit (fun h => ?_) (fun h => ?_)) <;> first | exact (clash (by assumption) h).elim | exact (clash h (by assumption)).elim | (simp only [decide_eq_true_eq, decide_eq_false_iff_not, Bool.not_eq_true', Bool.not_eq_false', Bool.not_true, Bool.not_false, Bool.or_eq_true, Bool.and_eq_true, Bool.or_eq_false_iff, Bool.and_eq_false_iff, beq_iff_eq, beq_eq_false_iff_ne, ne_eq] at h; first | (exfalso; omega) | skip) | skip
             | (first | refine DrawR.mk _ (.quiet 0 (.quiet 1 (.quiet 2 (.quiet 3 (.quiet 4 (.quiet 5 (.quiet 6 (.quiet 7 (.quiet 8 (.quiet 9 (.quiet 10 (.quiet 11 .done)))))))))))) (by decide +kernel) (SubL.refl _) ?_ | refine DrawR.mk _ (.quiet 0 (.quiet 1 (.quiet 2 (.quiet 3 (.quiet 4 (.quiet 5 (.quiet 6 (.quiet 7 (.quiet 8 (.quiet 9 .done)))))))))) (by decide +kernel) (SubL.refl _) ?_)
             | refine AltP.mk ?_ ?_
             | refine KeepP.mk (SubL.of (by repeat (first | exact List.Sublist.refl _ | exact List.nil_sublist _ | apply List.Sublist.cons_cons | apply List.Sublist.cons))) ?_
             | refine SeqP.go ?_
             | refine CondR.mk (by decide +kernel) ?_
             | exact IsV.mk
             | apply GuardP.mk
             | (first | refine eqlW eqS55 rfl rfl rfl (by repeat' first | exact trivial | apply And.intro | rfl) (by repeat' first | exact trivial | apply And.intro | rfl) ?_ | refine neqW eqS55 rfl rfl rfl (by repeat' first | exact trivial | apply And.intro | rfl) (by repeat' first | exact trivial | apply And.intro | rfl) ?_)
             | refine Or.inl ⟨_, _, (memHas (by repeat (first | apply Has.here | apply Has.there))), ?_⟩
             | refine Or.inl ⟨_, _, _, (by repeat (first | apply Hole.here | apply Hole.there)), rfl, rfl, ?_⟩
             | (apply loadArr; (· apply memHas; (repeat (first | apply Has.here | apply Has.there))); (· rfl); (· (first | assumption | exact getSelf (by assumption) | exact mapGet (by omega) | (simp; done))))
             | (apply loadArr0; (· apply memHas; (repeat (first | apply Has.here | apply Has.there))); (· rfl); (· (first | assumption | exact getSelf (by assumption) | exact mapGet (by omega) | (simp; done))))
             | (apply loadArr1; (· apply memHas; (repeat (first | apply Has.here | apply Has.there))); (· rfl); (· (first | assumption | exact getSelf (by assumption) | exact mapGet (by omega) | (simp; done))))
             | (apply loadOld; (· assumption); (· rfl); (· (first | assumption | exact getSelf (by assumption) | exact mapGet (by omega) | (simp; done))))
             | (apply loadOld0; (· assumption); (· rfl); (· (first | assumption | exact getSelf (by assumption) | exact mapGet (by omega) | (simp; done))))
             | (apply loadOld1; (· assumption); (· rfl); (· (first | assumption | exact getSelf (by assumption) | exact mapGet (by omega) | (simp; done))))
             | (apply loadRg; (· assumption); (· rfl))
             | (apply loadRg0; (· assumption))
             | (apply Or.inr; apply storeArr; (· (repeat (first | apply Hole.here | apply Hole.there))); (· rfl); (· (first | assumption | exact getSelf (by assumption) | exact mapGet (by omega) | (simp; done))); (· rfl); (· rfl))
             | (apply Or.inr; apply storeArr0; (· (repeat (first | apply Hole.here | apply Hole.there))); (· rfl); (· (first | assumption | exact getSelf (by assumption) | exact mapGet (by omega) | (simp; done))); (· rfl); (· rfl))
             | (apply Or.inr; apply storeArr1; (· (repeat (first | apply Hole.here | apply Hole.there))); (· rfl); (· (first | assumption | exact getSelf (by assumption) | exact mapGet (by omega) | (simp; done))); (· rfl); (· rfl))
             | refine BytW.ofBlk (memHas (by repeat (first | apply Has.here | apply Has.there))) rfl rfl ?_
             | refine AppW.noneB (memHas (by repeat (first | apply Has.here | apply Has.there))) (Nat.le_of_ble_eq_true rfl) rfl rfl rfl (Nat.le_of_ble_eq_true rfl) (Nat.le_of_ble_eq_true rfl) ?_
             | refine AppW.rowB (memHas (by repeat (first | apply Has.here | apply Has.there))) (Nat.le_of_ble_eq_true rfl) rfl rfl (by repeat (first | apply Hole.here | apply Hole.there)) (Nat.le_of_ble_eq_true rfl) (Nat.le_of_ble_eq_true rfl) ?_
             | refine AppW.blkB (memHas (by repeat (first | apply Has.here | apply Has.there))) (Nat.le_of_ble_eq_true rfl) rfl rfl (by repeat (first | apply Hole.here | apply Hole.there)) rfl rfl (Nat.le_of_ble_eq_true rfl) (Nat.le_of_ble_eq_true rfl) ?_
             | refine AppW.rowS (memHas (by repeat (first | apply Has.here | apply Has.there))) (Nat.le_of_ble_eq_true rfl) rfl rfl (by repeat (first | apply Hole.here | apply Hole.there)) (by omega) (Nat.le_of_ble_eq_true rfl) ?_
             | refine AppW.arrS (memHas (by repeat (first | apply Has.here | apply Has.there))) (Nat.le_of_ble_eq_true rfl) rfl rfl rfl (by repeat (first | apply Hole.here | apply Hole.there)) (by first | omega | (simp; omega)) (Nat.le_of_ble_eq_true rfl) ?_
             | refine ⟨(by first | rfl | omega | exact ⟨by omega, by omega⟩ | exact ⟨by omega, by omega, by omega⟩ | exact ⟨_, _, rfl⟩ | decide), ?_⟩
             | fail)
        all_goals (try conv => whnf)
        all_goals first | rfl | (exfalso; omega)
theorem VectorOrder_n (x y z : V4) (l : List V4) (A : Option Addr) (n c : Nat) (w : World) (hn : n = l.length) (hs : SlAt w A 4 (l.map encV)) : PuAt Try.prog 11 [.agg ⟨encV x⟩, .agg ⟨encV y⟩, .agg ⟨encV z⟩, .slice A n c] (.bool true) w := by
  subst hn; exact VectorOrder_w x y z l A c w hs
end Go.Proofs.Yticobcojmpakfaa.Am
