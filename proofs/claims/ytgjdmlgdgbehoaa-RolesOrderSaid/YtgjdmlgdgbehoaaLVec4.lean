/- The law VectorOrder. -/
import Derived.Test.YtgjdmlgdgbehoaaLVec2
import Derived.Test.YtgjdmlgdgbehoaaOpa
set_option linter.unusedVariables false
set_option linter.unusedSimpArgs false
set_option maxRecDepth 100000
set_option maxHeartbeats 4000000
namespace Go.Proofs.Ytgjdmlgdgbehoaa.Am
open Go Go.RowKit
def lt4 (x y : V4) : Prop := x.1 < y.1 ∨ x.1 = y.1 ∧ (x.2.1 < y.2.1 ∨ x.2.1 = y.2.1 ∧ (x.2.2.1 < y.2.2.1 ∨ x.2.2.1 = y.2.2.1 ∧ x.2.2.2 < y.2.2.2))
theorem cmp4_val (x y : V4) : (cmp4 x y = -1 ∧ lt4 x y) ∨ (cmp4 x y = 1 ∧ lt4 y x) ∨ (cmp4 x y = 0 ∧ x = y) := by
  obtain ⟨a, b, c, d⟩ := x
  obtain ⟨a', b', c', d'⟩ := y
  simp only [cmp4, cmpV, cmpL, lt4, Prod.mk.injEq]
  split
  · left; omega
  · split
    · right; left; omega
    · split
      · left; omega
      · split
        · right; left; omega
        · split
          · left; omega
          · split
            · right; left; omega
            · split
              · left; omega
              · split
                · right; left; omega
                · right; right; omega
theorem lt4_irr (x : V4) : ¬ lt4 x x := by unfold lt4; omega
theorem lt4_asymm {x y : V4} (h : lt4 x y) : ¬ lt4 y x := by unfold lt4 at *; omega
theorem lt4_trans {x y z : V4} (h : lt4 x y) (h' : lt4 y z) : lt4 x z := by unfold lt4 at *; omega
theorem cmp4_neg {x y : V4} : cmp4 x y < 0 ↔ lt4 x y := by
  rcases cmp4_val x y with h | h | h
  · exact ⟨fun _ => h.2, fun _ => by omega⟩
  · exact ⟨fun _ => by omega, fun h' => absurd h' (lt4_asymm h.2)⟩
  · exact ⟨fun _ => by omega, fun h' => absurd h' (by rw [h.2]; exact lt4_irr _)⟩
theorem cmp4_zero {x y : V4} : cmp4 x y = 0 ↔ x = y := by
  rcases cmp4_val x y with h | h | h
  · exact ⟨fun _ => by omega, fun h' => absurd h.2 (by rw [h']; exact lt4_irr _)⟩
  · exact ⟨fun _ => by omega, fun h' => absurd h.2 (by rw [h']; exact lt4_irr _)⟩
  · exact ⟨fun _ => h.2, fun _ => h.1⟩
theorem cmp4_pos {x y : V4} : 0 < cmp4 x y ↔ lt4 y x := by
  rcases cmp4_val x y with h | h | h
  · exact ⟨fun _ => by omega, fun h' => absurd h' (lt4_asymm h.2)⟩
  · exact ⟨fun _ => h.2, fun _ => by omega⟩
  · exact ⟨fun _ => by omega, fun h' => absurd h' (by rw [h.2]; exact lt4_irr _)⟩
theorem minV_spec (m : V4) (l : List V4) : minV m l ∈ m :: l ∧ ∀ x ∈ m :: l, ¬ lt4 x (minV m l) := by
  induction l generalizing m with
  | nil => exact ⟨by simp [minV], fun x hx => by simp [minV] at hx ⊢; rw [hx]; exact lt4_irr _⟩
  | cons y l ih =>
    have e : minV m (y :: l) = minV (if cmp4 y m < 0 then y else m) l := rfl
    rw [e]
    obtain ⟨h1, h2⟩ := ih (if cmp4 y m < 0 then y else m)
    refine ⟨?_, fun x hx => ?_⟩
    · rcases List.mem_cons.1 h1 with h | h
      · rw [h]; split <;> simp
      · exact List.mem_cons_of_mem _ (List.mem_cons_of_mem _ h)
    · have hh := h2 _ List.mem_cons_self
      rcases List.mem_cons.1 hx with hx | hx
      · subst hx
        by_cases hc : cmp4 y x < 0
        · rw [if_pos hc] at hh ⊢
          intro hlt
          exact hh (lt4_trans (cmp4_neg.1 hc) hlt)
        · rw [if_neg hc] at hh ⊢
          exact hh
      · rcases List.mem_cons.1 hx with hx | hx
        · subst hx
          by_cases hc : cmp4 x m < 0
          · rw [if_pos hc] at hh ⊢
            exact hh
          · rw [if_neg hc] at hh ⊢
            intro hlt
            rcases cmp4_val x m with h | h | h
            · exact hc (by omega)
            · exact hh (lt4_trans h.2 hlt)
            · exact hh (h.2 ▸ hlt)
        · exact h2 x (List.mem_cons_of_mem _ hx)
theorem firstOf_spec (p : V4 → Bool) : ∀ (l : List V4) (k : Nat), (∃ x ∈ l, p x = true) → ∃ j : Nat, firstOf p l k = ((k + j : Nat) : Int) ∧ ∃ h : j < l.length, p (l[j]'h) = true ∧ ∀ i (hi : i < l.length), i < j → p (l[i]'hi) = false
  | [], k, h => by obtain ⟨x, hx, _⟩ := h; cases hx
  | x :: l, k, h => by
    unfold firstOf
    by_cases hx : p x = true
    · rw [if_pos hx]
      exact ⟨0, by simp, by simp, by simpa using hx, fun i _ h => by omega⟩
    · rw [if_neg hx]
      obtain ⟨j, h1, h2, h3, h4⟩ := firstOf_spec p l (k + 1) (by
        obtain ⟨y, hy, hp⟩ := h
        rcases List.mem_cons.1 hy with rfl | hy
        · exact absurd hp hx
        · exact ⟨y, hy, hp⟩)
      refine ⟨j + 1, by rw [h1]; congr 1; omega, by simp; exact h2, by simpa using h3, fun i hi hij => ?_⟩
      cases i with
      | zero => simpa using hx
      | succ i => simpa using h4 i (by simpa using hi) (by omega)
theorem cmpI_zero (a : Int) : (cmpI a 0 = 0) ↔ a = 0 := by unfold cmpI; split <;> (try split) <;> omega
theorem vBest_spec (l : List V4) (h : l ≠ []) : ∃ k : Nat, vBest l = k ∧ ∃ hk : k < l.length, ∀ i (hi : i < l.length), ¬ lt4 (l[i]'hi) (l[k]'hk) ∧ (l[k]'hk = l[i]'hi → k ≤ i) := by
  cases l with
  | nil => exact absurd rfl h
  | cons x l =>
    obtain ⟨h1, h2⟩ := minV_spec x l
    obtain ⟨j, e, hj, hp, hf⟩ := firstOf_spec (fun v => decide (cmpI (cmp4 v (minV x l)) 0 = 0)) (x :: l) 0 ⟨_, h1, by simp [cmpI_zero, cmp4_zero]⟩
    refine ⟨j, by simpa [vBest] using e, hj, fun i hi => ?_⟩
    have hjm : (x :: l)[j] = minV x l := by simpa [cmpI_zero, cmp4_zero] using hp
    refine ⟨by rw [hjm]; exact h2 _ (List.getElem_mem hi), fun he => ?_⟩
    rcases Nat.lt_or_ge i j with hij | hij
    · exfalso
      have := hf i hi hij
      rw [he] at hjm
      simp [cmpI_zero, cmp4_zero, hjm] at this
    · exact hij
theorem V4_ext {a b c d a' b' c' d' : Int} : allEq [Value.int .u64 a, .int .u64 b, .int .u64 c, .int .u64 d] [.int .u64 a', .int .u64 b', .int .u64 c', .int .u64 d'] = decide (((a, b, c, d) : V4) = (a', b', c', d')) := by
  rw [Bool.eq_iff_iff]
  simp [allEq, cellEq]
end Go.Proofs.Ytgjdmlgdgbehoaa.Am
