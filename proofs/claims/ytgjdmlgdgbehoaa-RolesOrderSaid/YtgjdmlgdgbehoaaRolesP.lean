/- The best way, as the document has it: plain. -/
import Derived.Test.YtgjdmlgdgbehoaaRolesR
import Derived.Test.YtgjdmlgdgbehoaaLVec4
set_option linter.unusedVariables false
set_option linter.unusedSimpArgs false
set_option maxRecDepth 100000
set_option maxHeartbeats 4000000
namespace Go.Proofs.Ytgjdmlgdgbehoaa.Am
open Go Go.RowKit
def minS (bridge : Int) (m : V4) (p : InfoV) : V4 := match wayV bridge p with
  | some u => if cmp4 u m < 0 then u else m
  | none => m
def minK (bridge : Int) (ps : List InfoV) : Nat → V4
  | 0 => mineV bridge
  | k + 1 => match ps[k]? with
    | some p => minS bridge (minK bridge ps k) p
    | none => minK bridge ps k
def portK (bridge : Int) (ps : List InfoV) (v : V4) : Nat → Int
  | 0 => -1
  | k + 1 => match ps[k]? with
    | some p => if wayV bridge p = some v ∧ (portK bridge ps v k < 0 ∨ p.Id < idAt ps (portK bridge ps v k)) then (k : Int) else portK bridge ps v k
    | none => portK bridge ps v k
section
variable {bridge : Int} {ps : List InfoV}
theorem minK_succ {k : Nat} {p : InfoV} (h : ps[k]? = some p) : minK bridge ps (k + 1) = minS bridge (minK bridge ps k) p := by conv => lhs; unfold minK; rw [h]
theorem portK_succ {k : Nat} {p : InfoV} {v : V4} (h : ps[k]? = some p) : portK bridge ps v (k + 1) = if wayV bridge p = some v ∧ (portK bridge ps v k < 0 ∨ p.Id < idAt ps (portK bridge ps v k)) then (k : Int) else portK bridge ps v k := by conv => lhs; unfold portK; rw [h]
theorem bestF_way (s : V4 × Int) (k : Nat) (p : InfoV) : bestF bridge ps s k p = match wayV bridge p with
  | some u => tryV ps s k u
  | none => s := by
  unfold bestF wayV
  split <;> rfl
theorem portK_at (v : V4) : ∀ k, -1 ≤ portK bridge ps v k ∧ portK bridge ps v k < k
  | 0 => by simp [portK]
  | k + 1 => by
    have ih := portK_at v k
    unfold portK
    split
    · split <;> push_cast <;> omega
    · push_cast; omega
theorem portK_none (v : V4) : ∀ k, (∀ i p, i < k → ps[i]? = some p → wayV bridge p ≠ some v) → portK bridge ps v k = -1
  | 0, _ => rfl
  | k + 1, h => by
    have ih := portK_none v k fun i p hi hp => h i p (by omega) hp
    unfold portK
    split
    · rename_i p hp
      rw [if_neg (fun q => h k p (by omega) hp q.1), ih]
    · exact ih
theorem portK_some (v : V4) : ∀ k, (∃ i p, i < k ∧ ps[i]? = some p ∧ wayV bridge p = some v) → 0 ≤ portK bridge ps v k
  | 0, ⟨i, p, hi, _⟩ => absurd hi (by omega)
  | k + 1, ⟨i, p, hi, hp, hw⟩ => by
    have h0 := (portK_at (bridge := bridge) (ps := ps) v k).1
    by_cases e : i = k
    · subst e
      rw [portK_succ hp]
      split
      · omega
      · rename_i q
        by_cases g : portK bridge ps v i < 0
        · exact absurd ⟨hw, .inl g⟩ q
        · omega
    · have ih := portK_some v k ⟨i, p, by omega, hp, hw⟩
      unfold portK
      split
      · split <;> omega
      · exact ih
/-- What is known of the least way. -/
theorem minK_spec : ∀ k, (minK bridge ps k = mineV bridge ∨ (lt4 (minK bridge ps k) (mineV bridge) ∧ ∃ i p, i < k ∧ ps[i]? = some p ∧ wayV bridge p = some (minK bridge ps k))) ∧ ∀ i p u, i < k → ps[i]? = some p → wayV bridge p = some u → ¬ lt4 u (minK bridge ps k)
  | 0 => ⟨.inl rfl, fun i p u hi => absurd hi (by omega)⟩
  | k + 1 => by
    obtain ⟨h1, h2⟩ := minK_spec k
    cases hp : ps[k]? with
    | none =>
      have e : minK bridge ps (k + 1) = minK bridge ps k := by conv => lhs; unfold minK; rw [hp]
      rw [e]
      refine ⟨h1.imp id fun ⟨a, i, p, hi, b⟩ => ⟨a, i, p, by omega, b⟩, fun i p u hi hq hw => ?_⟩
      by_cases g : i = k
      · subst g; rw [hp] at hq; cases hq
      · exact h2 i p u (by omega) hq hw
    | some p =>
      rw [minK_succ hp]
      unfold minS
      cases hw : wayV bridge p with
      | none =>
        refine ⟨h1.imp id fun ⟨a, i, p, hi, b⟩ => ⟨a, i, p, by omega, b⟩, fun i p' u hi hq hw' => ?_⟩
        by_cases g : i = k
        · subst g; rw [hp] at hq; cases hq; rw [hw] at hw'; cases hw'
        · exact h2 i p' u (by omega) hq hw'
      | some u =>
        dsimp only
        by_cases hc : cmp4 u (minK bridge ps k) < 0
        · rw [if_pos hc]
          have hlt := cmp4_neg.1 hc
          refine ⟨.inr ⟨?_, k, p, by omega, hp, hw⟩, fun i p' u' hi hq hw' q => ?_⟩
          · rcases h1 with h1 | h1
            · rw [← h1]; exact hlt
            · exact lt4_trans hlt h1.1
          · by_cases g : i = k
            · subst g; rw [hp] at hq; cases hq; rw [hw] at hw'; cases hw'; exact lt4_irr _ q
            · exact h2 i p' u' (by omega) hq hw' (lt4_trans q hlt)
        · rw [if_neg hc]
          refine ⟨h1.imp id fun ⟨a, i, p, hi, b⟩ => ⟨a, i, p, by omega, b⟩, fun i p' u' hi hq hw' => ?_⟩
          by_cases g : i = k
          · subst g; rw [hp] at hq; cases hq; rw [hw] at hw'; cases hw'; exact fun q => hc (cmp4_neg.2 q)
          · exact h2 i p' u' (by omega) hq hw'
def pairOf (bridge : Int) (ps : List InfoV) (m : V4) (k : Nat) : V4 × Int := (m, if m = mineV bridge then -1 else portK bridge ps m k)
theorem bestK_is : ∀ k, bestK bridge ps k = pairOf bridge ps (minK bridge ps k) k
  | 0 => by simp [bestK, minK, pairOf]
  | k + 1 => by
    have ih := bestK_is k
    obtain ⟨s1, s2⟩ := minK_spec (bridge := bridge) (ps := ps) k
    cases hp : ps[k]? with
    | none =>
      have e1 : bestK bridge ps (k + 1) = bestK bridge ps k := by conv => lhs; unfold bestK; rw [hp]
      have e2 : minK bridge ps (k + 1) = minK bridge ps k := by conv => lhs; unfold minK; rw [hp]
      have e3 : ∀ v, portK bridge ps v (k + 1) = portK bridge ps v k := fun v => by conv => lhs; unfold portK; rw [hp]
      rw [e1, e2, ih]
      unfold pairOf
      rw [e3]
    | some p =>
      rw [bestK_succ hp, bestF_way, minK_succ hp, ih]
      unfold minS
      cases hw : wayV bridge p with
      | none =>
        have e3 : ∀ v, portK bridge ps v (k + 1) = portK bridge ps v k := fun v => by rw [portK_succ hp, if_neg (fun q => by rw [hw] at q; cases q.1)]
        dsimp only
        unfold pairOf
        rw [e3]
      | some u =>
        dsimp only
        have hid : idAt ps (k : Int) = p.Id := by unfold idAt; rw [Int.toNat_natCast, hp]; rfl
        unfold tryV
        by_cases hc : cmp4 u (minK bridge ps k) < 0
        · have hlt := cmp4_neg.1 hc
          have hne : ¬ u = mineV bridge := by
            intro q
            subst q
            rcases s1 with s1 | s1
            · rw [s1] at hlt; exact lt4_irr _ hlt
            · exact lt4_asymm hlt s1.1
          have hpn : portK bridge ps u k = -1 := portK_none u k fun i p' hi hq hw' => s2 i p' u hi hq hw' hlt
          rw [if_pos (.inl hc), if_pos hc]
          unfold pairOf
          rw [if_neg hne, portK_succ hp, hpn, if_pos ⟨hw, .inl (by decide)⟩]
        · rw [if_neg (c := cmp4 u (minK bridge ps k) < 0) hc]
          unfold pairOf
          dsimp only
          by_cases hz : cmp4 u (minK bridge ps k) = 0
          · have hu := cmp4_zero.1 hz
            by_cases hm : minK bridge ps k = mineV bridge
            · rw [if_neg (by rw [if_pos hm]; exact fun q => q.elim hc (fun q => absurd q.2.1 (by decide))), if_pos hm, if_pos hm]
            · rcases s1 with s1 | ⟨s1, s3⟩
              · exact absurd s1 hm
              · have h0 := portK_some _ k s3
                rw [if_neg hm, portK_succ hp]
                by_cases hl : p.Id < idAt ps (portK bridge ps (minK bridge ps k) k)
                · rw [if_pos (.inr ⟨hz, h0, by rw [hid]; exact hl⟩), if_neg hm, if_pos ⟨by rw [hw, hu], .inr hl⟩, hu]
                · rw [if_neg (by rw [hid]; exact fun q => q.elim hc (fun q => hl q.2.2)), if_neg hm, if_neg (fun q => q.2.elim (fun q => by omega) hl)]
          · rw [if_neg (fun q => q.elim hc (fun q => hz q.1))]
            have e3 : portK bridge ps (minK bridge ps k) (k + 1) = portK bridge ps (minK bridge ps k) k := by
              rw [portK_succ hp, if_neg (fun q => hz (cmp4_zero.2 (by have := q.1; rw [hw] at this; exact Option.some.inj this)))]
            rw [e3]
end
end Go.Proofs.Ytgjdmlgdgbehoaa.Am
