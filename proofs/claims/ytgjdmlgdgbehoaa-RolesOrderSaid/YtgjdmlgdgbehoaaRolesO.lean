/- Ports in another order, and ports that heard nothing: plain. -/
import Derived.Test.YtgjdmlgdgbehoaaRolesB
set_option linter.unusedVariables false
set_option linter.unusedSimpArgs false
set_option maxRecDepth 100000
set_option maxHeartbeats 4000000
namespace Go.Proofs.Ytgjdmlgdgbehoaa.Am
open Go Go.RowKit
/-- What is asked of one port alone. -/
def okP (p : InfoV) : Bool := okI [] p
theorem okI_split (seen : List Int) (p : InfoV) : okI seen p = (okP p && !decide (p.Id ∈ seen)) := by
  unfold okP okI
  by_cases h : p.Id ∈ seen <;> simp [h]
theorem rightAll_iff : ∀ (l : List InfoV) (seen : List Int), rightAll seen l = true ↔ (∀ p ∈ l, okP p = true) ∧ (l.map InfoV.Id).Nodup ∧ ∀ p ∈ l, p.Id ∉ seen
  | [], seen => by simp [rightAll]
  | p :: r, seen => by
    rw [rightAll, Bool.and_eq_true, rightAll_iff r, okI_split]
    simp only [Bool.and_eq_true, Bool.not_eq_true', decide_eq_false_iff_not, List.mem_append, List.mem_singleton, not_or, List.mem_cons, forall_eq_or_imp, List.map_cons, List.nodup_cons, List.mem_map, not_exists, not_and]
    constructor
    · rintro ⟨⟨h1, h2⟩, h3, h4, h5⟩
      exact ⟨⟨h1, h3⟩, ⟨fun x hx he => (h5 x hx).2.1 he, h4⟩, h2, fun x hx => (h5 x hx).1⟩
    · rintro ⟨⟨h1, h3⟩, ⟨h6, h4⟩, h2, h5⟩
      exact ⟨⟨h1, h2⟩, h3, h4, fun x hx => ⟨h5 x hx, fun e => h6 x hx e, by simp⟩⟩
theorem rightI_iff {l : List InfoV} : rightI l = true ↔ (∀ p ∈ l, okP p = true) ∧ (l.map InfoV.Id).Nodup ∧ l.length ≤ 16 := by
  unfold rightI
  rw [Bool.and_eq_true, rightAll_iff]
  simp [and_assoc]
theorem nodup_rev {l : List Int} (h : l.Nodup) : l.reverse.Nodup := List.pairwise_reverse.2 (h.imp fun h => h.symm)
theorem right_rev {l : List InfoV} (h : rightI l = true) : rightI l.reverse = true := by
  obtain ⟨h1, h2, h3⟩ := rightI_iff.1 h
  refine rightI_iff.2 ⟨fun p hp => h1 p (List.mem_reverse.1 hp), ?_, by rw [List.length_reverse]; exact h3⟩
  rw [List.map_reverse]
  exact nodup_rev h2
/-- A port that heard nothing. -/
def deafP (p : InfoV) : InfoV := { p with Source := if 2 < p.Source then 2 else p.Source, Vector_Root := 0, Vector_Cost := 0, Vector_Bridge := 0, Vector_Port := 0 }
theorem deaf_ok {p : InfoV} (h : okP p = true) : okP (deafP p) = true := by
  unfold okP okI at h ⊢
  unfold deafP InfoV.v4
  have e : allEq (encV (0, 0, 0, 0)) (encV (0, 0, 0, 0)) = true := rfl
  dsimp only
  rw [e]
  split <;> grind
theorem right_deaf {l : List InfoV} (h : rightI l = true) : rightI (l.map deafP) = true := by
  obtain ⟨h1, h2, h3⟩ := rightI_iff.1 h
  refine rightI_iff.2 ⟨fun p hp => ?_, ?_, by rw [List.length_map]; exact h3⟩
  · obtain ⟨q, hq, rfl⟩ := List.mem_map.1 hp
    exact deaf_ok (h1 q hq)
  · rw [List.map_map]
    exact h2
section
variable {bridge : Int}
/-- The least of the own vector and the ways. -/
theorem min_unique {ps qs : List InfoV} (hm : ∀ p, p ∈ ps ↔ p ∈ qs) : minK bridge ps ps.length = minK bridge qs qs.length := by
  have key : ∀ (ps qs : List InfoV), (∀ p, p ∈ ps → p ∈ qs) → ¬ lt4 (minK bridge ps ps.length) (minK bridge qs qs.length) := by
    intro ps qs h hlt
    obtain ⟨a1, a2⟩ := minK_spec (bridge := bridge) (ps := ps) ps.length
    obtain ⟨b1, b2⟩ := minK_spec (bridge := bridge) (ps := qs) qs.length
    rcases a1 with a1 | ⟨a1, i, p, hi, hp, hw⟩
    · rw [a1] at hlt
      rcases b1 with b1 | ⟨b1, _⟩
      · rw [b1] at hlt; exact lt4_irr _ hlt
      · exact lt4_asymm hlt b1
    · obtain ⟨j, hj⟩ := List.getElem?_of_mem (h p (List.mem_of_getElem? hp))
      exact b2 j p _ (List.getElem?_eq_some_iff.1 hj).1 hj hw hlt
  have h1 := key ps qs (fun p => (hm p).1)
  have h2 := key qs ps (fun p => (hm p).2)
  rcases cmp4_val (minK bridge ps ps.length) (minK bridge qs qs.length) with ⟨_, h⟩ | ⟨_, h⟩ | ⟨_, h⟩
  · exact absurd h h1
  · exact absurd h h2
  · exact h
theorem best_is (ps : List InfoV) : bestV bridge ps = pairOf bridge ps (minK bridge ps ps.length) ps.length := bestK_is ps.length
/-- The port of the least Id, of those of the best way. -/
def isRoot (bridge : Int) (ps : List InfoV) (x : InfoV) : Prop := minK bridge ps ps.length ≠ mineV bridge ∧ wayV bridge x = some (minK bridge ps ps.length) ∧ ∀ q ∈ ps, wayV bridge q = some (minK bridge ps ps.length) → x.Id ≤ q.Id
theorem portK_min {ps : List InfoV} (v : V4) : ∀ k, ∀ j q, j < k → ps[j]? = some q → wayV bridge q = some v → idAt ps (portK bridge ps v k) ≤ q.Id
  | 0, j, q, hj, _, _ => absurd hj (by omega)
  | k + 1, j, q, hj, hq, hw => by
    have ih := portK_min (ps := ps) v k j q
    cases hp : ps[k]? with
    | none =>
      have e : portK bridge ps v (k + 1) = portK bridge ps v k := by conv => lhs; unfold portK; rw [hp]
      rw [e]
      by_cases g : j = k
      · subst g; rw [hp] at hq; cases hq
      · exact ih (by omega) hq hw
    | some p =>
      rw [portK_succ hp]
      have hid : idAt ps (k : Int) = p.Id := by unfold idAt; rw [Int.toNat_natCast, hp]; rfl
      by_cases g : j = k
      · subst g
        rw [hp] at hq; cases hq
        split
        · rw [hid]; exact Int.le_refl _
        · rename_i c
          exact Int.not_lt.1 fun l => c ⟨hw, .inr l⟩
      · have ih := ih (by omega) hq hw
        split
        · rename_i c
          rw [hid]
          rcases c.2 with c2 | c2
          · have := portK_some (bridge := bridge) (ps := ps) v k ⟨j, q, by omega, hq, hw⟩
            omega
          · omega
        · exact ih
theorem root_iff {ps : List InfoV} (hn : (ps.map InfoV.Id).Nodup) {i : Nat} {x : InfoV} (hx : ps[i]? = some x) : ((i : Int) = (bestV bridge ps).2) ↔ isRoot bridge ps x := by
  have hlt := (List.getElem?_eq_some_iff.1 hx).1
  have hb := best_is (bridge := bridge) ps
  constructor
  · intro h
    have h1 := best_port hx h
    have hm : minK bridge ps ps.length ≠ mineV bridge := fun q => by
      rw [hb] at h
      unfold pairOf at h
      rw [if_pos q] at h
      dsimp only at h
      omega
    have hw : wayV bridge x = some (minK bridge ps ps.length) := by
      unfold wayV
      rw [if_pos ⟨h1.1, h1.2.1⟩, h1.2.2, hb]; rfl
    refine ⟨hm, hw, fun q hq hqw => ?_⟩
    obtain ⟨j, hj⟩ := List.getElem?_of_mem hq
    have := portK_min (bridge := bridge) (ps := ps) _ ps.length j q (List.getElem?_eq_some_iff.1 hj).1 hj hqw
    rw [hb] at h
    unfold pairOf at h
    rw [if_neg hm] at h
    dsimp only at h
    rw [← h] at this
    unfold idAt at this
    rw [Int.toNat_natCast, hx] at this
    exact this
  · rintro ⟨hm, hw, hmin⟩
    rw [hb]
    unfold pairOf
    rw [if_neg hm]
    dsimp only
    have h0 := portK_some (bridge := bridge) (ps := ps) (minK bridge ps ps.length) ps.length ⟨i, x, hlt, hx, hw⟩
    obtain ⟨p, hp, hpw⟩ := portK_way (bridge := bridge) (ps := ps) _ ps.length h0
    have h1 := portK_min (bridge := bridge) (ps := ps) _ ps.length i x hlt hx hw
    have h2 := hmin p (List.mem_of_getElem? hp) hpw
    unfold idAt at h1
    rw [hp] at h1
    have he : x.Id = p.Id := by
      have h1 : p.Id ≤ x.Id := h1
      omega
    have hp' := (List.getElem?_eq_some_iff.1 hp)
    have hx' := (List.getElem?_eq_some_iff.1 hx)
    have hi : i = (portK bridge ps (minK bridge ps ps.length) ps.length).toNat := by
      refine (List.getElem_inj (xs := ps.map InfoV.Id) (h₀ := by rw [List.length_map]; exact hlt) (h₁ := by rw [List.length_map]; exact hp'.1) hn).1 ?_
      rw [List.getElem_map, List.getElem_map, hp'.2, hx'.2, he]
    omega
theorem best_rev (ps : List InfoV) : (bestV bridge ps.reverse).1 = (bestV bridge ps).1 := by
  rw [best_is, best_is ps]
  exact min_unique fun p => List.mem_reverse
theorem roles_rev {ps : List InfoV} (h : rightI ps = true) : rolesV bridge ps.reverse = (rolesV bridge ps).reverse := by
  obtain ⟨_, hn, _⟩ := rightI_iff.1 h
  have hn2 : (ps.reverse.map InfoV.Id).Nodup := by rw [List.map_reverse]; exact nodup_rev hn
  unfold rolesV
  apply List.ext_getElem?
  intro j
  rw [List.getElem?_mapIdx]
  by_cases hj : j < ps.length
  · obtain ⟨i, hi⟩ : ∃ i, i = ps.length - 1 - j := ⟨_, rfl⟩
    have hil : i < ps.length := by omega
    obtain ⟨x, hx⟩ : ∃ x, ps[i]? = some x := ⟨ps[i], List.getElem?_eq_getElem hil⟩
    have hr : ps.reverse[j]? = some x := by rw [List.getElem?_reverse hj, ← hi]; exact hx
    rw [hr, List.getElem?_reverse (by rw [List.length_mapIdx]; exact hj), List.length_mapIdx, ← hi, List.getElem?_mapIdx, hx]
    simp only [Option.map_some]
    have e1 := root_iff (bridge := bridge) hn hx
    have e2 := root_iff (bridge := bridge) hn2 hr
    have e3 : isRoot bridge ps.reverse x ↔ isRoot bridge ps x := by
      unfold isRoot
      rw [min_unique (bridge := bridge) (ps := ps.reverse) (qs := ps) fun p => List.mem_reverse]
      simp only [List.mem_reverse]
    have e4 : ((j : Int) = (bestV bridge ps.reverse).2) = ((i : Int) = (bestV bridge ps).2) := propext (e2.trans (e3.trans e1.symm))
    unfold roleI
    simp only [e4, best_rev]
  · rw [List.getElem?_eq_none (by rw [List.length_reverse]; omega), List.getElem?_eq_none (by rw [List.length_reverse, List.length_mapIdx]; omega)]; rfl
theorem best_deaf (ps : List InfoV) (h : ∀ p ∈ ps, p.Source ≠ 3) : bestV bridge ps = (mineV bridge, -1) := by
  have hb := best_is (bridge := bridge) ps
  rcases (minK_spec (bridge := bridge) (ps := ps) ps.length).1 with h1 | ⟨_, i, p, _, hp, hw⟩
  · rw [hb]; unfold pairOf; rw [if_pos h1, h1]
  · unfold wayV at hw
    split at hw
    · rename_i c; exact absurd c.1 (h p (List.mem_of_getElem? hp))
    · cases hw
def deafRole (p : InfoV) : Int := if p.Source = 0 then 0 else 2
theorem roles_deaf (ps : List InfoV) : rolesV bridge ((ps.map deafP).reverse) = (ps.map deafRole).reverse := by
  have h3 : ∀ p : InfoV, (deafP p).Source ≠ 3 := by intro p; unfold deafP; dsimp only; split <;> omega
  unfold rolesV
  rw [best_deaf _ (fun p hp => by
    obtain ⟨q, _, rfl⟩ := List.mem_map.1 (List.mem_reverse.1 hp)
    exact h3 q)]
  apply List.ext_getElem?
  intro j
  rw [List.getElem?_mapIdx, ← List.map_reverse, ← List.map_reverse, List.getElem?_map, List.getElem?_map]
  cases ps.reverse[j]? with
  | none => rfl
  | some p =>
    simp only [Option.map_some]
    congr 1
    unfold roleI deafRole
    have hs : (deafP p).Source = 0 ↔ p.Source = 0 := by unfold deafP; dsimp only; split <;> omega
    by_cases h : p.Source = 0
    · rw [if_pos (hs.2 h), if_pos h]
    · rw [if_neg (fun q => h (hs.1 q)), if_pos (h3 p), if_neg h]
end
end Go.Proofs.Ytgjdmlgdgbehoaa.Am
