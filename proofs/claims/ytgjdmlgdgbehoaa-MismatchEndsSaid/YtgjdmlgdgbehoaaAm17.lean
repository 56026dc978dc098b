/- More of rows that grow. -/
import Derived.Test.YtgjdmlgdgbehoaaAm16
set_option linter.unusedVariables false
namespace Go.Proofs.Ytgjdmlgdgbehoaa.Am
open Go Go.RowKit
theorem nilRow0 {w0 : World} {X : List Nat} {E sz : Nat} {G : List Res} : Ent w0 X G (.row (.slice none 0 0) E sz 0 [] :: G) := fun w hw => by
  refine hw.add (Below.refl _ _) ⟨by simp, .inl ⟨rfl, rfl⟩⟩ (fun b hb => by simp [Res.foot, Value.ownBlock] at hb)
theorem AppW.arrK {w0 : World} {X : List Nat} {H : List Res} {e b m : Nat} {ei : TD} {v : Value} {K : Value → List Res → Prop} {cs : List Value} {T : Nat} (hm : Res.blk b cs T ∈ H) (pos : 0 < ei.size) (hm1 : m = 1) (hl : cs.length = ei.size) (one : cs.all (·.oneCell') = true) {xs : List (List Value)} {f : Res → List Res} (hf : Hole H (.arr v e ei.size xs) f) {n : Nat} (hn : xs.length = n) (h1 : n + m ≤ 1048576) (h2 : 1048576 * ei.bytes ≤ 140737488355328)
    (hk : ∀ A q, IsRow (.slice A (n + m) q) (n + m) → K (.slice A (n + m) q) (f (.arr (.slice A (n + m) q) e ei.size (xs ++ [cs])))) : AppW w0 X H e ei b 0 m v K := by
  subst hn; exact AppW.arrS hm pos hm1 hl one hf h1 h2 hk
theorem AppW.blkS {w0 : World} {X : List Nat} {H : List Res} {e b m : Nat} {ei : TD} {v : Value} {K : Value → List Res → Prop} {cs : List Value} {T : Nat} (hm : Res.blk b cs T ∈ H) (pos : 0 < ei.size) (hm1 : m = 1) (hl : cs.length = ei.size) (one : cs.all (·.oneCell') = true) {g : Nat} {f : Res → List Res} (hf : Hole H (.blk g [] e) f) (hv : v = .slice (some ⟨g, 0, Option.none⟩) 0 0) (h2 : 1048576 * ei.bytes ≤ 140737488355328)
    (hk : ∀ A q, IsRow (.slice A m q) m → K (.slice A m q) (f (.arr (.slice A m q) e ei.size [cs]))) : AppW w0 X H e ei b 0 m v K :=
  .blkA [cs] pos (by simp [hm1]) (by simpa using hl) (Rd.blk hm (by simp)) (by simpa using one) g f hf hv (by subst hm1; unfold maxLen; omega) (by subst hm1; omega) hk
theorem map_take_succ {α β : Type} {f : α → β} {l : List α} {k : Nat} (h : k < l.length) : (l.take (k + 1)).map f = (l.take k).map f ++ [f l[k]] := by
  rw [List.take_succ_eq_append_getElem h, List.map_append]; rfl
theorem map_take_len {α β : Type} {f : α → β} {l : List α} {k : Nat} (h : k ≤ l.length) : ((l.take k).map f).length = k := by rw [List.length_map, List.length_take]; omega
theorem idx_take_succ {α β : Type} {f : Nat → α → β} {l : List α} {k : Nat} (h : k < l.length) : (l.take (k + 1)).mapIdx f = (l.take k).mapIdx f ++ [f k l[k]] := by
  rw [List.take_succ_eq_append_getElem h, List.mapIdx_append]
  simp [List.length_take, Nat.min_eq_left (Nat.le_of_lt h)]
theorem idx_take_len {α β : Type} {f : Nat → α → β} {l : List α} {k : Nat} (h : k ≤ l.length) : ((l.take k).mapIdx f).length = k := by rw [List.length_mapIdx, List.length_take]; omega
end Go.Proofs.Ytgjdmlgdgbehoaa.Am
