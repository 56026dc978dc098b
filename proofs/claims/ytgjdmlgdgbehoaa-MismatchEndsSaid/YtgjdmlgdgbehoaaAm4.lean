/- That the function of the code tells the truth: an operation. -/
import Derived.Test.YtgjdmlgdgbehoaaAm3
set_option linter.unusedVariables false
set_option linter.unusedSimpArgs false
namespace Go.Proofs.Ytgjdmlgdgbehoaa.Am
open Go Go.RowKit

theorem fold_put (o : Nat) : ∀ (vs : List Value) (k : Nat) (cs : List Value), o + k + vs.length ≤ cs.length →
    (vs.zipIdx k).foldl (fun (cs : Array Value) (x : Value × Nat) => cs.setIfInBounds (o + x.2) x.1) (⟨cs⟩ : Array Value) = ⟨cs.take (o + k) ++ vs ++ cs.drop (o + k + vs.length)⟩
  | [], k, cs, h => by simp
  | v :: vs, k, cs, h => by
    have hk : o + k < cs.length := by simp at h; omega
    simp only [List.zipIdx_cons, List.foldl_cons]
    have hset : (⟨cs⟩ : Array Value).setIfInBounds (o + k) v = ⟨cs.set (o + k) v⟩ := by
      apply Array.ext'
      simp [hk]
    rw [hset, fold_put o vs (k + 1) _ (by simp at h ⊢; omega)]
    congr 1
    have e1 : (cs.set (o + k) v).take (o + (k + 1)) = cs.take (o + k) ++ [v] := by
      rw [show o + (k + 1) = (o + k) + 1 by omega, List.take_succ_eq_append_getElem (by simpa using hk), List.take_set_of_le (Nat.le_refl _)]
      simp
    have e2 : (cs.set (o + k) v).drop (o + (k + 1) + vs.length) = cs.drop (o + k + (v :: vs).length) := by
      rw [List.drop_set_of_lt (by omega)]
      congr 1
      simp
      omega
    rw [e1, e2]
    simp

section
variable {P : Program} {ty : Nat → Option TD} {w0 : World} {X : List Nat}

theorem fill_run {place place' : Nat → Option (Nat × Nat)} (hp : ∀ i x, place i = some x → place' i = some x) {S : Sl} : ∀ (ps : List (Nat × Operand)) (cs : List Value) (k : List Value → Prop),
    fillK place S ps cs k → ∃ cs', k cs' ∧ ∀ a, Agree a S → Instr.fill place' ⟨cs⟩ (ps.map fun (i, x) => (i, a.eval x)) = some ⟨cs'⟩
  | [], cs, k, h => ⟨cs, h, fun _ _ => rfl⟩
  | (i, x) :: r, cs, k, h => by
    simp only [fillK] at h
    split at h
    · rename_i off sz v hpl hx
      obtain ⟨hlen, h⟩ := h
      by_cases ho : off + v.cells.toList.length ≤ cs.length
      · rw [putK_eq _ _ _ _ _ ho] at h
        obtain ⟨cs', h2, h1⟩ := fill_run hp r _ k h
        refine ⟨cs', h2, fun a hA => ?_⟩
        have hx' := opd_eval hA hx
        simp only [List.map_cons, Instr.fill, hp _ _ hpl, hx']
        have hsz : v.cells.size = sz := by simpa using hlen
        rw [if_neg (by simp [hsz]; simp [hsz] at ho; omega)]
        rw [← h1 a hA]
        congr 1
        have := fold_put off v.cells.toList 0 cs (by simpa using ho)
        simp only [Nat.add_zero] at this
        rw [← this, ← Array.foldl_toList]
        simp [Array.toList_zipIdx]
      · rw [putK_dflt _ _ _ _ _ ho] at h; exact h.elim
    · exact h.elim
end
end Go.Proofs.Ytgjdmlgdgbehoaa.Am
