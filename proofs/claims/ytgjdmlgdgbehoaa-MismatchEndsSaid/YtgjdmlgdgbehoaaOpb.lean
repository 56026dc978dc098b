/- What came in as slices of structs, told as rows. -/
import Derived.Test.YtgjdmlgdgbehoaaOpa
import Derived.Test.YtgjdmlgdgbehoaaAm14
set_option linter.unusedVariables false
namespace Go.Proofs.Ytgjdmlgdgbehoaa.Am
open Go Go.RowKit
theorem flat_at {sz : Nat} : ∀ {l : List (List Value)} (hl : ∀ e ∈ l, e.length = sz) {j : Nat} {u : Value}, l.flatten[j]? = some u → ∃ i q e, l[i]? = some e ∧ e[q]? = some u ∧ j = i * sz + q
  | [], _, j, u, h => by simp at h
  | x :: l, hl, j, u, h => by
    have hx : x.length = sz := hl x List.mem_cons_self
    rw [List.flatten_cons] at h
    rcases Nat.lt_or_ge j x.length with hj | hj
    · rw [List.getElem?_append_left hj] at h
      exact ⟨0, j, x, rfl, h, by omega⟩
    · rw [List.getElem?_append_right hj] at h
      obtain ⟨i, q, e, h1, h2, h3⟩ := flat_at (fun e he => hl e (List.mem_cons_of_mem _ he)) h
      exact ⟨i + 1, q, e, by simpa using h1, h2, by rw [Nat.add_mul]; omega⟩
theorem slAt_of {w : World} {A : Option Addr} {sz : Nat} {l : List (List Value)} (h1 : ∀ e ∈ l, e.length = sz) (h2 : 0 < l.length → ∃ b o, A = some ⟨b, o, none⟩ ∧ ∀ i e, l[i]? = some e → w.rangeAt b (o + i * sz) e) : SlAt w A sz l := by
  refine ⟨h1, fun hp => ?_⟩
  obtain ⟨b, o, hA, hr⟩ := h2 hp
  refine ⟨b, o, hA, fun j u hu => ?_⟩
  obtain ⟨i, q, e, g1, g2, g3⟩ := flat_at h1 hu
  have := hr i e g1 q u g2
  rw [g3, ← Nat.add_assoc]
  exact this
theorem rowsOf {α : Type} {enc : α → List Value} {R : List Value → Prop} {Q : α → Prop} (hR : ∀ e, R e → ∃ x, e = enc x ∧ Q x) : ∀ (l : List (List Value)), (∀ e ∈ l, R e) → ∃ xs : List α, l = xs.map enc ∧ ∀ x ∈ xs, Q x
  | [], _ => ⟨[], rfl, fun x hx => by cases hx⟩
  | e :: l, h => by
    obtain ⟨x, h1, h2⟩ := hR e (h e List.mem_cons_self)
    obtain ⟨xs, h3, h4⟩ := rowsOf hR l (fun e he => h e (List.mem_cons_of_mem _ he))
    refine ⟨x :: xs, by rw [h1, h3]; rfl, fun y hy => ?_⟩
    rcases List.mem_cons.1 hy with rfl | hy
    · exact h2
    · exact h4 y hy
end Go.Proofs.Ytgjdmlgdgbehoaa.Am
