/- More of rows. -/
import Derived.Test.YtgjdmlgdgbehoaaAm14
set_option linter.unusedVariables false
set_option linter.unusedSimpArgs false
namespace Go.Proofs.Ytgjdmlgdgbehoaa.Am
open Go Go.RowKit
section
variable {P : Program} {ty : Nat → Option TD} {w0 : World} {X : List Nat} {H : List Res}
/-- A part of what is owned, as a callee's start. -/
theorem St.sub2 {w : World} {H0 G : List Res} (h : St w0 X H0 w) (ht : Take H0 H G) : St w (feet H) H w :=
  (((h.perm ht.perm).sub (List.sublist_append_left H G))).own0
theorem Rd.rowOf {b n c E sz m : Nat} {xs : List Value} (hm : Res.row (.slice (some ⟨b, 0, none⟩) n c) E sz m xs ∈ H) : Rd w0 X H b 0 xs := by
  intro w hw j u hu
  obtain ⟨h1, h2⟩ := hw.ok _ hm
  rcases h2 with ⟨h2, _⟩ | ⟨g, cap, cur, he, _, hg, _, _, _, ht⟩
  · cases h2
  · cases he
    rw [cell_of_row w b _ cur E (0, 0) hg]
    rw [← ht, List.getElem?_take] at hu
    split at hu
    · rw [Nat.zero_add]; simpa using hu
    · cases hu
/-- A load out of a row that was appended to. -/
theorem loadRow {b n c E sz m o : Nat} {xs : List Value} {i : TD} {k : Value → Prop} (hm : Res.row (.slice (some ⟨b, 0, none⟩) n c) E sz m xs ∈ H) (hk : subK False xs o i.size fun vs => ofCells i.d vs k) : loadW w0 X H b o i k := by
  by_cases hq : o + i.size ≤ xs.length
  · rw [subK_eq _ _ _ _ _ hq] at hk
    refine .inr ⟨_, ?_, by simp; omega, hk⟩
    intro w hw u v hv
    have hu : u < i.size := by have := (List.getElem?_eq_some_iff.1 hv).1; simp at this; omega
    rw [List.getElem?_take, if_pos hu, List.getElem?_drop] at hv
    have := Rd.rowOf hm w hw _ _ hv
    rw [Nat.zero_add] at this
    exact this
  · rw [subK_dflt _ _ _ _ _ hq] at hk; exact hk.elim
theorem loadRowAt {b n c E m o j : Nat} {xs : List Value} {i : TD} {v : Value} {k : Value → Prop} (hm : Res.row (.slice (some ⟨b, 0, none⟩) n c) E 1 m xs ∈ H) (ho : o = 0 + j) (hx : xs[j]? = some v) (hs : i.size = 1) (hk : ofCells i.d [v] k) : loadW w0 X H b o i k := by
  refine .inr ⟨[v], ?_, by simp [hs], hk⟩
  rw [ho]
  exact Rd.elem (Rd.rowOf hm) hx
theorem IsRow.at_ {A : Option Addr} {n q : Nat} (h : IsRow (.slice A n q) n) (hp : 0 < n) : ∃ g, A = some ⟨g, 0, none⟩ ∧ n ≤ q := by
  rcases h with ⟨_, h⟩ | ⟨g, cap, he, hc⟩
  · omega
  · simp only [Value.slice.injEq] at he
    obtain ⟨rfl, _, rfl⟩ := he
    exact ⟨g, rfl, hc⟩
/-- Appends whose row's block is told. -/
theorem AppW.rowE {e b m : Nat} {ei : TD} {v : Value} {K : Value → List Res → Prop} {cs : List Value} {T : Nat} (hm : Res.blk b cs T ∈ H) (pos : 0 < ei.size) (hl : cs.length = m * ei.size) (hm0 : 0 < m) (one : cs.all (·.oneCell') = true) {n : Nat} {xs : List Value} {f : Res → List Res} (hf : Hole H (.row v e ei.size n xs) f) (h1 : n + m ≤ 1048576) (h2 : 1048576 * ei.bytes ≤ 140737488355328)
    (hk : ∀ g q, n + m ≤ q → K (.slice (some ⟨g, 0, Option.none⟩) (n + m) q) (f (.row (.slice (some ⟨g, 0, Option.none⟩) (n + m) q) e ei.size (n + m) (xs ++ cs)))) : AppW w0 X H e ei b 0 m v K :=
  .rowS hm pos hl one hf h1 h2 fun A q hr => by
    obtain ⟨g, rfl, hq⟩ := hr.at_ (by omega)
    exact hk g q hq
theorem AppW.noneE {e b m : Nat} {ei : TD} {v : Value} {K : Value → List Res → Prop} {cs : List Value} {T : Nat} (hm : Res.blk b cs T ∈ H) (pos : 0 < ei.size) (hl : cs.length = m * ei.size) (hm0 : 0 < m) (one : cs.all (·.oneCell') = true) (hv : v = .slice Option.none 0 0) (h1 : m ≤ 1048576) (h2 : 1048576 * ei.bytes ≤ 140737488355328)
    (hk : ∀ g q, m ≤ q → K (.slice (some ⟨g, 0, Option.none⟩) m q) (.row (.slice (some ⟨g, 0, Option.none⟩) m q) e ei.size m cs :: H)) : AppW w0 X H e ei b 0 m v K :=
  .noneB hm pos hl one hv (by unfold maxLen; omega) (Nat.le_trans (Nat.mul_le_mul_right _ h1) h2) fun A q hr => by
    obtain ⟨g, rfl, hq⟩ := hr.at_ hm0
    exact hk g q hq
theorem AppW.blkE {e b m : Nat} {ei : TD} {v : Value} {K : Value → List Res → Prop} {cs : List Value} {T : Nat} (hm : Res.blk b cs T ∈ H) (pos : 0 < ei.size) (hl : cs.length = m * ei.size) (hm0 : 0 < m) (one : cs.all (·.oneCell') = true) {n g0 : Nat} {xs : List Value} {f : Res → List Res} (hf : Hole H (.blk g0 xs e) f) (hv : v = .slice (some ⟨g0, 0, Option.none⟩) n n) (hn : xs.length = n * ei.size) (h1 : n + m ≤ 1048576) (h2 : 1048576 * ei.bytes ≤ 140737488355328)
    (hk : ∀ g q, n + m ≤ q → K (.slice (some ⟨g, 0, Option.none⟩) (n + m) q) (f (.row (.slice (some ⟨g, 0, Option.none⟩) (n + m) q) e ei.size (n + m) (xs ++ cs)))) : AppW w0 X H e ei b 0 m v K :=
  .blkB hm pos hl one hf hv hn (by unfold maxLen; omega) (Nat.le_trans (Nat.mul_le_mul_right _ h1) h2) fun A q hr => by
    obtain ⟨g, rfl, hq⟩ := hr.at_ (by omega)
    exact hk g q hq
/-- Bytes of a row, as a text. -/
theorem BytW.ofRow {b n c m E : Nat} {k : List Int → Prop} {l : List Int} (hm : Res.row (.slice (some ⟨b, 0, none⟩) n c) E 1 m (l.map (Value.int .u8)) ∈ H) (hl : l.length = n) (hk : k l) : BytW w0 X H b 0 n k :=
  .mk l hl (Rd.rowOf hm) hk
theorem BytW.ofRowX {b n c m E : Nat} {k : List Int → Prop} {xs : List Value} (l : List Int) (hm : Res.row (.slice (some ⟨b, 0, none⟩) n c) E 1 m xs ∈ H) (hx : xs = l.map (Value.int .u8)) (hl : l.length = n) (hk : k l) : BytW w0 X H b 0 n k := .ofRow (hx ▸ hm) hl hk
theorem Ent.take {H' G : List Res} (h : Take H H' G) : Ent w0 X H H' := fun w hw => (hw.perm h.perm).sub (List.sublist_append_left _ _)
/-- A new block, told as a row. -/
theorem St.blkRow {w : World} {g : Nat} {cs : List Value} {E : Nat} (hw : St w (feet [.blk g cs E]) [.blk g cs E] w) (hl : cs.length ≤ maxLen) : St w (feet [.row (.slice (some ⟨g, 0, none⟩) cs.length cs.length) E 1 cs.length cs]) [.row (.slice (some ⟨g, 0, none⟩) cs.length cs.length) E 1 cs.length cs] w := by
  have h1 : w.heap[g]? = some (.cells ⟨cs⟩ E (0, 0)) := hw.ok _ List.mem_cons_self
  have := hw.upd (Upd.here (r' := .row (.slice (some ⟨g, 0, none⟩) cs.length cs.length) E 1 cs.length cs)) rfl rfl rfl (Nat.le_refl _) (fun _ _ _ => rfl) ⟨by simp, .inr ⟨g, cs.length, ⟨cs⟩, rfl, Nat.zero_le _, h1, Nat.le_refl _, hl, by simp, by simp⟩⟩ (fun b hb => .inl (by simpa [Res.foot, Value.ownBlock] using hb))
  exact this
/-- A block of elements, to a callee that reads it. -/
theorem St.blkSl {w : World} (hw : St w0 X H w) {g : Nat} {cs : List Value} {T : Nat} (h : Res.blk g cs T ∈ H) {sz : Nat} {l : List (List Value)} (hl : cs = l.flatten) (hs : ∀ x ∈ l, x.length = sz) : SlAt w (some ⟨g, 0, none⟩) sz l :=
  ⟨hs, fun _ => ⟨g, 0, rfl, by rw [← hl]; exact hw.range h⟩⟩
/-- An old slice, in a later world. -/
theorem SlAt.later {w w1 : World} {A : Option Addr} {sz : Nat} {l : List (List Value)} (h : SlAt w A sz l) (hw : St w [] H w1) : SlAt w1 A sz l :=
  ⟨h.len, fun hp => by
    obtain ⟨b, o, e, hr⟩ := h.at_ hp
    exact ⟨b, o, e, Rd.old (X := []) hr (by simp) _ hw⟩⟩
theorem FnX.map {f : FuncId} {args : List Value} {w : World} {σ τ : Type} {side : σ → Prop} {val : σ → Value} {res : σ → List Res} {side' : τ → Prop} {val' : τ → Value} {res' : τ → List Res} (h : FnX P f args H side val res w)
    (hm : ∀ s, side s → ∃ t, side' t ∧ val s = val' t ∧ Ent w (feet H) (res s) (res' t)) : FnX P f args H side' val' res' w :=
  ⟨h.out.mono fun e w' ⟨s, h1, h2, h3⟩ => by
    obtain ⟨t, g1, g2, g3⟩ := hm s h1
    exact ⟨t, g1, by rw [h2, g2], g3 _ h3⟩⟩
end
/-- The first k things of a list turned. -/
def mapTo {α : Type} (f : Nat → α → α) (l : List α) (k : Nat) : List α := l.mapIdx fun i x => if i < k then f i x else x
section
variable {α : Type} {f : Nat → α → α} {l : List α} {k : Nat}
theorem mapTo_zero : mapTo f l 0 = l := by
  apply List.ext_getElem?
  intro i
  simp [mapTo]
theorem mapTo_all (h : l.length ≤ k) : mapTo f l k = l.mapIdx f := by
  apply List.ext_getElem?
  intro i
  simp only [mapTo, List.getElem?_mapIdx]
  cases hi : l[i]? with
  | none => rfl
  | some x =>
    have := (List.getElem?_eq_some_iff.1 hi).1
    simp [show i < k by omega]
theorem mapTo_length : (mapTo f l k).length = l.length := by simp [mapTo]
theorem mapTo_at (h : k < l.length) : (mapTo f l k)[k]? = some (l[k]'h) := by simp [mapTo, h]
theorem mapTo_succ (h : k < l.length) : (mapTo f l k).set k (f k (l[k]'h)) = mapTo f l (k + 1) := by
  apply List.ext_getElem?
  intro i
  by_cases e : k = i
  · subst e
    simp [mapTo, h]
  · rw [List.getElem?_set_ne e]
    simp only [mapTo, List.getElem?_mapIdx]
    cases hi : l[i]? with
    | none => rfl
    | some x =>
      simp only [Option.map_some]
      congr 1
      by_cases h1 : i < k
      · rw [if_pos h1, if_pos (by omega)]
      · rw [if_neg h1, if_neg (by omega)]
theorem mapTo_enc {enc : α → List Value} (h : k < l.length) : ((mapTo f l k).map enc)[k]? = some (enc (l[k]'h)) := by rw [List.getElem?_map, mapTo_at h]; rfl
theorem mapTo_set {enc : α → List Value} (h : k < l.length) : ((mapTo f l k).map enc).set k (enc (f k (l[k]'h))) = (mapTo f l (k + 1)).map enc := by rw [← List.map_set, mapTo_succ h]
end
end Go.Proofs.Ytgjdmlgdgbehoaa.Am
