/- What came in as data is a value of a kind: for laws whose arguments are structs, and slices of structs. -/
import Derived.Test.YticobcojmpakfaaWWords
import Derived.Deep.Slices
import Derived.Deep.Fields
import Derived.ChangeSame
import Derived.ChangeArms
import Derived.WideShapes
import Derived.ChangeOld
set_option linter.unusedVariables false
namespace Go.Proofs.Yticobcojmpakfaa.Opn
open Go.RowKit Go.ChangeShapes Go.WideShapes Go.Deep Go.Proofs.YticobcojmpakfaaW.PrintWords

/-- Whatever reads as a datum of type t is a value of kind K, and wf. -/
def Opens {α : Type} (P : Program) (t : TypeId) (K : Kd α) (wf : α → Prop) : Prop :=
  ∀ (H : Type) (enc : TypeId × Value → H) (w : World) (base : Nat) (spare : Nat → Bool) (held : Bool) (fuel : Nat) (cs : List Value) (x : DataW H × List MemPlace),
    DataW.trod enc P w base spare held fuel t cs = some x → ∃ a, K.K w a cs ∧ wf a

theorem opens_int {P : Program} {t : TypeId} {k : IntKind} (ht : P.underlying t = some (.int k)) : Opens P t (Kd.int k) (fun a => (Lit.int k a).wf = true) := by
  intro H enc w base spare held fuel cs x h
  obtain ⟨n, rfl, _, hw⟩ := DataW.trod_int ht h
  exact ⟨n, rfl, hw⟩
theorem opens_bool {P : Program} {t : TypeId} (ht : P.underlying t = some .bool) : Opens P t Kd.bool (fun _ => True) := by
  intro H enc w base spare held fuel cs x h
  obtain ⟨n, rfl, _⟩ := DataW.trod_bool ht h
  exact ⟨n, rfl, trivial⟩
theorem opens_string {P : Program} {t : TypeId} (ht : P.underlying t = some .string) : Opens P t Kd.string (fun s => s.size ≤ maxLen) := by
  intro H enc w base spare held fuel cs x h
  obtain ⟨n, rfl, _, hw⟩ := DataW.trod_string ht h
  exact ⟨n, rfl, hw⟩

theorem opens_slice {α : Type} {P : Program} {t e : TypeId} {K : Kd α} {wf : α → Prop} (ht : P.underlying t = some (.slice e)) (hc : P.cellsOf e = K.sz) (he : Opens P e K wf) :
    Opens P t (Kd.slice e K) (fun l => l.length ≤ maxLen ∧ ∀ x ∈ l, wf x) := by
  intro H enc w base spare held fuel cs x h
  rcases open_slice ht h with ⟨rfl, _⟩ | ⟨a, len, cap, m, n, D, Pl, rfl, hb, hl, hm, hmm, hx, hi⟩
  · exact ⟨[], ⟨none, 0, rfl, Nat.le_refl _, rfl, by simp, fun hp => absurd hp (by simp)⟩, Nat.zero_le _, fun x hx => by simp at hx⟩
  · have hle : len ≤ m := by rw [hmm]; split <;> omega
    have hex : ∀ i, i < len → ∃ y cs', w.cells? base (a.add (i * P.cellsOf e)) (P.cellsOf e) = some cs' ∧ K.K w y cs' ∧ wf y := by
      intro i hil
      obtain ⟨cs', h1, h2⟩ := hi i (by omega)
      obtain ⟨y, hy, hwy⟩ := he H enc w base spare held n cs' _ h2
      exact ⟨y, cs', h1, hy, hwy⟩
    obtain ⟨l, hlen, hl'⟩ : ∃ l : List α, l.length = len ∧ ∀ (i : Nat) y, l[i]? = some y → ∃ cs', w.cells? base (a.add (i * P.cellsOf e)) (P.cellsOf e) = some cs' ∧ K.K w y cs' ∧ wf y := by
      clear hx hi hmm hl hm h hle
      induction len with
      | zero => exact ⟨[], rfl, fun i y hy => by simp at hy⟩
      | succ len ih =>
        obtain ⟨l, hlen, hl⟩ := ih (fun i hi => hex i (by omega))
        obtain ⟨y, hy⟩ := hex len (by omega)
        refine ⟨l ++ [y], by simp [hlen], fun i z hz => ?_⟩
        rcases Nat.lt_or_ge i l.length with hlt | hge
        · rw [List.getElem?_append_left hlt] at hz
          exact hl i z hz
        · rw [List.getElem?_append_right hge] at hz
          have h0 : i - l.length = 0 := by
            have := (List.getElem?_eq_some_iff.1 hz).1
            simp at this
            omega
          rw [h0] at hz
          simp at hz
          subst hz
          have : i = len := by omega
          subst this
          exact hy
    refine ⟨l, ⟨some a, cap, by rw [hlen], by rw [hlen]; exact hl, rfl, ?_, fun hp => ⟨a, rfl, fun j p hj => ?_⟩⟩, ?_, fun y hy => ?_⟩
    · unfold maxLen at hm; omega
    · obtain ⟨cs', h1, h2, _⟩ := hl' j p hj
      obtain ⟨_, hcl, hat⟩ := World.cells?_some h1
      refine ⟨cs', by rw [hcl, hc], h2, fun i u hu => ?_⟩
      have hil : i < cs'.length := (List.getElem?_eq_some_iff.1 hu).1
      have := hat i (by omega)
      rw [Go.Deep.add_add, hc] at this
      rw [this, hu]
    · rw [hlen]; omega
    · obtain ⟨i, hi⟩ := List.mem_iff_getElem?.1 hy
      obtain ⟨_, _, _, h3⟩ := hl' i y hi
      exact h3

/-- Fields one behind the other, from a cell on. -/
def OpensF {α : Type} (P : Program) (fs : List Field) (off : Nat) (K : Kd α) (wf : α → Prop) : Prop :=
  ∀ (H : Type) (enc : TypeId × Value → H) (w : World) (base : Nat) (spare : Nat → Bool) (held : Bool) (fuel : Nat) (cs : List Value),
    (∀ (i : Nat) (f : Field), fs[i]? = some f → ∃ x, DataW.trod enc P w base spare held fuel f.type ((cs.drop f.offset).take (P.cellsOf f.type)) = some x) → cs.length = off + K.sz → ∃ a, K.K w a (cs.drop off) ∧ wf a
theorem opensF_last {α : Type} {P : Program} {f : Field} {off : Nat} {K : Kd α} {wf : α → Prop} (h : Opens P f.type K wf) (ho : f.offset = off) (hc : P.cellsOf f.type = K.sz) : OpensF P [f] off K wf := by
  intro H enc w base spare held fuel cs hf hl
  obtain ⟨x, hx⟩ := hf 0 f rfl
  rw [ho, hc, List.take_of_length_le (by simp; omega)] at hx
  exact h H enc w base spare held fuel _ x hx
theorem opensF_cons {α β : Type} {P : Program} {f : Field} {fs : List Field} {off : Nat} {K : Kd α} {K2 : Kd β} {wf : α → Prop} {wf2 : β → Prop} (h : Opens P f.type K wf) (ho : f.offset = off) (hc : P.cellsOf f.type = K.sz) (h2 : OpensF P fs (off + K.sz) K2 wf2) :
    OpensF P (f :: fs) off (Kd.pair K K2) (fun a => wf a.1 ∧ wf2 a.2) := by
  intro H enc w base spare held fuel cs hf hl
  have hl : cs.length = off + (K.sz + K2.sz) := hl
  obtain ⟨x, hx⟩ := hf 0 f rfl
  rw [ho, hc] at hx
  obtain ⟨a, ha, hwa⟩ := h H enc w base spare held fuel _ x hx
  obtain ⟨b, hb, hwb⟩ := h2 H enc w base spare held fuel cs (fun i g hg => hf (i + 1) g (by simpa using hg)) (by omega)
  refine ⟨(a, b), ⟨_, _, ?_, ha, hb⟩, hwa, hwb⟩
  rw [← List.drop_drop, List.take_append_drop]
theorem opens_struct {α β : Type} {P : Program} {t : TypeId} {fs : Array Field} {K : Kd α} {wf : α → Prop} {wf' : β → Prop} {f : β → α} (g : α → β) (hfg : ∀ a, f (g a) = a) (ht : P.underlying t = some (.struct fs)) (hc : P.cellsOf t = K.sz) (h : OpensF P fs.toList 0 K wf)
    (hw : ∀ b, wf (f b) → wf' b) : Opens P t (Kd.iso K f) wf' := by
  intro H enc w base spare held fuel cs x hx
  obtain ⟨xs, n, rfl, _, hlen, hxl, hf⟩ := DataW.trod_struct ht hx
  obtain ⟨a, ha, hwa⟩ := h H enc w base spare held n cs (fun i fl hi => by
    have hi' : fs[i]? = some fl := by rw [← Array.getElem?_toList]; exact hi
    have := hf i fl hi'
    have hlt : i < xs.length := by rw [hxl]; exact (Array.getElem?_eq_some_iff.1 hi').1
    rw [List.getElem?_eq_getElem hlt] at this
    exact ⟨_, this⟩) (by rw [hlen, hc]; omega)
  rw [List.drop_zero] at ha
  exact ⟨g a, by show K.K w (f (g a)) cs; rw [hfg]; exact ha, hw _ (by rw [hfg]; exact hwa)⟩
/-- A struct by value. -/
theorem open_value {α : Type} {P : Program} {t : TypeId} {fs : Array Field} {K : Kd α} {wf : α → Prop} {r : Reach} {b0 : Nat} {H : Type} {enc : TypeId × Value → H} {w : World} {base : Nat} {spare : Nat → Bool} {held : Bool} {v : Value} {d : DataW H} {p : List MemPlace}
    (h : Opens P t K wf) (ht : P.underlying t = some (.struct fs)) (hv : Value.okWide P w r b0 t v) (hd : DataW.Trod enc P w base spare held t v d p) : ∃ a cs, v = .agg ⟨cs⟩ ∧ K.K w a cs ∧ wf a := by
  obtain ⟨cs, rfl, _⟩ := okWide_struct ht hv
  obtain ⟨fuel, hf⟩ := hd
  obtain ⟨a, ha, hw⟩ := h H enc w base spare held fuel _ _ hf
  exact ⟨a, cs.toList, rfl, ha, hw⟩
/-- A slice. -/
theorem open_row {α : Type} {P : Program} {t e : TypeId} {K : Kd α} {wf : List α → Prop} {r : Reach} {b0 : Nat} {H : Type} {enc : TypeId × Value → H} {w : World} {base : Nat} {spare : Nat → Bool} {held : Bool} {v : Value} {d : DataW H} {p : List MemPlace}
    (h : Opens P t (Kd.slice e K) wf) (ht : P.underlying t = some (.slice e)) (hv : Value.okWide P w r b0 t v) (hd : DataW.Trod enc P w base spare held t v d p) : ∃ (l : List α) (A : Option Addr) (c : Nat), v = .slice A l.length c ∧ l.length ≤ c ∧ K.C w A l.length l ∧ wf l := by
  obtain ⟨a, len, cap, rfl⟩ := okWide_slice ht hv
  obtain ⟨fuel, hf⟩ := hd
  obtain ⟨l, ⟨A, c, he, hl, hC⟩, hw⟩ := h H enc w base spare held fuel _ _ hf
  simp [Value.cells] at he
  obtain ⟨rfl, rfl, rfl⟩ := he
  exact ⟨l, a, cap, rfl, hl, hC, hw⟩
end Go.Proofs.Yticobcojmpakfaa.Opn
namespace Go.Proofs.Yticobcojmpakfaa.Opn
open Go.RowKit Go.ChangeShapes Go.WideShapes Go.Deep Go.Proofs.YticobcojmpakfaaW.PrintWords
/-- A struct as its fields, one behind the other. -/
theorem opens_tuple {α : Type} {P : Program} {t : TypeId} {fs : Array Field} {K : Kd α} {wf : α → Prop} (ht : P.underlying t = some (.struct fs)) (hc : P.cellsOf t = K.sz) (h : OpensF P fs.toList 0 K wf) : Opens P t K wf := by
  intro H enc w base spare held fuel cs x hx
  obtain ⟨xs, n, rfl, _, hlen, hxl, hf⟩ := DataW.trod_struct ht hx
  obtain ⟨a, ha, hwa⟩ := h H enc w base spare held n cs (fun i fl hi => by
    have hi' : fs[i]? = some fl := by rw [← Array.getElem?_toList]; exact hi
    have := hf i fl hi'
    have hlt : i < xs.length := by rw [hxl]; exact (Array.getElem?_eq_some_iff.1 hi').1
    rw [List.getElem?_eq_getElem hlt] at this
    exact ⟨_, this⟩) (by rw [hlen, hc]; omega)
  rw [List.drop_zero] at ha
  exact ⟨a, ha, hwa⟩
end Go.Proofs.Yticobcojmpakfaa.Opn
