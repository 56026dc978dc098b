/- What came in as data, told as cells: for laws whose arguments are numbers, texts, structs, and slices of them. -/
import Derived.Test.YtgjdmlgdgbehoaaAm10
import Derived.Deep.Slices
import Derived.Deep.Fields
import Derived.ChangeSame
import Derived.ChangeArms
import Derived.WideShapes
import Derived.ChangeOld
set_option linter.unusedVariables false
namespace Go.Proofs.Ytgjdmlgdgbehoaa.Am
open Go Go.RowKit Go.ChangeShapes Go.WideShapes Go.Deep

/-- Whatever reads as a datum of type t has cells that are so. -/
def Opens (P : Program) (t : TypeId) (R : World → List Value → Prop) : Prop :=
  ∀ (H : Type) (enc : TypeId × Value → H) (w : World) (base : Nat) (spare : Nat → Bool) (held : Bool) (fuel : Nat) (cs : List Value) (x : DataW H × List MemPlace),
    DataW.trod enc P w base spare held fuel t cs = some x → R w cs
def RInt (k : IntKind) (w : World) (cs : List Value) : Prop := ∃ n, cs = [.int k n] ∧ (Lit.int k n).wf = true
def RBool (w : World) (cs : List Value) : Prop := ∃ n, cs = [.bool n]
def RStr (w : World) (cs : List Value) : Prop := ∃ s : ByteArray, cs = [.string s] ∧ s.size ≤ maxLen
theorem opens_int {P : Program} {t : TypeId} {k : IntKind} (ht : P.underlying t = some (.int k)) : Opens P t (RInt k) := by
  intro H enc w base spare held fuel cs x h
  obtain ⟨n, rfl, _, hw⟩ := DataW.trod_int ht h
  exact ⟨n, rfl, hw⟩
theorem opens_bool {P : Program} {t : TypeId} (ht : P.underlying t = some .bool) : Opens P t RBool := by
  intro H enc w base spare held fuel cs x h
  obtain ⟨n, rfl, _⟩ := DataW.trod_bool ht h
  exact ⟨n, rfl⟩
theorem opens_string {P : Program} {t : TypeId} (ht : P.underlying t = some .string) : Opens P t RStr := by
  intro H enc w base spare held fuel cs x h
  obtain ⟨n, rfl, _, hw⟩ := DataW.trod_string ht h
  exact ⟨n, rfl, hw⟩
/-- A slice: its elements' cells, one element behind the other. -/
def RSl (sz : Nat) (R : World → List Value → Prop) (w : World) (cs : List Value) : Prop :=
  ∃ (l : List (List Value)) (A : Option Addr) (c : Nat), cs = [.slice A l.length c] ∧ l.length ≤ c ∧ l.length ≤ maxLen ∧ (∀ e ∈ l, e.length = sz ∧ R w e) ∧ (0 < l.length → ∃ b o, A = some ⟨b, o, none⟩ ∧ ∀ i e, l[i]? = some e → w.rangeAt b (o + i * sz) e)
theorem opens_slice {P : Program} {t e : TypeId} {R : World → List Value → Prop} {sz : Nat} (ht : P.underlying t = some (.slice e)) (hc : P.cellsOf e = sz) (hpos : 0 < sz) (he : Opens P e R) : Opens P t (RSl sz R) := by
  intro H enc w base spare held fuel cs x h
  rcases open_slice ht h with ⟨rfl, _⟩ | ⟨a, len, cap, m, n, D, Pl, rfl, hb, hl, hm, hmm, hx, hi⟩
  · exact ⟨[], none, 0, rfl, Nat.le_refl _, by simp, by simp, fun h => by simp at h⟩
  · have hle : len ≤ m := by rw [hmm]; split <;> omega
    have hex : ∀ i, i < len → ∃ cs', w.cells? base (a.add (i * P.cellsOf e)) (P.cellsOf e) = some cs' ∧ R w cs' := by
      intro i hil
      obtain ⟨cs', h1, h2⟩ := hi i (by omega)
      exact ⟨cs', h1, he H enc w base spare held n cs' _ h2⟩
    obtain ⟨l, hlen, hl'⟩ : ∃ l : List (List Value), l.length = len ∧ ∀ (i : Nat) y, l[i]? = some y → w.cells? base (a.add (i * P.cellsOf e)) (P.cellsOf e) = some y ∧ R w y := by
      clear hx hi hmm hl hm h hle
      induction len with
      | zero => exact ⟨[], rfl, fun i y hy => by simp at hy⟩
      | succ len ih =>
        obtain ⟨l, hlen, hl⟩ := ih (fun i hi => hex i (by omega))
        obtain ⟨y, hy⟩ := hex len (by omega)
        refine ⟨l ++ [y], by simp [hlen], fun i z hz => ?_⟩
        rcases Nat.lt_or_ge i l.length with hlt | hge
        · rw [List.getElem?_append_left hlt] at hz
          exact hl i z hz
        · rw [List.getElem?_append_right hge] at hz
          have h0 : i - l.length = 0 := by
            have := (List.getElem?_eq_some_iff.1 hz).1
            simp at this
            omega
          rw [h0] at hz
          simp at hz
          subst hz
          have : i = len := by omega
          subst this
          exact hy
    have hcl : ∀ (i : Nat) y, l[i]? = some y → y.length = sz ∧ ∀ j u, y[j]? = some u → w.cell? (a.add (i * sz + j)) = some u := by
      intro i y hy
      obtain ⟨h1, _⟩ := hl' i y hy
      obtain ⟨_, hcl, hat⟩ := World.cells?_some h1
      refine ⟨by rw [hcl, hc], fun j u hu => ?_⟩
      have hj : j < y.length := (List.getElem?_eq_some_iff.1 hu).1
      have := hat j (by omega)
      rw [Go.Deep.add_add, hc] at this
      rw [this, hu]
    refine ⟨l, some a, cap, by rw [hlen], by rw [hlen]; exact hl, ?_, fun y hy => ?_, fun hp => ?_⟩
    · unfold maxLen at hm ⊢; omega
    · obtain ⟨i, hi⟩ := List.mem_iff_getElem?.1 hy
      exact ⟨(hcl i y hi).1, (hl' i y hi).2⟩
    · have h0 : l[0]? = some l[0] := by simp
      obtain ⟨hz, hcell⟩ := hcl 0 _ h0
      have h00 : (l[0]'hp)[0]? = some ((l[0]'hp)[0]'(by omega)) := by simp
      have hc0 := hcell 0 _ h00
      have hsp : a.spot = none := by
        cases hs : a.spot with
        | none => rfl
        | some q =>
          simp only [Nat.zero_mul, Nat.add_zero, Addr.add, if_true] at hc0
          unfold World.cell? at hc0
          rw [hs] at hc0
          split at hc0 <;> simp at hc0
      obtain ⟨b, o, sp⟩ := a
      simp only at hsp
      subst hsp
      refine ⟨b, o, rfl, fun i y hy j u hu => ?_⟩
      have := (hcl i y hy).2 j u hu
      rw [Addr.add_mid] at this
      rw [Nat.add_assoc]
      exact this
/-- Fields one behind the other, from a cell on. -/
def OpensF (P : Program) (fs : List Field) (off : Nat) (R : World → List Value → Prop) : Prop :=
  ∀ (H : Type) (enc : TypeId × Value → H) (w : World) (base : Nat) (spare : Nat → Bool) (held : Bool) (fuel : Nat) (cs : List Value),
    (∀ (i : Nat) (f : Field), fs[i]? = some f → ∃ x, DataW.trod enc P w base spare held fuel f.type ((cs.drop f.offset).take (P.cellsOf f.type)) = some x) → R w (cs.drop off)
theorem opensF_last {P : Program} {f : Field} {off sz : Nat} {R : World → List Value → Prop} (h : Opens P f.type R) (ho : f.offset = off) (hc : P.cellsOf f.type = sz) : OpensF P [f] off (fun w cs => R w (cs.take sz)) := by
  intro H enc w base spare held fuel cs hf
  obtain ⟨x, hx⟩ := hf 0 f rfl
  rw [ho, hc] at hx
  exact h H enc w base spare held fuel _ x hx
theorem opensF_cons {P : Program} {f : Field} {fs : List Field} {off sz : Nat} {R R2 : World → List Value → Prop} (h : Opens P f.type R) (ho : f.offset = off) (hc : P.cellsOf f.type = sz) (h2 : OpensF P fs (off + sz) R2) :
    OpensF P (f :: fs) off (fun w cs => R w (cs.take sz) ∧ R2 w (cs.drop sz)) := by
  intro H enc w base spare held fuel cs hf
  obtain ⟨x, hx⟩ := hf 0 f rfl
  rw [ho, hc] at hx
  refine ⟨h H enc w base spare held fuel _ x hx, ?_⟩
  have := h2 H enc w base spare held fuel cs (fun i g hg => hf (i + 1) g (by simpa using hg))
  rwa [List.drop_drop]
def RSt (sz : Nat) (R : World → List Value → Prop) (w : World) (cs : List Value) : Prop := cs.length = sz ∧ R w cs
theorem opens_struct {P : Program} {t : TypeId} {fs : Array Field} {sz : Nat} {R : World → List Value → Prop} (ht : P.underlying t = some (.struct fs)) (hc : P.cellsOf t = sz) (h : OpensF P fs.toList 0 R) : Opens P t (RSt sz R) := by
  intro H enc w base spare held fuel cs x hx
  obtain ⟨xs, n, rfl, _, hlen, hxl, hf⟩ := DataW.trod_struct ht hx
  have := h H enc w base spare held n cs (fun i fl hi => by
    have hi' : fs[i]? = some fl := by rw [← Array.getElem?_toList]; exact hi
    have := hf i fl hi'
    have hlt : i < xs.length := by rw [hxl]; exact (Array.getElem?_eq_some_iff.1 hi').1
    rw [List.getElem?_eq_getElem hlt] at this
    exact ⟨_, this⟩)
  rw [List.drop_zero] at this
  exact ⟨by rw [hlen, hc], this⟩
/-- A struct by value. -/
theorem open_value {P : Program} {t : TypeId} {fs : Array Field} {R : World → List Value → Prop} {r : Reach} {b0 : Nat} {H : Type} {enc : TypeId × Value → H} {w : World} {base : Nat} {spare : Nat → Bool} {held : Bool} {v : Value} {d : DataW H} {p : List MemPlace}
    (h : Opens P t R) (ht : P.underlying t = some (.struct fs)) (hv : Value.okWide P w r b0 t v) (hd : DataW.Trod enc P w base spare held t v d p) : ∃ cs, v = .agg ⟨cs⟩ ∧ R w cs := by
  obtain ⟨cs, rfl, _⟩ := okWide_struct ht hv
  obtain ⟨fuel, hf⟩ := hd
  exact ⟨cs.toList, rfl, h H enc w base spare held fuel _ _ hf⟩
/-- A slice. -/
theorem open_row {P : Program} {t e : TypeId} {sz : Nat} {R : World → List Value → Prop} {r : Reach} {b0 : Nat} {H : Type} {enc : TypeId × Value → H} {w : World} {base : Nat} {spare : Nat → Bool} {held : Bool} {v : Value} {d : DataW H} {p : List MemPlace}
    (h : Opens P t (RSl sz R)) (ht : P.underlying t = some (.slice e)) (hv : Value.okWide P w r b0 t v) (hd : DataW.Trod enc P w base spare held t v d p) : RSl sz R w [v] := by
  obtain ⟨a, len, cap, rfl⟩ := okWide_slice ht hv
  obtain ⟨fuel, hf⟩ := hd
  exact h H enc w base spare held fuel _ _ hf
theorem lit_bounds {k : IntKind} {n : Int} (h : (Lit.int k n).wf = true) : k.min ≤ n ∧ n ≤ k.max := by simpa [Lit.wf] using h
theorem lit_u64 {n : Int} (h : (Lit.int .u64 n).wf = true) : 0 ≤ n ∧ n < 18446744073709551616 := by
  have := lit_bounds h
  have e1 : IntKind.u64.min = 0 := by decide
  have e2 : IntKind.u64.max = 18446744073709551615 := by decide
  omega
theorem lit_u32 {n : Int} (h : (Lit.int .u32 n).wf = true) : 0 ≤ n ∧ n < 4294967296 := by
  have := lit_bounds h
  have e1 : IntKind.u32.min = 0 := by decide
  have e2 : IntKind.u32.max = 4294967295 := by decide
  omega
theorem lit_u8 {n : Int} (h : (Lit.int .u8 n).wf = true) : 0 ≤ n ∧ n < 256 := by
  have := lit_bounds h
  have e1 : IntKind.u8.min = 0 := by decide
  have e2 : IntKind.u8.max = 255 := by decide
  omega
theorem lit_i64 {n : Int} (h : (Lit.int .i64 n).wf = true) : -9223372036854775808 ≤ n ∧ n < 9223372036854775808 := by
  have := lit_bounds h
  have e1 : IntKind.i64.min = -9223372036854775808 := by decide
  have e2 : IntKind.i64.max = 9223372036854775807 := by decide
  omega
theorem cons_of {cs : List Value} {n : Nat} (h : cs.length = n + 1) : ∃ c r, cs = c :: r ∧ r.length = n := by
  cases cs with
  | nil => simp at h
  | cons c r => exact ⟨c, r, rfl, by simpa using h⟩
theorem nil_of {cs : List Value} (h : cs.length = 0) : cs = [] := List.eq_nil_of_length_eq_zero h
theorem one_int {k : IntKind} {w : World} {c : Value} (h : RInt k w [c]) : ∃ n, c = .int k n ∧ (Lit.int k n).wf = true := by
  obtain ⟨n, e, h⟩ := h
  exact ⟨n, by simpa using e, h⟩
theorem one_bool {w : World} {c : Value} (h : RBool w [c]) : ∃ n, c = .bool n := by
  obtain ⟨n, e⟩ := h
  exact ⟨n, by simpa using e⟩
theorem one_str {w : World} {c : Value} (h : RStr w [c]) : ∃ s : ByteArray, c = .string s ∧ s.size ≤ maxLen := by
  obtain ⟨n, e, h⟩ := h
  exact ⟨n, by simpa using e, h⟩
theorem one_sl {sz : Nat} {R : World → List Value → Prop} {w : World} {c : Value} (h : RSl sz R w [c]) : ∃ (l : List (List Value)) (A : Option Addr) (q : Nat), c = .slice A l.length q ∧ l.length ≤ q ∧ l.length ≤ maxLen ∧ (∀ e ∈ l, e.length = sz ∧ R w e) ∧ (0 < l.length → ∃ b o, A = some ⟨b, o, none⟩ ∧ ∀ i e, l[i]? = some e → w.rangeAt b (o + i * sz) e) := by
  obtain ⟨l, A, q, e, h⟩ := h
  exact ⟨l, A, q, by simpa using e, h⟩
end Go.Proofs.Ytgjdmlgdgbehoaa.Am
