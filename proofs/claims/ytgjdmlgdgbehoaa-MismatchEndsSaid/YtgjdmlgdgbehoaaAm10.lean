/- Small words for walks. -/
import Derived.Test.YtgjdmlgdgbehoaaAm9
import Derived.Laws.BitsLemmas
set_option linter.unusedVariables false
namespace Go.Proofs.Ytgjdmlgdgbehoaa.Am
open Go Go.RowKit

theorem eq_int {k : IntKind} {a b : Int} (h : a = b) : some (Value.int k a) = some (.int k b) := by rw [h]
theorem eq_bool {a b : Bool} (h : a = b) : some (Value.bool a) = some (.bool b) := by rw [h]
theorem eq_str {a b : ByteArray} (h : a = b) : some (Value.string a) = some (.string b) := by rw [h]
theorem v_int {k : IntKind} {a b : Int} (h : a = b) : Value.int k a = .int k b := by rw [h]
theorem v_bool {a b : Bool} (h : a = b) : Value.bool a = .bool b := by rw [h]
theorem v_str {a b : ByteArray} (h : a = b) : Value.string a = .string b := by rw [h]
theorem w64 {x : Int} (h0 : -9223372036854775808 ≤ x) (h1 : x < 9223372036854775808) : IntKind.i64.wrap x = x := by rw [IntKind.wrap_i64]; omega
theorem wu64 {x : Int} (h0 : 0 ≤ x) (h1 : x < 18446744073709551616) : IntKind.u64.wrap x = x := by simp [IntKind.wrap, IntKind.bits, IntKind.signed]; omega
theorem wu64' (x : Int) : IntKind.u64.wrap x = x % 18446744073709551616 := by simp [IntKind.wrap, IntKind.bits, IntKind.signed]
theorem w64' (x : Int) : IntKind.i64.wrap x = (x + 9223372036854775808) % 18446744073709551616 - 9223372036854775808 := by rw [IntKind.wrap_i64]
theorem wu8' (x : Int) : IntKind.u8.wrap x = x % 256 := by simp [IntKind.wrap, IntKind.bits, IntKind.signed]
theorem wu32' (x : Int) : IntKind.u32.wrap x = x % 4294967296 := by simp [IntKind.wrap, IntKind.bits, IntKind.signed]

theorem wraps_i64 (n : Int) (h₀ : 0 ≤ n) (h₁ : n < 2 ^ 62) : IntKind.i64.wrap n = n := w64 (by omega) (by omega)
theorem wraps_u64 (n : Int) (h₀ : 0 ≤ n) (h₁ : n < 2 ^ 64) : IntKind.u64.wrap n = n := wu64 h₀ (by omega)
theorem or64 (i : Nat) (x y : Int) (hx₀ : 0 ≤ x) (hx : x % 2 ^ i = 0) (hx₁ : x < 2 ^ 62) (hy₀ : 0 ≤ y) (hy : y < 2 ^ i) (hy₁ : y < 2 ^ 62) : bits .or .i64 x y = x + y := bits_join .i64 62 (by decide) wraps_i64 i x y hx₀ hx hx₁ hy₀ hy hy₁
theorem or64u (i : Nat) (x y : Int) (hx₀ : 0 ≤ x) (hx : x % 2 ^ i = 0) (hx₁ : x < 2 ^ 64) (hy₀ : 0 ≤ y) (hy : y < 2 ^ i) (hy₁ : y < 2 ^ 64) : bits .or .u64 x y = x + y := bits_join .u64 64 (by decide) wraps_u64 i x y hx₀ hx hx₁ hy₀ hy hy₁
theorem and64 (i : Nat) (hi : i ≤ 62) (x : Int) (h₀ : 0 ≤ x) (h₁ : x < 2 ^ 62) : bits .and .i64 x (2 ^ i - 1) = x % 2 ^ i := bits_mask .i64 62 (by decide) wraps_i64 i hi x h₀ h₁
theorem and64u (i : Nat) (hi : i ≤ 64) (x : Int) (h₀ : 0 ≤ x) (h₁ : x < 2 ^ 64) : bits .and .u64 x (2 ^ i - 1) = x % 2 ^ i := bits_mask .u64 64 (by decide) wraps_u64 i hi x h₀ h₁
section
variable {P : Program} {w0 : World} {X : List Nat} {H : List Res}
/-- What lay in old memory that the call doesn't write. -/
theorem Rd.old {b o : Nat} {vs : List Value} (h : w0.rangeAt b o vs) (hx : b ∉ X) : Rd w0 X H b o vs := by
  intro w hw j v hv
  have h1 := h j v hv
  have hlt := World.block_lt_of_cell? w0 _ h1
  rw [World.cell?_of_block (w := w0) (hw.frame b hlt hx)]
  exact h1
theorem Rd.elem {b o : Nat} {vs : List Value} (h : Rd w0 X H b o vs) {i : Nat} {v : Value} (hv : vs[i]? = some v) : Rd w0 X H b (o + i) [v] := by
  intro w hw j u hu
  cases j with
  | zero =>
    simp at hu
    subst hu
    exact h w hw i _ hv
  | succ j => simp at hu
theorem Rd.at {b o o' : Nat} {vs : List Value} (h : Rd w0 X H b o vs) (e : o' = o) : Rd w0 X H b o' vs := by rw [e]; exact h
theorem Rd.int {b o : Nat} {k : IntKind} {l : List Int} (h : Rd w0 X H b o (l.map (Value.int k))) {i : Nat} (hi : i < l.length) : Rd w0 X H b (o + i) [.int k (l[i]'hi)] :=
  h.elem (by simp [hi])
theorem drop_flat {α : Type} {enc : α → List Value} {sz : Nat} (he : ∀ x, (enc x).length = sz) : ∀ (l : List α) (i : Nat), (l.flatMap enc).drop (i * sz) = (l.drop i).flatMap enc
  | [], i => by simp
  | x :: r, 0 => by simp
  | x :: r, i + 1 => by
    rw [List.flatMap_cons, Nat.succ_mul, Nat.add_comm, ← List.drop_drop, List.drop_left' (he x), List.drop_succ_cons]
    exact drop_flat he r i
/-- One element out of a row of elements. -/
theorem Rd.row {α : Type} {enc : α → List Value} {sz b o : Nat} {l : List α} (h : Rd w0 X H b o (l.flatMap enc)) (he : ∀ x, (enc x).length = sz) {i : Nat} (hi : i < l.length) : Rd w0 X H b (o + i * sz) (enc l[i]) := by
  intro w hw j v hv
  have hj : j < (enc l[i]).length := (List.getElem?_eq_some_iff.1 hv).1
  have h1 := h w hw (i * sz + j) v (by
    rw [← List.getElem?_drop, drop_flat he, List.drop_eq_getElem_cons hi, List.flatMap_cons, List.getElem?_append_left hj]
    exact hv)
  rw [Nat.add_assoc]
  exact h1
theorem rangeAt_grow {w w' : World} (hb : Below w.heap.size w w') {b o : Nat} {vs : List Value} (h : w.rangeAt b o vs) : w'.rangeAt b o vs := by
  intro j v hv
  have h1 := h j v hv
  have hlt := World.block_lt_of_cell? w _ h1
  rw [World.cell?_of_block (w := w) (hb.block b hlt)]
  exact h1
theorem St.blk {w : World} (hw : St w0 X H w) {b : Nat} {cs : List Value} {T : Nat} (h : Res.blk b cs T ∈ H) : w.heap[b]? = some (.cells ⟨cs⟩ T (0, 0)) := hw.ok _ h
/-- The cells of a block that is owned, to a callee. -/
theorem St.range {w : World} (hw : St w0 X H w) {b : Nat} {cs : List Value} {T : Nat} (h : Res.blk b cs T ∈ H) : w.rangeAt b 0 cs := by
  have := Rd.blk (w0 := w0) (X := X) (vs := cs) (o := 0) h (by simp) w hw
  exact this
theorem callPure' {f : FuncId} {args : List Value} {v : Value} {K : Value → List Res → Prop} (he : ∃ fn, P.funcs[f]? = some fn ∧ (fn.name == "runtime.NumGoroutine") = false ∧ fn.body.isNone = false)
    (hc : ∀ w, St w0 X H w → PuAt P f args v w) (hk : K v H) : CallW P w0 X f args H K := .call
  ⟨fun v' H' => v' = v ∧ H' = H, ⟨he, fun w hw => (hc w hw).out.mono fun e w' ⟨h1, h2⟩ => ⟨v, H, h1, ⟨rfl, rfl⟩, hw.grow h2⟩⟩, fun _ _ ⟨h1, h2⟩ => by rw [h1, h2]; exact hk⟩
theorem callQuiet' {f : FuncId} {args : List Value} {v : Value} {K : Value → Prop} (he : ∃ fn, P.funcs[f]? = some fn ∧ (fn.name == "runtime.NumGoroutine") = false ∧ fn.body.isNone = false)
    (hc : ∀ w, St w0 X H w → PuAt P f args v w) (hk : K v) : ∃ v, QCall P w0 X f args H v ∧ K v := ⟨v, ⟨he, fun w hw => (hc w hw).out⟩, hk⟩

def intsOf : List Value → List Int
  | [] => []
  | .int _ n :: r => n :: intsOf r
  | _ :: r => 0 :: intsOf r
theorem BytW.ofBlk {b o n : Nat} {k : List Int → Prop} {cs : List Value} {T : Nat} (hm : Res.blk b cs T ∈ H) (hc : (cs.drop o).take n = (intsOf ((cs.drop o).take n)).map (Value.int .u8)) (hl : (intsOf ((cs.drop o).take n)).length = n) (hk : k (intsOf ((cs.drop o).take n))) : BytW w0 X H b o n k :=
  .mk _ hl (Rd.blk hm (by rw [List.length_map, hl]; exact hc)) hk
section
variable {e b m : Nat} {ei : TD} {v : Value} {K : Value → List Res → Prop} {cs : List Value} {T : Nat}
theorem AppW.noneB (hm : Res.blk b cs T ∈ H) (pos : 0 < ei.size) (hl : cs.length = m * ei.size) (one : cs.all (·.oneCell') = true) (hv : v = .slice Option.none 0 0) (h1 : m ≤ maxLen) (h2 : m * ei.bytes ≤ 140737488355328)
    (hk : ∀ A q, IsRow (.slice A m q) m → K (.slice A m q) (.row (.slice A m q) e ei.size m cs :: H)) : AppW w0 X H e ei b 0 m v K := .none cs pos hl (Rd.blk hm (by simp)) one hv h1 h2 hk
theorem AppW.rowB (hm : Res.blk b cs T ∈ H) (pos : 0 < ei.size) (hl : cs.length = m * ei.size) (one : cs.all (·.oneCell') = true) {n : Nat} {xs : List Value} {f : Res → List Res} (hf : Hole H (.row v e ei.size n xs) f) (h1 : n + m ≤ maxLen) (h2 : (n + m) * ei.bytes ≤ 140737488355328)
    (hk : ∀ A q, IsRow (.slice A (n + m) q) (n + m) → K (.slice A (n + m) q) (f (.row (.slice A (n + m) q) e ei.size (n + m) (xs ++ cs)))) : AppW w0 X H e ei b 0 m v K := .row cs pos hl (Rd.blk hm (by simp)) one n xs f hf h1 h2 hk
theorem AppW.blkB (hm : Res.blk b cs T ∈ H) (pos : 0 < ei.size) (hl : cs.length = m * ei.size) (one : cs.all (·.oneCell') = true) {n g : Nat} {xs : List Value} {f : Res → List Res} (hf : Hole H (.blk g xs e) f) (hv : v = .slice (some ⟨g, 0, Option.none⟩) n n) (hn : xs.length = n * ei.size) (h1 : n + m ≤ maxLen) (h2 : (n + m) * ei.bytes ≤ 140737488355328)
    (hk : ∀ A q, IsRow (.slice A (n + m) q) (n + m) → K (.slice A (n + m) q) (f (.row (.slice A (n + m) q) e ei.size (n + m) (xs ++ cs)))) : AppW w0 X H e ei b 0 m v K := .blk cs pos hl (Rd.blk hm (by simp)) one n g xs f hf hv hn h1 h2 hk
end
/-- Bytes of a text, as they lie behind '[]byte(s)'. -/
theorem Rd.byt {b : Nat} {s : ByteArray} {c T : Nat} (h : Res.byt b s c T ∈ H) {i : Nat} (hi : i < s.size) : Rd w0 X H b (0 + i) [.int .u8 (s[i].toNat : Int)] := by
  intro w hw j u hu
  obtain ⟨cells, fz, h1, h2⟩ := hw.ok _ h
  cases j with
  | zero =>
    simp at hu
    subst hu
    rw [cell_of_row w b (0 + i + 0) cells T fz h1]
    simpa using h2 i hi
  | succ j => simp at hu
end
end Go.Proofs.Ytgjdmlgdgbehoaa.Am
