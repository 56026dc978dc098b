/- Small lemmas for walks by hand: what a callee leaves as it was; bits that join; numbers' wraps. -/
import Derived.Test.YticobcojmpakfaaWWords
import Derived.Laws.BitsLemmas
import Derived.Deep.QuietTactic
import Derived.BigQuiet
import Derived.RegionTactic
import Derived.Deep.RegionWith
import Derived.StillTailTactics
set_option linter.unusedVariables false
namespace Go.Proofs.Yticobcojmpakfaa.P
open Go.RowKit Go.Proofs.YticobcojmpakfaaW.PrintWords

/-- A callee that makes memory leaves all old cells and marks. -/
theorem bcell {W w1 : World} (hb : Below W.heap.size W w1) : (∀ b o, b < W.heap.size → w1.cell? ⟨b, o, none⟩ = W.cell? ⟨b, o, none⟩) ∧ (∀ b o, b < W.heap.size → w1.frozen? ⟨b, o, none⟩ = W.frozen? ⟨b, o, none⟩) :=
  ⟨fun b o h => hb.cell (p := ⟨b, o, none⟩) h, fun b o h => hb.frozen (p := ⟨b, o, none⟩) h⟩
theorem mkf (P : Program) : ∀ (fn : Fn) (first cap : Array Value) (w : World), (Instr.makeFunc fn first cap).run P w = .ok (.func fn first cap) w := fun _ _ _ _ => rfl
theorem wraps_i64 (n : Int) (h₀ : 0 ≤ n) (h₁ : n < 2 ^ 62) : IntKind.i64.wrap n = n := by rw [IntKind.wrap_i64]; omega
theorem wraps_u64 (n : Int) (h₀ : 0 ≤ n) (h₁ : n < 2 ^ 64) : IntKind.u64.wrap n = n := by simp [IntKind.wrap, IntKind.bits, IntKind.signed]; omega
theorem or64 (i : Nat) (x y : Int) (hx₀ : 0 ≤ x) (hx : x % 2 ^ i = 0) (hx₁ : x < 2 ^ 62) (hy₀ : 0 ≤ y) (hy : y < 2 ^ i) (hy₁ : y < 2 ^ 62) : Go.bits .or .i64 x y = x + y :=
  bits_join .i64 62 (by decide) wraps_i64 i x y hx₀ hx hx₁ hy₀ hy hy₁
theorem or64u (i : Nat) (x y : Int) (hx₀ : 0 ≤ x) (hx : x % 2 ^ i = 0) (hx₁ : x < 2 ^ 64) (hy₀ : 0 ≤ y) (hy : y < 2 ^ i) (hy₁ : y < 2 ^ 64) : Go.bits .or .u64 x y = x + y :=
  bits_join .u64 64 (by decide) wraps_u64 i x y hx₀ hx hx₁ hy₀ hy hy₁
theorem and64 (i : Nat) (hi : i ≤ 62) (x : Int) (h₀ : 0 ≤ x) (h₁ : x < 2 ^ 62) : Go.bits .and .i64 x (2 ^ i - 1) = x % 2 ^ i := bits_mask .i64 62 (by decide) wraps_i64 i hi x h₀ h₁
theorem and64u (i : Nat) (hi : i ≤ 64) (x : Int) (h₀ : 0 ≤ x) (h₁ : x < 2 ^ 64) : Go.bits .and .u64 x (2 ^ i - 1) = x % 2 ^ i := bits_mask .u64 64 (by decide) wraps_u64 i hi x h₀ h₁
theorem or8 (a b : Int) (ha : 0 ≤ a ∧ a ≤ 255) (hb : 0 ≤ b ∧ b ≤ 255) : Go.bits .or .i64 (a * 256) b = a * 256 + b :=
  or64 8 _ _ (by omega) (by omega) (by omega) (by omega) (by omega) (by omega)
/-- A callee that turned a variable of the call's own. -/
theorem keepBut_far {w w1 w2 : World} {g gb : Nat} (h : KeepBut w w1 g none) (k : KeepBut w1 w2 gb none) (hg : w.heap.size ≤ gb) : KeepBut w w2 g none :=
  ⟨Nat.le_trans h.1 k.1, fun i hi hne hr => (k.2 i (Nat.lt_of_lt_of_le hi h.1) (by omega) (by simp)).trans (h.2 i hi hne hr)⟩
/-- Cells of one block, stored one behind the other. -/
def sets (w : World) (b o : Nat) : List Value → World
  | [] => w
  | v :: vs => sets (w.setCell ⟨b, o, none⟩ v) b (o + 1) vs
theorem blk_sets {g b : Nat} {t : TypeId} {cs : Array Value} (hne : g ≠ b) : ∀ (vs : List Value) (w : World) (o : Nat), w.heap[g]? = some (.cells cs t (0, 0)) → (sets w b o vs).heap[g]? = some (.cells cs t (0, 0))
  | [], _, _, h => h
  | v :: vs, w, o, h => blk_sets hne vs _ _ (blk_far (p := ⟨b, o, none⟩) h hne v)
theorem below_sets {w0 : World} {b : Nat} (hb : w0.heap.size ≤ b) : ∀ (vs : List Value) (w : World) (o : Nat), Below w0.heap.size w0 w → Below w0.heap.size w0 (sets w b o vs)
  | [], _, _, h => h
  | v :: vs, w, o, h => below_sets hb vs _ _ (below_set h hb)
theorem keep_sets {w0 : World} {b g : Nat} (hb : w0.heap.size ≤ b) : ∀ (vs : List Value) (w : World) (o : Nat), KeepBut w0 w g none → KeepBut w0 (sets w b o vs) g none
  | [], _, _, h => h
  | v :: vs, w, o, h => keep_sets hb vs _ _ (keep_far (p := ⟨b, o, none⟩) h hb v)
end Go.Proofs.Yticobcojmpakfaa.P
