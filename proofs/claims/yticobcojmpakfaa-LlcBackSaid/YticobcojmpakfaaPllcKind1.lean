-- Written by a program of this session (pp.py, over the kit's printer and texts given by hand).
import Derived.Test.YticobcojmpakfaaP0
import Derived.Test.YticobcojmpakfaaArr
import Derived.Test.YticobcojmpakfaaPllcHeads
import Derived.Test.YticobcojmpakfaaPstringsHasPrefix
namespace Go.Proofs.Yticobcojmpakfaa.P
open Go.RowKit Go.Proofs.YticobcojmpakfaaW.PrintWords Go.Proofs.YticobcojmpakfaaW.PrintLast Go.Proofs.YticobcojmpakfaaW.PrintMore
attribute [local go_sem] max2_int min2_int max_two min_two max_three min_three max_four min_four   -- for this text's walks alone
set_option linter.unusedVariables false
set_option linter.unusedSimpArgs false

/-- A state of type 23 at block g of W; what its slices lead to came in by w0. -/
def IsS23 (w0 W : World) (g : Nat) (f0 : ByteArray) (f1 : ByteArray) (f2 : Bool) (f3 : Int) (f4 : Int) (f5 : Int) (f6 : ByteArray) : Prop := W.heap[g]? = some (.cells #[.string f0, .string f1, .bool f2, .int .i64 f3, .int .i64 f4, .int .i64 f5, .string f6] 23 (0, 0)) ∧ w0.heap.size ≤ g
theorem IsS23.grown {w0 W : World} {g : Nat} {f0 : ByteArray} {f1 : ByteArray} {f2 : Bool} {f3 : Int} {f4 : Int} {f5 : Int} {f6 : ByteArray} {W1 : World} {row : Option Nat} (h : IsS23 w0 W g f0 f1 f2 f3 f4 f5 f6) (hw : W.grownBy W1 row) (hne : some g ≠ row) : IsS23 w0 W1 g f0 f1 f2 f3 f4 f5 f6 := by
  obtain ⟨hb, hg⟩ := h
  exact ⟨blk_grown hb hw hne, hg⟩
theorem IsS23.own_neN {w0 W : World} {g : Nat} {f0 : ByteArray} {f1 : ByteArray} {f2 : Bool} {f3 : Int} {f4 : Int} {f5 : Int} {f6 : ByteArray} {α : Type} {d : Kd α} {e : Nat} {base : Nat} {ok : Nat → Prop} {v : Value} {xs : List α} (h : IsS23 w0 W g f0 f1 f2 f3 f4 f5 f6) (ho : Kd.N d e W base ok v xs) (ht : e ≠ 23) : some g ≠ v.ownBlock := by
  obtain ⟨hb, hg⟩ := h
  exact Kd.N_ne ho hb ht
theorem IsS23.fresh {w0 W : World} {g : Nat} {f0 : ByteArray} {f1 : ByteArray} {f2 : Bool} {f3 : Int} {f4 : Int} {f5 : Int} {f6 : ByteArray} (h : IsS23 w0 W g f0 f1 f2 f3 f4 f5 f6) : ∀ k, W.heap.size ≤ k → k ≠ g := by
  obtain ⟨hb, hg⟩ := h
  exact Kd.freshB hb
theorem IsS23.kept {w0 W : World} {g : Nat} {f0 : ByteArray} {f1 : ByteArray} {f2 : Bool} {f3 : Int} {f4 : Int} {f5 : Int} {f6 : ByteArray} {W1 : World} {S : Nat → Prop} (h : IsS23 w0 W g f0 f1 f2 f3 f4 f5 f6) (hk : Kept W W1 S) (hne : ¬ S g) : IsS23 w0 W1 g f0 f1 f2 f3 f4 f5 f6 := by
  obtain ⟨hb, hg⟩ := h
  exact ⟨blk_kept hb hk hne, hg⟩
theorem IsS23.below {w0 W : World} {g : Nat} {f0 : ByteArray} {f1 : ByteArray} {f2 : Bool} {f3 : Int} {f4 : Int} {f5 : Int} {f6 : ByteArray} {W1 : World} (h : IsS23 w0 W g f0 f1 f2 f3 f4 f5 f6) (hw : Below W.heap.size W W1) : IsS23 w0 W1 g f0 f1 f2 f3 f4 f5 f6 := h.grown (grown_of_below hw none) (by simp)
theorem IsS23.alloc {w0 W : World} {g : Nat} {f0 : ByteArray} {f1 : ByteArray} {f2 : Bool} {f3 : Int} {f4 : Int} {f5 : Int} {f6 : ByteArray} (h : IsS23 w0 W g f0 f1 f2 f3 f4 f5 f6) (o : Obj) : IsS23 w0 (W.alloc o) g f0 f1 f2 f3 f4 f5 f6 := h.below (below_alloc (Below.refl _ _) o)
theorem IsS23.drewN {w0 W : World} {g : Nat} {f0 : ByteArray} {f1 : ByteArray} {f2 : Bool} {f3 : Int} {f4 : Int} {f5 : Int} {f6 : ByteArray} (h : IsS23 w0 W g f0 f1 f2 f3 f4 f5 f6) (m : Nat) : IsS23 w0 (W.drewN m) g f0 f1 f2 f3 f4 f5 f6 := h
theorem IsS23.drew {w0 W : World} {g : Nat} {f0 : ByteArray} {f1 : ByteArray} {f2 : Bool} {f3 : Int} {f4 : Int} {f5 : Int} {f6 : ByteArray} (h : IsS23 w0 W g f0 f1 f2 f3 f4 f5 f6) : IsS23 w0 W.drew g f0 f1 f2 f3 f4 f5 f6 := h
theorem IsS23.at_ {w0 W : World} {g : Nat} {f0 : ByteArray} {f1 : ByteArray} {f2 : Bool} {f3 : Int} {f4 : Int} {f5 : Int} {f6 : ByteArray} {w' : World} {m : Nat} (hq : W.drewN m = w') (h : IsS23 w0 W g f0 f1 f2 f3 f4 f5 f6) : IsS23 w0 w' g f0 f1 f2 f3 f4 f5 f6 := by subst hq; exact IsS23.drewN h m
theorem IsS23.apart {w0 W : World} {g : Nat} {f0 : ByteArray} {f1 : ByteArray} {f2 : Bool} {f3 : Int} {f4 : Int} {f5 : Int} {f6 : ByteArray} {α : Type} {d : Kd α} {e : Nat} {base : Nat} {ok : Nat → Prop} {v : Value} {xs : List α} (h : IsS23 w0 W g f0 f1 f2 f3 f4 f5 f6) (ho : d.R e W base ok v xs) (ht : ∀ q, q ∈ e :: d.E → q ≠ 23) : d.R e W base (fun k => ok k ∧ k ≠ g) v xs := by
  obtain ⟨hb, hg⟩ := h
  exact Kd.R_types ho hb ht
theorem IsS23.own_ne {w0 W : World} {g : Nat} {f0 : ByteArray} {f1 : ByteArray} {f2 : Bool} {f3 : Int} {f4 : Int} {f5 : Int} {f6 : ByteArray} {α : Type} {d : Kd α} {e : Nat} {base : Nat} {ok : Nat → Prop} {v : Value} {xs : List α} (h : IsS23 w0 W g f0 f1 f2 f3 f4 f5 f6) (ho : d.R e W base ok v xs) (ht : e ≠ 23) : some g ≠ v.ownBlock := by
  obtain ⟨hb, hg⟩ := h
  exact Kd.R_ne ho hb ht
theorem IsS23.apartQ {w0 W : World} {g : Nat} {f0 : ByteArray} {f1 : ByteArray} {f2 : Bool} {f3 : Int} {f4 : Int} {f5 : Int} {f6 : ByteArray} {α : Type} {d : Kd α} {e : Nat} {base : Nat} {ok : Nat → Prop} {v : Value} {xs : List α} (h : IsS23 w0 W g f0 f1 f2 f3 f4 f5 f6) (ho : d.Q e W base ok v xs) (ht : ∀ q, q ∈ e :: d.E → q ≠ 23) : d.Q e W base (fun k => ok k ∧ k ≠ g) v xs := by
  obtain ⟨hb, hg⟩ := h
  exact Kd.Q_types ho hb ht
theorem IsS23.own_neQ {w0 W : World} {g : Nat} {f0 : ByteArray} {f1 : ByteArray} {f2 : Bool} {f3 : Int} {f4 : Int} {f5 : Int} {f6 : ByteArray} {α : Type} {d : Kd α} {e : Nat} {base : Nat} {ok : Nat → Prop} {v : Value} {xs : List α} (h : IsS23 w0 W g f0 f1 f2 f3 f4 f5 f6) (ho : d.Q e W base ok v xs) (ht : e ≠ 23) : some g ≠ v.ownBlock := by
  obtain ⟨hb, hg⟩ := h
  exact Kd.Q_ne ho hb ht
theorem IsS23.apartS {w0 W : World} {g : Nat} {f0 : ByteArray} {f1 : ByteArray} {f2 : Bool} {f3 : Int} {f4 : Int} {f5 : Int} {f6 : ByteArray} {α : Type} {d : Kd α} {e : Nat} {base : Nat} {ok : Nat → Prop} {v : Value} {xs : List α} (h : IsS23 w0 W g f0 f1 f2 f3 f4 f5 f6) (ho : d.S e W base ok v xs) (ht : ∀ q, q ∈ e :: d.E → q ≠ 23) : d.S e W base (fun k => ok k ∧ k ≠ g) v xs := by
  obtain ⟨hb, hg⟩ := h
  exact Kd.S_types ho hb ht
theorem IsS23.own_neS {w0 W : World} {g : Nat} {f0 : ByteArray} {f1 : ByteArray} {f2 : Bool} {f3 : Int} {f4 : Int} {f5 : Int} {f6 : ByteArray} {α : Type} {d : Kd α} {e : Nat} {base : Nat} {ok : Nat → Prop} {v : Value} {xs : List α} (h : IsS23 w0 W g f0 f1 f2 f3 f4 f5 f6) (ho : d.S e W base ok v xs) (ht : e ≠ 23) : some g ≠ v.ownBlock := by
  obtain ⟨hb, hg⟩ := h
  exact Kd.S_ne ho hb ht
theorem IsS23.lt {w0 W : World} {g : Nat} {f0 : ByteArray} {f1 : ByteArray} {f2 : Bool} {f3 : Int} {f4 : Int} {f5 : Int} {f6 : ByteArray} (h : IsS23 w0 W g f0 f1 f2 f3 f4 f5 f6) : g < W.heap.size := by
  obtain ⟨hb, hg⟩ := h
  exact blk_lt hb
theorem IsS23.ge {w0 W : World} {g : Nat} {f0 : ByteArray} {f1 : ByteArray} {f2 : Bool} {f3 : Int} {f4 : Int} {f5 : Int} {f6 : ByteArray} (h : IsS23 w0 W g f0 f1 f2 f3 f4 f5 f6) : w0.heap.size ≤ g := by
  obtain ⟨hb, hg⟩ := h
  exact hg
theorem IsS23.ne_blk {w0 W : World} {g : Nat} {f0 : ByteArray} {f1 : ByteArray} {f2 : Bool} {f3 : Int} {f4 : Int} {f5 : Int} {f6 : ByteArray} {a : Nat} {cs : Array Value} {t : TypeId} {fr : Nat × Nat} (h : IsS23 w0 W g f0 f1 f2 f3 f4 f5 f6) (hb2 : W.heap[a]? = some (.cells cs t fr)) (ht : t ≠ 23) : g ≠ a := by
  obtain ⟨hb, hg⟩ := h
  rintro rfl
  rw [hb] at hb2
  injection hb2 with hb2
  injection hb2 with _ ht2
  exact ht ht2.symm
theorem IsS23.far {w0 W : World} {g : Nat} {f0 : ByteArray} {f1 : ByteArray} {f2 : Bool} {f3 : Int} {f4 : Int} {f5 : Int} {f6 : ByteArray} {p : Addr} (h : IsS23 w0 W g f0 f1 f2 f3 f4 f5 f6) (hne : g ≠ p.block) (u : Value) : IsS23 w0 (W.setCell p u) g f0 f1 f2 f3 f4 f5 f6 := by
  obtain ⟨hb, hg⟩ := h
  exact ⟨blk_far hb hne u, hg⟩
theorem cellS23_0 {W : World} {g : Nat} {f0 : ByteArray} {f1 : ByteArray} {f2 : Bool} {f3 : Int} {f4 : Int} {f5 : Int} {f6 : ByteArray} (h : W.heap[g]? = some (.cells #[.string f0, .string f1, .bool f2, .int .i64 f3, .int .i64 f4, .int .i64 f5, .string f6] 23 (0, 0))) : W.cell? ⟨g, 0, none⟩ = some (.string f0) := (blk_cell h 0).trans rfl
theorem IsS23.set_0 {w0 W : World} {g : Nat} {f0 : ByteArray} {f1 : ByteArray} {f2 : Bool} {f3 : Int} {f4 : Int} {f5 : Int} {f6 : ByteArray} (h : IsS23 w0 W g f0 f1 f2 f3 f4 f5 f6) (x : ByteArray) : IsS23 w0 (W.setCell ⟨g, 0, none⟩ (.string x)) g x f1 f2 f3 f4 f5 f6 := by
  obtain ⟨hb, hg⟩ := h
  exact ⟨by simpa using blk_set hb 0 (.string x), hg⟩
theorem cellS23_1 {W : World} {g : Nat} {f0 : ByteArray} {f1 : ByteArray} {f2 : Bool} {f3 : Int} {f4 : Int} {f5 : Int} {f6 : ByteArray} (h : W.heap[g]? = some (.cells #[.string f0, .string f1, .bool f2, .int .i64 f3, .int .i64 f4, .int .i64 f5, .string f6] 23 (0, 0))) : W.cell? ⟨g, 1, none⟩ = some (.string f1) := (blk_cell h 1).trans rfl
theorem IsS23.set_1 {w0 W : World} {g : Nat} {f0 : ByteArray} {f1 : ByteArray} {f2 : Bool} {f3 : Int} {f4 : Int} {f5 : Int} {f6 : ByteArray} (h : IsS23 w0 W g f0 f1 f2 f3 f4 f5 f6) (x : ByteArray) : IsS23 w0 (W.setCell ⟨g, 1, none⟩ (.string x)) g f0 x f2 f3 f4 f5 f6 := by
  obtain ⟨hb, hg⟩ := h
  exact ⟨by simpa using blk_set hb 1 (.string x), hg⟩
theorem cellS23_2 {W : World} {g : Nat} {f0 : ByteArray} {f1 : ByteArray} {f2 : Bool} {f3 : Int} {f4 : Int} {f5 : Int} {f6 : ByteArray} (h : W.heap[g]? = some (.cells #[.string f0, .string f1, .bool f2, .int .i64 f3, .int .i64 f4, .int .i64 f5, .string f6] 23 (0, 0))) : W.cell? ⟨g, 2, none⟩ = some (.bool f2) := (blk_cell h 2).trans rfl
theorem IsS23.set_2 {w0 W : World} {g : Nat} {f0 : ByteArray} {f1 : ByteArray} {f2 : Bool} {f3 : Int} {f4 : Int} {f5 : Int} {f6 : ByteArray} (h : IsS23 w0 W g f0 f1 f2 f3 f4 f5 f6) (x : Bool) : IsS23 w0 (W.setCell ⟨g, 2, none⟩ (.bool x)) g f0 f1 x f3 f4 f5 f6 := by
  obtain ⟨hb, hg⟩ := h
  exact ⟨by simpa using blk_set hb 2 (.bool x), hg⟩
theorem cellS23_3 {W : World} {g : Nat} {f0 : ByteArray} {f1 : ByteArray} {f2 : Bool} {f3 : Int} {f4 : Int} {f5 : Int} {f6 : ByteArray} (h : W.heap[g]? = some (.cells #[.string f0, .string f1, .bool f2, .int .i64 f3, .int .i64 f4, .int .i64 f5, .string f6] 23 (0, 0))) : W.cell? ⟨g, 3, none⟩ = some (.int .i64 f3) := (blk_cell h 3).trans rfl
theorem IsS23.set_3 {w0 W : World} {g : Nat} {f0 : ByteArray} {f1 : ByteArray} {f2 : Bool} {f3 : Int} {f4 : Int} {f5 : Int} {f6 : ByteArray} (h : IsS23 w0 W g f0 f1 f2 f3 f4 f5 f6) (x : Int) : IsS23 w0 (W.setCell ⟨g, 3, none⟩ (.int .i64 x)) g f0 f1 f2 x f4 f5 f6 := by
  obtain ⟨hb, hg⟩ := h
  exact ⟨by simpa using blk_set hb 3 (.int .i64 x), hg⟩
theorem cellS23_4 {W : World} {g : Nat} {f0 : ByteArray} {f1 : ByteArray} {f2 : Bool} {f3 : Int} {f4 : Int} {f5 : Int} {f6 : ByteArray} (h : W.heap[g]? = some (.cells #[.string f0, .string f1, .bool f2, .int .i64 f3, .int .i64 f4, .int .i64 f5, .string f6] 23 (0, 0))) : W.cell? ⟨g, 4, none⟩ = some (.int .i64 f4) := (blk_cell h 4).trans rfl
theorem IsS23.set_4 {w0 W : World} {g : Nat} {f0 : ByteArray} {f1 : ByteArray} {f2 : Bool} {f3 : Int} {f4 : Int} {f5 : Int} {f6 : ByteArray} (h : IsS23 w0 W g f0 f1 f2 f3 f4 f5 f6) (x : Int) : IsS23 w0 (W.setCell ⟨g, 4, none⟩ (.int .i64 x)) g f0 f1 f2 f3 x f5 f6 := by
  obtain ⟨hb, hg⟩ := h
  exact ⟨by simpa using blk_set hb 4 (.int .i64 x), hg⟩
theorem cellS23_5 {W : World} {g : Nat} {f0 : ByteArray} {f1 : ByteArray} {f2 : Bool} {f3 : Int} {f4 : Int} {f5 : Int} {f6 : ByteArray} (h : W.heap[g]? = some (.cells #[.string f0, .string f1, .bool f2, .int .i64 f3, .int .i64 f4, .int .i64 f5, .string f6] 23 (0, 0))) : W.cell? ⟨g, 5, none⟩ = some (.int .i64 f5) := (blk_cell h 5).trans rfl
theorem IsS23.set_5 {w0 W : World} {g : Nat} {f0 : ByteArray} {f1 : ByteArray} {f2 : Bool} {f3 : Int} {f4 : Int} {f5 : Int} {f6 : ByteArray} (h : IsS23 w0 W g f0 f1 f2 f3 f4 f5 f6) (x : Int) : IsS23 w0 (W.setCell ⟨g, 5, none⟩ (.int .i64 x)) g f0 f1 f2 f3 f4 x f6 := by
  obtain ⟨hb, hg⟩ := h
  exact ⟨by simpa using blk_set hb 5 (.int .i64 x), hg⟩
theorem cellS23_6 {W : World} {g : Nat} {f0 : ByteArray} {f1 : ByteArray} {f2 : Bool} {f3 : Int} {f4 : Int} {f5 : Int} {f6 : ByteArray} (h : W.heap[g]? = some (.cells #[.string f0, .string f1, .bool f2, .int .i64 f3, .int .i64 f4, .int .i64 f5, .string f6] 23 (0, 0))) : W.cell? ⟨g, 6, none⟩ = some (.string f6) := (blk_cell h 6).trans rfl
theorem IsS23.set_6 {w0 W : World} {g : Nat} {f0 : ByteArray} {f1 : ByteArray} {f2 : Bool} {f3 : Int} {f4 : Int} {f5 : Int} {f6 : ByteArray} (h : IsS23 w0 W g f0 f1 f2 f3 f4 f5 f6) (x : ByteArray) : IsS23 w0 (W.setCell ⟨g, 6, none⟩ (.string x)) g f0 f1 f2 f3 f4 f5 x := by
  obtain ⟨hb, hg⟩ := h
  exact ⟨by simpa using blk_set hb 6 (.string x), hg⟩
theorem IsS23.new (w0 W : World) (f0 : ByteArray) (f1 : ByteArray) (f2 : Bool) (f3 : Int) (f4 : Int) (f5 : Int) (f6 : ByteArray) (hB : Below w0.heap.size w0 W) : IsS23 w0 (W.alloc (.cells #[.string f0, .string f1, .bool f2, .int .i64 f3, .int .i64 f4, .int .i64 f5, .string f6] 23)) W.heap.size f0 f1 f2 f3 f4 f5 f6 := ⟨by simpa using heap_alloc_new W _, hB.size⟩

/-! ### given by hand: llc_Kind_1: function 64 -/
theorem llc_heads_is : llc_heads.f = some ((⟨#[]⟩ : ByteArray), (⟨#[66, 66, 3]⟩ : ByteArray), (⟨#[170, 170, 3, 0, 0, 12, 1, 11]⟩ : ByteArray)) := by decide +kernel
set_option maxHeartbeats 4000000 in
set_option maxRecDepth 100000 in
theorem llc_begins_no (j : Int) (g : Nat) (ty : Int) (pl : ByteArray) (w : World) (h5 : w.cell? ⟨g, 5, none⟩ = some (.int .i64 ty)) (h6 : w.cell? ⟨g, 6, none⟩ = some (.string pl)) (c : ¬ ty < 1536) :
    Calls Try.prog 64 #[.int .i64 j, .pointer (some ⟨g, 0, none⟩)] w fun e w' => e = .returned (.bool false) ∧ Below w.heap.size w w' := by
  have hu23 := Try.underlying23
  have cb : decide (ty < 1536) = false := decide_eq_false c
  go_enter Try.func64, Try.ntmps64
  go_wp2
  go_quiet (fail)
  go_wp2
  go_ret
  exact ⟨rfl, pw_below_drewN (Below.refl _ _) _⟩
set_option maxHeartbeats 4000000 in
set_option maxRecDepth 100000 in
theorem llc_begins_1 (g : Nat) (ty : Int) (pl : ByteArray) (b : Bool) (w : World) (h5 : w.cell? ⟨g, 5, none⟩ = some (.int .i64 ty)) (h6 : w.cell? ⟨g, 6, none⟩ = some (.string pl)) (hlt : g < w.heap.size) (c : ty < 1536) (h : strings_HasPrefix.f pl (⟨#[66, 66, 3]⟩ : ByteArray) = some b) :
    Calls Try.prog 64 #[.int .i64 1, .pointer (some ⟨g, 0, none⟩)] w fun e w' => e = .returned (.bool b) ∧ Below w.heap.size w w' := by
  have hu23 := Try.underlying23
  have hu91 := Try.underlying91
  have hix91_0 : ∀ (k : IntKind) (i : Int) (v0 v1 v2 : Value) (w : World), (i == 0) = true → (Instr.index 91 (.agg #[v0, v1, v2]) (.int k i)).run Try.prog w = .ok v0 w := fun k i v0 v1 v2 w hj => run_index_eq 91 9 3 _ k 0 i _ _ hu91 (by kernel_rfl) Try.underlying9 rfl (by decide) rfl hj
  have hia91_0 : ∀ (g : Nat) (k : IntKind) (i : Int) (w : World), (i == 0) = true → (Instr.indexAt 91 (.pointer (some ⟨g, 0, none⟩)) (.int k i)).run Try.prog w = .ok (.pointer (some ⟨g, 0, none⟩)) w := fun g k i w hj => run_indexAt_eq 91 9 3 g k 0 i hu91 (by kernel_rfl) (by decide) hj
  have hix91_1 : ∀ (k : IntKind) (i : Int) (v0 v1 v2 : Value) (w : World), (i == 1) = true → (Instr.index 91 (.agg #[v0, v1, v2]) (.int k i)).run Try.prog w = .ok v1 w := fun k i v0 v1 v2 w hj => run_index_eq 91 9 3 _ k 1 i _ _ hu91 (by kernel_rfl) Try.underlying9 rfl (by decide) rfl hj
  have hia91_1 : ∀ (g : Nat) (k : IntKind) (i : Int) (w : World), (i == 1) = true → (Instr.indexAt 91 (.pointer (some ⟨g, 0, none⟩)) (.int k i)).run Try.prog w = .ok (.pointer (some ⟨g, 1, none⟩)) w := fun g k i w hj => run_indexAt_eq 91 9 3 g k 1 i hu91 (by kernel_rfl) (by decide) hj
  have hix91_2 : ∀ (k : IntKind) (i : Int) (v0 v1 v2 : Value) (w : World), (i == 2) = true → (Instr.index 91 (.agg #[v0, v1, v2]) (.int k i)).run Try.prog w = .ok v2 w := fun k i v0 v1 v2 w hj => run_index_eq 91 9 3 _ k 2 i _ _ hu91 (by kernel_rfl) Try.underlying9 rfl (by decide) rfl hj
  have hia91_2 : ∀ (g : Nat) (k : IntKind) (i : Int) (w : World), (i == 2) = true → (Instr.indexAt 91 (.pointer (some ⟨g, 0, none⟩)) (.int k i)).run Try.prog w = .ok (.pointer (some ⟨g, 2, none⟩)) w := fun g k i w hj => run_indexAt_eq 91 9 3 g k 2 i hu91 (by kernel_rfl) (by decide) hj
  have hix : ∀ w, (Instr.index 91 (.agg #[.string ⟨#[]⟩, .string ⟨#[66, 66, 3]⟩, .string ⟨#[170, 170, 3, 0, 0, 12, 1, 11]⟩]) (.int .i64 1)).run Try.prog w = .ok (.string ⟨#[66, 66, 3]⟩) w := fun w => run_index_arr 91 9 3 _ .i64 1 _ _ hu91 (by kernel_rfl) Try.underlying9 rfl (by decide) rfl
  have cb : decide (ty < 1536) = true := decide_eq_true c
  have H := Aside0.mk h
  have Hh := Aside0.mk llc_heads_is
  clear h
  go_enter Try.func64, Try.ntmps64
  go_wp2
  go_region_with (first | (go_at_call 62; refine (llc_heads.calls _ _ _ _ Hh.out).mono ?_; rintro e w1 ⟨rfl, hb⟩; obtain ⟨hc, hf⟩ := bcell hb; have q5 : w1.cell? ⟨g, 5, none⟩ = some (.int .i64 ty) := (hc g 5 hlt).trans h5; have q6 : w1.cell? ⟨g, 6, none⟩ = some (.string pl) := (hc g 6 hlt).trans h6; clear hc hf) | (go_at_call 65; refine (strings_HasPrefix.calls _ _ _ _ H.out).mono ?_; rintro e w2 ⟨rfl, ⟨n, rfl⟩⟩))
  all_goals go_wp2
  all_goals go_ret
  all_goals refine ⟨by first | rfl | (simp [go_sem]; done), ?_⟩
  all_goals repeat (with_reducible first | exact Below.refl _ _ | apply pw_below_drewN | apply below_drew1 | refine below_step ?_ hb)
set_option maxHeartbeats 4000000 in
set_option maxRecDepth 100000 in
theorem llc_begins_2 (g : Nat) (ty : Int) (pl : ByteArray) (b : Bool) (w : World) (h5 : w.cell? ⟨g, 5, none⟩ = some (.int .i64 ty)) (h6 : w.cell? ⟨g, 6, none⟩ = some (.string pl)) (hlt : g < w.heap.size) (c : ty < 1536) (h : strings_HasPrefix.f pl (⟨#[170, 170, 3, 0, 0, 12, 1, 11]⟩ : ByteArray) = some b) :
    Calls Try.prog 64 #[.int .i64 2, .pointer (some ⟨g, 0, none⟩)] w fun e w' => e = .returned (.bool b) ∧ Below w.heap.size w w' := by
  have hu23 := Try.underlying23
  have hu91 := Try.underlying91
  have hix91_0 : ∀ (k : IntKind) (i : Int) (v0 v1 v2 : Value) (w : World), (i == 0) = true → (Instr.index 91 (.agg #[v0, v1, v2]) (.int k i)).run Try.prog w = .ok v0 w := fun k i v0 v1 v2 w hj => run_index_eq 91 9 3 _ k 0 i _ _ hu91 (by kernel_rfl) Try.underlying9 rfl (by decide) rfl hj
  have hia91_0 : ∀ (g : Nat) (k : IntKind) (i : Int) (w : World), (i == 0) = true → (Instr.indexAt 91 (.pointer (some ⟨g, 0, none⟩)) (.int k i)).run Try.prog w = .ok (.pointer (some ⟨g, 0, none⟩)) w := fun g k i w hj => run_indexAt_eq 91 9 3 g k 0 i hu91 (by kernel_rfl) (by decide) hj
  have hix91_1 : ∀ (k : IntKind) (i : Int) (v0 v1 v2 : Value) (w : World), (i == 1) = true → (Instr.index 91 (.agg #[v0, v1, v2]) (.int k i)).run Try.prog w = .ok v1 w := fun k i v0 v1 v2 w hj => run_index_eq 91 9 3 _ k 1 i _ _ hu91 (by kernel_rfl) Try.underlying9 rfl (by decide) rfl hj
  have hia91_1 : ∀ (g : Nat) (k : IntKind) (i : Int) (w : World), (i == 1) = true → (Instr.indexAt 91 (.pointer (some ⟨g, 0, none⟩)) (.int k i)).run Try.prog w = .ok (.pointer (some ⟨g, 1, none⟩)) w := fun g k i w hj => run_indexAt_eq 91 9 3 g k 1 i hu91 (by kernel_rfl) (by decide) hj
  have hix91_2 : ∀ (k : IntKind) (i : Int) (v0 v1 v2 : Value) (w : World), (i == 2) = true → (Instr.index 91 (.agg #[v0, v1, v2]) (.int k i)).run Try.prog w = .ok v2 w := fun k i v0 v1 v2 w hj => run_index_eq 91 9 3 _ k 2 i _ _ hu91 (by kernel_rfl) Try.underlying9 rfl (by decide) rfl hj
  have hia91_2 : ∀ (g : Nat) (k : IntKind) (i : Int) (w : World), (i == 2) = true → (Instr.indexAt 91 (.pointer (some ⟨g, 0, none⟩)) (.int k i)).run Try.prog w = .ok (.pointer (some ⟨g, 2, none⟩)) w := fun g k i w hj => run_indexAt_eq 91 9 3 g k 2 i hu91 (by kernel_rfl) (by decide) hj
  have hix : ∀ w, (Instr.index 91 (.agg #[.string ⟨#[]⟩, .string ⟨#[66, 66, 3]⟩, .string ⟨#[170, 170, 3, 0, 0, 12, 1, 11]⟩]) (.int .i64 2)).run Try.prog w = .ok (.string ⟨#[170, 170, 3, 0, 0, 12, 1, 11]⟩) w := fun w => run_index_arr 91 9 3 _ .i64 2 _ _ hu91 (by kernel_rfl) Try.underlying9 rfl (by decide) rfl
  have cb : decide (ty < 1536) = true := decide_eq_true c
  have H := Aside0.mk h
  have Hh := Aside0.mk llc_heads_is
  clear h
  go_enter Try.func64, Try.ntmps64
  go_wp2
  go_region_with (first | (go_at_call 62; refine (llc_heads.calls _ _ _ _ Hh.out).mono ?_; rintro e w1 ⟨rfl, hb⟩; obtain ⟨hc, hf⟩ := bcell hb; have q5 : w1.cell? ⟨g, 5, none⟩ = some (.int .i64 ty) := (hc g 5 hlt).trans h5; have q6 : w1.cell? ⟨g, 6, none⟩ = some (.string pl) := (hc g 6 hlt).trans h6; clear hc hf) | (go_at_call 65; refine (strings_HasPrefix.calls _ _ _ _ H.out).mono ?_; rintro e w2 ⟨rfl, ⟨n, rfl⟩⟩))
  all_goals go_wp2
  all_goals go_ret
  all_goals refine ⟨by first | rfl | (simp [go_sem]; done), ?_⟩
  all_goals repeat (with_reducible first | exact Below.refl _ _ | apply pw_below_drewN | apply below_drew1 | refine below_step ?_ hb)

def llc_Kind_1.f (a0 : Int) (s1_0 s1_1 : ByteArray) (s1_2 : Bool) (s1_3 s1_4 s1_5 : Int) (s1_6 : ByteArray) : Option (Bool × ByteArray × ByteArray × Bool × Int × Int × Int × ByteArray) :=
  if s1_5 < 1536 then
    if a0 = 1 then (strings_HasPrefix.f s1_6 (⟨#[66, 66, 3]⟩ : ByteArray)).bind fun b => some (b, s1_0, s1_1, s1_2, s1_3, s1_4, s1_5, s1_6)
    else if a0 = 2 then (strings_HasPrefix.f s1_6 (⟨#[170, 170, 3, 0, 0, 12, 1, 11]⟩ : ByteArray)).bind fun b => some (b, s1_0, s1_1, s1_2, s1_3, s1_4, s1_5, s1_6)
    else none
  else some (false, s1_0, s1_1, s1_2, s1_3, s1_4, s1_5, s1_6)
theorem llc_Kind_1.calls (a0 : Int) (g : Nat) (s1_0 s1_1 : ByteArray) (s1_2 : Bool) (s1_3 s1_4 s1_5 : Int) (s1_6 : ByteArray) (r1 : Bool) (r2 r3 : ByteArray) (r4 : Bool) (r5 r6 r7 : Int) (r8 : ByteArray) (w0 w : World) (hI : IsS23 w0 w g s1_0 s1_1 s1_2 s1_3 s1_4 s1_5 s1_6) (hB : Below w0.heap.size w0 w) (h : llc_Kind_1.f a0 s1_0 s1_1 s1_2 s1_3 s1_4 s1_5 s1_6 = some (r1, r2, r3, r4, r5, r6, r7, r8)) :
    Calls Try.prog 64 #[.int .i64 a0, .pointer (some ⟨g, 0, none⟩)] w fun e w' => e = .returned (.bool r1) ∧ IsS23 w0 w' g r2 r3 r4 r5 r6 r7 r8 ∧ Below w0.heap.size w0 w' ∧ KeepBut w w' g none := by
  have key : Calls Try.prog 64 #[.int .i64 a0, .pointer (some ⟨g, 0, none⟩)] w fun e w' => e = .returned (.bool r1) ∧ Below w.heap.size w w' := by
    obtain ⟨hb, hg⟩ := hI
    have h5 : w.cell? ⟨g, 5, none⟩ = some (.int .i64 s1_5) := (blk_cell hb 5).trans rfl
    have h6 : w.cell? ⟨g, 6, none⟩ = some (.string s1_6) := (blk_cell hb 6).trans rfl
    have hlt : g < w.heap.size := by
      rcases Nat.lt_or_ge g w.heap.size with c | c
      · exact c
      · rw [Array.getElem?_eq_none (by omega)] at hb; exact absurd hb (by simp)
    unfold llc_Kind_1.f at h
    by_cases c : s1_5 < 1536
    · rw [if_pos c] at h
      by_cases c1 : a0 = 1
      · rw [if_pos c1] at h
        obtain ⟨b, hb2, h⟩ := Option.bind_eq_some_iff.mp h
        simp only [Option.some.injEq, Prod.mk.injEq] at h
        obtain ⟨rfl, _⟩ := h
        subst c1
        exact llc_begins_1 g s1_5 s1_6 _ w h5 h6 hlt c hb2
      · rw [if_neg c1] at h
        by_cases c2 : a0 = 2
        · rw [if_pos c2] at h
          obtain ⟨b, hb2, h⟩ := Option.bind_eq_some_iff.mp h
          simp only [Option.some.injEq, Prod.mk.injEq] at h
          obtain ⟨rfl, _⟩ := h
          subst c2
          exact llc_begins_2 g s1_5 s1_6 _ w h5 h6 hlt c hb2
        · rw [if_neg c2] at h
          exact absurd h (by simp)
    · rw [if_neg c] at h
      simp only [Option.some.injEq, Prod.mk.injEq] at h
      obtain ⟨rfl, _⟩ := h
      exact llc_begins_no a0 g s1_5 s1_6 w h5 h6 c
  have same : r2 = s1_0 ∧ r3 = s1_1 ∧ r4 = s1_2 ∧ r5 = s1_3 ∧ r6 = s1_4 ∧ r7 = s1_5 ∧ r8 = s1_6 := by
    unfold llc_Kind_1.f at h
    by_cases c : s1_5 < 1536
    · rw [if_pos c] at h
      by_cases c1 : a0 = 1
      · rw [if_pos c1] at h
        obtain ⟨b, hb2, h⟩ := Option.bind_eq_some_iff.mp h
        simp only [Option.some.injEq, Prod.mk.injEq] at h
        obtain ⟨rfl, rfl, rfl, rfl, rfl, rfl, rfl, rfl⟩ := h
        exact ⟨rfl, rfl, rfl, rfl, rfl, rfl, rfl⟩
      · rw [if_neg c1] at h
        by_cases c2 : a0 = 2
        · rw [if_pos c2] at h
          obtain ⟨b, hb2, h⟩ := Option.bind_eq_some_iff.mp h
          simp only [Option.some.injEq, Prod.mk.injEq] at h
          obtain ⟨rfl, rfl, rfl, rfl, rfl, rfl, rfl, rfl⟩ := h
          exact ⟨rfl, rfl, rfl, rfl, rfl, rfl, rfl⟩
        · rw [if_neg c2] at h
          exact absurd h (by simp)
    · rw [if_neg c] at h
      simp only [Option.some.injEq, Prod.mk.injEq] at h
      obtain ⟨rfl, rfl, rfl, rfl, rfl, rfl, rfl, rfl⟩ := h
      exact ⟨rfl, rfl, rfl, rfl, rfl, rfl, rfl⟩
  obtain ⟨rfl, rfl, rfl, rfl, rfl, rfl, rfl⟩ := same
  obtain ⟨hb, hg⟩ := hI
  refine key.mono ?_
  rintro e w' ⟨rfl, hbl⟩
  have hlt : g < w.heap.size := by
    rcases Nat.lt_or_ge g w.heap.size with c | c
    · exact c
    · rw [Array.getElem?_eq_none (by omega)] at hb; exact absurd hb (by simp)
  exact ⟨rfl, ⟨(hbl.block g hlt).trans hb, hg⟩, below_step hB hbl, KeepBut.of_below hbl g none⟩

end Go.Proofs.Yticobcojmpakfaa.P
