-- Written by a program of this session (pp.py, over the kit's printer and texts given by hand).
import Derived.Test.YticobcojmpakfaaP0
import Derived.Test.YticobcojmpakfaaArr
import Derived.Test.YticobcojmpakfaaPllcSnap
namespace Go.Proofs.Yticobcojmpakfaa.P
open Go.RowKit Go.Proofs.YticobcojmpakfaaW.PrintWords Go.Proofs.YticobcojmpakfaaW.PrintLast Go.Proofs.YticobcojmpakfaaW.PrintMore
attribute [local go_sem] max2_int min2_int max_two min_two max_three min_three max_four min_four   -- for this text's walks alone
set_option linter.unusedVariables false
set_option linter.unusedSimpArgs false

/-! ### llc_heads: function 62 -/
def llc_heads.f  : Option (ByteArray × ByteArray × ByteArray) := (llc_Snap.f (⟨#[0, 0, 12]⟩ : ByteArray) 267 (⟨#[]⟩ : ByteArray)).bind fun bt102 => (some ((⟨#[]⟩ : ByteArray), (⟨#[66, 66, 3]⟩ : ByteArray), bt102.1))
set_option maxHeartbeats 8000000 in
set_option maxRecDepth 100000 in
theorem llc_heads.calls  (r1 : ByteArray) (r2 : ByteArray) (r3 : ByteArray) (w : World) (h : llc_heads.f  = some (r1, r2, r3)) :
    Calls Try.prog 62 #[] w fun e w' => e = .returned (.agg #[.string r1, .string r2, .string r3]) ∧ Below w.heap.size w w' := by
  have hu91 := Try.underlying91
  have hix91_0 : ∀ (k : IntKind) (i : Int) (v0 v1 v2 : Value) (w : World), (i == 0) = true → (Instr.index 91 (.agg #[v0, v1, v2]) (.int k i)).run Try.prog w = .ok v0 w := fun k i v0 v1 v2 w hj => run_index_eq 91 9 3 _ k 0 i _ _ hu91 (by kernel_rfl) Try.underlying9 rfl (by decide) rfl hj
  have hia91_0 : ∀ (g : Nat) (k : IntKind) (i : Int) (w : World), (i == 0) = true → (Instr.indexAt 91 (.pointer (some ⟨g, 0, none⟩)) (.int k i)).run Try.prog w = .ok (.pointer (some ⟨g, 0, none⟩)) w := fun g k i w hj => run_indexAt_eq 91 9 3 g k 0 i hu91 (by kernel_rfl) (by decide) hj
  have hix91_1 : ∀ (k : IntKind) (i : Int) (v0 v1 v2 : Value) (w : World), (i == 1) = true → (Instr.index 91 (.agg #[v0, v1, v2]) (.int k i)).run Try.prog w = .ok v1 w := fun k i v0 v1 v2 w hj => run_index_eq 91 9 3 _ k 1 i _ _ hu91 (by kernel_rfl) Try.underlying9 rfl (by decide) rfl hj
  have hia91_1 : ∀ (g : Nat) (k : IntKind) (i : Int) (w : World), (i == 1) = true → (Instr.indexAt 91 (.pointer (some ⟨g, 0, none⟩)) (.int k i)).run Try.prog w = .ok (.pointer (some ⟨g, 1, none⟩)) w := fun g k i w hj => run_indexAt_eq 91 9 3 g k 1 i hu91 (by kernel_rfl) (by decide) hj
  have hix91_2 : ∀ (k : IntKind) (i : Int) (v0 v1 v2 : Value) (w : World), (i == 2) = true → (Instr.index 91 (.agg #[v0, v1, v2]) (.int k i)).run Try.prog w = .ok v2 w := fun k i v0 v1 v2 w hj => run_index_eq 91 9 3 _ k 2 i _ _ hu91 (by kernel_rfl) Try.underlying9 rfl (by decide) rfl hj
  have hia91_2 : ∀ (g : Nat) (k : IntKind) (i : Int) (w : World), (i == 2) = true → (Instr.indexAt 91 (.pointer (some ⟨g, 0, none⟩)) (.int k i)).run Try.prog w = .ok (.pointer (some ⟨g, 2, none⟩)) w := fun g k i w hj => run_indexAt_eq 91 9 3 g k 2 i hu91 (by kernel_rfl) (by decide) hj
  have HB := Aside0.mk (Below.refl w.heap.size w)
  have H : ((llc_Snap.f (⟨#[0, 0, 12]⟩ : ByteArray) 267 (⟨#[]⟩ : ByteArray)).bind fun bt102 => (some ((⟨#[]⟩ : ByteArray), (⟨#[66, 66, 3]⟩ : ByteArray), bt102.1))) = some (r1, r2, r3) := h
  clear h
  replace H := Option.bind_eq_some_iff.mp H
  obtain ⟨⟨t102, t103⟩, A10, H⟩ := H
  replace H : (some ((⟨#[]⟩ : ByteArray), (⟨#[66, 66, 3]⟩ : ByteArray), t102)) = some (r1, r2, r3) := H
  have A1 := Aside0.mk A10
  clear A10
  simp only [Option.some.injEq, Prod.mk.injEq] at H
  obtain ⟨rfl, rfl, rfl⟩ := H
  go_enter Try.func62, Try.ntmps62
  go_wp2_with (first | ((with_reducible refine gate_dst (N := 0) rfl ?_); refine box_event ?hg (N := 0) ?hd (cs := #[.string (⟨#[]⟩ : ByteArray), .string (⟨#[]⟩ : ByteArray), .string (⟨#[]⟩ : ByteArray)]) (t := 91) ?hr ?_; (case hd => rfl); (case hg => rfl); (case hr => first | (go_simp; done) | (go_simp; rfl)); intro gb101 hg w2 hbox hb; have n0_ := Aside0.mk (below_step (by repeat (first | (with_reducible first | exact HB.out | apply below_alloc | apply pw_below_drewN | apply below_drew1) | exact HB.out)) hb); have n1_ := Aside0.mk (hbox); have n2_ := Aside0.mk ((by rw [hg]; exact (below_size (by repeat (first | (with_reducible first | exact HB.out | apply below_alloc | apply pw_below_drewN | apply below_drew1) | exact HB.out))) : w.heap.size ≤ gb101)); have n3_ := Aside0.mk ((by rw [hg]; exact (below_size (by repeat (first | (with_reducible first | exact HB.out | apply below_alloc | apply pw_below_drewN | apply below_drew1) | exact HB.out))) : w.heap.size ≤ gb101)); clear HB; have HB := n0_; have BK101 := n1_; have GW101 := n2_; have GE101 := n3_; clear n0_ n1_ n2_ n3_; clear hb hbox hg) | ((with_reducible refine gate_callee (f := 22) rfl ?_); refine goesL_ (some 4) rfl rfl Try.func22 (by kernel_rfl) rfl #[.string (⟨#[0, 0, 12]⟩ : ByteArray), .int .i64 267, .string (⟨#[]⟩ : ByteArray)] rfl (by (try simp only [List.map_toArray, List.map_cons, List.map_nil]); first | done | rfl | (simp only [List.length_drop, List.length_take]; rfl)) ?_; (with_reducible refine (llc_Snap.calls (⟨#[0, 0, 12]⟩ : ByteArray) 267 (⟨#[]⟩ : ByteArray) t102 t103 _ A1.out).mono ?_); rintro e w3 ⟨rfl, hb⟩; refine ⟨_, rfl, ?_⟩; have n0_ := Aside0.mk (blk_below (g := gb101) (o := .cells #[.string (⟨#[]⟩ : ByteArray), .string (⟨#[]⟩ : ByteArray), .string (⟨#[]⟩ : ByteArray)] 91 (0, 0)) (by (with_reducible repeat (first | refine blk_drewN ?_ _ | refine blk_drew ?_ | refine blk_alloc ?_ _)); exact BK101.out) hb); have n1_ := Aside0.mk (below_step (by repeat (first | (with_reducible first | exact HB.out | apply below_alloc | apply pw_below_drewN | apply below_drew1 | refine below_set ?_ GE101.out) | exact HB.out)) hb); clear BK101; clear HB; have BK101 := n0_; have HB := n1_; clear n0_ n1_; (try clear hb); (try clear hb2); (try clear hk); (try clear hi); have hcz4_0 : w3.cell? ⟨gb101, 0, none⟩ = some (.string (⟨#[]⟩ : ByteArray)) := (blk_cell BK101.out 0).trans rfl; have hcz4_1 : w3.cell? ⟨gb101, 1, none⟩ = some (.string (⟨#[]⟩ : ByteArray)) := (blk_cell BK101.out 1).trans rfl; have hcz4_2 : w3.cell? ⟨gb101, 2, none⟩ = some (.string (⟨#[]⟩ : ByteArray)) := (blk_cell BK101.out 2).trans rfl; have hfz4_0 := blk_frozen BK101.out 0; have hfz4_1 := blk_frozen BK101.out 1; have hfz4_2 := blk_frozen BK101.out 2))
  refine bodyPost_ret (results_cell_row rfl _ _ gb101 91 #[.string (⟨#[]⟩ : ByteArray), .string (⟨#[66, 66, 3]⟩ : ByteArray), .string t102] (0, 0) _ rfl (by (with_reducible repeat (first | refine blk_drewN ?_ _ | refine blk_drew ?_ | refine blk_alloc ?_ _)); refine blk_put (cs := #[.string (⟨#[]⟩ : ByteArray), .string (⟨#[66, 66, 3]⟩ : ByteArray), .string (⟨#[]⟩ : ByteArray)]) ?_ 2 _ rfl; (with_reducible repeat (first | refine blk_drewN ?_ _ | refine blk_drew ?_ | refine blk_alloc ?_ _)); refine blk_put (cs := #[.string (⟨#[]⟩ : ByteArray), .string (⟨#[]⟩ : ByteArray), .string (⟨#[]⟩ : ByteArray)]) ?_ 1 _ rfl; (with_reducible repeat (first | refine blk_drewN ?_ _ | refine blk_drew ?_ | refine blk_alloc ?_ _)); refine blk_put (cs := #[.string (⟨#[]⟩ : ByteArray), .string (⟨#[]⟩ : ByteArray), .string (⟨#[]⟩ : ByteArray)]) ?_ 0 _ rfl; (with_reducible repeat (first | refine blk_drewN ?_ _ | refine blk_drew ?_ | refine blk_alloc ?_ _)); exact BK101.out) Try.underlying91 rfl (by kernel_rfl)) rfl ?_
  exact ⟨by first | rfl | (simp [errW_none, errW_some] <;> rfl) | (simp [*, errW_none, errW_some] <;> rfl), by repeat (first | (with_reducible first | exact HB.out | apply below_alloc | apply pw_below_drewN | apply below_drew1 | refine below_set ?_ GE101.out) | exact HB.out)⟩

end Go.Proofs.Yticobcojmpakfaa.P
