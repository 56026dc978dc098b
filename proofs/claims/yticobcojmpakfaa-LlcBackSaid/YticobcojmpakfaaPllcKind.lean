-- Written by a program of this session (pp.py, over the kit's printer and texts given by hand).
import Derived.Test.YticobcojmpakfaaP0
import Derived.Test.YticobcojmpakfaaPframeRight
import Derived.Test.YticobcojmpakfaaPstringsHasPrefix
import Derived.Test.YticobcojmpakfaaPllcKind1
namespace Go.Proofs.Yticobcojmpakfaa.P
open Go.RowKit Go.Proofs.YticobcojmpakfaaW.PrintWords Go.Proofs.YticobcojmpakfaaW.PrintLast Go.Proofs.YticobcojmpakfaaW.PrintMore
attribute [local go_sem] max2_int min2_int max_two min_two max_three min_three max_four min_four   -- for this text's walks alone
set_option linter.unusedVariables false
set_option linter.unusedSimpArgs false

/-! ### llc_Kind: function 24 -/
mutual
def llc_Kind.j0 : Nat → Bool → ByteArray → ByteArray → Bool → Int → Int → Int → ByteArray → Option (Int)
  | 0, _, _, _, _, _, _, _, _ => none
  | k + 1, x8, x102000, x102001, x102002, x102003, x102004, x102005, x102006 => if x8 = true then (some 1) else (if x102000.toList = ([1, 0, 12, 204, 204, 205] : List UInt8) then ((llc_Kind_1.f 2 x102000 x102001 x102002 x102003 x102004 x102005 x102006).bind fun bt111 => (llc_Kind.j1 k bt111.1 bt111.2.1 bt111.2.2.1 bt111.2.2.2.1 bt111.2.2.2.2.1 bt111.2.2.2.2.2.1 bt111.2.2.2.2.2.2.1 bt111.2.2.2.2.2.2.2)) else (llc_Kind.j1 k false x102000 x102001 x102002 x102003 x102004 x102005 x102006))
def llc_Kind.j1 : Nat → Bool → ByteArray → ByteArray → Bool → Int → Int → Int → ByteArray → Option (Int)
  | 0, _, _, _, _, _, _, _, _ => none
  | k + 1, x16, x102000, x102001, x102002, x102003, x102004, x102005, x102006 => if x16 = true then (some 2) else (if x102000.toList = ([1, 0, 12, 204, 204, 205] : List UInt8) then (some 3) else ((strings_HasPrefix.f x102000 (⟨#[1, 128, 194, 0, 0]⟩ : ByteArray)).bind fun t119 => (if t119 = true then (if 5 < (x102000.size : Int) then (if (bt x102000 5) ≤ 15 then (some 3) else (some 0)) else (none)) else (some 0))))
end
def llc_Kind.f (k : Nat) (a0_0 : ByteArray) (a0_1 : ByteArray) (a0_2 : Bool) (a0_3 : Int) (a0_4 : Int) (a0_5 : Int) (a0_6 : ByteArray) : Option (Int) := (frame_Right.f k a0_0 a0_1 a0_2 a0_3 a0_4 a0_5 a0_6).bind fun t102 => (if t102 = true then (if a0_0.toList = ([1, 128, 194, 0, 0, 0] : List UInt8) then ((llc_Kind_1.f 1 a0_0 a0_1 a0_2 a0_3 a0_4 a0_5 a0_6).bind fun bt103 => (llc_Kind.j0 k bt103.1 bt103.2.1 bt103.2.2.1 bt103.2.2.2.1 bt103.2.2.2.2.1 bt103.2.2.2.2.2.1 bt103.2.2.2.2.2.2.1 bt103.2.2.2.2.2.2.2)) else (llc_Kind.j0 k false a0_0 a0_1 a0_2 a0_3 a0_4 a0_5 a0_6)) else (some 0))
theorem llc_Kind.mono_l : ∀ k, (∀ y0 y1 y2 y3 y4 y5 y6 y7, LeO (llc_Kind.j0 k y0 y1 y2 y3 y4 y5 y6 y7) (llc_Kind.j0 (k + 1) y0 y1 y2 y3 y4 y5 y6 y7)) ∧ (∀ y0 y1 y2 y3 y4 y5 y6 y7, LeO (llc_Kind.j1 k y0 y1 y2 y3 y4 y5 y6 y7) (llc_Kind.j1 (k + 1) y0 y1 y2 y3 y4 y5 y6 y7))
  | 0 => ⟨fun _ _ _ _ _ _ _ _ r h => by simp [llc_Kind.j0] at h, fun _ _ _ _ _ _ _ _ r h => by simp [llc_Kind.j1] at h⟩
  | k + 1 => by
    obtain ⟨ih0, ih1⟩ := llc_Kind.mono_l k
    refine ⟨?_, ?_⟩
    · intro y0 y1 y2 y3 y4 y5 y6 y7
      unfold llc_Kind.j0
      repeat' first
      | (with_reducible exact ih0 _ _ _ _ _ _ _ _)
      | (with_reducible exact ih1 _ _ _ _ _ _ _ _)
      | (with_reducible exact frame_Right.mono _ _ _ _ _ _ _ _)
      | (with_reducible exact LeO.refl _)
      | (with_reducible exact LeO.none _)
      | (with_reducible refine LeO.ite ?_ ?_)
      | (with_reducible refine LeO.bind ?_ (fun _ => ?_))
      | exact ih0 _ _ _ _ _ _ _ _
      | exact ih1 _ _ _ _ _ _ _ _
      | exact frame_Right.mono _ _ _ _ _ _ _ _
      | exact LeO.none _
      | refine LeO.ite ?_ ?_
      | refine LeO.bind ?_ (fun _ => ?_)
    · intro y0 y1 y2 y3 y4 y5 y6 y7
      unfold llc_Kind.j1
      repeat' first
      | (with_reducible exact ih0 _ _ _ _ _ _ _ _)
      | (with_reducible exact ih1 _ _ _ _ _ _ _ _)
      | (with_reducible exact frame_Right.mono _ _ _ _ _ _ _ _)
      | (with_reducible exact LeO.refl _)
      | (with_reducible exact LeO.none _)
      | (with_reducible refine LeO.ite ?_ ?_)
      | (with_reducible refine LeO.bind ?_ (fun _ => ?_))
      | exact ih0 _ _ _ _ _ _ _ _
      | exact ih1 _ _ _ _ _ _ _ _
      | exact frame_Right.mono _ _ _ _ _ _ _ _
      | exact LeO.none _
      | refine LeO.ite ?_ ?_
      | refine LeO.bind ?_ (fun _ => ?_)
theorem llc_Kind.mono : ∀ a0 a1 a2 a3 a4 a5 a6 k, LeO (llc_Kind.f k a0 a1 a2 a3 a4 a5 a6) (llc_Kind.f (k + 1) a0 a1 a2 a3 a4 a5 a6) := by
  intro a0 a1 a2 a3 a4 a5 a6 k
  obtain ⟨ih0, ih1⟩ := llc_Kind.mono_l k
  unfold llc_Kind.f
  repeat' first
      | (with_reducible exact ih0 _ _ _ _ _ _ _ _)
      | (with_reducible exact ih1 _ _ _ _ _ _ _ _)
      | (with_reducible exact frame_Right.mono _ _ _ _ _ _ _ _)
      | (with_reducible exact LeO.refl _)
      | (with_reducible exact LeO.none _)
      | (with_reducible refine LeO.ite ?_ ?_)
      | (with_reducible refine LeO.bind ?_ (fun _ => ?_))
      | exact ih0 _ _ _ _ _ _ _ _
      | exact ih1 _ _ _ _ _ _ _ _
      | exact frame_Right.mono _ _ _ _ _ _ _ _
      | exact LeO.none _
      | refine LeO.ite ?_ ?_
      | refine LeO.bind ?_ (fun _ => ?_)
set_option maxHeartbeats 8000000 in
set_option maxRecDepth 100000 in
theorem llc_Kind.calls (k : Nat) (a0_0 : ByteArray) (a0_1 : ByteArray) (a0_2 : Bool) (a0_3 : Int) (a0_4 : Int) (a0_5 : Int) (a0_6 : ByteArray) (r : Int) (w : World) (h : llc_Kind.f k a0_0 a0_1 a0_2 a0_3 a0_4 a0_5 a0_6 = some r) :
    Calls Try.prog 24 #[.agg #[.string a0_0, .string a0_1, .bool a0_2, .int .i64 a0_3, .int .i64 a0_4, .int .i64 a0_5, .string a0_6]] w fun e w' => e = .returned (.int .i64 r) ∧ Below w.heap.size w w' := by
  have hu23 := Try.underlying23
  have HB := Aside0.mk (Below.refl w.heap.size w)
  have H : ((frame_Right.f k a0_0 a0_1 a0_2 a0_3 a0_4 a0_5 a0_6).bind fun t102 => (if t102 = true then (if a0_0.toList = ([1, 128, 194, 0, 0, 0] : List UInt8) then ((llc_Kind_1.f 1 a0_0 a0_1 a0_2 a0_3 a0_4 a0_5 a0_6).bind fun bt103 => (llc_Kind.j0 k bt103.1 bt103.2.1 bt103.2.2.1 bt103.2.2.2.1 bt103.2.2.2.2.1 bt103.2.2.2.2.2.1 bt103.2.2.2.2.2.2.1 bt103.2.2.2.2.2.2.2)) else (llc_Kind.j0 k false a0_0 a0_1 a0_2 a0_3 a0_4 a0_5 a0_6)) else (some 0))) = some r := h
  clear h
  replace H := Option.bind_eq_some_iff.mp H
  obtain ⟨t102, A20, H⟩ := H
  replace H : (if t102 = true then (if a0_0.toList = ([1, 128, 194, 0, 0, 0] : List UInt8) then ((llc_Kind_1.f 1 a0_0 a0_1 a0_2 a0_3 a0_4 a0_5 a0_6).bind fun bt103 => (llc_Kind.j0 k bt103.1 bt103.2.1 bt103.2.2.1 bt103.2.2.2.1 bt103.2.2.2.2.1 bt103.2.2.2.2.2.1 bt103.2.2.2.2.2.2.1 bt103.2.2.2.2.2.2.2)) else (llc_Kind.j0 k false a0_0 a0_1 a0_2 a0_3 a0_4 a0_5 a0_6)) else (some 0)) = some r := H
  have A2 := Aside0.mk A20
  clear A20
  by_cases c3 : t102 = true
  · subst c3
    have H1 : (if a0_0.toList = ([1, 128, 194, 0, 0, 0] : List UInt8) then ((llc_Kind_1.f 1 a0_0 a0_1 a0_2 a0_3 a0_4 a0_5 a0_6).bind fun bt103 => (llc_Kind.j0 k bt103.1 bt103.2.1 bt103.2.2.1 bt103.2.2.2.1 bt103.2.2.2.2.1 bt103.2.2.2.2.2.1 bt103.2.2.2.2.2.2.1 bt103.2.2.2.2.2.2.2)) else (llc_Kind.j0 k false a0_0 a0_1 a0_2 a0_3 a0_4 a0_5 a0_6)) = some r := by rw [if_pos rfl] at H; exact H
    clear H
    have H := H1
    clear H1
    have HC4 := Aside0.mk H
    clear H
    go_enter Try.func24, Try.ntmps24
    go_upto_region 4 with (first | ((with_reducible refine gate_dst (N := 1) rfl ?_); refine box_event ?hg (N := 1) ?hd (cs := #[.string a0_0, .string a0_1, .bool a0_2, .int .i64 a0_3, .int .i64 a0_4, .int .i64 a0_5, .string a0_6]) (t := 23) ?hr ?_; (case hd => rfl); (case hg => rfl); (case hr => first | (go_simp; done) | (go_simp; rfl)); intro gb101 hg w5 hbox hb; have n0_ := Aside0.mk (below_step (by repeat (first | (with_reducible first | exact HB.out | apply below_alloc | apply pw_below_drewN | apply below_drew1) | exact HB.out)) hb); have n1_ := Aside0.mk (hbox); have n2_ := Aside0.mk ((by rw [hg]; exact (below_size (by repeat (first | (with_reducible first | exact HB.out | apply below_alloc | apply pw_below_drewN | apply below_drew1) | exact HB.out))) : w.heap.size ≤ gb101)); have n3_ := Aside0.mk ((by rw [hg]; exact (below_size (by repeat (first | (with_reducible first | exact HB.out | apply below_alloc | apply pw_below_drewN | apply below_drew1) | exact HB.out))) : w.heap.size ≤ gb101)); clear HB; have HB := n0_; have BK101 := n1_; have GW101 := n2_; have GE101 := n3_; clear n0_ n1_ n2_ n3_; clear hb hbox hg; have hcz6_0 : w5.cell? ⟨gb101, 0, none⟩ = some (.string a0_0) := (blk_cell BK101.out 0).trans rfl; have hcz6_1 : w5.cell? ⟨gb101, 1, none⟩ = some (.string a0_1) := (blk_cell BK101.out 1).trans rfl; have hcz6_2 : w5.cell? ⟨gb101, 2, none⟩ = some (.bool a0_2) := (blk_cell BK101.out 2).trans rfl; have hcz6_3 : w5.cell? ⟨gb101, 3, none⟩ = some (.int .i64 a0_3) := (blk_cell BK101.out 3).trans rfl; have hcz6_4 : w5.cell? ⟨gb101, 4, none⟩ = some (.int .i64 a0_4) := (blk_cell BK101.out 4).trans rfl; have hcz6_5 : w5.cell? ⟨gb101, 5, none⟩ = some (.int .i64 a0_5) := (blk_cell BK101.out 5).trans rfl; have hcz6_6 : w5.cell? ⟨gb101, 6, none⟩ = some (.string a0_6) := (blk_cell BK101.out 6).trans rfl; have hfz6_0 := blk_frozen BK101.out 0; have hfz6_1 := blk_frozen BK101.out 1; have hfz6_2 := blk_frozen BK101.out 2; have hfz6_3 := blk_frozen BK101.out 3; have hfz6_4 := blk_frozen BK101.out 4; have hfz6_5 := blk_frozen BK101.out 5; have hfz6_6 := blk_frozen BK101.out 6) | ((with_reducible refine gate_callee (f := 26) rfl ?_); refine goesL_ (some 5) rfl rfl Try.func26 (by kernel_rfl) rfl #[.agg #[.string a0_0, .string a0_1, .bool a0_2, .int .i64 a0_3, .int .i64 a0_4, .int .i64 a0_5, .string a0_6]] rfl (by (try simp only [List.map_toArray, List.map_cons, List.map_nil]); first | done | rfl | (simp only [List.length_drop, List.length_take]; rfl)) ?_; (with_reducible refine (frame_Right.calls k a0_0 a0_1 a0_2 a0_3 a0_4 a0_5 a0_6 true _ A2.out).mono ?_); rintro e w7 ⟨rfl, hb⟩; refine ⟨_, rfl, ?_⟩; have n0_ := Aside0.mk (blk_below (g := gb101) (o := .cells #[.string a0_0, .string a0_1, .bool a0_2, .int .i64 a0_3, .int .i64 a0_4, .int .i64 a0_5, .string a0_6] 23 (0, 0)) (by (with_reducible repeat (first | refine blk_drewN ?_ _ | refine blk_drew ?_ | refine blk_alloc ?_ _)); exact BK101.out) hb); have n1_ := Aside0.mk (below_step (by repeat (first | (with_reducible first | exact HB.out | apply below_alloc | apply pw_below_drewN | apply below_drew1 | refine below_set ?_ GE101.out) | exact HB.out)) hb); clear BK101; clear HB; have BK101 := n0_; have HB := n1_; clear n0_ n1_; (try clear hb); (try clear hb2); (try clear hk); (try clear hi)))
    (try simp only [Act.put, List.setIfInBounds_toArray, List.set_cons_zero, List.set_cons_succ])
    go_cut [8] (fun v8 wc => ∃ (kq : Nat) (x8_3 : Bool) (x102000_3 : ByteArray) (x102001_3 : ByteArray) (x102002_3 : Bool) (x102003_3 : Int) (x102004_3 : Int) (x102005_3 : Int) (x102006_3 : ByteArray), v8 = .bool x8_3 ∧ Aside0 (llc_Kind.j0 kq x8_3 x102000_3 x102001_3 x102002_3 x102003_3 x102004_3 x102005_3 x102006_3 = some r) ∧ Aside0 (kq ≤ k) ∧ Aside0 (wc.heap[gb101]? = some (.cells #[.string x102000_3, .string x102001_3, .bool x102002_3, .int .i64 x102003_3, .int .i64 x102004_3, .int .i64 x102005_3, .string x102006_3] 23 (0, 0))) ∧ Aside0 (Below w.heap.size w wc))
    case first =>
      have H := HC4.out
      clear HC4
      by_cases c8 : a0_0.toList = ([1, 128, 194, 0, 0, 0] : List UInt8)
      · rw [if_pos c8] at H
        have c8b0 : (a0_0.toList == ([1, 128, 194, 0, 0, 0] : List UInt8)) = true := beq_iff_eq.mpr c8
        have c8b1 : (a0_0.toList != ([1, 128, 194, 0, 0, 0] : List UInt8)) = false := bne_eq_false_iff_eq.mpr c8
        clear c8
        (first | rw [c8b0] | (simp only [i64_w, i32_w]; rw [c8b0]) | skip)
        replace H := Option.bind_eq_some_iff.mp H
        obtain ⟨⟨t103, t104, t105, t106, t107, t108, t109, t110⟩, A90, H⟩ := H
        replace H : (llc_Kind.j0 k t103 t104 t105 t106 t107 t108 t109 t110) = some r := H
        have A9 := Aside0.mk A90
        clear A90
        have H' := Aside0.mk H
        clear H
        have hcz10_0 : w7.cell? ⟨gb101, 0, none⟩ = some (.string a0_0) := (blk_cell BK101.out 0).trans rfl
        have hcz10_1 : w7.cell? ⟨gb101, 1, none⟩ = some (.string a0_1) := (blk_cell BK101.out 1).trans rfl
        have hcz10_2 : w7.cell? ⟨gb101, 2, none⟩ = some (.bool a0_2) := (blk_cell BK101.out 2).trans rfl
        have hcz10_3 : w7.cell? ⟨gb101, 3, none⟩ = some (.int .i64 a0_3) := (blk_cell BK101.out 3).trans rfl
        have hcz10_4 : w7.cell? ⟨gb101, 4, none⟩ = some (.int .i64 a0_4) := (blk_cell BK101.out 4).trans rfl
        have hcz10_5 : w7.cell? ⟨gb101, 5, none⟩ = some (.int .i64 a0_5) := (blk_cell BK101.out 5).trans rfl
        have hcz10_6 : w7.cell? ⟨gb101, 6, none⟩ = some (.string a0_6) := (blk_cell BK101.out 6).trans rfl
        have hfz10_0 := blk_frozen BK101.out 0
        have hfz10_1 := blk_frozen BK101.out 1
        have hfz10_2 := blk_frozen BK101.out 2
        have hfz10_3 := blk_frozen BK101.out 3
        have hfz10_4 := blk_frozen BK101.out 4
        have hfz10_5 := blk_frozen BK101.out 5
        have hfz10_6 := blk_frozen BK101.out 6
        go_wp2_with (first | (go_at_call 64; (with_reducible refine (llc_Kind_1.calls 1 gb101 a0_0 a0_1 a0_2 a0_3 a0_4 a0_5 a0_6 t103 t104 t105 t106 t107 t108 t109 t110 w _ ?side1 ?side2 A9.out).mono ?_); (case side1 => exact And.intro (by (with_reducible repeat (first | refine blk_drewN ?_ _ | refine blk_drew ?_ | refine blk_alloc ?_ _)); exact BK101.out) GE101.out); (case side2 => repeat (first | (with_reducible first | exact HB.out | apply below_alloc | apply pw_below_drewN | apply below_drew1 | refine below_set ?_ GE101.out) | exact HB.out)); rintro e w11 ⟨rfl, hi, hb, hk⟩; have n0_ := Aside0.mk (hi.1); have n1_ := Aside0.mk (hb); clear BK101; clear HB; have BK101 := n0_; have HB := n1_; clear n0_ n1_; (try clear hb); (try clear hb2); (try clear hk); (try clear hi)))
        go_meet
        case rel => exact ⟨_, (t103), (t104), (t105), (t106), (t107), (t108), (t109), (t110), (by first | rfl | (simp; done) | (simp [*]; done)), H', ⟨by first | omega | exact Nat.le_refl _⟩, ⟨by (with_reducible repeat (first | refine blk_drewN ?_ _ | refine blk_drew ?_ | refine blk_alloc ?_ _)); exact BK101.out⟩, ⟨by repeat (first | (with_reducible first | exact HB.out | apply below_alloc | apply pw_below_drewN | apply below_drew1 | refine below_set ?_ GE101.out) | exact HB.out)⟩⟩
      · rw [if_neg c8] at H
        have c8b0 : (a0_0.toList == ([1, 128, 194, 0, 0, 0] : List UInt8)) = false := beq_eq_false_iff_ne.mpr c8
        have c8b1 : (a0_0.toList != ([1, 128, 194, 0, 0, 0] : List UInt8)) = true := bne_iff_ne.mpr c8
        (first | rw [c8b0] | (simp only [i64_w, i32_w]; rw [c8b0]) | skip)
        have H' := Aside0.mk H
        clear H
        have hcz12_0 : w7.cell? ⟨gb101, 0, none⟩ = some (.string a0_0) := (blk_cell BK101.out 0).trans rfl
        have hcz12_1 : w7.cell? ⟨gb101, 1, none⟩ = some (.string a0_1) := (blk_cell BK101.out 1).trans rfl
        have hcz12_2 : w7.cell? ⟨gb101, 2, none⟩ = some (.bool a0_2) := (blk_cell BK101.out 2).trans rfl
        have hcz12_3 : w7.cell? ⟨gb101, 3, none⟩ = some (.int .i64 a0_3) := (blk_cell BK101.out 3).trans rfl
        have hcz12_4 : w7.cell? ⟨gb101, 4, none⟩ = some (.int .i64 a0_4) := (blk_cell BK101.out 4).trans rfl
        have hcz12_5 : w7.cell? ⟨gb101, 5, none⟩ = some (.int .i64 a0_5) := (blk_cell BK101.out 5).trans rfl
        have hcz12_6 : w7.cell? ⟨gb101, 6, none⟩ = some (.string a0_6) := (blk_cell BK101.out 6).trans rfl
        have hfz12_0 := blk_frozen BK101.out 0
        have hfz12_1 := blk_frozen BK101.out 1
        have hfz12_2 := blk_frozen BK101.out 2
        have hfz12_3 := blk_frozen BK101.out 3
        have hfz12_4 := blk_frozen BK101.out 4
        have hfz12_5 := blk_frozen BK101.out 5
        have hfz12_6 := blk_frozen BK101.out 6
        go_wp2
        go_meet
        case rel => exact ⟨_, (false), (a0_0), (a0_1), (a0_2), (a0_3), (a0_4), (a0_5), (a0_6), (by first | rfl | (simp; done) | (simp [*]; done)), H', ⟨by first | omega | exact Nat.le_refl _⟩, ⟨by (with_reducible repeat (first | refine blk_drewN ?_ _ | refine blk_drew ?_ | refine blk_alloc ?_ _)); exact BK101.out⟩, ⟨by repeat (first | (with_reducible first | exact HB.out | apply below_alloc | apply pw_below_drewN | apply below_drew1 | refine below_set ?_ GE101.out) | exact HB.out)⟩⟩
    case rest =>
      clear HC4
      try clear c2
      try clear p2
      try clear c3
      try clear c8
      try clear c8b0
      try clear c8b1
      try clear hcz10_0
      try clear hcz10_1
      try clear hcz10_2
      try clear hcz10_3
      try clear hcz10_4
      try clear hcz10_5
      try clear hcz10_6
      try clear hcz12_0
      try clear hcz12_1
      try clear hcz12_2
      try clear hcz12_3
      try clear hcz12_4
      try clear hcz12_5
      try clear hcz12_6
      try clear hcz6_0
      try clear hcz6_1
      try clear hcz6_2
      try clear hcz6_3
      try clear hcz6_4
      try clear hcz6_5
      try clear hcz6_6
      try clear hfz10_0
      try clear hfz10_1
      try clear hfz10_2
      try clear hfz10_3
      try clear hfz10_4
      try clear hfz10_5
      try clear hfz10_6
      try clear hfz12_0
      try clear hfz12_1
      try clear hfz12_2
      try clear hfz12_3
      try clear hfz12_4
      try clear hfz12_5
      try clear hfz12_6
      try clear hfz6_0
      try clear hfz6_1
      try clear hfz6_2
      try clear hfz6_3
      try clear hfz6_4
      try clear hfz6_5
      try clear hfz6_6
      obtain ⟨kq, x8_3, x102000_3, x102001_3, x102002_3, x102003_3, x102004_3, x102005_3, x102006_3, rfl, HA, HJ3, BK101, HB⟩ := hcut
      cases kq with
      | zero => exact absurd HA.out (by simp [llc_Kind.j0])
      | succ kj3 =>
        have H := HA.out
        clear HA
        simp only [llc_Kind.j0] at H
        by_cases c13 : x8_3 = true
        · subst c13
          have H1 : (some 1) = some r := by rw [if_pos rfl] at H; exact H
          clear H
          have H := H1
          clear H1
          obtain rfl := Option.some.inj H
          go_wp2
          go_ret
          exact ⟨by first | rfl | (simp [errW_none, errW_some] <;> rfl) | (simp [*, errW_none, errW_some] <;> rfl), by repeat (first | (with_reducible first | exact HB.out | apply below_alloc | apply pw_below_drewN | apply below_drew1 | refine below_set ?_ GE101.out) | exact HB.out)⟩
        · replace c13 := Bool.eq_false_iff.mpr c13
          subst c13
          have H1 : (if x102000_3.toList = ([1, 0, 12, 204, 204, 205] : List UInt8) then ((llc_Kind_1.f 2 x102000_3 x102001_3 x102002_3 x102003_3 x102004_3 x102005_3 x102006_3).bind fun bt111 => (llc_Kind.j1 kj3 bt111.1 bt111.2.1 bt111.2.2.1 bt111.2.2.2.1 bt111.2.2.2.2.1 bt111.2.2.2.2.2.1 bt111.2.2.2.2.2.2.1 bt111.2.2.2.2.2.2.2)) else (llc_Kind.j1 kj3 false x102000_3 x102001_3 x102002_3 x102003_3 x102004_3 x102005_3 x102006_3)) = some r := by rw [if_neg (show ¬ (false = true) by decide)] at H; exact H
          clear H
          have H := H1
          clear H1
          have HC14 := Aside0.mk H
          clear H
          go_upto_region 6 with (fail)
          go_cut [16] (fun v16 wc => ∃ (kq : Nat) (x16_13 : Bool) (x102000_13 : ByteArray) (x102001_13 : ByteArray) (x102002_13 : Bool) (x102003_13 : Int) (x102004_13 : Int) (x102005_13 : Int) (x102006_13 : ByteArray), v16 = .bool x16_13 ∧ Aside0 (llc_Kind.j1 kq x16_13 x102000_13 x102001_13 x102002_13 x102003_13 x102004_13 x102005_13 x102006_13 = some r) ∧ Aside0 (kq ≤ kj3) ∧ Aside0 (wc.heap[gb101]? = some (.cells #[.string x102000_13, .string x102001_13, .bool x102002_13, .int .i64 x102003_13, .int .i64 x102004_13, .int .i64 x102005_13, .string x102006_13] 23 (0, 0))) ∧ Aside0 (Below w.heap.size w wc))
          case first =>
            have H := HC14.out
            clear HC14
            by_cases c15 : x102000_3.toList = ([1, 0, 12, 204, 204, 205] : List UInt8)
            · rw [if_pos c15] at H
              have c15b0 : (x102000_3.toList == ([1, 0, 12, 204, 204, 205] : List UInt8)) = true := beq_iff_eq.mpr c15
              have c15b1 : (x102000_3.toList != ([1, 0, 12, 204, 204, 205] : List UInt8)) = false := bne_eq_false_iff_eq.mpr c15
              clear c15
              (first | rw [c15b0] | (simp only [i64_w, i32_w]; rw [c15b0]) | skip)
              replace H := Option.bind_eq_some_iff.mp H
              obtain ⟨⟨t111, t112, t113, t114, t115, t116, t117, t118⟩, A160, H⟩ := H
              replace H : (llc_Kind.j1 kj3 t111 t112 t113 t114 t115 t116 t117 t118) = some r := H
              have A16 := Aside0.mk A160
              clear A160
              have H' := Aside0.mk H
              clear H
              have hcz17_0 : wc.cell? ⟨gb101, 0, none⟩ = some (.string x102000_3) := (blk_cell BK101.out 0).trans rfl
              have hcz17_1 : wc.cell? ⟨gb101, 1, none⟩ = some (.string x102001_3) := (blk_cell BK101.out 1).trans rfl
              have hcz17_2 : wc.cell? ⟨gb101, 2, none⟩ = some (.bool x102002_3) := (blk_cell BK101.out 2).trans rfl
              have hcz17_3 : wc.cell? ⟨gb101, 3, none⟩ = some (.int .i64 x102003_3) := (blk_cell BK101.out 3).trans rfl
              have hcz17_4 : wc.cell? ⟨gb101, 4, none⟩ = some (.int .i64 x102004_3) := (blk_cell BK101.out 4).trans rfl
              have hcz17_5 : wc.cell? ⟨gb101, 5, none⟩ = some (.int .i64 x102005_3) := (blk_cell BK101.out 5).trans rfl
              have hcz17_6 : wc.cell? ⟨gb101, 6, none⟩ = some (.string x102006_3) := (blk_cell BK101.out 6).trans rfl
              have hfz17_0 := blk_frozen BK101.out 0
              have hfz17_1 := blk_frozen BK101.out 1
              have hfz17_2 := blk_frozen BK101.out 2
              have hfz17_3 := blk_frozen BK101.out 3
              have hfz17_4 := blk_frozen BK101.out 4
              have hfz17_5 := blk_frozen BK101.out 5
              have hfz17_6 := blk_frozen BK101.out 6
              go_wp2_with (first | (go_at_call 64; (with_reducible refine (llc_Kind_1.calls 2 gb101 x102000_3 x102001_3 x102002_3 x102003_3 x102004_3 x102005_3 x102006_3 t111 t112 t113 t114 t115 t116 t117 t118 w _ ?side1 ?side2 A16.out).mono ?_); (case side1 => exact And.intro (by (with_reducible repeat (first | refine blk_drewN ?_ _ | refine blk_drew ?_ | refine blk_alloc ?_ _)); exact BK101.out) GE101.out); (case side2 => repeat (first | (with_reducible first | exact HB.out | apply below_alloc | apply pw_below_drewN | apply below_drew1 | refine below_set ?_ GE101.out) | exact HB.out)); rintro e w18 ⟨rfl, hi, hb, hk⟩; have n0_ := Aside0.mk (hi.1); have n1_ := Aside0.mk (hb); clear BK101; clear HB; have BK101 := n0_; have HB := n1_; clear n0_ n1_; (try clear hb); (try clear hb2); (try clear hk); (try clear hi)))
              go_meet
              case rel => exact ⟨_, (t111), (t112), (t113), (t114), (t115), (t116), (t117), (t118), (by first | rfl | (simp; done) | (simp [*]; done)), H', ⟨by have := HJ3.out; first | omega | exact Nat.le_refl _⟩, ⟨by (with_reducible repeat (first | refine blk_drewN ?_ _ | refine blk_drew ?_ | refine blk_alloc ?_ _)); exact BK101.out⟩, ⟨by repeat (first | (with_reducible first | exact HB.out | apply below_alloc | apply pw_below_drewN | apply below_drew1 | refine below_set ?_ GE101.out) | exact HB.out)⟩⟩
            · rw [if_neg c15] at H
              have c15b0 : (x102000_3.toList == ([1, 0, 12, 204, 204, 205] : List UInt8)) = false := beq_eq_false_iff_ne.mpr c15
              have c15b1 : (x102000_3.toList != ([1, 0, 12, 204, 204, 205] : List UInt8)) = true := bne_iff_ne.mpr c15
              (first | rw [c15b0] | (simp only [i64_w, i32_w]; rw [c15b0]) | skip)
              have H' := Aside0.mk H
              clear H
              have hcz19_0 : wc.cell? ⟨gb101, 0, none⟩ = some (.string x102000_3) := (blk_cell BK101.out 0).trans rfl
              have hcz19_1 : wc.cell? ⟨gb101, 1, none⟩ = some (.string x102001_3) := (blk_cell BK101.out 1).trans rfl
              have hcz19_2 : wc.cell? ⟨gb101, 2, none⟩ = some (.bool x102002_3) := (blk_cell BK101.out 2).trans rfl
              have hcz19_3 : wc.cell? ⟨gb101, 3, none⟩ = some (.int .i64 x102003_3) := (blk_cell BK101.out 3).trans rfl
              have hcz19_4 : wc.cell? ⟨gb101, 4, none⟩ = some (.int .i64 x102004_3) := (blk_cell BK101.out 4).trans rfl
              have hcz19_5 : wc.cell? ⟨gb101, 5, none⟩ = some (.int .i64 x102005_3) := (blk_cell BK101.out 5).trans rfl
              have hcz19_6 : wc.cell? ⟨gb101, 6, none⟩ = some (.string x102006_3) := (blk_cell BK101.out 6).trans rfl
              have hfz19_0 := blk_frozen BK101.out 0
              have hfz19_1 := blk_frozen BK101.out 1
              have hfz19_2 := blk_frozen BK101.out 2
              have hfz19_3 := blk_frozen BK101.out 3
              have hfz19_4 := blk_frozen BK101.out 4
              have hfz19_5 := blk_frozen BK101.out 5
              have hfz19_6 := blk_frozen BK101.out 6
              go_wp2
              go_meet
              case rel => exact ⟨_, (false), (x102000_3), (x102001_3), (x102002_3), (x102003_3), (x102004_3), (x102005_3), (x102006_3), (by first | rfl | (simp; done) | (simp [*]; done)), H', ⟨by have := HJ3.out; first | omega | exact Nat.le_refl _⟩, ⟨by (with_reducible repeat (first | refine blk_drewN ?_ _ | refine blk_drew ?_ | refine blk_alloc ?_ _)); exact BK101.out⟩, ⟨by repeat (first | (with_reducible first | exact HB.out | apply below_alloc | apply pw_below_drewN | apply below_drew1 | refine below_set ?_ GE101.out) | exact HB.out)⟩⟩
          case rest =>
            clear HC14
            try clear c1
            try clear c2
            try clear p2
            try clear c3
            try clear c8
            try clear c8b0
            try clear c8b1
            try clear c13
            try clear c15
            try clear c15b0
            try clear c15b1
            try clear hcz10_0
            try clear hcz10_1
            try clear hcz10_2
            try clear hcz10_3
            try clear hcz10_4
            try clear hcz10_5
            try clear hcz10_6
            try clear hcz12_0
            try clear hcz12_1
            try clear hcz12_2
            try clear hcz12_3
            try clear hcz12_4
            try clear hcz12_5
            try clear hcz12_6
            try clear hcz17_0
            try clear hcz17_1
            try clear hcz17_2
            try clear hcz17_3
            try clear hcz17_4
            try clear hcz17_5
            try clear hcz17_6
            try clear hcz19_0
            try clear hcz19_1
            try clear hcz19_2
            try clear hcz19_3
            try clear hcz19_4
            try clear hcz19_5
            try clear hcz19_6
            try clear hcz6_0
            try clear hcz6_1
            try clear hcz6_2
            try clear hcz6_3
            try clear hcz6_4
            try clear hcz6_5
            try clear hcz6_6
            try clear hfz10_0
            try clear hfz10_1
            try clear hfz10_2
            try clear hfz10_3
            try clear hfz10_4
            try clear hfz10_5
            try clear hfz10_6
            try clear hfz12_0
            try clear hfz12_1
            try clear hfz12_2
            try clear hfz12_3
            try clear hfz12_4
            try clear hfz12_5
            try clear hfz12_6
            try clear hfz17_0
            try clear hfz17_1
            try clear hfz17_2
            try clear hfz17_3
            try clear hfz17_4
            try clear hfz17_5
            try clear hfz17_6
            try clear hfz19_0
            try clear hfz19_1
            try clear hfz19_2
            try clear hfz19_3
            try clear hfz19_4
            try clear hfz19_5
            try clear hfz19_6
            try clear hfz6_0
            try clear hfz6_1
            try clear hfz6_2
            try clear hfz6_3
            try clear hfz6_4
            try clear hfz6_5
            try clear hfz6_6
            try clear p2
            obtain ⟨kq, x16_13, x102000_13, x102001_13, x102002_13, x102003_13, x102004_13, x102005_13, x102006_13, rfl, HA, HJ13, BK101, HB⟩ := hcut
            cases kq with
            | zero => exact absurd HA.out (by simp [llc_Kind.j1])
            | succ kj13 =>
              have H := HA.out
              clear HA
              simp only [llc_Kind.j1] at H
              by_cases c20 : x16_13 = true
              · subst c20
                have H1 : (some 2) = some r := by rw [if_pos rfl] at H; exact H
                clear H
                have H := H1
                clear H1
                obtain rfl := Option.some.inj H
                go_wp2
                go_ret
                exact ⟨by first | rfl | (simp [errW_none, errW_some] <;> rfl) | (simp [*, errW_none, errW_some] <;> rfl), by repeat (first | (with_reducible first | exact HB.out | apply below_alloc | apply pw_below_drewN | apply below_drew1 | refine below_set ?_ GE101.out) | exact HB.out)⟩
              · replace c20 := Bool.eq_false_iff.mpr c20
                subst c20
                have H1 : (if x102000_13.toList = ([1, 0, 12, 204, 204, 205] : List UInt8) then (some 3) else ((strings_HasPrefix.f x102000_13 (⟨#[1, 128, 194, 0, 0]⟩ : ByteArray)).bind fun t119 => (if t119 = true then (if 5 < (x102000_13.size : Int) then (if (bt x102000_13 5) ≤ 15 then (some 3) else (some 0)) else (none)) else (some 0)))) = some r := by rw [if_neg (show ¬ (false = true) by decide)] at H; exact H
                clear H
                have H := H1
                clear H1
                by_cases c21 : x102000_13.toList = ([1, 0, 12, 204, 204, 205] : List UInt8)
                · rw [if_pos c21] at H
                  have c21b0 : (x102000_13.toList == ([1, 0, 12, 204, 204, 205] : List UInt8)) = true := beq_iff_eq.mpr c21
                  have c21b1 : (x102000_13.toList != ([1, 0, 12, 204, 204, 205] : List UInt8)) = false := bne_eq_false_iff_eq.mpr c21
                  clear c21
                  obtain rfl := Option.some.inj H
                  have hcz22_0 : wc.cell? ⟨gb101, 0, none⟩ = some (.string x102000_13) := (blk_cell BK101.out 0).trans rfl
                  have hcz22_1 : wc.cell? ⟨gb101, 1, none⟩ = some (.string x102001_13) := (blk_cell BK101.out 1).trans rfl
                  have hcz22_2 : wc.cell? ⟨gb101, 2, none⟩ = some (.bool x102002_13) := (blk_cell BK101.out 2).trans rfl
                  have hcz22_3 : wc.cell? ⟨gb101, 3, none⟩ = some (.int .i64 x102003_13) := (blk_cell BK101.out 3).trans rfl
                  have hcz22_4 : wc.cell? ⟨gb101, 4, none⟩ = some (.int .i64 x102004_13) := (blk_cell BK101.out 4).trans rfl
                  have hcz22_5 : wc.cell? ⟨gb101, 5, none⟩ = some (.int .i64 x102005_13) := (blk_cell BK101.out 5).trans rfl
                  have hcz22_6 : wc.cell? ⟨gb101, 6, none⟩ = some (.string x102006_13) := (blk_cell BK101.out 6).trans rfl
                  have hfz22_0 := blk_frozen BK101.out 0
                  have hfz22_1 := blk_frozen BK101.out 1
                  have hfz22_2 := blk_frozen BK101.out 2
                  have hfz22_3 := blk_frozen BK101.out 3
                  have hfz22_4 := blk_frozen BK101.out 4
                  have hfz22_5 := blk_frozen BK101.out 5
                  have hfz22_6 := blk_frozen BK101.out 6
                  go_wp2
                  go_ret
                  exact ⟨by first | rfl | (simp [errW_none, errW_some] <;> rfl) | (simp [*, errW_none, errW_some] <;> rfl), by repeat (first | (with_reducible first | exact HB.out | apply below_alloc | apply pw_below_drewN | apply below_drew1 | refine below_set ?_ GE101.out) | exact HB.out)⟩
                · rw [if_neg c21] at H
                  have c21b0 : (x102000_13.toList == ([1, 0, 12, 204, 204, 205] : List UInt8)) = false := beq_eq_false_iff_ne.mpr c21
                  have c21b1 : (x102000_13.toList != ([1, 0, 12, 204, 204, 205] : List UInt8)) = true := bne_iff_ne.mpr c21
                  replace H := Option.bind_eq_some_iff.mp H
                  obtain ⟨t119, A230, H⟩ := H
                  replace H : (if t119 = true then (if 5 < (x102000_13.size : Int) then (if (bt x102000_13 5) ≤ 15 then (some 3) else (some 0)) else (none)) else (some 0)) = some r := H
                  have A23 := Aside0.mk A230
                  clear A230
                  by_cases c24 : t119 = true
                  · subst c24
                    have H1 : (if 5 < (x102000_13.size : Int) then (if (bt x102000_13 5) ≤ 15 then (some 3) else (some 0)) else (none)) = some r := by rw [if_pos rfl] at H; exact H
                    clear H
                    have H := H1
                    clear H1
                    by_cases c25 : 5 < (x102000_13.size : Int)
                    · rw [if_pos c25] at H
                      have c25b0 : decide (5 < (x102000_13.size : Int)) = true := decide_eq_true c25
                      have c25b1 : decide (5 < x102000_13.size) = true := decide_eq_true (by omega)
                      clear c25
                      by_cases c27 : (bt x102000_13 5) ≤ 15
                      · rw [if_pos c27] at H
                        have c27b0 : decide ((bt x102000_13 5) ≤ 15) = true := decide_eq_true c27
                        clear c27
                        obtain rfl := Option.some.inj H
                        have hcz28_0 : wc.cell? ⟨gb101, 0, none⟩ = some (.string x102000_13) := (blk_cell BK101.out 0).trans rfl
                        have hcz28_1 : wc.cell? ⟨gb101, 1, none⟩ = some (.string x102001_13) := (blk_cell BK101.out 1).trans rfl
                        have hcz28_2 : wc.cell? ⟨gb101, 2, none⟩ = some (.bool x102002_13) := (blk_cell BK101.out 2).trans rfl
                        have hcz28_3 : wc.cell? ⟨gb101, 3, none⟩ = some (.int .i64 x102003_13) := (blk_cell BK101.out 3).trans rfl
                        have hcz28_4 : wc.cell? ⟨gb101, 4, none⟩ = some (.int .i64 x102004_13) := (blk_cell BK101.out 4).trans rfl
                        have hcz28_5 : wc.cell? ⟨gb101, 5, none⟩ = some (.int .i64 x102005_13) := (blk_cell BK101.out 5).trans rfl
                        have hcz28_6 : wc.cell? ⟨gb101, 6, none⟩ = some (.string x102006_13) := (blk_cell BK101.out 6).trans rfl
                        have hfz28_0 := blk_frozen BK101.out 0
                        have hfz28_1 := blk_frozen BK101.out 1
                        have hfz28_2 := blk_frozen BK101.out 2
                        have hfz28_3 := blk_frozen BK101.out 3
                        have hfz28_4 := blk_frozen BK101.out 4
                        have hfz28_5 := blk_frozen BK101.out 5
                        have hfz28_6 := blk_frozen BK101.out 6
                        go_wp2_with (first | (go_at_call 65; (with_reducible refine (strings_HasPrefix.calls x102000_13 (⟨#[1, 128, 194, 0, 0]⟩ : ByteArray) true _ A23.out).mono ?_); rintro e w' ⟨rfl, ⟨nd, rfl⟩⟩; have p26 : 0 ≤ (5 : Int) := (by omega); have q26 : 5 < x102000_13.size := (by have : (5 : Int) < (x102000_13.size : Int) := of_decide_eq_true (by first | (with_reducible assumption) | assumption); omega); have hx26 : ∀ h : 5 < x102000_13.size, ((x102000_13[5]'h).toNat : Int) = bt x102000_13 5 := bt_at x102000_13 5; clear p26; have qi26 : (5 < (x102000_13.size : Int)) = True := eq_true (of_decide_eq_true (by first | (with_reducible assumption) | assumption)); replace q26 := eq_true q26))
                        go_ret
                        exact ⟨by first | rfl | (simp [errW_none, errW_some] <;> rfl) | (simp [*, errW_none, errW_some] <;> rfl), by repeat (first | (with_reducible first | exact HB.out | apply below_alloc | apply pw_below_drewN | apply below_drew1 | refine below_set ?_ GE101.out) | exact HB.out)⟩
                      · rw [if_neg c27] at H
                        have c27b0 : decide ((bt x102000_13 5) ≤ 15) = false := decide_eq_false c27
                        clear c27
                        obtain rfl := Option.some.inj H
                        have hcz29_0 : wc.cell? ⟨gb101, 0, none⟩ = some (.string x102000_13) := (blk_cell BK101.out 0).trans rfl
                        have hcz29_1 : wc.cell? ⟨gb101, 1, none⟩ = some (.string x102001_13) := (blk_cell BK101.out 1).trans rfl
                        have hcz29_2 : wc.cell? ⟨gb101, 2, none⟩ = some (.bool x102002_13) := (blk_cell BK101.out 2).trans rfl
                        have hcz29_3 : wc.cell? ⟨gb101, 3, none⟩ = some (.int .i64 x102003_13) := (blk_cell BK101.out 3).trans rfl
                        have hcz29_4 : wc.cell? ⟨gb101, 4, none⟩ = some (.int .i64 x102004_13) := (blk_cell BK101.out 4).trans rfl
                        have hcz29_5 : wc.cell? ⟨gb101, 5, none⟩ = some (.int .i64 x102005_13) := (blk_cell BK101.out 5).trans rfl
                        have hcz29_6 : wc.cell? ⟨gb101, 6, none⟩ = some (.string x102006_13) := (blk_cell BK101.out 6).trans rfl
                        have hfz29_0 := blk_frozen BK101.out 0
                        have hfz29_1 := blk_frozen BK101.out 1
                        have hfz29_2 := blk_frozen BK101.out 2
                        have hfz29_3 := blk_frozen BK101.out 3
                        have hfz29_4 := blk_frozen BK101.out 4
                        have hfz29_5 := blk_frozen BK101.out 5
                        have hfz29_6 := blk_frozen BK101.out 6
                        go_wp2_with (first | (go_at_call 65; (with_reducible refine (strings_HasPrefix.calls x102000_13 (⟨#[1, 128, 194, 0, 0]⟩ : ByteArray) true _ A23.out).mono ?_); rintro e w' ⟨rfl, ⟨nd, rfl⟩⟩; have p26 : 0 ≤ (5 : Int) := (by omega); have q26 : 5 < x102000_13.size := (by have : (5 : Int) < (x102000_13.size : Int) := of_decide_eq_true (by first | (with_reducible assumption) | assumption); omega); have hx26 : ∀ h : 5 < x102000_13.size, ((x102000_13[5]'h).toNat : Int) = bt x102000_13 5 := bt_at x102000_13 5; clear p26; have qi26 : (5 < (x102000_13.size : Int)) = True := eq_true (of_decide_eq_true (by first | (with_reducible assumption) | assumption)); replace q26 := eq_true q26))
                        go_ret
                        exact ⟨by first | rfl | (simp [errW_none, errW_some] <;> rfl) | (simp [*, errW_none, errW_some] <;> rfl), by repeat (first | (with_reducible first | exact HB.out | apply below_alloc | apply pw_below_drewN | apply below_drew1 | refine below_set ?_ GE101.out) | exact HB.out)⟩
                    · rw [if_neg c25] at H
                      exact absurd H (by simp)
                  · replace c24 := Bool.eq_false_iff.mpr c24
                    subst c24
                    have H1 : (some 0) = some r := by rw [if_neg (show ¬ (false = true) by decide)] at H; exact H
                    clear H
                    have H := H1
                    clear H1
                    obtain rfl := Option.some.inj H
                    have hcz30_0 : wc.cell? ⟨gb101, 0, none⟩ = some (.string x102000_13) := (blk_cell BK101.out 0).trans rfl
                    have hcz30_1 : wc.cell? ⟨gb101, 1, none⟩ = some (.string x102001_13) := (blk_cell BK101.out 1).trans rfl
                    have hcz30_2 : wc.cell? ⟨gb101, 2, none⟩ = some (.bool x102002_13) := (blk_cell BK101.out 2).trans rfl
                    have hcz30_3 : wc.cell? ⟨gb101, 3, none⟩ = some (.int .i64 x102003_13) := (blk_cell BK101.out 3).trans rfl
                    have hcz30_4 : wc.cell? ⟨gb101, 4, none⟩ = some (.int .i64 x102004_13) := (blk_cell BK101.out 4).trans rfl
                    have hcz30_5 : wc.cell? ⟨gb101, 5, none⟩ = some (.int .i64 x102005_13) := (blk_cell BK101.out 5).trans rfl
                    have hcz30_6 : wc.cell? ⟨gb101, 6, none⟩ = some (.string x102006_13) := (blk_cell BK101.out 6).trans rfl
                    have hfz30_0 := blk_frozen BK101.out 0
                    have hfz30_1 := blk_frozen BK101.out 1
                    have hfz30_2 := blk_frozen BK101.out 2
                    have hfz30_3 := blk_frozen BK101.out 3
                    have hfz30_4 := blk_frozen BK101.out 4
                    have hfz30_5 := blk_frozen BK101.out 5
                    have hfz30_6 := blk_frozen BK101.out 6
                    go_wp2_with (first | (go_at_call 65; (with_reducible refine (strings_HasPrefix.calls x102000_13 (⟨#[1, 128, 194, 0, 0]⟩ : ByteArray) false _ A23.out).mono ?_); rintro e w' ⟨rfl, ⟨nd, rfl⟩⟩))
                    go_ret
                    exact ⟨by first | rfl | (simp [errW_none, errW_some] <;> rfl) | (simp [*, errW_none, errW_some] <;> rfl), by repeat (first | (with_reducible first | exact HB.out | apply below_alloc | apply pw_below_drewN | apply below_drew1 | refine below_set ?_ GE101.out) | exact HB.out)⟩
  · replace c3 := Bool.eq_false_iff.mpr c3
    subst c3
    have H1 : (some 0) = some r := by rw [if_neg (show ¬ (false = true) by decide)] at H; exact H
    clear H
    have H := H1
    clear H1
    obtain rfl := Option.some.inj H
    go_enter Try.func24, Try.ntmps24
    go_wp2_with (first | ((with_reducible refine gate_dst (N := 1) rfl ?_); refine box_event ?hg (N := 1) ?hd (cs := #[.string a0_0, .string a0_1, .bool a0_2, .int .i64 a0_3, .int .i64 a0_4, .int .i64 a0_5, .string a0_6]) (t := 23) ?hr ?_; (case hd => rfl); (case hg => rfl); (case hr => first | (go_simp; done) | (go_simp; rfl)); intro gb101 hg w31 hbox hb; have n0_ := Aside0.mk (below_step (by repeat (first | (with_reducible first | exact HB.out | apply below_alloc | apply pw_below_drewN | apply below_drew1) | exact HB.out)) hb); have n1_ := Aside0.mk (hbox); have n2_ := Aside0.mk ((by rw [hg]; exact (below_size (by repeat (first | (with_reducible first | exact HB.out | apply below_alloc | apply pw_below_drewN | apply below_drew1) | exact HB.out))) : w.heap.size ≤ gb101)); have n3_ := Aside0.mk ((by rw [hg]; exact (below_size (by repeat (first | (with_reducible first | exact HB.out | apply below_alloc | apply pw_below_drewN | apply below_drew1) | exact HB.out))) : w.heap.size ≤ gb101)); clear HB; have HB := n0_; have BK101 := n1_; have GW101 := n2_; have GE101 := n3_; clear n0_ n1_ n2_ n3_; clear hb hbox hg; have hcz32_0 : w31.cell? ⟨gb101, 0, none⟩ = some (.string a0_0) := (blk_cell BK101.out 0).trans rfl; have hcz32_1 : w31.cell? ⟨gb101, 1, none⟩ = some (.string a0_1) := (blk_cell BK101.out 1).trans rfl; have hcz32_2 : w31.cell? ⟨gb101, 2, none⟩ = some (.bool a0_2) := (blk_cell BK101.out 2).trans rfl; have hcz32_3 : w31.cell? ⟨gb101, 3, none⟩ = some (.int .i64 a0_3) := (blk_cell BK101.out 3).trans rfl; have hcz32_4 : w31.cell? ⟨gb101, 4, none⟩ = some (.int .i64 a0_4) := (blk_cell BK101.out 4).trans rfl; have hcz32_5 : w31.cell? ⟨gb101, 5, none⟩ = some (.int .i64 a0_5) := (blk_cell BK101.out 5).trans rfl; have hcz32_6 : w31.cell? ⟨gb101, 6, none⟩ = some (.string a0_6) := (blk_cell BK101.out 6).trans rfl; have hfz32_0 := blk_frozen BK101.out 0; have hfz32_1 := blk_frozen BK101.out 1; have hfz32_2 := blk_frozen BK101.out 2; have hfz32_3 := blk_frozen BK101.out 3; have hfz32_4 := blk_frozen BK101.out 4; have hfz32_5 := blk_frozen BK101.out 5; have hfz32_6 := blk_frozen BK101.out 6) | ((with_reducible refine gate_callee (f := 26) rfl ?_); refine goesL_ (some 5) rfl rfl Try.func26 (by kernel_rfl) rfl #[.agg #[.string a0_0, .string a0_1, .bool a0_2, .int .i64 a0_3, .int .i64 a0_4, .int .i64 a0_5, .string a0_6]] rfl (by (try simp only [List.map_toArray, List.map_cons, List.map_nil]); first | done | rfl | (simp only [List.length_drop, List.length_take]; rfl)) ?_; (with_reducible refine (frame_Right.calls k a0_0 a0_1 a0_2 a0_3 a0_4 a0_5 a0_6 false _ A2.out).mono ?_); rintro e w33 ⟨rfl, hb⟩; refine ⟨_, rfl, ?_⟩; have n0_ := Aside0.mk (blk_below (g := gb101) (o := .cells #[.string a0_0, .string a0_1, .bool a0_2, .int .i64 a0_3, .int .i64 a0_4, .int .i64 a0_5, .string a0_6] 23 (0, 0)) (by (with_reducible repeat (first | refine blk_drewN ?_ _ | refine blk_drew ?_ | refine blk_alloc ?_ _)); exact BK101.out) hb); have n1_ := Aside0.mk (below_step (by repeat (first | (with_reducible first | exact HB.out | apply below_alloc | apply pw_below_drewN | apply below_drew1 | refine below_set ?_ GE101.out) | exact HB.out)) hb); clear BK101; clear HB; have BK101 := n0_; have HB := n1_; clear n0_ n1_; (try clear hb); (try clear hb2); (try clear hk); (try clear hi)))
    go_ret
    exact ⟨by first | rfl | (simp [errW_none, errW_some] <;> rfl) | (simp [*, errW_none, errW_some] <;> rfl), by repeat (first | (with_reducible first | exact HB.out | apply below_alloc | apply pw_below_drewN | apply below_drew1 | refine below_set ?_ GE101.out) | exact HB.out)⟩

end Go.Proofs.Yticobcojmpakfaa.P
