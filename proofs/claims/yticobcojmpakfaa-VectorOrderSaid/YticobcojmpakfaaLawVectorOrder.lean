/- The law VectorOrder of the given program, for every input: it returns true, and its arguments read afterwards as before. -/
import Derived.Test.YticobcojmpakfaaRows
import Derived.Test.YticobcojmpakfaaOpb
import Derived.Test.YticobcojmpakfaaLVec4
import Derived.WalkKit
import Derived.ProofKit
import Derived.OpenShut
import Derived.ShutString
import Derived.ChangeOld
import Derived.Below
import Derived.SizedLaws
namespace Go.Proofs.Yticobcojmpakfaa.vectorOrder
open Go.ChangeShapes Go.WideShapes Go.ChangeAt Go.RowKit Go.Proofs.Yticobcojmpakfaa.Am
open Go.ChangeMaps (open_string shut_string)
set_option linter.unusedVariables false
set_option linter.unusedSimpArgs false
theorem own : ownKnob Try.prog.godebug = none := by kernel_rfl
theorem laidOut : laidOutB Try.prog = true := by kernel_rfl
set_option maxRecDepth 100000 in
set_option maxHeartbeats 1000000 in
theorem lifted (os : Os) (started : os.Started) (H : Type) (enc : TypeId × Value → H) :
    ReturnsInHanded {} Try.checked os 11 .any (Rows.vectorOrderSpec.pre6 enc Try.prog Try.f11 Rows.vectorOrderRow.domain false) (Rows.vectorOrderSpec.post enc Try.prog Try.f11 false true false false) := by
  refine returnsInHanded_of_change_sized (C := Try.checked) own started (by kernel_rfl) Try.func11
    (ChangeSpec.witness6 (enc := enc) (C := Try.checked) false ⟨#[], #[.agg #[.int .u64 0, .int .u64 0, .int .u64 0, .int .u64 0], .agg #[.int .u64 0, .int .u64 0, .int .u64 0, .int .u64 0], .agg #[.int .u64 0, .int .u64 0, .int .u64 0, .int .u64 0], .slice none 0 0], []⟩ 8 (by kernel_rfl) (by kernel_rfl) (by kernel_rfl) (by kernel_rfl)) ?_
  intro W base args ds gs before hval0 hW hcnd hsz0 _
  have hval : ∀ (j : Nat) t v, Try.f11.params[j]? = some t → args[j]? = some v → Value.okWide Try.prog W .any base t v := hval0
  have hW' := hW
  obtain ⟨p, q, hA0, hV, rfl, hfz, hnd⟩ := hW
  have hA : DataW.TrodAll enc Try.prog W 0 (fun _ => true) true Try.f11.params.toList args.toList ds p := hA0
  rw [Try.params11] at hA hval
  obtain ⟨v0, vs0, d0, ds0, p0, q0, hargs, rfl, rfl, h0, r0⟩ := trodAll_cons hA
  obtain ⟨v1, vs1, d1, ds1, p1, q1, rfl, rfl, rfl, h1, r1⟩ := trodAll_cons r0
  obtain ⟨v2, vs2, d2, ds2, p2, q2, rfl, rfl, rfl, h2, r2⟩ := trodAll_cons r1
  obtain ⟨v3, vs3, d3, ds3, p3, q3, rfl, rfl, rfl, h3, r3⟩ := trodAll_cons r2
  obtain ⟨rfl, rfl, rfl⟩ := trodAll_nil r3
  obtain rfl : args = #[v0, v1, v2, v3] := by cases args; simp_all
  obtain ⟨rfl, rfl⟩ := trodVars_none hV
  have kk0 := h0
  have lt0 : ∀ x ∈ p0, x.block < W.heap.size := by obtain ⟨m, hm⟩ := kk0; exact DataW.trod_lt m _ _ _ hm
  obtain ⟨cs0, ev0, hk0⟩ := open_value (opens_struct (sz := 4) Try.underlying55 (by kernel_rfl) (opensF_cons (sz := 1) (opens_int (k := .u64) Try.underlying53) (by rfl) (by kernel_rfl) (opensF_cons (sz := 1) (opens_int (k := .u64) Try.underlying53) (by rfl) (by kernel_rfl) (opensF_cons (sz := 1) (opens_int (k := .u64) Try.underlying53) (by rfl) (by kernel_rfl) (opensF_last (sz := 1) (opens_int (k := .u64) Try.underlying53) (by rfl) (by kernel_rfl)))))) Try.underlying55 (hval 0 55 v0 rfl rfl) h0
  have hk0 : (RSt 4 (fun w cs => (RInt .u64) w (cs.take 1) ∧ (fun w cs => (RInt .u64) w (cs.take 1) ∧ (fun w cs => (RInt .u64) w (cs.take 1) ∧ (fun w cs => (RInt .u64) w (cs.take 1)) w (cs.drop 1)) w (cs.drop 1)) w (cs.drop 1))) W cs0 := hk0
  have z0_0 : cs0.length = 4 := hk0.1
  obtain ⟨x0_0, y0_1, f0_0, z0_1⟩ := cons_of z0_0
  subst f0_0
  obtain ⟨x0_1, y0_2, f0_1, z0_2⟩ := cons_of z0_1
  subst f0_1
  obtain ⟨x0_2, y0_3, f0_2, z0_3⟩ := cons_of z0_2
  subst f0_2
  obtain ⟨x0_3, y0_4, f0_3, z0_4⟩ := cons_of z0_3
  subst f0_3
  obtain rfl := nil_of z0_4
  have g0_0 : (RInt .u64) W [x0_0] := hk0.2.1
  have g0_1 : (RInt .u64) W [x0_1] := hk0.2.2.1
  have g0_2 : (RInt .u64) W [x0_2] := hk0.2.2.2.1
  have g0_3 : (RInt .u64) W [x0_3] := hk0.2.2.2.2
  clear hk0
  subst ev0
  obtain ⟨a0_0, e0_0, w0_0⟩ := one_int (k := .u64) (w := W) (c := x0_0) g0_0
  subst e0_0
  obtain ⟨a0_1, e0_1, w0_1⟩ := one_int (k := .u64) (w := W) (c := x0_1) g0_1
  subst e0_1
  obtain ⟨a0_2, e0_2, w0_2⟩ := one_int (k := .u64) (w := W) (c := x0_2) g0_2
  subst e0_2
  obtain ⟨a0_3, e0_3, w0_3⟩ := one_int (k := .u64) (w := W) (c := x0_3) g0_3
  subst e0_3
  have kk1 := h1
  have lt1 : ∀ x ∈ p1, x.block < W.heap.size := by obtain ⟨m, hm⟩ := kk1; exact DataW.trod_lt m _ _ _ hm
  obtain ⟨cs1, ev1, hk1⟩ := open_value (opens_struct (sz := 4) Try.underlying55 (by kernel_rfl) (opensF_cons (sz := 1) (opens_int (k := .u64) Try.underlying53) (by rfl) (by kernel_rfl) (opensF_cons (sz := 1) (opens_int (k := .u64) Try.underlying53) (by rfl) (by kernel_rfl) (opensF_cons (sz := 1) (opens_int (k := .u64) Try.underlying53) (by rfl) (by kernel_rfl) (opensF_last (sz := 1) (opens_int (k := .u64) Try.underlying53) (by rfl) (by kernel_rfl)))))) Try.underlying55 (hval 1 55 v1 rfl rfl) h1
  have hk1 : (RSt 4 (fun w cs => (RInt .u64) w (cs.take 1) ∧ (fun w cs => (RInt .u64) w (cs.take 1) ∧ (fun w cs => (RInt .u64) w (cs.take 1) ∧ (fun w cs => (RInt .u64) w (cs.take 1)) w (cs.drop 1)) w (cs.drop 1)) w (cs.drop 1))) W cs1 := hk1
  have z1_0 : cs1.length = 4 := hk1.1
  obtain ⟨x1_0, y1_1, f1_0, z1_1⟩ := cons_of z1_0
  subst f1_0
  obtain ⟨x1_1, y1_2, f1_1, z1_2⟩ := cons_of z1_1
  subst f1_1
  obtain ⟨x1_2, y1_3, f1_2, z1_3⟩ := cons_of z1_2
  subst f1_2
  obtain ⟨x1_3, y1_4, f1_3, z1_4⟩ := cons_of z1_3
  subst f1_3
  obtain rfl := nil_of z1_4
  have g1_0 : (RInt .u64) W [x1_0] := hk1.2.1
  have g1_1 : (RInt .u64) W [x1_1] := hk1.2.2.1
  have g1_2 : (RInt .u64) W [x1_2] := hk1.2.2.2.1
  have g1_3 : (RInt .u64) W [x1_3] := hk1.2.2.2.2
  clear hk1
  subst ev1
  obtain ⟨a1_0, e1_0, w1_0⟩ := one_int (k := .u64) (w := W) (c := x1_0) g1_0
  subst e1_0
  obtain ⟨a1_1, e1_1, w1_1⟩ := one_int (k := .u64) (w := W) (c := x1_1) g1_1
  subst e1_1
  obtain ⟨a1_2, e1_2, w1_2⟩ := one_int (k := .u64) (w := W) (c := x1_2) g1_2
  subst e1_2
  obtain ⟨a1_3, e1_3, w1_3⟩ := one_int (k := .u64) (w := W) (c := x1_3) g1_3
  subst e1_3
  have kk2 := h2
  have lt2 : ∀ x ∈ p2, x.block < W.heap.size := by obtain ⟨m, hm⟩ := kk2; exact DataW.trod_lt m _ _ _ hm
  obtain ⟨cs2, ev2, hk2⟩ := open_value (opens_struct (sz := 4) Try.underlying55 (by kernel_rfl) (opensF_cons (sz := 1) (opens_int (k := .u64) Try.underlying53) (by rfl) (by kernel_rfl) (opensF_cons (sz := 1) (opens_int (k := .u64) Try.underlying53) (by rfl) (by kernel_rfl) (opensF_cons (sz := 1) (opens_int (k := .u64) Try.underlying53) (by rfl) (by kernel_rfl) (opensF_last (sz := 1) (opens_int (k := .u64) Try.underlying53) (by rfl) (by kernel_rfl)))))) Try.underlying55 (hval 2 55 v2 rfl rfl) h2
  have hk2 : (RSt 4 (fun w cs => (RInt .u64) w (cs.take 1) ∧ (fun w cs => (RInt .u64) w (cs.take 1) ∧ (fun w cs => (RInt .u64) w (cs.take 1) ∧ (fun w cs => (RInt .u64) w (cs.take 1)) w (cs.drop 1)) w (cs.drop 1)) w (cs.drop 1))) W cs2 := hk2
  have z2_0 : cs2.length = 4 := hk2.1
  obtain ⟨x2_0, y2_1, f2_0, z2_1⟩ := cons_of z2_0
  subst f2_0
  obtain ⟨x2_1, y2_2, f2_1, z2_2⟩ := cons_of z2_1
  subst f2_1
  obtain ⟨x2_2, y2_3, f2_2, z2_3⟩ := cons_of z2_2
  subst f2_2
  obtain ⟨x2_3, y2_4, f2_3, z2_4⟩ := cons_of z2_3
  subst f2_3
  obtain rfl := nil_of z2_4
  have g2_0 : (RInt .u64) W [x2_0] := hk2.2.1
  have g2_1 : (RInt .u64) W [x2_1] := hk2.2.2.1
  have g2_2 : (RInt .u64) W [x2_2] := hk2.2.2.2.1
  have g2_3 : (RInt .u64) W [x2_3] := hk2.2.2.2.2
  clear hk2
  subst ev2
  obtain ⟨a2_0, e2_0, w2_0⟩ := one_int (k := .u64) (w := W) (c := x2_0) g2_0
  subst e2_0
  obtain ⟨a2_1, e2_1, w2_1⟩ := one_int (k := .u64) (w := W) (c := x2_1) g2_1
  subst e2_1
  obtain ⟨a2_2, e2_2, w2_2⟩ := one_int (k := .u64) (w := W) (c := x2_2) g2_2
  subst e2_2
  obtain ⟨a2_3, e2_3, w2_3⟩ := one_int (k := .u64) (w := W) (c := x2_3) g2_3
  subst e2_3
  have kk3 := h3
  have lt3 : ∀ x ∈ p3, x.block < W.heap.size := by obtain ⟨m, hm⟩ := kk3; exact DataW.trod_lt m _ _ _ hm
  have hk3 : (RSl 4 (RSt 4 (fun w cs => (RInt .u64) w (cs.take 1) ∧ (fun w cs => (RInt .u64) w (cs.take 1) ∧ (fun w cs => (RInt .u64) w (cs.take 1) ∧ (fun w cs => (RInt .u64) w (cs.take 1)) w (cs.drop 1)) w (cs.drop 1)) w (cs.drop 1)))) W [v3] := open_row (opens_slice (sz := 4) Try.underlying75 (by kernel_rfl) (by decide) (opens_struct (sz := 4) Try.underlying55 (by kernel_rfl) (opensF_cons (sz := 1) (opens_int (k := .u64) Try.underlying53) (by rfl) (by kernel_rfl) (opensF_cons (sz := 1) (opens_int (k := .u64) Try.underlying53) (by rfl) (by kernel_rfl) (opensF_cons (sz := 1) (opens_int (k := .u64) Try.underlying53) (by rfl) (by kernel_rfl) (opensF_last (sz := 1) (opens_int (k := .u64) Try.underlying53) (by rfl) (by kernel_rfl))))))) Try.underlying75 (hval 3 75 v3 rfl rfl) h3
  obtain ⟨l3, A3, c3, e3, hc3, hm3, hel3, hrd3⟩ := one_sl (sz := 4) (R := (RSt 4 (fun w cs => (RInt .u64) w (cs.take 1) ∧ (fun w cs => (RInt .u64) w (cs.take 1) ∧ (fun w cs => (RInt .u64) w (cs.take 1) ∧ (fun w cs => (RInt .u64) w (cs.take 1)) w (cs.drop 1)) w (cs.drop 1)) w (cs.drop 1)))) (w := W) (c := v3) hk3
  subst e3
  obtain ⟨ps3, eps3, hq3⟩ := rowsOf (enc := encV) (Q := fun _ => True) (R := fun e => e.length = 4 ∧ (RSt 4 (fun w cs => (RInt .u64) w (cs.take 1) ∧ (fun w cs => (RInt .u64) w (cs.take 1) ∧ (fun w cs => (RInt .u64) w (cs.take 1) ∧ (fun w cs => (RInt .u64) w (cs.take 1)) w (cs.drop 1)) w (cs.drop 1)) w (cs.drop 1))) W e) (by
    intro e he
    have hk := he.2
    have z0 : e.length = 4 := he.1
    obtain ⟨x0, y1, f0, z1⟩ := cons_of z0
    subst f0
    obtain ⟨x1, y2, f1, z2⟩ := cons_of z1
    subst f1
    obtain ⟨x2, y3, f2, z3⟩ := cons_of z2
    subst f2
    obtain ⟨x3, y4, f3, z4⟩ := cons_of z3
    subst f3
    obtain rfl := nil_of z4
    have g0 : (RInt .u64) W [x0] := hk.2.1
    have g1 : (RInt .u64) W [x1] := hk.2.2.1
    have g2 : (RInt .u64) W [x2] := hk.2.2.2.1
    have g3 : (RInt .u64) W [x3] := hk.2.2.2.2
    obtain ⟨q3_0, e0, v3_0⟩ := one_int (k := .u64) (w := W) (c := x0) g0
    subst e0
    obtain ⟨q3_1, e1, v3_1⟩ := one_int (k := .u64) (w := W) (c := x1) g1
    subst e1
    obtain ⟨q3_2, e2, v3_2⟩ := one_int (k := .u64) (w := W) (c := x2) g2
    subst e2
    obtain ⟨q3_3, e3, v3_3⟩ := one_int (k := .u64) (w := W) (c := x3) g3
    subst e3
    exact ⟨(q3_0, q3_1, q3_2, q3_3), rfl, trivial⟩) l3 hel3
  have hs3 : SlAt W A3 4 l3 := slAt_of (fun e he => (hel3 e he).1) hrd3
  rw [eps3] at hs3
  have hn3 : l3.length = ps3.length := by rw [eps3, List.length_map]
  clear hA0 hval0 hsz0
  refine (PuAt.out (VectorOrder_n (a0_0, a0_1, a0_2, a0_3) (a1_0, a1_1, a1_2, a1_3) (a2_0, a2_1, a2_2, a2_3) ps3 A3 _ c3 W hn3 hs3)).mono fun e W' ⟨he, bel⟩ => ?_
  subst he
  exact ⟨_, rfl, _, _, _, [], _, [], hW', trodAll_mk1 (shut_bool Try.underlying4 _), (trodAll_cons_mk (Below.trod laidOut (by kernel_rfl) (of_decide_eq_true (by kernel_rfl)) kk0 bel lt0) (trodAll_cons_mk (Below.trod laidOut (by kernel_rfl) (of_decide_eq_true (by kernel_rfl)) kk1 bel lt1) (trodAll_cons_mk (Below.trod laidOut (by kernel_rfl) (of_decide_eq_true (by kernel_rfl)) kk2 bel lt2) (trodAll_cons_mk (Below.trod laidOut (by kernel_rfl) (of_decide_eq_true (by kernel_rfl)) kk3 bel lt3) trodAll_mk0)))), rfl, bel.frame _, fun h => by cases h⟩
theorem over : Rows.vectorOrderRow.holds Try.pinned (OpenSpec.ofChange Rows.vectorOrderSpec) :=
  OpenClaim.holds_of_wide 11 Try.f11 rfl rfl rfl rfl rfl rfl rfl ⟨rfl, rfl, rfl, rfl, rfl⟩ rfl rfl rfl rfl rfl (by kernel_rfl) Try.func11 (by kernel_rfl)
    (of_decide_eq_true (by kernel_rfl)) (by unfold Func.isWrapper; first | (rw [if_pos (by decide +kernel)]; kernel_rfl) | (rw [if_neg (by decide +kernel)]; exact ⟨rfl, rfl⟩))
    (fun os started H enc _ => lifted os started H enc)
theorem proved : Rows.VectorOrderSaid := over
#print axioms proved
end Go.Proofs.Yticobcojmpakfaa.vectorOrder
namespace Go.Proofs.Yticobcojmpakfaa
/-- The row, under a short name, for the claim. -/
theorem vectorOrder_holds : Rows.VectorOrderSaid := vectorOrder.proved
end Go.Proofs.Yticobcojmpakfaa
