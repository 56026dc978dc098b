/- The law SstpBack of the given program, for every input: it returns true, and its arguments read afterwards as before. -/
import Derived.Test.YticobcojmpakfaaRows
import Derived.Test.YticobcojmpakfaaOpb
import Derived.Test.YticobcojmpakfaaLSstp2
import Derived.WalkKit
import Derived.ProofKit
import Derived.OpenShut
import Derived.ShutString
import Derived.ChangeOld
import Derived.Below
import Derived.SizedLaws
namespace Go.Proofs.Yticobcojmpakfaa.sstpBack
open Go.ChangeShapes Go.WideShapes Go.ChangeAt Go.RowKit Go.Proofs.Yticobcojmpakfaa.Am
open Go.ChangeMaps (open_string shut_string)
set_option linter.unusedVariables false
set_option linter.unusedSimpArgs false
theorem own : ownKnob Try.prog.godebug = none := by kernel_rfl
theorem laidOut : laidOutB Try.prog = true := by kernel_rfl
set_option maxRecDepth 100000 in
set_option maxHeartbeats 1000000 in
theorem lifted (os : Os) (started : os.Started) (H : Type) (enc : TypeId × Value → H) :
    ReturnsInHanded {} Try.checked os 14 .any (Rows.sstpBackSpec.pre6 enc Try.prog Try.f14 Rows.sstpBackRow.domain false) (Rows.sstpBackSpec.post enc Try.prog Try.f14 false true false false) := by
  refine returnsInHanded_of_change_sized (C := Try.checked) own started (by kernel_rfl) Try.func14
    (ChangeSpec.witness6 (enc := enc) (C := Try.checked) false ⟨#[], #[.agg #[.int .i64 0, .int .i64 0, .int .u64 0, .int .u64 0, .int .u64 0, .int .u64 0, .int .i64 0, .int .i64 0, .int .i64 0, .int .i64 0], .int .i64 0, .string ByteArray.empty, .int .i64 0], []⟩ 8 (by kernel_rfl) (by kernel_rfl) (by kernel_rfl) (by kernel_rfl)) ?_
  intro W base args ds gs before hval0 hW hcnd hsz0 _
  have hval : ∀ (j : Nat) t v, Try.f14.params[j]? = some t → args[j]? = some v → Value.okWide Try.prog W .any base t v := hval0
  have hW' := hW
  obtain ⟨p, q, hA0, hV, rfl, hfz, hnd⟩ := hW
  have hA : DataW.TrodAll enc Try.prog W 0 (fun _ => true) true Try.f14.params.toList args.toList ds p := hA0
  rw [Try.params14] at hA hval
  obtain ⟨v0, vs0, d0, ds0, p0, q0, hargs, rfl, rfl, h0, r0⟩ := trodAll_cons hA
  obtain ⟨v1, vs1, d1, ds1, p1, q1, rfl, rfl, rfl, h1, r1⟩ := trodAll_cons r0
  obtain ⟨v2, vs2, d2, ds2, p2, q2, rfl, rfl, rfl, h2, r2⟩ := trodAll_cons r1
  obtain ⟨v3, vs3, d3, ds3, p3, q3, rfl, rfl, rfl, h3, r3⟩ := trodAll_cons r2
  obtain ⟨rfl, rfl, rfl⟩ := trodAll_nil r3
  obtain rfl : args = #[v0, v1, v2, v3] := by cases args; simp_all
  obtain ⟨rfl, rfl⟩ := trodVars_none hV
  have kk0 := h0
  have lt0 : ∀ x ∈ p0, x.block < W.heap.size := by obtain ⟨m, hm⟩ := kk0; exact DataW.trod_lt m _ _ _ hm
  obtain ⟨cs0, ev0, hk0⟩ := open_value (opens_struct (sz := 10) Try.underlying57 (by kernel_rfl) (opensF_cons (sz := 1) (opens_int (k := .i64) Try.underlying3) (by rfl) (by kernel_rfl) (opensF_cons (sz := 1) (opens_int (k := .i64) Try.underlying3) (by rfl) (by kernel_rfl) (opensF_cons (sz := 4) (opens_struct (sz := 4) Try.underlying55 (by kernel_rfl) (opensF_cons (sz := 1) (opens_int (k := .u64) Try.underlying53) (by rfl) (by kernel_rfl) (opensF_cons (sz := 1) (opens_int (k := .u64) Try.underlying53) (by rfl) (by kernel_rfl) (opensF_cons (sz := 1) (opens_int (k := .u64) Try.underlying53) (by rfl) (by kernel_rfl) (opensF_last (sz := 1) (opens_int (k := .u64) Try.underlying53) (by rfl) (by kernel_rfl)))))) (by rfl) (by kernel_rfl) (opensF_cons (sz := 1) (opens_int (k := .i64) Try.underlying3) (by rfl) (by kernel_rfl) (opensF_cons (sz := 1) (opens_int (k := .i64) Try.underlying3) (by rfl) (by kernel_rfl) (opensF_cons (sz := 1) (opens_int (k := .i64) Try.underlying3) (by rfl) (by kernel_rfl) (opensF_last (sz := 1) (opens_int (k := .i64) Try.underlying3) (by rfl) (by kernel_rfl))))))))) Try.underlying57 (hval 0 57 v0 rfl rfl) h0
  have hk0 : (RSt 10 (fun w cs => (RInt .i64) w (cs.take 1) ∧ (fun w cs => (RInt .i64) w (cs.take 1) ∧ (fun w cs => (RSt 4 (fun w cs => (RInt .u64) w (cs.take 1) ∧ (fun w cs => (RInt .u64) w (cs.take 1) ∧ (fun w cs => (RInt .u64) w (cs.take 1) ∧ (fun w cs => (RInt .u64) w (cs.take 1)) w (cs.drop 1)) w (cs.drop 1)) w (cs.drop 1))) w (cs.take 4) ∧ (fun w cs => (RInt .i64) w (cs.take 1) ∧ (fun w cs => (RInt .i64) w (cs.take 1) ∧ (fun w cs => (RInt .i64) w (cs.take 1) ∧ (fun w cs => (RInt .i64) w (cs.take 1)) w (cs.drop 1)) w (cs.drop 1)) w (cs.drop 1)) w (cs.drop 4)) w (cs.drop 1)) w (cs.drop 1))) W cs0 := hk0
  have z0_0 : cs0.length = 10 := hk0.1
  obtain ⟨x0_0, y0_1, f0_0, z0_1⟩ := cons_of z0_0
  subst f0_0
  obtain ⟨x0_1, y0_2, f0_1, z0_2⟩ := cons_of z0_1
  subst f0_1
  obtain ⟨x0_2, y0_3, f0_2, z0_3⟩ := cons_of z0_2
  subst f0_2
  obtain ⟨x0_3, y0_4, f0_3, z0_4⟩ := cons_of z0_3
  subst f0_3
  obtain ⟨x0_4, y0_5, f0_4, z0_5⟩ := cons_of z0_4
  subst f0_4
  obtain ⟨x0_5, y0_6, f0_5, z0_6⟩ := cons_of z0_5
  subst f0_5
  obtain ⟨x0_6, y0_7, f0_6, z0_7⟩ := cons_of z0_6
  subst f0_6
  obtain ⟨x0_7, y0_8, f0_7, z0_8⟩ := cons_of z0_7
  subst f0_7
  obtain ⟨x0_8, y0_9, f0_8, z0_9⟩ := cons_of z0_8
  subst f0_8
  obtain ⟨x0_9, y0_10, f0_9, z0_10⟩ := cons_of z0_9
  subst f0_9
  obtain rfl := nil_of z0_10
  have g0_0 : (RInt .i64) W [x0_0] := hk0.2.1
  have g0_1 : (RInt .i64) W [x0_1] := hk0.2.2.1
  have g0_2 : (RInt .u64) W [x0_2] := hk0.2.2.2.1.2.1
  have g0_3 : (RInt .u64) W [x0_3] := hk0.2.2.2.1.2.2.1
  have g0_4 : (RInt .u64) W [x0_4] := hk0.2.2.2.1.2.2.2.1
  have g0_5 : (RInt .u64) W [x0_5] := hk0.2.2.2.1.2.2.2.2
  have g0_6 : (RInt .i64) W [x0_6] := hk0.2.2.2.2.1
  have g0_7 : (RInt .i64) W [x0_7] := hk0.2.2.2.2.2.1
  have g0_8 : (RInt .i64) W [x0_8] := hk0.2.2.2.2.2.2.1
  have g0_9 : (RInt .i64) W [x0_9] := hk0.2.2.2.2.2.2.2
  clear hk0
  subst ev0
  obtain ⟨a0_0, e0_0, w0_0⟩ := one_int (k := .i64) (w := W) (c := x0_0) g0_0
  subst e0_0
  obtain ⟨a0_1, e0_1, w0_1⟩ := one_int (k := .i64) (w := W) (c := x0_1) g0_1
  subst e0_1
  obtain ⟨a0_2, e0_2, w0_2⟩ := one_int (k := .u64) (w := W) (c := x0_2) g0_2
  subst e0_2
  obtain ⟨a0_3, e0_3, w0_3⟩ := one_int (k := .u64) (w := W) (c := x0_3) g0_3
  subst e0_3
  obtain ⟨a0_4, e0_4, w0_4⟩ := one_int (k := .u64) (w := W) (c := x0_4) g0_4
  subst e0_4
  obtain ⟨a0_5, e0_5, w0_5⟩ := one_int (k := .u64) (w := W) (c := x0_5) g0_5
  subst e0_5
  obtain ⟨a0_6, e0_6, w0_6⟩ := one_int (k := .i64) (w := W) (c := x0_6) g0_6
  subst e0_6
  obtain ⟨a0_7, e0_7, w0_7⟩ := one_int (k := .i64) (w := W) (c := x0_7) g0_7
  subst e0_7
  obtain ⟨a0_8, e0_8, w0_8⟩ := one_int (k := .i64) (w := W) (c := x0_8) g0_8
  subst e0_8
  obtain ⟨a0_9, e0_9, w0_9⟩ := one_int (k := .i64) (w := W) (c := x0_9) g0_9
  subst e0_9
  have kk1 := h1
  have lt1 : ∀ x ∈ p1, x.block < W.heap.size := by obtain ⟨m, hm⟩ := kk1; exact DataW.trod_lt m _ _ _ hm
  obtain ⟨a1, rfl, rfl, rfl, w1⟩ := open_int Try.underlying3 (hval 1 3 v1 rfl rfl) h1
  have kk2 := h2
  have lt2 : ∀ x ∈ p2, x.block < W.heap.size := by obtain ⟨m, hm⟩ := kk2; exact DataW.trod_lt m _ _ _ hm
  obtain ⟨a2, rfl, rfl, rfl, w2⟩ := open_string Try.underlying9 (hval 2 9 v2 rfl rfl) h2
  have kk3 := h3
  have lt3 : ∀ x ∈ p3, x.block < W.heap.size := by obtain ⟨m, hm⟩ := kk3; exact DataW.trod_lt m _ _ _ hm
  obtain ⟨a3, rfl, rfl, rfl, w3⟩ := open_int Try.underlying3 (hval 3 3 v3 rfl rfl) h3
  clear hA0 hval0 hsz0
  refine (PuAt.out (sstpBack_w ⟨a0_0, a0_1, a0_2, a0_3, a0_4, a0_5, a0_6, a0_7, a0_8, a0_9⟩ ⟨lit_u64 w0_2, lit_u64 w0_3, lit_u64 w0_4, lit_u64 w0_5⟩ a1 a2 a3 W)).mono fun e W' ⟨he, bel⟩ => ?_
  subst he
  exact ⟨_, rfl, _, _, _, [], _, [], hW', trodAll_mk1 (shut_bool Try.underlying4 _), (trodAll_cons_mk (Below.trod laidOut (by kernel_rfl) (of_decide_eq_true (by kernel_rfl)) kk0 bel lt0) (trodAll_cons_mk (Below.trod laidOut (by kernel_rfl) (of_decide_eq_true (by kernel_rfl)) kk1 bel lt1) (trodAll_cons_mk (Below.trod laidOut (by kernel_rfl) (of_decide_eq_true (by kernel_rfl)) kk2 bel lt2) (trodAll_cons_mk (Below.trod laidOut (by kernel_rfl) (of_decide_eq_true (by kernel_rfl)) kk3 bel lt3) trodAll_mk0)))), rfl, bel.frame _, fun h => by cases h⟩
theorem over : Rows.sstpBackRow.holds Try.pinned (OpenSpec.ofChange Rows.sstpBackSpec) :=
  OpenClaim.holds_of_wide 14 Try.f14 rfl rfl rfl rfl rfl rfl rfl ⟨rfl, rfl, rfl, rfl, rfl⟩ rfl rfl rfl rfl rfl (by kernel_rfl) Try.func14 (by kernel_rfl)
    (of_decide_eq_true (by kernel_rfl)) (by unfold Func.isWrapper; first | (rw [if_pos (by decide +kernel)]; kernel_rfl) | (rw [if_neg (by decide +kernel)]; exact ⟨rfl, rfl⟩))
    (fun os started H enc _ => lifted os started H enc)
theorem proved : Rows.SstpBackSaid := over
#print axioms proved
end Go.Proofs.Yticobcojmpakfaa.sstpBack
namespace Go.Proofs.Yticobcojmpakfaa
/-- The row, under a short name, for the claim. -/
theorem sstpBack_holds : Rows.SstpBackSaid := sstpBack.proved
end Go.Proofs.Yticobcojmpakfaa
