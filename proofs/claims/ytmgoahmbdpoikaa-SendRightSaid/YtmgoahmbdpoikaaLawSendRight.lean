/- The law SendRight of the given program, for every input: it returns true, and its arguments read afterwards as before. -/
import Derived.Test.YtmgoahmbdpoikaaRows
import Derived.Test.YtmgoahmbdpoikaaOpb
import Derived.Test.YtmgoahmbdpoikaaSendR2
import Derived.WalkKit
import Derived.ProofKit
import Derived.OpenShut
import Derived.ShutString
import Derived.ChangeOld
import Derived.Below
import Derived.SizedLaws
namespace Go.Proofs.Ytmgoahmbdpoikaa.sendRight
open Go.ChangeShapes Go.WideShapes Go.ChangeAt Go.RowKit Go.Proofs.Ytmgoahmbdpoikaa.Am
open Go.ChangeMaps (open_string shut_string)
set_option linter.unusedVariables false
set_option linter.unusedSimpArgs false
theorem own : ownKnob Try.prog.godebug = none := by kernel_rfl
theorem laidOut : laidOutB Try.prog = true := by kernel_rfl
set_option maxRecDepth 100000 in
set_option maxHeartbeats 1000000 in
theorem lifted (os : Os) (started : os.Started) (H : Type) (enc : TypeId × Value → H) :
    ReturnsInHanded {} Try.checked os 5 .any (Rows.sendRightSpec.pre6 enc Try.prog Try.f5 Rows.sendRightRow.domain false) (Rows.sendRightSpec.post enc Try.prog Try.f5 false true false false) := by
  refine returnsInHanded_of_change_sized (C := Try.checked) own started (by kernel_rfl) Try.func5
    (ChangeSpec.witness6 (enc := enc) (C := Try.checked) false ⟨#[], #[.agg #[.int .u64 0, .int .i64 0, .int .i64 0, .int .i64 0, .int .i64 0], .agg #[.int .u64 0, .int .u64 0, .bool false, .bool false, .bool false, .int .i64 0, .int .u64 0, .int .u64 0, .int .u64 0, .int .u64 0, .int .i64 0, .int .i64 0, .int .i64 0, .int .i64 0, .int .u64 0, .int .u64 0, .int .u64 0, .int .u64 0, .int .i64 0, .int .i64 0, .int .i64 0, .int .i64 0, .int .i64 0, .int .i64 0, .bool false, .bool false, .bool false, .bool false, .bool false, .bool false, .bool false, .bool false, .bool false, .bool false, .bool false, .bool false, .bool false, .bool false, .bool false, .bool false, .bool false, .bool false, .bool false, .bool false, .bool false, .bool false, .bool false, .bool false, .bool false, .bool false, .int .i64 0, .int .i64 0, .int .i64 0, .int .i64 0, .int .i64 0, .int .i64 0, .int .i64 0, .int .i64 0, .int .i64 0, .int .i64 0, .int .i64 0], .int .u8 0], []⟩ 8 (by kernel_rfl) (by kernel_rfl) (by kernel_rfl) (by kernel_rfl)) ?_
  intro W base args ds gs before hval0 hW hcnd hsz0 _
  have hval : ∀ (j : Nat) t v, Try.f5.params[j]? = some t → args[j]? = some v → Value.okWide Try.prog W .any base t v := hval0
  have hW' := hW
  obtain ⟨p, q, hA0, hV, rfl, hfz, hnd⟩ := hW
  have hA : DataW.TrodAll enc Try.prog W 0 (fun _ => true) true Try.f5.params.toList args.toList ds p := hA0
  rw [Try.params5] at hA hval
  obtain ⟨v0, vs0, d0, ds0, p0, q0, hargs, rfl, rfl, h0, r0⟩ := trodAll_cons hA
  obtain ⟨v1, vs1, d1, ds1, p1, q1, rfl, rfl, rfl, h1, r1⟩ := trodAll_cons r0
  obtain ⟨v2, vs2, d2, ds2, p2, q2, rfl, rfl, rfl, h2, r2⟩ := trodAll_cons r1
  obtain ⟨rfl, rfl, rfl⟩ := trodAll_nil r2
  obtain rfl : args = #[v0, v1, v2] := by cases args; simp_all
  obtain ⟨rfl, rfl⟩ := trodVars_none hV
  have kk0 := h0
  have lt0 : ∀ x ∈ p0, x.block < W.heap.size := by obtain ⟨m, hm⟩ := kk0; exact DataW.trod_lt m _ _ _ hm
  obtain ⟨cs0, ev0, hk0⟩ := open_value (opens_struct (sz := 5) Try.underlying33 (by kernel_rfl) (opensF_cons (sz := 1) (opens_int (k := .u64) Try.underlying22) (by rfl) (by kernel_rfl) (opensF_last (sz := 4) (opens_struct (sz := 4) Try.underlying26 (by kernel_rfl) (opensF_cons (sz := 1) (opens_int (k := .i64) Try.underlying3) (by rfl) (by kernel_rfl) (opensF_cons (sz := 1) (opens_int (k := .i64) Try.underlying3) (by rfl) (by kernel_rfl) (opensF_cons (sz := 1) (opens_int (k := .i64) Try.underlying3) (by rfl) (by kernel_rfl) (opensF_last (sz := 1) (opens_int (k := .i64) Try.underlying3) (by rfl) (by kernel_rfl)))))) (by rfl) (by kernel_rfl)))) Try.underlying33 (hval 0 33 v0 rfl rfl) h0
  have hk0 : (RSt 5 (fun w cs => (RInt .u64) w (cs.take 1) ∧ (fun w cs => (RSt 4 (fun w cs => (RInt .i64) w (cs.take 1) ∧ (fun w cs => (RInt .i64) w (cs.take 1) ∧ (fun w cs => (RInt .i64) w (cs.take 1) ∧ (fun w cs => (RInt .i64) w (cs.take 1)) w (cs.drop 1)) w (cs.drop 1)) w (cs.drop 1))) w (cs.take 4)) w (cs.drop 1))) W cs0 := hk0
  have z0_0 : cs0.length = 5 := hk0.1
  obtain ⟨x0_0, y0_1, f0_0, z0_1⟩ := cons_of z0_0
  subst f0_0
  obtain ⟨x0_1, y0_2, f0_1, z0_2⟩ := cons_of z0_1
  subst f0_1
  obtain ⟨x0_2, y0_3, f0_2, z0_3⟩ := cons_of z0_2
  subst f0_2
  obtain ⟨x0_3, y0_4, f0_3, z0_4⟩ := cons_of z0_3
  subst f0_3
  obtain ⟨x0_4, y0_5, f0_4, z0_5⟩ := cons_of z0_4
  subst f0_4
  obtain rfl := nil_of z0_5
  have g0_0 : (RInt .u64) W [x0_0] := hk0.2.1
  have g0_1 : (RInt .i64) W [x0_1] := hk0.2.2.2.1
  have g0_2 : (RInt .i64) W [x0_2] := hk0.2.2.2.2.1
  have g0_3 : (RInt .i64) W [x0_3] := hk0.2.2.2.2.2.1
  have g0_4 : (RInt .i64) W [x0_4] := hk0.2.2.2.2.2.2
  clear hk0
  subst ev0
  obtain ⟨a0_0, e0_0, w0_0⟩ := one_int (k := .u64) (w := W) (c := x0_0) g0_0
  subst e0_0
  obtain ⟨a0_1, e0_1, w0_1⟩ := one_int (k := .i64) (w := W) (c := x0_1) g0_1
  subst e0_1
  obtain ⟨a0_2, e0_2, w0_2⟩ := one_int (k := .i64) (w := W) (c := x0_2) g0_2
  subst e0_2
  obtain ⟨a0_3, e0_3, w0_3⟩ := one_int (k := .i64) (w := W) (c := x0_3) g0_3
  subst e0_3
  obtain ⟨a0_4, e0_4, w0_4⟩ := one_int (k := .i64) (w := W) (c := x0_4) g0_4
  subst e0_4
  have kk1 := h1
  have lt1 : ∀ x ∈ p1, x.block < W.heap.size := by obtain ⟨m, hm⟩ := kk1; exact DataW.trod_lt m _ _ _ hm
  obtain ⟨cs1, ev1, hk1⟩ := open_value (opens_struct (sz := 61) Try.underlying28 (by kernel_rfl) (opensF_cons (sz := 1) (opens_int (k := .u64) Try.underlying22) (by rfl) (by kernel_rfl) (opensF_cons (sz := 1) (opens_int (k := .u64) Try.underlying22) (by rfl) (by kernel_rfl) (opensF_cons (sz := 1) (opens_bool Try.underlying4) (by rfl) (by kernel_rfl) (opensF_cons (sz := 1) (opens_bool Try.underlying4) (by rfl) (by kernel_rfl) (opensF_cons (sz := 1) (opens_bool Try.underlying4) (by rfl) (by kernel_rfl) (opensF_cons (sz := 1) (opens_int (k := .i64) Try.underlying3) (by rfl) (by kernel_rfl) (opensF_cons (sz := 4) (opens_struct (sz := 4) Try.underlying24 (by kernel_rfl) (opensF_cons (sz := 1) (opens_int (k := .u64) Try.underlying22) (by rfl) (by kernel_rfl) (opensF_cons (sz := 1) (opens_int (k := .u64) Try.underlying22) (by rfl) (by kernel_rfl) (opensF_cons (sz := 1) (opens_int (k := .u64) Try.underlying22) (by rfl) (by kernel_rfl) (opensF_last (sz := 1) (opens_int (k := .u64) Try.underlying22) (by rfl) (by kernel_rfl)))))) (by rfl) (by kernel_rfl) (opensF_cons (sz := 4) (opens_struct (sz := 4) Try.underlying26 (by kernel_rfl) (opensF_cons (sz := 1) (opens_int (k := .i64) Try.underlying3) (by rfl) (by kernel_rfl) (opensF_cons (sz := 1) (opens_int (k := .i64) Try.underlying3) (by rfl) (by kernel_rfl) (opensF_cons (sz := 1) (opens_int (k := .i64) Try.underlying3) (by rfl) (by kernel_rfl) (opensF_last (sz := 1) (opens_int (k := .i64) Try.underlying3) (by rfl) (by kernel_rfl)))))) (by rfl) (by kernel_rfl) (opensF_cons (sz := 4) (opens_struct (sz := 4) Try.underlying24 (by kernel_rfl) (opensF_cons (sz := 1) (opens_int (k := .u64) Try.underlying22) (by rfl) (by kernel_rfl) (opensF_cons (sz := 1) (opens_int (k := .u64) Try.underlying22) (by rfl) (by kernel_rfl) (opensF_cons (sz := 1) (opens_int (k := .u64) Try.underlying22) (by rfl) (by kernel_rfl) (opensF_last (sz := 1) (opens_int (k := .u64) Try.underlying22) (by rfl) (by kernel_rfl)))))) (by rfl) (by kernel_rfl) (opensF_cons (sz := 4) (opens_struct (sz := 4) Try.underlying26 (by kernel_rfl) (opensF_cons (sz := 1) (opens_int (k := .i64) Try.underlying3) (by rfl) (by kernel_rfl) (opensF_cons (sz := 1) (opens_int (k := .i64) Try.underlying3) (by rfl) (by kernel_rfl) (opensF_cons (sz := 1) (opens_int (k := .i64) Try.underlying3) (by rfl) (by kernel_rfl) (opensF_last (sz := 1) (opens_int (k := .i64) Try.underlying3) (by rfl) (by kernel_rfl)))))) (by rfl) (by kernel_rfl) (opensF_cons (sz := 1) (opens_int (k := .i64) Try.underlying3) (by rfl) (by kernel_rfl) (opensF_cons (sz := 1) (opens_int (k := .i64) Try.underlying3) (by rfl) (by kernel_rfl) (opensF_cons (sz := 1) (opens_bool Try.underlying4) (by rfl) (by kernel_rfl) (opensF_cons (sz := 1) (opens_bool Try.underlying4) (by rfl) (by kernel_rfl) (opensF_cons (sz := 1) (opens_bool Try.underlying4) (by rfl) (by kernel_rfl) (opensF_cons (sz := 1) (opens_bool Try.underlying4) (by rfl) (by kernel_rfl) (opensF_cons (sz := 1) (opens_bool Try.underlying4) (by rfl) (by kernel_rfl) (opensF_cons (sz := 1) (opens_bool Try.underlying4) (by rfl) (by kernel_rfl) (opensF_cons (sz := 1) (opens_bool Try.underlying4) (by rfl) (by kernel_rfl) (opensF_cons (sz := 1) (opens_bool Try.underlying4) (by rfl) (by kernel_rfl) (opensF_cons (sz := 1) (opens_bool Try.underlying4) (by rfl) (by kernel_rfl) (opensF_cons (sz := 1) (opens_bool Try.underlying4) (by rfl) (by kernel_rfl) (opensF_cons (sz := 1) (opens_bool Try.underlying4) (by rfl) (by kernel_rfl) (opensF_cons (sz := 1) (opens_bool Try.underlying4) (by rfl) (by kernel_rfl) (opensF_cons (sz := 1) (opens_bool Try.underlying4) (by rfl) (by kernel_rfl) (opensF_cons (sz := 1) (opens_bool Try.underlying4) (by rfl) (by kernel_rfl) (opensF_cons (sz := 1) (opens_bool Try.underlying4) (by rfl) (by kernel_rfl) (opensF_cons (sz := 1) (opens_bool Try.underlying4) (by rfl) (by kernel_rfl) (opensF_cons (sz := 1) (opens_bool Try.underlying4) (by rfl) (by kernel_rfl) (opensF_cons (sz := 1) (opens_bool Try.underlying4) (by rfl) (by kernel_rfl) (opensF_cons (sz := 1) (opens_bool Try.underlying4) (by rfl) (by kernel_rfl) (opensF_cons (sz := 1) (opens_bool Try.underlying4) (by rfl) (by kernel_rfl) (opensF_cons (sz := 1) (opens_bool Try.underlying4) (by rfl) (by kernel_rfl) (opensF_cons (sz := 1) (opens_bool Try.underlying4) (by rfl) (by kernel_rfl) (opensF_cons (sz := 1) (opens_bool Try.underlying4) (by rfl) (by kernel_rfl) (opensF_cons (sz := 1) (opens_bool Try.underlying4) (by rfl) (by kernel_rfl) (opensF_cons (sz := 1) (opens_bool Try.underlying4) (by rfl) (by kernel_rfl) (opensF_cons (sz := 1) (opens_bool Try.underlying4) (by rfl) (by kernel_rfl) (opensF_cons (sz := 1) (opens_int (k := .i64) Try.underlying3) (by rfl) (by kernel_rfl) (opensF_cons (sz := 1) (opens_int (k := .i64) Try.underlying3) (by rfl) (by kernel_rfl) (opensF_cons (sz := 1) (opens_int (k := .i64) Try.underlying3) (by rfl) (by kernel_rfl) (opensF_cons (sz := 1) (opens_int (k := .i64) Try.underlying3) (by rfl) (by kernel_rfl) (opensF_cons (sz := 1) (opens_int (k := .i64) Try.underlying3) (by rfl) (by kernel_rfl) (opensF_cons (sz := 1) (opens_int (k := .i64) Try.underlying3) (by rfl) (by kernel_rfl) (opensF_cons (sz := 1) (opens_int (k := .i64) Try.underlying3) (by rfl) (by kernel_rfl) (opensF_cons (sz := 1) (opens_int (k := .i64) Try.underlying3) (by rfl) (by kernel_rfl) (opensF_cons (sz := 1) (opens_int (k := .i64) Try.underlying3) (by rfl) (by kernel_rfl) (opensF_cons (sz := 1) (opens_int (k := .i64) Try.underlying3) (by rfl) (by kernel_rfl) (opensF_last (sz := 1) (opens_int (k := .i64) Try.underlying3) (by rfl) (by kernel_rfl))))))))))))))))))))))))))))))))))))))))))))))))))) Try.underlying28 (hval 1 28 v1 rfl rfl) h1
  have hk1 : (RSt 61 (fun w cs => (RInt .u64) w (cs.take 1) ∧ (fun w cs => (RInt .u64) w (cs.take 1) ∧ (fun w cs => RBool w (cs.take 1) ∧ (fun w cs => RBool w (cs.take 1) ∧ (fun w cs => RBool w (cs.take 1) ∧ (fun w cs => (RInt .i64) w (cs.take 1) ∧ (fun w cs => (RSt 4 (fun w cs => (RInt .u64) w (cs.take 1) ∧ (fun w cs => (RInt .u64) w (cs.take 1) ∧ (fun w cs => (RInt .u64) w (cs.take 1) ∧ (fun w cs => (RInt .u64) w (cs.take 1)) w (cs.drop 1)) w (cs.drop 1)) w (cs.drop 1))) w (cs.take 4) ∧ (fun w cs => (RSt 4 (fun w cs => (RInt .i64) w (cs.take 1) ∧ (fun w cs => (RInt .i64) w (cs.take 1) ∧ (fun w cs => (RInt .i64) w (cs.take 1) ∧ (fun w cs => (RInt .i64) w (cs.take 1)) w (cs.drop 1)) w (cs.drop 1)) w (cs.drop 1))) w (cs.take 4) ∧ (fun w cs => (RSt 4 (fun w cs => (RInt .u64) w (cs.take 1) ∧ (fun w cs => (RInt .u64) w (cs.take 1) ∧ (fun w cs => (RInt .u64) w (cs.take 1) ∧ (fun w cs => (RInt .u64) w (cs.take 1)) w (cs.drop 1)) w (cs.drop 1)) w (cs.drop 1))) w (cs.take 4) ∧ (fun w cs => (RSt 4 (fun w cs => (RInt .i64) w (cs.take 1) ∧ (fun w cs => (RInt .i64) w (cs.take 1) ∧ (fun w cs => (RInt .i64) w (cs.take 1) ∧ (fun w cs => (RInt .i64) w (cs.take 1)) w (cs.drop 1)) w (cs.drop 1)) w (cs.drop 1))) w (cs.take 4) ∧ (fun w cs => (RInt .i64) w (cs.take 1) ∧ (fun w cs => (RInt .i64) w (cs.take 1) ∧ (fun w cs => RBool w (cs.take 1) ∧ (fun w cs => RBool w (cs.take 1) ∧ (fun w cs => RBool w (cs.take 1) ∧ (fun w cs => RBool w (cs.take 1) ∧ (fun w cs => RBool w (cs.take 1) ∧ (fun w cs => RBool w (cs.take 1) ∧ (fun w cs => RBool w (cs.take 1) ∧ (fun w cs => RBool w (cs.take 1) ∧ (fun w cs => RBool w (cs.take 1) ∧ (fun w cs => RBool w (cs.take 1) ∧ (fun w cs => RBool w (cs.take 1) ∧ (fun w cs => RBool w (cs.take 1) ∧ (fun w cs => RBool w (cs.take 1) ∧ (fun w cs => RBool w (cs.take 1) ∧ (fun w cs => RBool w (cs.take 1) ∧ (fun w cs => RBool w (cs.take 1) ∧ (fun w cs => RBool w (cs.take 1) ∧ (fun w cs => RBool w (cs.take 1) ∧ (fun w cs => RBool w (cs.take 1) ∧ (fun w cs => RBool w (cs.take 1) ∧ (fun w cs => RBool w (cs.take 1) ∧ (fun w cs => RBool w (cs.take 1) ∧ (fun w cs => RBool w (cs.take 1) ∧ (fun w cs => RBool w (cs.take 1) ∧ (fun w cs => RBool w (cs.take 1) ∧ (fun w cs => RBool w (cs.take 1) ∧ (fun w cs => (RInt .i64) w (cs.take 1) ∧ (fun w cs => (RInt .i64) w (cs.take 1) ∧ (fun w cs => (RInt .i64) w (cs.take 1) ∧ (fun w cs => (RInt .i64) w (cs.take 1) ∧ (fun w cs => (RInt .i64) w (cs.take 1) ∧ (fun w cs => (RInt .i64) w (cs.take 1) ∧ (fun w cs => (RInt .i64) w (cs.take 1) ∧ (fun w cs => (RInt .i64) w (cs.take 1) ∧ (fun w cs => (RInt .i64) w (cs.take 1) ∧ (fun w cs => (RInt .i64) w (cs.take 1) ∧ (fun w cs => (RInt .i64) w (cs.take 1)) w (cs.drop 1)) w (cs.drop 1)) w (cs.drop 1)) w (cs.drop 1)) w (cs.drop 1)) w (cs.drop 1)) w (cs.drop 1)) w (cs.drop 1)) w (cs.drop 1)) w (cs.drop 1)) w (cs.drop 1)) w (cs.drop 1)) w (cs.drop 1)) w (cs.drop 1)) w (cs.drop 1)) w (cs.drop 1)) w (cs.drop 1)) w (cs.drop 1)) w (cs.drop 1)) w (cs.drop 1)) w (cs.drop 1)) w (cs.drop 1)) w (cs.drop 1)) w (cs.drop 1)) w (cs.drop 1)) w (cs.drop 1)) w (cs.drop 1)) w (cs.drop 1)) w (cs.drop 1)) w (cs.drop 1)) w (cs.drop 1)) w (cs.drop 1)) w (cs.drop 1)) w (cs.drop 1)) w (cs.drop 1)) w (cs.drop 1)) w (cs.drop 1)) w (cs.drop 1)) w (cs.drop 4)) w (cs.drop 4)) w (cs.drop 4)) w (cs.drop 4)) w (cs.drop 1)) w (cs.drop 1)) w (cs.drop 1)) w (cs.drop 1)) w (cs.drop 1)) w (cs.drop 1))) W cs1 := hk1
  have z1_0 : cs1.length = 61 := hk1.1
  obtain ⟨x1_0, y1_1, f1_0, z1_1⟩ := cons_of z1_0
  subst f1_0
  obtain ⟨x1_1, y1_2, f1_1, z1_2⟩ := cons_of z1_1
  subst f1_1
  obtain ⟨x1_2, y1_3, f1_2, z1_3⟩ := cons_of z1_2
  subst f1_2
  obtain ⟨x1_3, y1_4, f1_3, z1_4⟩ := cons_of z1_3
  subst f1_3
  obtain ⟨x1_4, y1_5, f1_4, z1_5⟩ := cons_of z1_4
  subst f1_4
  obtain ⟨x1_5, y1_6, f1_5, z1_6⟩ := cons_of z1_5
  subst f1_5
  obtain ⟨x1_6, y1_7, f1_6, z1_7⟩ := cons_of z1_6
  subst f1_6
  obtain ⟨x1_7, y1_8, f1_7, z1_8⟩ := cons_of z1_7
  subst f1_7
  obtain ⟨x1_8, y1_9, f1_8, z1_9⟩ := cons_of z1_8
  subst f1_8
  obtain ⟨x1_9, y1_10, f1_9, z1_10⟩ := cons_of z1_9
  subst f1_9
  obtain ⟨x1_10, y1_11, f1_10, z1_11⟩ := cons_of z1_10
  subst f1_10
  obtain ⟨x1_11, y1_12, f1_11, z1_12⟩ := cons_of z1_11
  subst f1_11
  obtain ⟨x1_12, y1_13, f1_12, z1_13⟩ := cons_of z1_12
  subst f1_12
  obtain ⟨x1_13, y1_14, f1_13, z1_14⟩ := cons_of z1_13
  subst f1_13
  obtain ⟨x1_14, y1_15, f1_14, z1_15⟩ := cons_of z1_14
  subst f1_14
  obtain ⟨x1_15, y1_16, f1_15, z1_16⟩ := cons_of z1_15
  subst f1_15
  obtain ⟨x1_16, y1_17, f1_16, z1_17⟩ := cons_of z1_16
  subst f1_16
  obtain ⟨x1_17, y1_18, f1_17, z1_18⟩ := cons_of z1_17
  subst f1_17
  obtain ⟨x1_18, y1_19, f1_18, z1_19⟩ := cons_of z1_18
  subst f1_18
  obtain ⟨x1_19, y1_20, f1_19, z1_20⟩ := cons_of z1_19
  subst f1_19
  obtain ⟨x1_20, y1_21, f1_20, z1_21⟩ := cons_of z1_20
  subst f1_20
  obtain ⟨x1_21, y1_22, f1_21, z1_22⟩ := cons_of z1_21
  subst f1_21
  obtain ⟨x1_22, y1_23, f1_22, z1_23⟩ := cons_of z1_22
  subst f1_22
  obtain ⟨x1_23, y1_24, f1_23, z1_24⟩ := cons_of z1_23
  subst f1_23
  obtain ⟨x1_24, y1_25, f1_24, z1_25⟩ := cons_of z1_24
  subst f1_24
  obtain ⟨x1_25, y1_26, f1_25, z1_26⟩ := cons_of z1_25
  subst f1_25
  obtain ⟨x1_26, y1_27, f1_26, z1_27⟩ := cons_of z1_26
  subst f1_26
  obtain ⟨x1_27, y1_28, f1_27, z1_28⟩ := cons_of z1_27
  subst f1_27
  obtain ⟨x1_28, y1_29, f1_28, z1_29⟩ := cons_of z1_28
  subst f1_28
  obtain ⟨x1_29, y1_30, f1_29, z1_30⟩ := cons_of z1_29
  subst f1_29
  obtain ⟨x1_30, y1_31, f1_30, z1_31⟩ := cons_of z1_30
  subst f1_30
  obtain ⟨x1_31, y1_32, f1_31, z1_32⟩ := cons_of z1_31
  subst f1_31
  obtain ⟨x1_32, y1_33, f1_32, z1_33⟩ := cons_of z1_32
  subst f1_32
  obtain ⟨x1_33, y1_34, f1_33, z1_34⟩ := cons_of z1_33
  subst f1_33
  obtain ⟨x1_34, y1_35, f1_34, z1_35⟩ := cons_of z1_34
  subst f1_34
  obtain ⟨x1_35, y1_36, f1_35, z1_36⟩ := cons_of z1_35
  subst f1_35
  obtain ⟨x1_36, y1_37, f1_36, z1_37⟩ := cons_of z1_36
  subst f1_36
  obtain ⟨x1_37, y1_38, f1_37, z1_38⟩ := cons_of z1_37
  subst f1_37
  obtain ⟨x1_38, y1_39, f1_38, z1_39⟩ := cons_of z1_38
  subst f1_38
  obtain ⟨x1_39, y1_40, f1_39, z1_40⟩ := cons_of z1_39
  subst f1_39
  obtain ⟨x1_40, y1_41, f1_40, z1_41⟩ := cons_of z1_40
  subst f1_40
  obtain ⟨x1_41, y1_42, f1_41, z1_42⟩ := cons_of z1_41
  subst f1_41
  obtain ⟨x1_42, y1_43, f1_42, z1_43⟩ := cons_of z1_42
  subst f1_42
  obtain ⟨x1_43, y1_44, f1_43, z1_44⟩ := cons_of z1_43
  subst f1_43
  obtain ⟨x1_44, y1_45, f1_44, z1_45⟩ := cons_of z1_44
  subst f1_44
  obtain ⟨x1_45, y1_46, f1_45, z1_46⟩ := cons_of z1_45
  subst f1_45
  obtain ⟨x1_46, y1_47, f1_46, z1_47⟩ := cons_of z1_46
  subst f1_46
  obtain ⟨x1_47, y1_48, f1_47, z1_48⟩ := cons_of z1_47
  subst f1_47
  obtain ⟨x1_48, y1_49, f1_48, z1_49⟩ := cons_of z1_48
  subst f1_48
  obtain ⟨x1_49, y1_50, f1_49, z1_50⟩ := cons_of z1_49
  subst f1_49
  obtain ⟨x1_50, y1_51, f1_50, z1_51⟩ := cons_of z1_50
  subst f1_50
  obtain ⟨x1_51, y1_52, f1_51, z1_52⟩ := cons_of z1_51
  subst f1_51
  obtain ⟨x1_52, y1_53, f1_52, z1_53⟩ := cons_of z1_52
  subst f1_52
  obtain ⟨x1_53, y1_54, f1_53, z1_54⟩ := cons_of z1_53
  subst f1_53
  obtain ⟨x1_54, y1_55, f1_54, z1_55⟩ := cons_of z1_54
  subst f1_54
  obtain ⟨x1_55, y1_56, f1_55, z1_56⟩ := cons_of z1_55
  subst f1_55
  obtain ⟨x1_56, y1_57, f1_56, z1_57⟩ := cons_of z1_56
  subst f1_56
  obtain ⟨x1_57, y1_58, f1_57, z1_58⟩ := cons_of z1_57
  subst f1_57
  obtain ⟨x1_58, y1_59, f1_58, z1_59⟩ := cons_of z1_58
  subst f1_58
  obtain ⟨x1_59, y1_60, f1_59, z1_60⟩ := cons_of z1_59
  subst f1_59
  obtain ⟨x1_60, y1_61, f1_60, z1_61⟩ := cons_of z1_60
  subst f1_60
  obtain rfl := nil_of z1_61
  have g1_0 : (RInt .u64) W [x1_0] := hk1.2.1
  have g1_1 : (RInt .u64) W [x1_1] := hk1.2.2.1
  have g1_2 : RBool W [x1_2] := hk1.2.2.2.1
  have g1_3 : RBool W [x1_3] := hk1.2.2.2.2.1
  have g1_4 : RBool W [x1_4] := hk1.2.2.2.2.2.1
  have g1_5 : (RInt .i64) W [x1_5] := hk1.2.2.2.2.2.2.1
  have g1_6 : (RInt .u64) W [x1_6] := hk1.2.2.2.2.2.2.2.1.2.1
  have g1_7 : (RInt .u64) W [x1_7] := hk1.2.2.2.2.2.2.2.1.2.2.1
  have g1_8 : (RInt .u64) W [x1_8] := hk1.2.2.2.2.2.2.2.1.2.2.2.1
  have g1_9 : (RInt .u64) W [x1_9] := hk1.2.2.2.2.2.2.2.1.2.2.2.2
  have g1_10 : (RInt .i64) W [x1_10] := hk1.2.2.2.2.2.2.2.2.1.2.1
  have g1_11 : (RInt .i64) W [x1_11] := hk1.2.2.2.2.2.2.2.2.1.2.2.1
  have g1_12 : (RInt .i64) W [x1_12] := hk1.2.2.2.2.2.2.2.2.1.2.2.2.1
  have g1_13 : (RInt .i64) W [x1_13] := hk1.2.2.2.2.2.2.2.2.1.2.2.2.2
  have g1_14 : (RInt .u64) W [x1_14] := hk1.2.2.2.2.2.2.2.2.2.1.2.1
  have g1_15 : (RInt .u64) W [x1_15] := hk1.2.2.2.2.2.2.2.2.2.1.2.2.1
  have g1_16 : (RInt .u64) W [x1_16] := hk1.2.2.2.2.2.2.2.2.2.1.2.2.2.1
  have g1_17 : (RInt .u64) W [x1_17] := hk1.2.2.2.2.2.2.2.2.2.1.2.2.2.2
  have g1_18 : (RInt .i64) W [x1_18] := hk1.2.2.2.2.2.2.2.2.2.2.1.2.1
  have g1_19 : (RInt .i64) W [x1_19] := hk1.2.2.2.2.2.2.2.2.2.2.1.2.2.1
  have g1_20 : (RInt .i64) W [x1_20] := hk1.2.2.2.2.2.2.2.2.2.2.1.2.2.2.1
  have g1_21 : (RInt .i64) W [x1_21] := hk1.2.2.2.2.2.2.2.2.2.2.1.2.2.2.2
  have g1_22 : (RInt .i64) W [x1_22] := hk1.2.2.2.2.2.2.2.2.2.2.2.1
  have g1_23 : (RInt .i64) W [x1_23] := hk1.2.2.2.2.2.2.2.2.2.2.2.2.1
  have g1_24 : RBool W [x1_24] := hk1.2.2.2.2.2.2.2.2.2.2.2.2.2.1
  have g1_25 : RBool W [x1_25] := hk1.2.2.2.2.2.2.2.2.2.2.2.2.2.2.1
  have g1_26 : RBool W [x1_26] := hk1.2.2.2.2.2.2.2.2.2.2.2.2.2.2.2.1
  have g1_27 : RBool W [x1_27] := hk1.2.2.2.2.2.2.2.2.2.2.2.2.2.2.2.2.1
  have g1_28 : RBool W [x1_28] := hk1.2.2.2.2.2.2.2.2.2.2.2.2.2.2.2.2.2.1
  have g1_29 : RBool W [x1_29] := hk1.2.2.2.2.2.2.2.2.2.2.2.2.2.2.2.2.2.2.1
  have g1_30 : RBool W [x1_30] := hk1.2.2.2.2.2.2.2.2.2.2.2.2.2.2.2.2.2.2.2.1
  have g1_31 : RBool W [x1_31] := hk1.2.2.2.2.2.2.2.2.2.2.2.2.2.2.2.2.2.2.2.2.1
  have g1_32 : RBool W [x1_32] := hk1.2.2.2.2.2.2.2.2.2.2.2.2.2.2.2.2.2.2.2.2.2.1
  have g1_33 : RBool W [x1_33] := hk1.2.2.2.2.2.2.2.2.2.2.2.2.2.2.2.2.2.2.2.2.2.2.1
  have g1_34 : RBool W [x1_34] := hk1.2.2.2.2.2.2.2.2.2.2.2.2.2.2.2.2.2.2.2.2.2.2.2.1
  have g1_35 : RBool W [x1_35] := hk1.2.2.2.2.2.2.2.2.2.2.2.2.2.2.2.2.2.2.2.2.2.2.2.2.1
  have g1_36 : RBool W [x1_36] := hk1.2.2.2.2.2.2.2.2.2.2.2.2.2.2.2.2.2.2.2.2.2.2.2.2.2.1
  have g1_37 : RBool W [x1_37] := hk1.2.2.2.2.2.2.2.2.2.2.2.2.2.2.2.2.2.2.2.2.2.2.2.2.2.2.1
  have g1_38 : RBool W [x1_38] := hk1.2.2.2.2.2.2.2.2.2.2.2.2.2.2.2.2.2.2.2.2.2.2.2.2.2.2.2.1
  have g1_39 : RBool W [x1_39] := hk1.2.2.2.2.2.2.2.2.2.2.2.2.2.2.2.2.2.2.2.2.2.2.2.2.2.2.2.2.1
  have g1_40 : RBool W [x1_40] := hk1.2.2.2.2.2.2.2.2.2.2.2.2.2.2.2.2.2.2.2.2.2.2.2.2.2.2.2.2.2.1
  have g1_41 : RBool W [x1_41] := hk1.2.2.2.2.2.2.2.2.2.2.2.2.2.2.2.2.2.2.2.2.2.2.2.2.2.2.2.2.2.2.1
  have g1_42 : RBool W [x1_42] := hk1.2.2.2.2.2.2.2.2.2.2.2.2.2.2.2.2.2.2.2.2.2.2.2.2.2.2.2.2.2.2.2.1
  have g1_43 : RBool W [x1_43] := hk1.2.2.2.2.2.2.2.2.2.2.2.2.2.2.2.2.2.2.2.2.2.2.2.2.2.2.2.2.2.2.2.2.1
  have g1_44 : RBool W [x1_44] := hk1.2.2.2.2.2.2.2.2.2.2.2.2.2.2.2.2.2.2.2.2.2.2.2.2.2.2.2.2.2.2.2.2.2.1
  have g1_45 : RBool W [x1_45] := hk1.2.2.2.2.2.2.2.2.2.2.2.2.2.2.2.2.2.2.2.2.2.2.2.2.2.2.2.2.2.2.2.2.2.2.1
  have g1_46 : RBool W [x1_46] := hk1.2.2.2.2.2.2.2.2.2.2.2.2.2.2.2.2.2.2.2.2.2.2.2.2.2.2.2.2.2.2.2.2.2.2.2.1
  have g1_47 : RBool W [x1_47] := hk1.2.2.2.2.2.2.2.2.2.2.2.2.2.2.2.2.2.2.2.2.2.2.2.2.2.2.2.2.2.2.2.2.2.2.2.2.1
  have g1_48 : RBool W [x1_48] := hk1.2.2.2.2.2.2.2.2.2.2.2.2.2.2.2.2.2.2.2.2.2.2.2.2.2.2.2.2.2.2.2.2.2.2.2.2.2.1
  have g1_49 : RBool W [x1_49] := hk1.2.2.2.2.2.2.2.2.2.2.2.2.2.2.2.2.2.2.2.2.2.2.2.2.2.2.2.2.2.2.2.2.2.2.2.2.2.2.1
  have g1_50 : (RInt .i64) W [x1_50] := hk1.2.2.2.2.2.2.2.2.2.2.2.2.2.2.2.2.2.2.2.2.2.2.2.2.2.2.2.2.2.2.2.2.2.2.2.2.2.2.2.1
  have g1_51 : (RInt .i64) W [x1_51] := hk1.2.2.2.2.2.2.2.2.2.2.2.2.2.2.2.2.2.2.2.2.2.2.2.2.2.2.2.2.2.2.2.2.2.2.2.2.2.2.2.2.1
  have g1_52 : (RInt .i64) W [x1_52] := hk1.2.2.2.2.2.2.2.2.2.2.2.2.2.2.2.2.2.2.2.2.2.2.2.2.2.2.2.2.2.2.2.2.2.2.2.2.2.2.2.2.2.1
  have g1_53 : (RInt .i64) W [x1_53] := hk1.2.2.2.2.2.2.2.2.2.2.2.2.2.2.2.2.2.2.2.2.2.2.2.2.2.2.2.2.2.2.2.2.2.2.2.2.2.2.2.2.2.2.1
  have g1_54 : (RInt .i64) W [x1_54] := hk1.2.2.2.2.2.2.2.2.2.2.2.2.2.2.2.2.2.2.2.2.2.2.2.2.2.2.2.2.2.2.2.2.2.2.2.2.2.2.2.2.2.2.2.1
  have g1_55 : (RInt .i64) W [x1_55] := hk1.2.2.2.2.2.2.2.2.2.2.2.2.2.2.2.2.2.2.2.2.2.2.2.2.2.2.2.2.2.2.2.2.2.2.2.2.2.2.2.2.2.2.2.2.1
  have g1_56 : (RInt .i64) W [x1_56] := hk1.2.2.2.2.2.2.2.2.2.2.2.2.2.2.2.2.2.2.2.2.2.2.2.2.2.2.2.2.2.2.2.2.2.2.2.2.2.2.2.2.2.2.2.2.2.1
  have g1_57 : (RInt .i64) W [x1_57] := hk1.2.2.2.2.2.2.2.2.2.2.2.2.2.2.2.2.2.2.2.2.2.2.2.2.2.2.2.2.2.2.2.2.2.2.2.2.2.2.2.2.2.2.2.2.2.2.1
  have g1_58 : (RInt .i64) W [x1_58] := hk1.2.2.2.2.2.2.2.2.2.2.2.2.2.2.2.2.2.2.2.2.2.2.2.2.2.2.2.2.2.2.2.2.2.2.2.2.2.2.2.2.2.2.2.2.2.2.2.1
  have g1_59 : (RInt .i64) W [x1_59] := hk1.2.2.2.2.2.2.2.2.2.2.2.2.2.2.2.2.2.2.2.2.2.2.2.2.2.2.2.2.2.2.2.2.2.2.2.2.2.2.2.2.2.2.2.2.2.2.2.2.1
  have g1_60 : (RInt .i64) W [x1_60] := hk1.2.2.2.2.2.2.2.2.2.2.2.2.2.2.2.2.2.2.2.2.2.2.2.2.2.2.2.2.2.2.2.2.2.2.2.2.2.2.2.2.2.2.2.2.2.2.2.2.2
  clear hk1
  subst ev1
  obtain ⟨a1_0, e1_0, w1_0⟩ := one_int (k := .u64) (w := W) (c := x1_0) g1_0
  subst e1_0
  obtain ⟨a1_1, e1_1, w1_1⟩ := one_int (k := .u64) (w := W) (c := x1_1) g1_1
  subst e1_1
  obtain ⟨a1_2, e1_2⟩ := one_bool (w := W) (c := x1_2) g1_2
  subst e1_2
  obtain ⟨a1_3, e1_3⟩ := one_bool (w := W) (c := x1_3) g1_3
  subst e1_3
  obtain ⟨a1_4, e1_4⟩ := one_bool (w := W) (c := x1_4) g1_4
  subst e1_4
  obtain ⟨a1_5, e1_5, w1_5⟩ := one_int (k := .i64) (w := W) (c := x1_5) g1_5
  subst e1_5
  obtain ⟨a1_6, e1_6, w1_6⟩ := one_int (k := .u64) (w := W) (c := x1_6) g1_6
  subst e1_6
  obtain ⟨a1_7, e1_7, w1_7⟩ := one_int (k := .u64) (w := W) (c := x1_7) g1_7
  subst e1_7
  obtain ⟨a1_8, e1_8, w1_8⟩ := one_int (k := .u64) (w := W) (c := x1_8) g1_8
  subst e1_8
  obtain ⟨a1_9, e1_9, w1_9⟩ := one_int (k := .u64) (w := W) (c := x1_9) g1_9
  subst e1_9
  obtain ⟨a1_10, e1_10, w1_10⟩ := one_int (k := .i64) (w := W) (c := x1_10) g1_10
  subst e1_10
  obtain ⟨a1_11, e1_11, w1_11⟩ := one_int (k := .i64) (w := W) (c := x1_11) g1_11
  subst e1_11
  obtain ⟨a1_12, e1_12, w1_12⟩ := one_int (k := .i64) (w := W) (c := x1_12) g1_12
  subst e1_12
  obtain ⟨a1_13, e1_13, w1_13⟩ := one_int (k := .i64) (w := W) (c := x1_13) g1_13
  subst e1_13
  obtain ⟨a1_14, e1_14, w1_14⟩ := one_int (k := .u64) (w := W) (c := x1_14) g1_14
  subst e1_14
  obtain ⟨a1_15, e1_15, w1_15⟩ := one_int (k := .u64) (w := W) (c := x1_15) g1_15
  subst e1_15
  obtain ⟨a1_16, e1_16, w1_16⟩ := one_int (k := .u64) (w := W) (c := x1_16) g1_16
  subst e1_16
  obtain ⟨a1_17, e1_17, w1_17⟩ := one_int (k := .u64) (w := W) (c := x1_17) g1_17
  subst e1_17
  obtain ⟨a1_18, e1_18, w1_18⟩ := one_int (k := .i64) (w := W) (c := x1_18) g1_18
  subst e1_18
  obtain ⟨a1_19, e1_19, w1_19⟩ := one_int (k := .i64) (w := W) (c := x1_19) g1_19
  subst e1_19
  obtain ⟨a1_20, e1_20, w1_20⟩ := one_int (k := .i64) (w := W) (c := x1_20) g1_20
  subst e1_20
  obtain ⟨a1_21, e1_21, w1_21⟩ := one_int (k := .i64) (w := W) (c := x1_21) g1_21
  subst e1_21
  obtain ⟨a1_22, e1_22, w1_22⟩ := one_int (k := .i64) (w := W) (c := x1_22) g1_22
  subst e1_22
  obtain ⟨a1_23, e1_23, w1_23⟩ := one_int (k := .i64) (w := W) (c := x1_23) g1_23
  subst e1_23
  obtain ⟨a1_24, e1_24⟩ := one_bool (w := W) (c := x1_24) g1_24
  subst e1_24
  obtain ⟨a1_25, e1_25⟩ := one_bool (w := W) (c := x1_25) g1_25
  subst e1_25
  obtain ⟨a1_26, e1_26⟩ := one_bool (w := W) (c := x1_26) g1_26
  subst e1_26
  obtain ⟨a1_27, e1_27⟩ := one_bool (w := W) (c := x1_27) g1_27
  subst e1_27
  obtain ⟨a1_28, e1_28⟩ := one_bool (w := W) (c := x1_28) g1_28
  subst e1_28
  obtain ⟨a1_29, e1_29⟩ := one_bool (w := W) (c := x1_29) g1_29
  subst e1_29
  obtain ⟨a1_30, e1_30⟩ := one_bool (w := W) (c := x1_30) g1_30
  subst e1_30
  obtain ⟨a1_31, e1_31⟩ := one_bool (w := W) (c := x1_31) g1_31
  subst e1_31
  obtain ⟨a1_32, e1_32⟩ := one_bool (w := W) (c := x1_32) g1_32
  subst e1_32
  obtain ⟨a1_33, e1_33⟩ := one_bool (w := W) (c := x1_33) g1_33
  subst e1_33
  obtain ⟨a1_34, e1_34⟩ := one_bool (w := W) (c := x1_34) g1_34
  subst e1_34
  obtain ⟨a1_35, e1_35⟩ := one_bool (w := W) (c := x1_35) g1_35
  subst e1_35
  obtain ⟨a1_36, e1_36⟩ := one_bool (w := W) (c := x1_36) g1_36
  subst e1_36
  obtain ⟨a1_37, e1_37⟩ := one_bool (w := W) (c := x1_37) g1_37
  subst e1_37
  obtain ⟨a1_38, e1_38⟩ := one_bool (w := W) (c := x1_38) g1_38
  subst e1_38
  obtain ⟨a1_39, e1_39⟩ := one_bool (w := W) (c := x1_39) g1_39
  subst e1_39
  obtain ⟨a1_40, e1_40⟩ := one_bool (w := W) (c := x1_40) g1_40
  subst e1_40
  obtain ⟨a1_41, e1_41⟩ := one_bool (w := W) (c := x1_41) g1_41
  subst e1_41
  obtain ⟨a1_42, e1_42⟩ := one_bool (w := W) (c := x1_42) g1_42
  subst e1_42
  obtain ⟨a1_43, e1_43⟩ := one_bool (w := W) (c := x1_43) g1_43
  subst e1_43
  obtain ⟨a1_44, e1_44⟩ := one_bool (w := W) (c := x1_44) g1_44
  subst e1_44
  obtain ⟨a1_45, e1_45⟩ := one_bool (w := W) (c := x1_45) g1_45
  subst e1_45
  obtain ⟨a1_46, e1_46⟩ := one_bool (w := W) (c := x1_46) g1_46
  subst e1_46
  obtain ⟨a1_47, e1_47⟩ := one_bool (w := W) (c := x1_47) g1_47
  subst e1_47
  obtain ⟨a1_48, e1_48⟩ := one_bool (w := W) (c := x1_48) g1_48
  subst e1_48
  obtain ⟨a1_49, e1_49⟩ := one_bool (w := W) (c := x1_49) g1_49
  subst e1_49
  obtain ⟨a1_50, e1_50, w1_50⟩ := one_int (k := .i64) (w := W) (c := x1_50) g1_50
  subst e1_50
  obtain ⟨a1_51, e1_51, w1_51⟩ := one_int (k := .i64) (w := W) (c := x1_51) g1_51
  subst e1_51
  obtain ⟨a1_52, e1_52, w1_52⟩ := one_int (k := .i64) (w := W) (c := x1_52) g1_52
  subst e1_52
  obtain ⟨a1_53, e1_53, w1_53⟩ := one_int (k := .i64) (w := W) (c := x1_53) g1_53
  subst e1_53
  obtain ⟨a1_54, e1_54, w1_54⟩ := one_int (k := .i64) (w := W) (c := x1_54) g1_54
  subst e1_54
  obtain ⟨a1_55, e1_55, w1_55⟩ := one_int (k := .i64) (w := W) (c := x1_55) g1_55
  subst e1_55
  obtain ⟨a1_56, e1_56, w1_56⟩ := one_int (k := .i64) (w := W) (c := x1_56) g1_56
  subst e1_56
  obtain ⟨a1_57, e1_57, w1_57⟩ := one_int (k := .i64) (w := W) (c := x1_57) g1_57
  subst e1_57
  obtain ⟨a1_58, e1_58, w1_58⟩ := one_int (k := .i64) (w := W) (c := x1_58) g1_58
  subst e1_58
  obtain ⟨a1_59, e1_59, w1_59⟩ := one_int (k := .i64) (w := W) (c := x1_59) g1_59
  subst e1_59
  obtain ⟨a1_60, e1_60, w1_60⟩ := one_int (k := .i64) (w := W) (c := x1_60) g1_60
  subst e1_60
  have kk2 := h2
  have lt2 : ∀ x ∈ p2, x.block < W.heap.size := by obtain ⟨m, hm⟩ := kk2; exact DataW.trod_lt m _ _ _ hm
  obtain ⟨a2, rfl, rfl, rfl, w2⟩ := open_int Try.underlying5 (hval 2 5 v2 rfl rfl) h2
  clear hA0 hval0 hsz0
  refine (PuAt.out (SendRight_w ⟨a0_0, a0_1, a0_2, a0_3, a0_4⟩ ⟨a1_0, a1_1, a1_2, a1_3, a1_4, a1_5, a1_6, a1_7, a1_8, a1_9, a1_10, a1_11, a1_12, a1_13, a1_14, a1_15, a1_16, a1_17, a1_18, a1_19, a1_20, a1_21, a1_22, a1_23, a1_24, a1_25, a1_26, a1_27, a1_28, a1_29, a1_30, a1_31, a1_32, a1_33, a1_34, a1_35, a1_36, a1_37, a1_38, a1_39, a1_40, a1_41, a1_42, a1_43, a1_44, a1_45, a1_46, a1_47, a1_48, a1_49, a1_50, a1_51, a1_52, a1_53, a1_54, a1_55, a1_56, a1_57, a1_58, a1_59, a1_60⟩ a2 (lit_u8 w2) W)).mono fun e W' ⟨he, bel⟩ => ?_
  subst he
  exact ⟨_, rfl, _, _, _, [], _, [], hW', trodAll_mk1 (shut_bool Try.underlying4 _), (trodAll_cons_mk (Below.trod laidOut (by kernel_rfl) (of_decide_eq_true (by kernel_rfl)) kk0 bel lt0) (trodAll_cons_mk (Below.trod laidOut (by kernel_rfl) (of_decide_eq_true (by kernel_rfl)) kk1 bel lt1) (trodAll_cons_mk (Below.trod laidOut (by kernel_rfl) (of_decide_eq_true (by kernel_rfl)) kk2 bel lt2) trodAll_mk0))), rfl, bel.frame _, fun h => by cases h⟩
theorem over : Rows.sendRightRow.holds Try.pinned (OpenSpec.ofChange Rows.sendRightSpec) :=
  OpenClaim.holds_of_wide 5 Try.f5 rfl rfl rfl rfl rfl rfl rfl ⟨rfl, rfl, rfl, rfl, rfl⟩ rfl rfl rfl rfl rfl (by kernel_rfl) Try.func5 (by kernel_rfl)
    (of_decide_eq_true (by kernel_rfl)) (by unfold Func.isWrapper; first | (rw [if_pos (by decide +kernel)]; kernel_rfl) | (rw [if_neg (by decide +kernel)]; exact ⟨rfl, rfl⟩))
    (fun os started H enc _ => lifted os started H enc)
theorem proved : Rows.SendRightSaid := over
#print axioms proved
end Go.Proofs.Ytmgoahmbdpoikaa.sendRight
namespace Go.Proofs.Ytmgoahmbdpoikaa
/-- The row, under a short name, for the claim. -/
theorem sendRight_holds : Rows.SendRightSaid := sendRight.proved
end Go.Proofs.Ytmgoahmbdpoikaa
