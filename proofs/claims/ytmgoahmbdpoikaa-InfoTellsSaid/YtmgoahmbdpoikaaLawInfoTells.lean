/- The law InfoTells of the given program, for every input: it returns true, and its arguments read afterwards as before. -/
import Derived.Test.YtmgoahmbdpoikaaRows
import Derived.Test.YtmgoahmbdpoikaaOpb
import Derived.Test.YtmgoahmbdpoikaaInfoL2
import Derived.WalkKit
import Derived.ProofKit
import Derived.OpenShut
import Derived.ShutString
import Derived.ChangeOld
import Derived.Below
import Derived.SizedLaws
namespace Go.Proofs.Ytmgoahmbdpoikaa.infoTells
open Go.ChangeShapes Go.WideShapes Go.ChangeAt Go.RowKit Go.Proofs.Ytmgoahmbdpoikaa.Am
open Go.ChangeMaps (open_string shut_string)
set_option linter.unusedVariables false
set_option linter.unusedSimpArgs false
theorem own : ownKnob Try.prog.godebug = none := by kernel_rfl
theorem laidOut : laidOutB Try.prog = true := by kernel_rfl
set_option maxRecDepth 100000 in
set_option maxHeartbeats 1000000 in
theorem lifted (os : Os) (started : os.Started) (H : Type) (enc : TypeId × Value → H) :
    ReturnsInHanded {} Try.checked os 7 .any (Rows.infoTellsSpec.pre6 enc Try.prog Try.f7 Rows.infoTellsRow.domain false) (Rows.infoTellsSpec.post enc Try.prog Try.f7 false true false false) := by
  refine returnsInHanded_of_change_sized (C := Try.checked) own started (by kernel_rfl) Try.func7
    (ChangeSpec.witness6 (enc := enc) (C := Try.checked) false ⟨#[], #[.agg #[.int .u64 0, .int .u64 0, .bool false, .bool false, .bool false, .int .i64 0, .int .u64 0, .int .u64 0, .int .u64 0, .int .u64 0, .int .i64 0, .int .i64 0, .int .i64 0, .int .i64 0, .int .u64 0, .int .u64 0, .int .u64 0, .int .u64 0, .int .i64 0, .int .i64 0, .int .i64 0, .int .i64 0, .int .i64 0, .int .i64 0, .bool false, .bool false, .bool false, .bool false, .bool false, .bool false, .bool false, .bool false, .bool false, .bool false, .bool false, .bool false, .bool false, .bool false, .bool false, .bool false, .bool false, .bool false, .bool false, .bool false, .bool false, .bool false, .bool false, .bool false, .bool false, .bool false, .int .i64 0, .int .i64 0, .int .i64 0, .int .i64 0, .int .i64 0, .int .i64 0, .int .i64 0, .int .i64 0, .int .i64 0, .int .i64 0, .int .i64 0], .agg #[.int .i64 0, .int .i64 0, .int .u64 0, .int .u64 0, .int .u64 0, .int .u64 0, .int .i64 0, .int .i64 0, .int .i64 0, .int .i64 0], .bool false], []⟩ 8 (by kernel_rfl) (by kernel_rfl) (by kernel_rfl) (by kernel_rfl)) ?_
  intro W base args ds gs before hval0 hW hcnd hsz0 _
  have hval : ∀ (j : Nat) t v, Try.f7.params[j]? = some t → args[j]? = some v → Value.okWide Try.prog W .any base t v := hval0
  have hW' := hW
  obtain ⟨p, q, hA0, hV, rfl, hfz, hnd⟩ := hW
  have hA : DataW.TrodAll enc Try.prog W 0 (fun _ => true) true Try.f7.params.toList args.toList ds p := hA0
  rw [Try.params7] at hA hval
  obtain ⟨v0, vs0, d0, ds0, p0, q0, hargs, rfl, rfl, h0, r0⟩ := trodAll_cons hA
  obtain ⟨v1, vs1, d1, ds1, p1, q1, rfl, rfl, rfl, h1, r1⟩ := trodAll_cons r0
  obtain ⟨v2, vs2, d2, ds2, p2, q2, rfl, rfl, rfl, h2, r2⟩ := trodAll_cons r1
  obtain ⟨rfl, rfl, rfl⟩ := trodAll_nil r2
  obtain rfl : args = #[v0, v1, v2] := by cases args; simp_all
  obtain ⟨rfl, rfl⟩ := trodVars_none hV
  have kk0 := h0
  have lt0 : ∀ x ∈ p0, x.block < W.heap.size := by obtain ⟨m, hm⟩ := kk0; exact DataW.trod_lt m _ _ _ hm
  obtain ⟨cs0, ev0, hk0⟩ := open_value (opens_struct (sz := 61) Try.underlying28 (by kernel_rfl) (opensF_cons (sz := 1) (opens_int (k := .u64) Try.underlying22) (by rfl) (by kernel_rfl) (opensF_cons (sz := 1) (opens_int (k := .u64) Try.underlying22) (by rfl) (by kernel_rfl) (opensF_cons (sz := 1) (opens_bool Try.underlying4) (by rfl) (by kernel_rfl) (opensF_cons (sz := 1) (opens_bool Try.underlying4) (by rfl) (by kernel_rfl) (opensF_cons (sz := 1) (opens_bool Try.underlying4) (by rfl) (by kernel_rfl) (opensF_cons (sz := 1) (opens_int (k := .i64) Try.underlying3) (by rfl) (by kernel_rfl) (opensF_cons (sz := 4) (opens_struct (sz := 4) Try.underlying24 (by kernel_rfl) (opensF_cons (sz := 1) (opens_int (k := .u64) Try.underlying22) (by rfl) (by kernel_rfl) (opensF_cons (sz := 1) (opens_int (k := .u64) Try.underlying22) (by rfl) (by kernel_rfl) (opensF_cons (sz := 1) (opens_int (k := .u64) Try.underlying22) (by rfl) (by kernel_rfl) (opensF_last (sz := 1) (opens_int (k := .u64) Try.underlying22) (by rfl) (by kernel_rfl)))))) (by rfl) (by kernel_rfl) (opensF_cons (sz := 4) (opens_struct (sz := 4) Try.underlying26 (by kernel_rfl) (opensF_cons (sz := 1) (opens_int (k := .i64) Try.underlying3) (by rfl) (by kernel_rfl) (opensF_cons (sz := 1) (opens_int (k := .i64) Try.underlying3) (by rfl) (by kernel_rfl) (opensF_cons (sz := 1) (opens_int (k := .i64) Try.underlying3) (by rfl) (by kernel_rfl) (opensF_last (sz := 1) (opens_int (k := .i64) Try.underlying3) (by rfl) (by kernel_rfl)))))) (by rfl) (by kernel_rfl) (opensF_cons (sz := 4) (opens_struct (sz := 4) Try.underlying24 (by kernel_rfl) (opensF_cons (sz := 1) (opens_int (k := .u64) Try.underlying22) (by rfl) (by kernel_rfl) (opensF_cons (sz := 1) (opens_int (k := .u64) Try.underlying22) (by rfl) (by kernel_rfl) (opensF_cons (sz := 1) (opens_int (k := .u64) Try.underlying22) (by rfl) (by kernel_rfl) (opensF_last (sz := 1) (opens_int (k := .u64) Try.underlying22) (by rfl) (by kernel_rfl)))))) (by rfl) (by kernel_rfl) (opensF_cons (sz := 4) (opens_struct (sz := 4) Try.underlying26 (by kernel_rfl) (opensF_cons (sz := 1) (opens_int (k := .i64) Try.underlying3) (by rfl) (by kernel_rfl) (opensF_cons (sz := 1) (opens_int (k := .i64) Try.underlying3) (by rfl) (by kernel_rfl) (opensF_cons (sz := 1) (opens_int (k := .i64) Try.underlying3) (by rfl) (by kernel_rfl) (opensF_last (sz := 1) (opens_int (k := .i64) Try.underlying3) (by rfl) (by kernel_rfl)))))) (by rfl) (by kernel_rfl) (opensF_cons (sz := 1) (opens_int (k := .i64) Try.underlying3) (by rfl) (by kernel_rfl) (opensF_cons (sz := 1) (opens_int (k := .i64) Try.underlying3) (by rfl) (by kernel_rfl) (opensF_cons (sz := 1) (opens_bool Try.underlying4) (by rfl) (by kernel_rfl) (opensF_cons (sz := 1) (opens_bool Try.underlying4) (by rfl) (by kernel_rfl) (opensF_cons (sz := 1) (opens_bool Try.underlying4) (by rfl) (by kernel_rfl) (opensF_cons (sz := 1) (opens_bool Try.underlying4) (by rfl) (by kernel_rfl) (opensF_cons (sz := 1) (opens_bool Try.underlying4) (by rfl) (by kernel_rfl) (opensF_cons (sz := 1) (opens_bool Try.underlying4) (by rfl) (by kernel_rfl) (opensF_cons (sz := 1) (opens_bool Try.underlying4) (by rfl) (by kernel_rfl) (opensF_cons (sz := 1) (opens_bool Try.underlying4) (by rfl) (by kernel_rfl) (opensF_cons (sz := 1) (opens_bool Try.underlying4) (by rfl) (by kernel_rfl) (opensF_cons (sz := 1) (opens_bool Try.underlying4) (by rfl) (by kernel_rfl) (opensF_cons (sz := 1) (opens_bool Try.underlying4) (by rfl) (by kernel_rfl) (opensF_cons (sz := 1) (opens_bool Try.underlying4) (by rfl) (by kernel_rfl) (opensF_cons (sz := 1) (opens_bool Try.underlying4) (by rfl) (by kernel_rfl) (opensF_cons (sz := 1) (opens_bool Try.underlying4) (by rfl) (by kernel_rfl) (opensF_cons (sz := 1) (opens_bool Try.underlying4) (by rfl) (by kernel_rfl) (opensF_cons (sz := 1) (opens_bool Try.underlying4) (by rfl) (by kernel_rfl) (opensF_cons (sz := 1) (opens_bool Try.underlying4) (by rfl) (by kernel_rfl) (opensF_cons (sz := 1) (opens_bool Try.underlying4) (by rfl) (by kernel_rfl) (opensF_cons (sz := 1) (opens_bool Try.underlying4) (by rfl) (by kernel_rfl) (opensF_cons (sz := 1) (opens_bool Try.underlying4) (by rfl) (by kernel_rfl) (opensF_cons (sz := 1) (opens_bool Try.underlying4) (by rfl) (by kernel_rfl) (opensF_cons (sz := 1) (opens_bool Try.underlying4) (by rfl) (by kernel_rfl) (opensF_cons (sz := 1) (opens_bool Try.underlying4) (by rfl) (by kernel_rfl) (opensF_cons (sz := 1) (opens_bool Try.underlying4) (by rfl) (by kernel_rfl) (opensF_cons (sz := 1) (opens_bool Try.underlying4) (by rfl) (by kernel_rfl) (opensF_cons (sz := 1) (opens_bool Try.underlying4) (by rfl) (by kernel_rfl) (opensF_cons (sz := 1) (opens_int (k := .i64) Try.underlying3) (by rfl) (by kernel_rfl) (opensF_cons (sz := 1) (opens_int (k := .i64) Try.underlying3) (by rfl) (by kernel_rfl) (opensF_cons (sz := 1) (opens_int (k := .i64) Try.underlying3) (by rfl) (by kernel_rfl) (opensF_cons (sz := 1) (opens_int (k := .i64) Try.underlying3) (by rfl) (by kernel_rfl) (opensF_cons (sz := 1) (opens_int (k := .i64) Try.underlying3) (by rfl) (by kernel_rfl) (opensF_cons (sz := 1) (opens_int (k := .i64) Try.underlying3) (by rfl) (by kernel_rfl) (opensF_cons (sz := 1) (opens_int (k := .i64) Try.underlying3) (by rfl) (by kernel_rfl) (opensF_cons (sz := 1) (opens_int (k := .i64) Try.underlying3) (by rfl) (by kernel_rfl) (opensF_cons (sz := 1) (opens_int (k := .i64) Try.underlying3) (by rfl) (by kernel_rfl) (opensF_cons (sz := 1) (opens_int (k := .i64) Try.underlying3) (by rfl) (by kernel_rfl) (opensF_last (sz := 1) (opens_int (k := .i64) Try.underlying3) (by rfl) (by kernel_rfl))))))))))))))))))))))))))))))))))))))))))))))))))) Try.underlying28 (hval 0 28 v0 rfl rfl) h0
  have hk0 : (RSt 61 (fun w cs => (RInt .u64) w (cs.take 1) ∧ (fun w cs => (RInt .u64) w (cs.take 1) ∧ (fun w cs => RBool w (cs.take 1) ∧ (fun w cs => RBool w (cs.take 1) ∧ (fun w cs => RBool w (cs.take 1) ∧ (fun w cs => (RInt .i64) w (cs.take 1) ∧ (fun w cs => (RSt 4 (fun w cs => (RInt .u64) w (cs.take 1) ∧ (fun w cs => (RInt .u64) w (cs.take 1) ∧ (fun w cs => (RInt .u64) w (cs.take 1) ∧ (fun w cs => (RInt .u64) w (cs.take 1)) w (cs.drop 1)) w (cs.drop 1)) w (cs.drop 1))) w (cs.take 4) ∧ (fun w cs => (RSt 4 (fun w cs => (RInt .i64) w (cs.take 1) ∧ (fun w cs => (RInt .i64) w (cs.take 1) ∧ (fun w cs => (RInt .i64) w (cs.take 1) ∧ (fun w cs => (RInt .i64) w (cs.take 1)) w (cs.drop 1)) w (cs.drop 1)) w (cs.drop 1))) w (cs.take 4) ∧ (fun w cs => (RSt 4 (fun w cs => (RInt .u64) w (cs.take 1) ∧ (fun w cs => (RInt .u64) w (cs.take 1) ∧ (fun w cs => (RInt .u64) w (cs.take 1) ∧ (fun w cs => (RInt .u64) w (cs.take 1)) w (cs.drop 1)) w (cs.drop 1)) w (cs.drop 1))) w (cs.take 4) ∧ (fun w cs => (RSt 4 (fun w cs => (RInt .i64) w (cs.take 1) ∧ (fun w cs => (RInt .i64) w (cs.take 1) ∧ (fun w cs => (RInt .i64) w (cs.take 1) ∧ (fun w cs => (RInt .i64) w (cs.take 1)) w (cs.drop 1)) w (cs.drop 1)) w (cs.drop 1))) w (cs.take 4) ∧ (fun w cs => (RInt .i64) w (cs.take 1) ∧ (fun w cs => (RInt .i64) w (cs.take 1) ∧ (fun w cs => RBool w (cs.take 1) ∧ (fun w cs => RBool w (cs.take 1) ∧ (fun w cs => RBool w (cs.take 1) ∧ (fun w cs => RBool w (cs.take 1) ∧ (fun w cs => RBool w (cs.take 1) ∧ (fun w cs => RBool w (cs.take 1) ∧ (fun w cs => RBool w (cs.take 1) ∧ (fun w cs => RBool w (cs.take 1) ∧ (fun w cs => RBool w (cs.take 1) ∧ (fun w cs => RBool w (cs.take 1) ∧ (fun w cs => RBool w (cs.take 1) ∧ (fun w cs => RBool w (cs.take 1) ∧ (fun w cs => RBool w (cs.take 1) ∧ (fun w cs => RBool w (cs.take 1) ∧ (fun w cs => RBool w (cs.take 1) ∧ (fun w cs => RBool w (cs.take 1) ∧ (fun w cs => RBool w (cs.take 1) ∧ (fun w cs => RBool w (cs.take 1) ∧ (fun w cs => RBool w (cs.take 1) ∧ (fun w cs => RBool w (cs.take 1) ∧ (fun w cs => RBool w (cs.take 1) ∧ (fun w cs => RBool w (cs.take 1) ∧ (fun w cs => RBool w (cs.take 1) ∧ (fun w cs => RBool w (cs.take 1) ∧ (fun w cs => RBool w (cs.take 1) ∧ (fun w cs => RBool w (cs.take 1) ∧ (fun w cs => (RInt .i64) w (cs.take 1) ∧ (fun w cs => (RInt .i64) w (cs.take 1) ∧ (fun w cs => (RInt .i64) w (cs.take 1) ∧ (fun w cs => (RInt .i64) w (cs.take 1) ∧ (fun w cs => (RInt .i64) w (cs.take 1) ∧ (fun w cs => (RInt .i64) w (cs.take 1) ∧ (fun w cs => (RInt .i64) w (cs.take 1) ∧ (fun w cs => (RInt .i64) w (cs.take 1) ∧ (fun w cs => (RInt .i64) w (cs.take 1) ∧ (fun w cs => (RInt .i64) w (cs.take 1) ∧ (fun w cs => (RInt .i64) w (cs.take 1)) w (cs.drop 1)) w (cs.drop 1)) w (cs.drop 1)) w (cs.drop 1)) w (cs.drop 1)) w (cs.drop 1)) w (cs.drop 1)) w (cs.drop 1)) w (cs.drop 1)) w (cs.drop 1)) w (cs.drop 1)) w (cs.drop 1)) w (cs.drop 1)) w (cs.drop 1)) w (cs.drop 1)) w (cs.drop 1)) w (cs.drop 1)) w (cs.drop 1)) w (cs.drop 1)) w (cs.drop 1)) w (cs.drop 1)) w (cs.drop 1)) w (cs.drop 1)) w (cs.drop 1)) w (cs.drop 1)) w (cs.drop 1)) w (cs.drop 1)) w (cs.drop 1)) w (cs.drop 1)) w (cs.drop 1)) w (cs.drop 1)) w (cs.drop 1)) w (cs.drop 1)) w (cs.drop 1)) w (cs.drop 1)) w (cs.drop 1)) w (cs.drop 1)) w (cs.drop 1)) w (cs.drop 4)) w (cs.drop 4)) w (cs.drop 4)) w (cs.drop 4)) w (cs.drop 1)) w (cs.drop 1)) w (cs.drop 1)) w (cs.drop 1)) w (cs.drop 1)) w (cs.drop 1))) W cs0 := hk0
  have z0_0 : cs0.length = 61 := hk0.1
  obtain ⟨x0_0, y0_1, f0_0, z0_1⟩ := cons_of z0_0
  subst f0_0
  obtain ⟨x0_1, y0_2, f0_1, z0_2⟩ := cons_of z0_1
  subst f0_1
  obtain ⟨x0_2, y0_3, f0_2, z0_3⟩ := cons_of z0_2
  subst f0_2
  obtain ⟨x0_3, y0_4, f0_3, z0_4⟩ := cons_of z0_3
  subst f0_3
  obtain ⟨x0_4, y0_5, f0_4, z0_5⟩ := cons_of z0_4
  subst f0_4
  obtain ⟨x0_5, y0_6, f0_5, z0_6⟩ := cons_of z0_5
  subst f0_5
  obtain ⟨x0_6, y0_7, f0_6, z0_7⟩ := cons_of z0_6
  subst f0_6
  obtain ⟨x0_7, y0_8, f0_7, z0_8⟩ := cons_of z0_7
  subst f0_7
  obtain ⟨x0_8, y0_9, f0_8, z0_9⟩ := cons_of z0_8
  subst f0_8
  obtain ⟨x0_9, y0_10, f0_9, z0_10⟩ := cons_of z0_9
  subst f0_9
  obtain ⟨x0_10, y0_11, f0_10, z0_11⟩ := cons_of z0_10
  subst f0_10
  obtain ⟨x0_11, y0_12, f0_11, z0_12⟩ := cons_of z0_11
  subst f0_11
  obtain ⟨x0_12, y0_13, f0_12, z0_13⟩ := cons_of z0_12
  subst f0_12
  obtain ⟨x0_13, y0_14, f0_13, z0_14⟩ := cons_of z0_13
  subst f0_13
  obtain ⟨x0_14, y0_15, f0_14, z0_15⟩ := cons_of z0_14
  subst f0_14
  obtain ⟨x0_15, y0_16, f0_15, z0_16⟩ := cons_of z0_15
  subst f0_15
  obtain ⟨x0_16, y0_17, f0_16, z0_17⟩ := cons_of z0_16
  subst f0_16
  obtain ⟨x0_17, y0_18, f0_17, z0_18⟩ := cons_of z0_17
  subst f0_17
  obtain ⟨x0_18, y0_19, f0_18, z0_19⟩ := cons_of z0_18
  subst f0_18
  obtain ⟨x0_19, y0_20, f0_19, z0_20⟩ := cons_of z0_19
  subst f0_19
  obtain ⟨x0_20, y0_21, f0_20, z0_21⟩ := cons_of z0_20
  subst f0_20
  obtain ⟨x0_21, y0_22, f0_21, z0_22⟩ := cons_of z0_21
  subst f0_21
  obtain ⟨x0_22, y0_23, f0_22, z0_23⟩ := cons_of z0_22
  subst f0_22
  obtain ⟨x0_23, y0_24, f0_23, z0_24⟩ := cons_of z0_23
  subst f0_23
  obtain ⟨x0_24, y0_25, f0_24, z0_25⟩ := cons_of z0_24
  subst f0_24
  obtain ⟨x0_25, y0_26, f0_25, z0_26⟩ := cons_of z0_25
  subst f0_25
  obtain ⟨x0_26, y0_27, f0_26, z0_27⟩ := cons_of z0_26
  subst f0_26
  obtain ⟨x0_27, y0_28, f0_27, z0_28⟩ := cons_of z0_27
  subst f0_27
  obtain ⟨x0_28, y0_29, f0_28, z0_29⟩ := cons_of z0_28
  subst f0_28
  obtain ⟨x0_29, y0_30, f0_29, z0_30⟩ := cons_of z0_29
  subst f0_29
  obtain ⟨x0_30, y0_31, f0_30, z0_31⟩ := cons_of z0_30
  subst f0_30
  obtain ⟨x0_31, y0_32, f0_31, z0_32⟩ := cons_of z0_31
  subst f0_31
  obtain ⟨x0_32, y0_33, f0_32, z0_33⟩ := cons_of z0_32
  subst f0_32
  obtain ⟨x0_33, y0_34, f0_33, z0_34⟩ := cons_of z0_33
  subst f0_33
  obtain ⟨x0_34, y0_35, f0_34, z0_35⟩ := cons_of z0_34
  subst f0_34
  obtain ⟨x0_35, y0_36, f0_35, z0_36⟩ := cons_of z0_35
  subst f0_35
  obtain ⟨x0_36, y0_37, f0_36, z0_37⟩ := cons_of z0_36
  subst f0_36
  obtain ⟨x0_37, y0_38, f0_37, z0_38⟩ := cons_of z0_37
  subst f0_37
  obtain ⟨x0_38, y0_39, f0_38, z0_39⟩ := cons_of z0_38
  subst f0_38
  obtain ⟨x0_39, y0_40, f0_39, z0_40⟩ := cons_of z0_39
  subst f0_39
  obtain ⟨x0_40, y0_41, f0_40, z0_41⟩ := cons_of z0_40
  subst f0_40
  obtain ⟨x0_41, y0_42, f0_41, z0_42⟩ := cons_of z0_41
  subst f0_41
  obtain ⟨x0_42, y0_43, f0_42, z0_43⟩ := cons_of z0_42
  subst f0_42
  obtain ⟨x0_43, y0_44, f0_43, z0_44⟩ := cons_of z0_43
  subst f0_43
  obtain ⟨x0_44, y0_45, f0_44, z0_45⟩ := cons_of z0_44
  subst f0_44
  obtain ⟨x0_45, y0_46, f0_45, z0_46⟩ := cons_of z0_45
  subst f0_45
  obtain ⟨x0_46, y0_47, f0_46, z0_47⟩ := cons_of z0_46
  subst f0_46
  obtain ⟨x0_47, y0_48, f0_47, z0_48⟩ := cons_of z0_47
  subst f0_47
  obtain ⟨x0_48, y0_49, f0_48, z0_49⟩ := cons_of z0_48
  subst f0_48
  obtain ⟨x0_49, y0_50, f0_49, z0_50⟩ := cons_of z0_49
  subst f0_49
  obtain ⟨x0_50, y0_51, f0_50, z0_51⟩ := cons_of z0_50
  subst f0_50
  obtain ⟨x0_51, y0_52, f0_51, z0_52⟩ := cons_of z0_51
  subst f0_51
  obtain ⟨x0_52, y0_53, f0_52, z0_53⟩ := cons_of z0_52
  subst f0_52
  obtain ⟨x0_53, y0_54, f0_53, z0_54⟩ := cons_of z0_53
  subst f0_53
  obtain ⟨x0_54, y0_55, f0_54, z0_55⟩ := cons_of z0_54
  subst f0_54
  obtain ⟨x0_55, y0_56, f0_55, z0_56⟩ := cons_of z0_55
  subst f0_55
  obtain ⟨x0_56, y0_57, f0_56, z0_57⟩ := cons_of z0_56
  subst f0_56
  obtain ⟨x0_57, y0_58, f0_57, z0_58⟩ := cons_of z0_57
  subst f0_57
  obtain ⟨x0_58, y0_59, f0_58, z0_59⟩ := cons_of z0_58
  subst f0_58
  obtain ⟨x0_59, y0_60, f0_59, z0_60⟩ := cons_of z0_59
  subst f0_59
  obtain ⟨x0_60, y0_61, f0_60, z0_61⟩ := cons_of z0_60
  subst f0_60
  obtain rfl := nil_of z0_61
  have g0_0 : (RInt .u64) W [x0_0] := hk0.2.1
  have g0_1 : (RInt .u64) W [x0_1] := hk0.2.2.1
  have g0_2 : RBool W [x0_2] := hk0.2.2.2.1
  have g0_3 : RBool W [x0_3] := hk0.2.2.2.2.1
  have g0_4 : RBool W [x0_4] := hk0.2.2.2.2.2.1
  have g0_5 : (RInt .i64) W [x0_5] := hk0.2.2.2.2.2.2.1
  have g0_6 : (RInt .u64) W [x0_6] := hk0.2.2.2.2.2.2.2.1.2.1
  have g0_7 : (RInt .u64) W [x0_7] := hk0.2.2.2.2.2.2.2.1.2.2.1
  have g0_8 : (RInt .u64) W [x0_8] := hk0.2.2.2.2.2.2.2.1.2.2.2.1
  have g0_9 : (RInt .u64) W [x0_9] := hk0.2.2.2.2.2.2.2.1.2.2.2.2
  have g0_10 : (RInt .i64) W [x0_10] := hk0.2.2.2.2.2.2.2.2.1.2.1
  have g0_11 : (RInt .i64) W [x0_11] := hk0.2.2.2.2.2.2.2.2.1.2.2.1
  have g0_12 : (RInt .i64) W [x0_12] := hk0.2.2.2.2.2.2.2.2.1.2.2.2.1
  have g0_13 : (RInt .i64) W [x0_13] := hk0.2.2.2.2.2.2.2.2.1.2.2.2.2
  have g0_14 : (RInt .u64) W [x0_14] := hk0.2.2.2.2.2.2.2.2.2.1.2.1
  have g0_15 : (RInt .u64) W [x0_15] := hk0.2.2.2.2.2.2.2.2.2.1.2.2.1
  have g0_16 : (RInt .u64) W [x0_16] := hk0.2.2.2.2.2.2.2.2.2.1.2.2.2.1
  have g0_17 : (RInt .u64) W [x0_17] := hk0.2.2.2.2.2.2.2.2.2.1.2.2.2.2
  have g0_18 : (RInt .i64) W [x0_18] := hk0.2.2.2.2.2.2.2.2.2.2.1.2.1
  have g0_19 : (RInt .i64) W [x0_19] := hk0.2.2.2.2.2.2.2.2.2.2.1.2.2.1
  have g0_20 : (RInt .i64) W [x0_20] := hk0.2.2.2.2.2.2.2.2.2.2.1.2.2.2.1
  have g0_21 : (RInt .i64) W [x0_21] := hk0.2.2.2.2.2.2.2.2.2.2.1.2.2.2.2
  have g0_22 : (RInt .i64) W [x0_22] := hk0.2.2.2.2.2.2.2.2.2.2.2.1
  have g0_23 : (RInt .i64) W [x0_23] := hk0.2.2.2.2.2.2.2.2.2.2.2.2.1
  have g0_24 : RBool W [x0_24] := hk0.2.2.2.2.2.2.2.2.2.2.2.2.2.1
  have g0_25 : RBool W [x0_25] := hk0.2.2.2.2.2.2.2.2.2.2.2.2.2.2.1
  have g0_26 : RBool W [x0_26] := hk0.2.2.2.2.2.2.2.2.2.2.2.2.2.2.2.1
  have g0_27 : RBool W [x0_27] := hk0.2.2.2.2.2.2.2.2.2.2.2.2.2.2.2.2.1
  have g0_28 : RBool W [x0_28] := hk0.2.2.2.2.2.2.2.2.2.2.2.2.2.2.2.2.2.1
  have g0_29 : RBool W [x0_29] := hk0.2.2.2.2.2.2.2.2.2.2.2.2.2.2.2.2.2.2.1
  have g0_30 : RBool W [x0_30] := hk0.2.2.2.2.2.2.2.2.2.2.2.2.2.2.2.2.2.2.2.1
  have g0_31 : RBool W [x0_31] := hk0.2.2.2.2.2.2.2.2.2.2.2.2.2.2.2.2.2.2.2.2.1
  have g0_32 : RBool W [x0_32] := hk0.2.2.2.2.2.2.2.2.2.2.2.2.2.2.2.2.2.2.2.2.2.1
  have g0_33 : RBool W [x0_33] := hk0.2.2.2.2.2.2.2.2.2.2.2.2.2.2.2.2.2.2.2.2.2.2.1
  have g0_34 : RBool W [x0_34] := hk0.2.2.2.2.2.2.2.2.2.2.2.2.2.2.2.2.2.2.2.2.2.2.2.1
  have g0_35 : RBool W [x0_35] := hk0.2.2.2.2.2.2.2.2.2.2.2.2.2.2.2.2.2.2.2.2.2.2.2.2.1
  have g0_36 : RBool W [x0_36] := hk0.2.2.2.2.2.2.2.2.2.2.2.2.2.2.2.2.2.2.2.2.2.2.2.2.2.1
  have g0_37 : RBool W [x0_37] := hk0.2.2.2.2.2.2.2.2.2.2.2.2.2.2.2.2.2.2.2.2.2.2.2.2.2.2.1
  have g0_38 : RBool W [x0_38] := hk0.2.2.2.2.2.2.2.2.2.2.2.2.2.2.2.2.2.2.2.2.2.2.2.2.2.2.2.1
  have g0_39 : RBool W [x0_39] := hk0.2.2.2.2.2.2.2.2.2.2.2.2.2.2.2.2.2.2.2.2.2.2.2.2.2.2.2.2.1
  have g0_40 : RBool W [x0_40] := hk0.2.2.2.2.2.2.2.2.2.2.2.2.2.2.2.2.2.2.2.2.2.2.2.2.2.2.2.2.2.1
  have g0_41 : RBool W [x0_41] := hk0.2.2.2.2.2.2.2.2.2.2.2.2.2.2.2.2.2.2.2.2.2.2.2.2.2.2.2.2.2.2.1
  have g0_42 : RBool W [x0_42] := hk0.2.2.2.2.2.2.2.2.2.2.2.2.2.2.2.2.2.2.2.2.2.2.2.2.2.2.2.2.2.2.2.1
  have g0_43 : RBool W [x0_43] := hk0.2.2.2.2.2.2.2.2.2.2.2.2.2.2.2.2.2.2.2.2.2.2.2.2.2.2.2.2.2.2.2.2.1
  have g0_44 : RBool W [x0_44] := hk0.2.2.2.2.2.2.2.2.2.2.2.2.2.2.2.2.2.2.2.2.2.2.2.2.2.2.2.2.2.2.2.2.2.1
  have g0_45 : RBool W [x0_45] := hk0.2.2.2.2.2.2.2.2.2.2.2.2.2.2.2.2.2.2.2.2.2.2.2.2.2.2.2.2.2.2.2.2.2.2.1
  have g0_46 : RBool W [x0_46] := hk0.2.2.2.2.2.2.2.2.2.2.2.2.2.2.2.2.2.2.2.2.2.2.2.2.2.2.2.2.2.2.2.2.2.2.2.1
  have g0_47 : RBool W [x0_47] := hk0.2.2.2.2.2.2.2.2.2.2.2.2.2.2.2.2.2.2.2.2.2.2.2.2.2.2.2.2.2.2.2.2.2.2.2.2.1
  have g0_48 : RBool W [x0_48] := hk0.2.2.2.2.2.2.2.2.2.2.2.2.2.2.2.2.2.2.2.2.2.2.2.2.2.2.2.2.2.2.2.2.2.2.2.2.2.1
  have g0_49 : RBool W [x0_49] := hk0.2.2.2.2.2.2.2.2.2.2.2.2.2.2.2.2.2.2.2.2.2.2.2.2.2.2.2.2.2.2.2.2.2.2.2.2.2.2.1
  have g0_50 : (RInt .i64) W [x0_50] := hk0.2.2.2.2.2.2.2.2.2.2.2.2.2.2.2.2.2.2.2.2.2.2.2.2.2.2.2.2.2.2.2.2.2.2.2.2.2.2.2.1
  have g0_51 : (RInt .i64) W [x0_51] := hk0.2.2.2.2.2.2.2.2.2.2.2.2.2.2.2.2.2.2.2.2.2.2.2.2.2.2.2.2.2.2.2.2.2.2.2.2.2.2.2.2.1
  have g0_52 : (RInt .i64) W [x0_52] := hk0.2.2.2.2.2.2.2.2.2.2.2.2.2.2.2.2.2.2.2.2.2.2.2.2.2.2.2.2.2.2.2.2.2.2.2.2.2.2.2.2.2.1
  have g0_53 : (RInt .i64) W [x0_53] := hk0.2.2.2.2.2.2.2.2.2.2.2.2.2.2.2.2.2.2.2.2.2.2.2.2.2.2.2.2.2.2.2.2.2.2.2.2.2.2.2.2.2.2.1
  have g0_54 : (RInt .i64) W [x0_54] := hk0.2.2.2.2.2.2.2.2.2.2.2.2.2.2.2.2.2.2.2.2.2.2.2.2.2.2.2.2.2.2.2.2.2.2.2.2.2.2.2.2.2.2.2.1
  have g0_55 : (RInt .i64) W [x0_55] := hk0.2.2.2.2.2.2.2.2.2.2.2.2.2.2.2.2.2.2.2.2.2.2.2.2.2.2.2.2.2.2.2.2.2.2.2.2.2.2.2.2.2.2.2.2.1
  have g0_56 : (RInt .i64) W [x0_56] := hk0.2.2.2.2.2.2.2.2.2.2.2.2.2.2.2.2.2.2.2.2.2.2.2.2.2.2.2.2.2.2.2.2.2.2.2.2.2.2.2.2.2.2.2.2.2.1
  have g0_57 : (RInt .i64) W [x0_57] := hk0.2.2.2.2.2.2.2.2.2.2.2.2.2.2.2.2.2.2.2.2.2.2.2.2.2.2.2.2.2.2.2.2.2.2.2.2.2.2.2.2.2.2.2.2.2.2.1
  have g0_58 : (RInt .i64) W [x0_58] := hk0.2.2.2.2.2.2.2.2.2.2.2.2.2.2.2.2.2.2.2.2.2.2.2.2.2.2.2.2.2.2.2.2.2.2.2.2.2.2.2.2.2.2.2.2.2.2.2.1
  have g0_59 : (RInt .i64) W [x0_59] := hk0.2.2.2.2.2.2.2.2.2.2.2.2.2.2.2.2.2.2.2.2.2.2.2.2.2.2.2.2.2.2.2.2.2.2.2.2.2.2.2.2.2.2.2.2.2.2.2.2.1
  have g0_60 : (RInt .i64) W [x0_60] := hk0.2.2.2.2.2.2.2.2.2.2.2.2.2.2.2.2.2.2.2.2.2.2.2.2.2.2.2.2.2.2.2.2.2.2.2.2.2.2.2.2.2.2.2.2.2.2.2.2.2
  clear hk0
  subst ev0
  obtain ⟨a0_0, e0_0, w0_0⟩ := one_int (k := .u64) (w := W) (c := x0_0) g0_0
  subst e0_0
  obtain ⟨a0_1, e0_1, w0_1⟩ := one_int (k := .u64) (w := W) (c := x0_1) g0_1
  subst e0_1
  obtain ⟨a0_2, e0_2⟩ := one_bool (w := W) (c := x0_2) g0_2
  subst e0_2
  obtain ⟨a0_3, e0_3⟩ := one_bool (w := W) (c := x0_3) g0_3
  subst e0_3
  obtain ⟨a0_4, e0_4⟩ := one_bool (w := W) (c := x0_4) g0_4
  subst e0_4
  obtain ⟨a0_5, e0_5, w0_5⟩ := one_int (k := .i64) (w := W) (c := x0_5) g0_5
  subst e0_5
  obtain ⟨a0_6, e0_6, w0_6⟩ := one_int (k := .u64) (w := W) (c := x0_6) g0_6
  subst e0_6
  obtain ⟨a0_7, e0_7, w0_7⟩ := one_int (k := .u64) (w := W) (c := x0_7) g0_7
  subst e0_7
  obtain ⟨a0_8, e0_8, w0_8⟩ := one_int (k := .u64) (w := W) (c := x0_8) g0_8
  subst e0_8
  obtain ⟨a0_9, e0_9, w0_9⟩ := one_int (k := .u64) (w := W) (c := x0_9) g0_9
  subst e0_9
  obtain ⟨a0_10, e0_10, w0_10⟩ := one_int (k := .i64) (w := W) (c := x0_10) g0_10
  subst e0_10
  obtain ⟨a0_11, e0_11, w0_11⟩ := one_int (k := .i64) (w := W) (c := x0_11) g0_11
  subst e0_11
  obtain ⟨a0_12, e0_12, w0_12⟩ := one_int (k := .i64) (w := W) (c := x0_12) g0_12
  subst e0_12
  obtain ⟨a0_13, e0_13, w0_13⟩ := one_int (k := .i64) (w := W) (c := x0_13) g0_13
  subst e0_13
  obtain ⟨a0_14, e0_14, w0_14⟩ := one_int (k := .u64) (w := W) (c := x0_14) g0_14
  subst e0_14
  obtain ⟨a0_15, e0_15, w0_15⟩ := one_int (k := .u64) (w := W) (c := x0_15) g0_15
  subst e0_15
  obtain ⟨a0_16, e0_16, w0_16⟩ := one_int (k := .u64) (w := W) (c := x0_16) g0_16
  subst e0_16
  obtain ⟨a0_17, e0_17, w0_17⟩ := one_int (k := .u64) (w := W) (c := x0_17) g0_17
  subst e0_17
  obtain ⟨a0_18, e0_18, w0_18⟩ := one_int (k := .i64) (w := W) (c := x0_18) g0_18
  subst e0_18
  obtain ⟨a0_19, e0_19, w0_19⟩ := one_int (k := .i64) (w := W) (c := x0_19) g0_19
  subst e0_19
  obtain ⟨a0_20, e0_20, w0_20⟩ := one_int (k := .i64) (w := W) (c := x0_20) g0_20
  subst e0_20
  obtain ⟨a0_21, e0_21, w0_21⟩ := one_int (k := .i64) (w := W) (c := x0_21) g0_21
  subst e0_21
  obtain ⟨a0_22, e0_22, w0_22⟩ := one_int (k := .i64) (w := W) (c := x0_22) g0_22
  subst e0_22
  obtain ⟨a0_23, e0_23, w0_23⟩ := one_int (k := .i64) (w := W) (c := x0_23) g0_23
  subst e0_23
  obtain ⟨a0_24, e0_24⟩ := one_bool (w := W) (c := x0_24) g0_24
  subst e0_24
  obtain ⟨a0_25, e0_25⟩ := one_bool (w := W) (c := x0_25) g0_25
  subst e0_25
  obtain ⟨a0_26, e0_26⟩ := one_bool (w := W) (c := x0_26) g0_26
  subst e0_26
  obtain ⟨a0_27, e0_27⟩ := one_bool (w := W) (c := x0_27) g0_27
  subst e0_27
  obtain ⟨a0_28, e0_28⟩ := one_bool (w := W) (c := x0_28) g0_28
  subst e0_28
  obtain ⟨a0_29, e0_29⟩ := one_bool (w := W) (c := x0_29) g0_29
  subst e0_29
  obtain ⟨a0_30, e0_30⟩ := one_bool (w := W) (c := x0_30) g0_30
  subst e0_30
  obtain ⟨a0_31, e0_31⟩ := one_bool (w := W) (c := x0_31) g0_31
  subst e0_31
  obtain ⟨a0_32, e0_32⟩ := one_bool (w := W) (c := x0_32) g0_32
  subst e0_32
  obtain ⟨a0_33, e0_33⟩ := one_bool (w := W) (c := x0_33) g0_33
  subst e0_33
  obtain ⟨a0_34, e0_34⟩ := one_bool (w := W) (c := x0_34) g0_34
  subst e0_34
  obtain ⟨a0_35, e0_35⟩ := one_bool (w := W) (c := x0_35) g0_35
  subst e0_35
  obtain ⟨a0_36, e0_36⟩ := one_bool (w := W) (c := x0_36) g0_36
  subst e0_36
  obtain ⟨a0_37, e0_37⟩ := one_bool (w := W) (c := x0_37) g0_37
  subst e0_37
  obtain ⟨a0_38, e0_38⟩ := one_bool (w := W) (c := x0_38) g0_38
  subst e0_38
  obtain ⟨a0_39, e0_39⟩ := one_bool (w := W) (c := x0_39) g0_39
  subst e0_39
  obtain ⟨a0_40, e0_40⟩ := one_bool (w := W) (c := x0_40) g0_40
  subst e0_40
  obtain ⟨a0_41, e0_41⟩ := one_bool (w := W) (c := x0_41) g0_41
  subst e0_41
  obtain ⟨a0_42, e0_42⟩ := one_bool (w := W) (c := x0_42) g0_42
  subst e0_42
  obtain ⟨a0_43, e0_43⟩ := one_bool (w := W) (c := x0_43) g0_43
  subst e0_43
  obtain ⟨a0_44, e0_44⟩ := one_bool (w := W) (c := x0_44) g0_44
  subst e0_44
  obtain ⟨a0_45, e0_45⟩ := one_bool (w := W) (c := x0_45) g0_45
  subst e0_45
  obtain ⟨a0_46, e0_46⟩ := one_bool (w := W) (c := x0_46) g0_46
  subst e0_46
  obtain ⟨a0_47, e0_47⟩ := one_bool (w := W) (c := x0_47) g0_47
  subst e0_47
  obtain ⟨a0_48, e0_48⟩ := one_bool (w := W) (c := x0_48) g0_48
  subst e0_48
  obtain ⟨a0_49, e0_49⟩ := one_bool (w := W) (c := x0_49) g0_49
  subst e0_49
  obtain ⟨a0_50, e0_50, w0_50⟩ := one_int (k := .i64) (w := W) (c := x0_50) g0_50
  subst e0_50
  obtain ⟨a0_51, e0_51, w0_51⟩ := one_int (k := .i64) (w := W) (c := x0_51) g0_51
  subst e0_51
  obtain ⟨a0_52, e0_52, w0_52⟩ := one_int (k := .i64) (w := W) (c := x0_52) g0_52
  subst e0_52
  obtain ⟨a0_53, e0_53, w0_53⟩ := one_int (k := .i64) (w := W) (c := x0_53) g0_53
  subst e0_53
  obtain ⟨a0_54, e0_54, w0_54⟩ := one_int (k := .i64) (w := W) (c := x0_54) g0_54
  subst e0_54
  obtain ⟨a0_55, e0_55, w0_55⟩ := one_int (k := .i64) (w := W) (c := x0_55) g0_55
  subst e0_55
  obtain ⟨a0_56, e0_56, w0_56⟩ := one_int (k := .i64) (w := W) (c := x0_56) g0_56
  subst e0_56
  obtain ⟨a0_57, e0_57, w0_57⟩ := one_int (k := .i64) (w := W) (c := x0_57) g0_57
  subst e0_57
  obtain ⟨a0_58, e0_58, w0_58⟩ := one_int (k := .i64) (w := W) (c := x0_58) g0_58
  subst e0_58
  obtain ⟨a0_59, e0_59, w0_59⟩ := one_int (k := .i64) (w := W) (c := x0_59) g0_59
  subst e0_59
  obtain ⟨a0_60, e0_60, w0_60⟩ := one_int (k := .i64) (w := W) (c := x0_60) g0_60
  subst e0_60
  have kk1 := h1
  have lt1 : ∀ x ∈ p1, x.block < W.heap.size := by obtain ⟨m, hm⟩ := kk1; exact DataW.trod_lt m _ _ _ hm
  obtain ⟨cs1, ev1, hk1⟩ := open_value (opens_struct (sz := 10) Try.underlying40 (by kernel_rfl) (opensF_cons (sz := 1) (opens_int (k := .i64) Try.underlying3) (by rfl) (by kernel_rfl) (opensF_cons (sz := 1) (opens_int (k := .i64) Try.underlying3) (by rfl) (by kernel_rfl) (opensF_cons (sz := 4) (opens_struct (sz := 4) Try.underlying24 (by kernel_rfl) (opensF_cons (sz := 1) (opens_int (k := .u64) Try.underlying22) (by rfl) (by kernel_rfl) (opensF_cons (sz := 1) (opens_int (k := .u64) Try.underlying22) (by rfl) (by kernel_rfl) (opensF_cons (sz := 1) (opens_int (k := .u64) Try.underlying22) (by rfl) (by kernel_rfl) (opensF_last (sz := 1) (opens_int (k := .u64) Try.underlying22) (by rfl) (by kernel_rfl)))))) (by rfl) (by kernel_rfl) (opensF_cons (sz := 1) (opens_int (k := .i64) Try.underlying3) (by rfl) (by kernel_rfl) (opensF_cons (sz := 1) (opens_int (k := .i64) Try.underlying3) (by rfl) (by kernel_rfl) (opensF_cons (sz := 1) (opens_int (k := .i64) Try.underlying3) (by rfl) (by kernel_rfl) (opensF_last (sz := 1) (opens_int (k := .i64) Try.underlying3) (by rfl) (by kernel_rfl))))))))) Try.underlying40 (hval 1 40 v1 rfl rfl) h1
  have hk1 : (RSt 10 (fun w cs => (RInt .i64) w (cs.take 1) ∧ (fun w cs => (RInt .i64) w (cs.take 1) ∧ (fun w cs => (RSt 4 (fun w cs => (RInt .u64) w (cs.take 1) ∧ (fun w cs => (RInt .u64) w (cs.take 1) ∧ (fun w cs => (RInt .u64) w (cs.take 1) ∧ (fun w cs => (RInt .u64) w (cs.take 1)) w (cs.drop 1)) w (cs.drop 1)) w (cs.drop 1))) w (cs.take 4) ∧ (fun w cs => (RInt .i64) w (cs.take 1) ∧ (fun w cs => (RInt .i64) w (cs.take 1) ∧ (fun w cs => (RInt .i64) w (cs.take 1) ∧ (fun w cs => (RInt .i64) w (cs.take 1)) w (cs.drop 1)) w (cs.drop 1)) w (cs.drop 1)) w (cs.drop 4)) w (cs.drop 1)) w (cs.drop 1))) W cs1 := hk1
  have z1_0 : cs1.length = 10 := hk1.1
  obtain ⟨x1_0, y1_1, f1_0, z1_1⟩ := cons_of z1_0
  subst f1_0
  obtain ⟨x1_1, y1_2, f1_1, z1_2⟩ := cons_of z1_1
  subst f1_1
  obtain ⟨x1_2, y1_3, f1_2, z1_3⟩ := cons_of z1_2
  subst f1_2
  obtain ⟨x1_3, y1_4, f1_3, z1_4⟩ := cons_of z1_3
  subst f1_3
  obtain ⟨x1_4, y1_5, f1_4, z1_5⟩ := cons_of z1_4
  subst f1_4
  obtain ⟨x1_5, y1_6, f1_5, z1_6⟩ := cons_of z1_5
  subst f1_5
  obtain ⟨x1_6, y1_7, f1_6, z1_7⟩ := cons_of z1_6
  subst f1_6
  obtain ⟨x1_7, y1_8, f1_7, z1_8⟩ := cons_of z1_7
  subst f1_7
  obtain ⟨x1_8, y1_9, f1_8, z1_9⟩ := cons_of z1_8
  subst f1_8
  obtain ⟨x1_9, y1_10, f1_9, z1_10⟩ := cons_of z1_9
  subst f1_9
  obtain rfl := nil_of z1_10
  have g1_0 : (RInt .i64) W [x1_0] := hk1.2.1
  have g1_1 : (RInt .i64) W [x1_1] := hk1.2.2.1
  have g1_2 : (RInt .u64) W [x1_2] := hk1.2.2.2.1.2.1
  have g1_3 : (RInt .u64) W [x1_3] := hk1.2.2.2.1.2.2.1
  have g1_4 : (RInt .u64) W [x1_4] := hk1.2.2.2.1.2.2.2.1
  have g1_5 : (RInt .u64) W [x1_5] := hk1.2.2.2.1.2.2.2.2
  have g1_6 : (RInt .i64) W [x1_6] := hk1.2.2.2.2.1
  have g1_7 : (RInt .i64) W [x1_7] := hk1.2.2.2.2.2.1
  have g1_8 : (RInt .i64) W [x1_8] := hk1.2.2.2.2.2.2.1
  have g1_9 : (RInt .i64) W [x1_9] := hk1.2.2.2.2.2.2.2
  clear hk1
  subst ev1
  obtain ⟨a1_0, e1_0, w1_0⟩ := one_int (k := .i64) (w := W) (c := x1_0) g1_0
  subst e1_0
  obtain ⟨a1_1, e1_1, w1_1⟩ := one_int (k := .i64) (w := W) (c := x1_1) g1_1
  subst e1_1
  obtain ⟨a1_2, e1_2, w1_2⟩ := one_int (k := .u64) (w := W) (c := x1_2) g1_2
  subst e1_2
  obtain ⟨a1_3, e1_3, w1_3⟩ := one_int (k := .u64) (w := W) (c := x1_3) g1_3
  subst e1_3
  obtain ⟨a1_4, e1_4, w1_4⟩ := one_int (k := .u64) (w := W) (c := x1_4) g1_4
  subst e1_4
  obtain ⟨a1_5, e1_5, w1_5⟩ := one_int (k := .u64) (w := W) (c := x1_5) g1_5
  subst e1_5
  obtain ⟨a1_6, e1_6, w1_6⟩ := one_int (k := .i64) (w := W) (c := x1_6) g1_6
  subst e1_6
  obtain ⟨a1_7, e1_7, w1_7⟩ := one_int (k := .i64) (w := W) (c := x1_7) g1_7
  subst e1_7
  obtain ⟨a1_8, e1_8, w1_8⟩ := one_int (k := .i64) (w := W) (c := x1_8) g1_8
  subst e1_8
  obtain ⟨a1_9, e1_9, w1_9⟩ := one_int (k := .i64) (w := W) (c := x1_9) g1_9
  subst e1_9
  have kk2 := h2
  have lt2 : ∀ x ∈ p2, x.block < W.heap.size := by obtain ⟨m, hm⟩ := kk2; exact DataW.trod_lt m _ _ _ hm
  obtain ⟨a2, rfl, rfl, rfl⟩ := open_bool Try.underlying4 (hval 2 4 v2 rfl rfl) h2
  clear hA0 hval0 hsz0
  refine (PuAt.out (InfoTells_w ⟨a0_0, a0_1, a0_2, a0_3, a0_4, a0_5, a0_6, a0_7, a0_8, a0_9, a0_10, a0_11, a0_12, a0_13, a0_14, a0_15, a0_16, a0_17, a0_18, a0_19, a0_20, a0_21, a0_22, a0_23, a0_24, a0_25, a0_26, a0_27, a0_28, a0_29, a0_30, a0_31, a0_32, a0_33, a0_34, a0_35, a0_36, a0_37, a0_38, a0_39, a0_40, a0_41, a0_42, a0_43, a0_44, a0_45, a0_46, a0_47, a0_48, a0_49, a0_50, a0_51, a0_52, a0_53, a0_54, a0_55, a0_56, a0_57, a0_58, a0_59, a0_60⟩ ⟨a1_0, a1_1, a1_2, a1_3, a1_4, a1_5, a1_6, a1_7, a1_8, a1_9⟩ a2 ⟨lit_u64 w0_8, lit_u64 w0_9⟩ ⟨lit_u64 w1_4, lit_u64 w1_5⟩ W)).mono fun e W' ⟨he, bel⟩ => ?_
  subst he
  exact ⟨_, rfl, _, _, _, [], _, [], hW', trodAll_mk1 (shut_bool Try.underlying4 _), (trodAll_cons_mk (Below.trod laidOut (by kernel_rfl) (of_decide_eq_true (by kernel_rfl)) kk0 bel lt0) (trodAll_cons_mk (Below.trod laidOut (by kernel_rfl) (of_decide_eq_true (by kernel_rfl)) kk1 bel lt1) (trodAll_cons_mk (Below.trod laidOut (by kernel_rfl) (of_decide_eq_true (by kernel_rfl)) kk2 bel lt2) trodAll_mk0))), rfl, bel.frame _, fun h => by cases h⟩
theorem over : Rows.infoTellsRow.holds Try.pinned (OpenSpec.ofChange Rows.infoTellsSpec) :=
  OpenClaim.holds_of_wide 7 Try.f7 rfl rfl rfl rfl rfl rfl rfl ⟨rfl, rfl, rfl, rfl, rfl⟩ rfl rfl rfl rfl rfl (by kernel_rfl) Try.func7 (by kernel_rfl)
    (of_decide_eq_true (by kernel_rfl)) (by unfold Func.isWrapper; first | (rw [if_pos (by decide +kernel)]; kernel_rfl) | (rw [if_neg (by decide +kernel)]; exact ⟨rfl, rfl⟩))
    (fun os started H enc _ => lifted os started H enc)
theorem proved : Rows.InfoTellsSaid := over
#print axioms proved
end Go.Proofs.Ytmgoahmbdpoikaa.infoTells
namespace Go.Proofs.Ytmgoahmbdpoikaa
/-- The row, under a short name, for the claim. -/
theorem infoTells_holds : Rows.InfoTellsSaid := infoTells.proved
end Go.Proofs.Ytmgoahmbdpoikaa
