/- The law TransSafe of the given program, for every input: it returns true, and its arguments read afterwards as before. -/
import Derived.Test.YtmgoahmbdpoikaaRows
import Derived.Test.YtmgoahmbdpoikaaOpb
import Derived.Test.YtmgoahmbdpoikaaTrans10
import Derived.WalkKit
import Derived.ProofKit
import Derived.OpenShut
import Derived.ShutString
import Derived.ChangeOld
import Derived.Below
import Derived.SizedLaws
namespace Go.Proofs.Ytmgoahmbdpoikaa.transSafe
open Go.ChangeShapes Go.WideShapes Go.ChangeAt Go.RowKit Go.Proofs.Ytmgoahmbdpoikaa.Am
open Go.ChangeMaps (open_string shut_string)
set_option linter.unusedVariables false
set_option linter.unusedSimpArgs false
theorem own : ownKnob Try.prog.godebug = none := by kernel_rfl
theorem laidOut : laidOutB Try.prog = true := by kernel_rfl
set_option maxRecDepth 100000 in
set_option maxHeartbeats 1000000 in
theorem lifted (os : Os) (started : os.Started) (H : Type) (enc : TypeId × Value → H) :
    ReturnsInHanded {} Try.checked os 10 .any (Rows.transSafeSpec.pre6 enc Try.prog Try.f10 Rows.transSafeRow.domain false) (Rows.transSafeSpec.post enc Try.prog Try.f10 false true false false) := by
  refine returnsInHanded_of_change_sized (C := Try.checked) own started (by kernel_rfl) Try.func10
    (ChangeSpec.witness6 (enc := enc) (C := Try.checked) false ⟨#[], #[.agg #[.int .u64 0, .int .i64 0, .int .i64 0, .int .i64 0, .int .i64 0], .slice none 0 0], []⟩ 8 (by kernel_rfl) (by kernel_rfl) (by kernel_rfl) (by kernel_rfl)) ?_
  intro W base args ds gs before hval0 hW hcnd hsz0 _
  have hval : ∀ (j : Nat) t v, Try.f10.params[j]? = some t → args[j]? = some v → Value.okWide Try.prog W .any base t v := hval0
  have hW' := hW
  obtain ⟨p, q, hA0, hV, rfl, hfz, hnd⟩ := hW
  have hA : DataW.TrodAll enc Try.prog W 0 (fun _ => true) true Try.f10.params.toList args.toList ds p := hA0
  rw [Try.params10] at hA hval
  obtain ⟨v0, vs0, d0, ds0, p0, q0, hargs, rfl, rfl, h0, r0⟩ := trodAll_cons hA
  obtain ⟨v1, vs1, d1, ds1, p1, q1, rfl, rfl, rfl, h1, r1⟩ := trodAll_cons r0
  obtain ⟨rfl, rfl, rfl⟩ := trodAll_nil r1
  obtain rfl : args = #[v0, v1] := by cases args; simp_all
  obtain ⟨rfl, rfl⟩ := trodVars_none hV
  have kk0 := h0
  have lt0 : ∀ x ∈ p0, x.block < W.heap.size := by obtain ⟨m, hm⟩ := kk0; exact DataW.trod_lt m _ _ _ hm
  obtain ⟨cs0, ev0, hk0⟩ := open_value (opens_struct (sz := 5) Try.underlying33 (by kernel_rfl) (opensF_cons (sz := 1) (opens_int (k := .u64) Try.underlying22) (by rfl) (by kernel_rfl) (opensF_last (sz := 4) (opens_struct (sz := 4) Try.underlying26 (by kernel_rfl) (opensF_cons (sz := 1) (opens_int (k := .i64) Try.underlying3) (by rfl) (by kernel_rfl) (opensF_cons (sz := 1) (opens_int (k := .i64) Try.underlying3) (by rfl) (by kernel_rfl) (opensF_cons (sz := 1) (opens_int (k := .i64) Try.underlying3) (by rfl) (by kernel_rfl) (opensF_last (sz := 1) (opens_int (k := .i64) Try.underlying3) (by rfl) (by kernel_rfl)))))) (by rfl) (by kernel_rfl)))) Try.underlying33 (hval 0 33 v0 rfl rfl) h0
  have hk0 : (RSt 5 (fun w cs => (RInt .u64) w (cs.take 1) ∧ (fun w cs => (RSt 4 (fun w cs => (RInt .i64) w (cs.take 1) ∧ (fun w cs => (RInt .i64) w (cs.take 1) ∧ (fun w cs => (RInt .i64) w (cs.take 1) ∧ (fun w cs => (RInt .i64) w (cs.take 1)) w (cs.drop 1)) w (cs.drop 1)) w (cs.drop 1))) w (cs.take 4)) w (cs.drop 1))) W cs0 := hk0
  have z0_0 : cs0.length = 5 := hk0.1
  obtain ⟨x0_0, y0_1, f0_0, z0_1⟩ := cons_of z0_0
  subst f0_0
  obtain ⟨x0_1, y0_2, f0_1, z0_2⟩ := cons_of z0_1
  subst f0_1
  obtain ⟨x0_2, y0_3, f0_2, z0_3⟩ := cons_of z0_2
  subst f0_2
  obtain ⟨x0_3, y0_4, f0_3, z0_4⟩ := cons_of z0_3
  subst f0_3
  obtain ⟨x0_4, y0_5, f0_4, z0_5⟩ := cons_of z0_4
  subst f0_4
  obtain rfl := nil_of z0_5
  have g0_0 : (RInt .u64) W [x0_0] := hk0.2.1
  have g0_1 : (RInt .i64) W [x0_1] := hk0.2.2.2.1
  have g0_2 : (RInt .i64) W [x0_2] := hk0.2.2.2.2.1
  have g0_3 : (RInt .i64) W [x0_3] := hk0.2.2.2.2.2.1
  have g0_4 : (RInt .i64) W [x0_4] := hk0.2.2.2.2.2.2
  clear hk0
  subst ev0
  obtain ⟨a0_0, e0_0, w0_0⟩ := one_int (k := .u64) (w := W) (c := x0_0) g0_0
  subst e0_0
  obtain ⟨a0_1, e0_1, w0_1⟩ := one_int (k := .i64) (w := W) (c := x0_1) g0_1
  subst e0_1
  obtain ⟨a0_2, e0_2, w0_2⟩ := one_int (k := .i64) (w := W) (c := x0_2) g0_2
  subst e0_2
  obtain ⟨a0_3, e0_3, w0_3⟩ := one_int (k := .i64) (w := W) (c := x0_3) g0_3
  subst e0_3
  obtain ⟨a0_4, e0_4, w0_4⟩ := one_int (k := .i64) (w := W) (c := x0_4) g0_4
  subst e0_4
  have kk1 := h1
  have lt1 : ∀ x ∈ p1, x.block < W.heap.size := by obtain ⟨m, hm⟩ := kk1; exact DataW.trod_lt m _ _ _ hm
  have hk1 : (RSl 61 (RSt 61 (fun w cs => (RInt .u64) w (cs.take 1) ∧ (fun w cs => (RInt .u64) w (cs.take 1) ∧ (fun w cs => RBool w (cs.take 1) ∧ (fun w cs => RBool w (cs.take 1) ∧ (fun w cs => RBool w (cs.take 1) ∧ (fun w cs => (RInt .i64) w (cs.take 1) ∧ (fun w cs => (RSt 4 (fun w cs => (RInt .u64) w (cs.take 1) ∧ (fun w cs => (RInt .u64) w (cs.take 1) ∧ (fun w cs => (RInt .u64) w (cs.take 1) ∧ (fun w cs => (RInt .u64) w (cs.take 1)) w (cs.drop 1)) w (cs.drop 1)) w (cs.drop 1))) w (cs.take 4) ∧ (fun w cs => (RSt 4 (fun w cs => (RInt .i64) w (cs.take 1) ∧ (fun w cs => (RInt .i64) w (cs.take 1) ∧ (fun w cs => (RInt .i64) w (cs.take 1) ∧ (fun w cs => (RInt .i64) w (cs.take 1)) w (cs.drop 1)) w (cs.drop 1)) w (cs.drop 1))) w (cs.take 4) ∧ (fun w cs => (RSt 4 (fun w cs => (RInt .u64) w (cs.take 1) ∧ (fun w cs => (RInt .u64) w (cs.take 1) ∧ (fun w cs => (RInt .u64) w (cs.take 1) ∧ (fun w cs => (RInt .u64) w (cs.take 1)) w (cs.drop 1)) w (cs.drop 1)) w (cs.drop 1))) w (cs.take 4) ∧ (fun w cs => (RSt 4 (fun w cs => (RInt .i64) w (cs.take 1) ∧ (fun w cs => (RInt .i64) w (cs.take 1) ∧ (fun w cs => (RInt .i64) w (cs.take 1) ∧ (fun w cs => (RInt .i64) w (cs.take 1)) w (cs.drop 1)) w (cs.drop 1)) w (cs.drop 1))) w (cs.take 4) ∧ (fun w cs => (RInt .i64) w (cs.take 1) ∧ (fun w cs => (RInt .i64) w (cs.take 1) ∧ (fun w cs => RBool w (cs.take 1) ∧ (fun w cs => RBool w (cs.take 1) ∧ (fun w cs => RBool w (cs.take 1) ∧ (fun w cs => RBool w (cs.take 1) ∧ (fun w cs => RBool w (cs.take 1) ∧ (fun w cs => RBool w (cs.take 1) ∧ (fun w cs => RBool w (cs.take 1) ∧ (fun w cs => RBool w (cs.take 1) ∧ (fun w cs => RBool w (cs.take 1) ∧ (fun w cs => RBool w (cs.take 1) ∧ (fun w cs => RBool w (cs.take 1) ∧ (fun w cs => RBool w (cs.take 1) ∧ (fun w cs => RBool w (cs.take 1) ∧ (fun w cs => RBool w (cs.take 1) ∧ (fun w cs => RBool w (cs.take 1) ∧ (fun w cs => RBool w (cs.take 1) ∧ (fun w cs => RBool w (cs.take 1) ∧ (fun w cs => RBool w (cs.take 1) ∧ (fun w cs => RBool w (cs.take 1) ∧ (fun w cs => RBool w (cs.take 1) ∧ (fun w cs => RBool w (cs.take 1) ∧ (fun w cs => RBool w (cs.take 1) ∧ (fun w cs => RBool w (cs.take 1) ∧ (fun w cs => RBool w (cs.take 1) ∧ (fun w cs => RBool w (cs.take 1) ∧ (fun w cs => RBool w (cs.take 1) ∧ (fun w cs => (RInt .i64) w (cs.take 1) ∧ (fun w cs => (RInt .i64) w (cs.take 1) ∧ (fun w cs => (RInt .i64) w (cs.take 1) ∧ (fun w cs => (RInt .i64) w (cs.take 1) ∧ (fun w cs => (RInt .i64) w (cs.take 1) ∧ (fun w cs => (RInt .i64) w (cs.take 1) ∧ (fun w cs => (RInt .i64) w (cs.take 1) ∧ (fun w cs => (RInt .i64) w (cs.take 1) ∧ (fun w cs => (RInt .i64) w (cs.take 1) ∧ (fun w cs => (RInt .i64) w (cs.take 1) ∧ (fun w cs => (RInt .i64) w (cs.take 1)) w (cs.drop 1)) w (cs.drop 1)) w (cs.drop 1)) w (cs.drop 1)) w (cs.drop 1)) w (cs.drop 1)) w (cs.drop 1)) w (cs.drop 1)) w (cs.drop 1)) w (cs.drop 1)) w (cs.drop 1)) w (cs.drop 1)) w (cs.drop 1)) w (cs.drop 1)) w (cs.drop 1)) w (cs.drop 1)) w (cs.drop 1)) w (cs.drop 1)) w (cs.drop 1)) w (cs.drop 1)) w (cs.drop 1)) w (cs.drop 1)) w (cs.drop 1)) w (cs.drop 1)) w (cs.drop 1)) w (cs.drop 1)) w (cs.drop 1)) w (cs.drop 1)) w (cs.drop 1)) w (cs.drop 1)) w (cs.drop 1)) w (cs.drop 1)) w (cs.drop 1)) w (cs.drop 1)) w (cs.drop 1)) w (cs.drop 1)) w (cs.drop 1)) w (cs.drop 1)) w (cs.drop 4)) w (cs.drop 4)) w (cs.drop 4)) w (cs.drop 4)) w (cs.drop 1)) w (cs.drop 1)) w (cs.drop 1)) w (cs.drop 1)) w (cs.drop 1)) w (cs.drop 1)))) W [v1] := open_row (opens_slice (sz := 61) Try.underlying34 (by kernel_rfl) (by decide) (opens_struct (sz := 61) Try.underlying28 (by kernel_rfl) (opensF_cons (sz := 1) (opens_int (k := .u64) Try.underlying22) (by rfl) (by kernel_rfl) (opensF_cons (sz := 1) (opens_int (k := .u64) Try.underlying22) (by rfl) (by kernel_rfl) (opensF_cons (sz := 1) (opens_bool Try.underlying4) (by rfl) (by kernel_rfl) (opensF_cons (sz := 1) (opens_bool Try.underlying4) (by rfl) (by kernel_rfl) (opensF_cons (sz := 1) (opens_bool Try.underlying4) (by rfl) (by kernel_rfl) (opensF_cons (sz := 1) (opens_int (k := .i64) Try.underlying3) (by rfl) (by kernel_rfl) (opensF_cons (sz := 4) (opens_struct (sz := 4) Try.underlying24 (by kernel_rfl) (opensF_cons (sz := 1) (opens_int (k := .u64) Try.underlying22) (by rfl) (by kernel_rfl) (opensF_cons (sz := 1) (opens_int (k := .u64) Try.underlying22) (by rfl) (by kernel_rfl) (opensF_cons (sz := 1) (opens_int (k := .u64) Try.underlying22) (by rfl) (by kernel_rfl) (opensF_last (sz := 1) (opens_int (k := .u64) Try.underlying22) (by rfl) (by kernel_rfl)))))) (by rfl) (by kernel_rfl) (opensF_cons (sz := 4) (opens_struct (sz := 4) Try.underlying26 (by kernel_rfl) (opensF_cons (sz := 1) (opens_int (k := .i64) Try.underlying3) (by rfl) (by kernel_rfl) (opensF_cons (sz := 1) (opens_int (k := .i64) Try.underlying3) (by rfl) (by kernel_rfl) (opensF_cons (sz := 1) (opens_int (k := .i64) Try.underlying3) (by rfl) (by kernel_rfl) (opensF_last (sz := 1) (opens_int (k := .i64) Try.underlying3) (by rfl) (by kernel_rfl)))))) (by rfl) (by kernel_rfl) (opensF_cons (sz := 4) (opens_struct (sz := 4) Try.underlying24 (by kernel_rfl) (opensF_cons (sz := 1) (opens_int (k := .u64) Try.underlying22) (by rfl) (by kernel_rfl) (opensF_cons (sz := 1) (opens_int (k := .u64) Try.underlying22) (by rfl) (by kernel_rfl) (opensF_cons (sz := 1) (opens_int (k := .u64) Try.underlying22) (by rfl) (by kernel_rfl) (opensF_last (sz := 1) (opens_int (k := .u64) Try.underlying22) (by rfl) (by kernel_rfl)))))) (by rfl) (by kernel_rfl) (opensF_cons (sz := 4) (opens_struct (sz := 4) Try.underlying26 (by kernel_rfl) (opensF_cons (sz := 1) (opens_int (k := .i64) Try.underlying3) (by rfl) (by kernel_rfl) (opensF_cons (sz := 1) (opens_int (k := .i64) Try.underlying3) (by rfl) (by kernel_rfl) (opensF_cons (sz := 1) (opens_int (k := .i64) Try.underlying3) (by rfl) (by kernel_rfl) (opensF_last (sz := 1) (opens_int (k := .i64) Try.underlying3) (by rfl) (by kernel_rfl)))))) (by rfl) (by kernel_rfl) (opensF_cons (sz := 1) (opens_int (k := .i64) Try.underlying3) (by rfl) (by kernel_rfl) (opensF_cons (sz := 1) (opens_int (k := .i64) Try.underlying3) (by rfl) (by kernel_rfl) (opensF_cons (sz := 1) (opens_bool Try.underlying4) (by rfl) (by kernel_rfl) (opensF_cons (sz := 1) (opens_bool Try.underlying4) (by rfl) (by kernel_rfl) (opensF_cons (sz := 1) (opens_bool Try.underlying4) (by rfl) (by kernel_rfl) (opensF_cons (sz := 1) (opens_bool Try.underlying4) (by rfl) (by kernel_rfl) (opensF_cons (sz := 1) (opens_bool Try.underlying4) (by rfl) (by kernel_rfl) (opensF_cons (sz := 1) (opens_bool Try.underlying4) (by rfl) (by kernel_rfl) (opensF_cons (sz := 1) (opens_bool Try.underlying4) (by rfl) (by kernel_rfl) (opensF_cons (sz := 1) (opens_bool Try.underlying4) (by rfl) (by kernel_rfl) (opensF_cons (sz := 1) (opens_bool Try.underlying4) (by rfl) (by kernel_rfl) (opensF_cons (sz := 1) (opens_bool Try.underlying4) (by rfl) (by kernel_rfl) (opensF_cons (sz := 1) (opens_bool Try.underlying4) (by rfl) (by kernel_rfl) (opensF_cons (sz := 1) (opens_bool Try.underlying4) (by rfl) (by kernel_rfl) (opensF_cons (sz := 1) (opens_bool Try.underlying4) (by rfl) (by kernel_rfl) (opensF_cons (sz := 1) (opens_bool Try.underlying4) (by rfl) (by kernel_rfl) (opensF_cons (sz := 1) (opens_bool Try.underlying4) (by rfl) (by kernel_rfl) (opensF_cons (sz := 1) (opens_bool Try.underlying4) (by rfl) (by kernel_rfl) (opensF_cons (sz := 1) (opens_bool Try.underlying4) (by rfl) (by kernel_rfl) (opensF_cons (sz := 1) (opens_bool Try.underlying4) (by rfl) (by kernel_rfl) (opensF_cons (sz := 1) (opens_bool Try.underlying4) (by rfl) (by kernel_rfl) (opensF_cons (sz := 1) (opens_bool Try.underlying4) (by rfl) (by kernel_rfl) (opensF_cons (sz := 1) (opens_bool Try.underlying4) (by rfl) (by kernel_rfl) (opensF_cons (sz := 1) (opens_bool Try.underlying4) (by rfl) (by kernel_rfl) (opensF_cons (sz := 1) (opens_bool Try.underlying4) (by rfl) (by kernel_rfl) (opensF_cons (sz := 1) (opens_bool Try.underlying4) (by rfl) (by kernel_rfl) (opensF_cons (sz := 1) (opens_bool Try.underlying4) (by rfl) (by kernel_rfl) (opensF_cons (sz := 1) (opens_bool Try.underlying4) (by rfl) (by kernel_rfl) (opensF_cons (sz := 1) (opens_int (k := .i64) Try.underlying3) (by rfl) (by kernel_rfl) (opensF_cons (sz := 1) (opens_int (k := .i64) Try.underlying3) (by rfl) (by kernel_rfl) (opensF_cons (sz := 1) (opens_int (k := .i64) Try.underlying3) (by rfl) (by kernel_rfl) (opensF_cons (sz := 1) (opens_int (k := .i64) Try.underlying3) (by rfl) (by kernel_rfl) (opensF_cons (sz := 1) (opens_int (k := .i64) Try.underlying3) (by rfl) (by kernel_rfl) (opensF_cons (sz := 1) (opens_int (k := .i64) Try.underlying3) (by rfl) (by kernel_rfl) (opensF_cons (sz := 1) (opens_int (k := .i64) Try.underlying3) (by rfl) (by kernel_rfl) (opensF_cons (sz := 1) (opens_int (k := .i64) Try.underlying3) (by rfl) (by kernel_rfl) (opensF_cons (sz := 1) (opens_int (k := .i64) Try.underlying3) (by rfl) (by kernel_rfl) (opensF_cons (sz := 1) (opens_int (k := .i64) Try.underlying3) (by rfl) (by kernel_rfl) (opensF_last (sz := 1) (opens_int (k := .i64) Try.underlying3) (by rfl) (by kernel_rfl)))))))))))))))))))))))))))))))))))))))))))))))))))) Try.underlying34 (hval 1 34 v1 rfl rfl) h1
  obtain ⟨l1, A1, c1, e1, hc1, hm1, hel1, hrd1⟩ := one_sl (sz := 61) (R := (RSt 61 (fun w cs => (RInt .u64) w (cs.take 1) ∧ (fun w cs => (RInt .u64) w (cs.take 1) ∧ (fun w cs => RBool w (cs.take 1) ∧ (fun w cs => RBool w (cs.take 1) ∧ (fun w cs => RBool w (cs.take 1) ∧ (fun w cs => (RInt .i64) w (cs.take 1) ∧ (fun w cs => (RSt 4 (fun w cs => (RInt .u64) w (cs.take 1) ∧ (fun w cs => (RInt .u64) w (cs.take 1) ∧ (fun w cs => (RInt .u64) w (cs.take 1) ∧ (fun w cs => (RInt .u64) w (cs.take 1)) w (cs.drop 1)) w (cs.drop 1)) w (cs.drop 1))) w (cs.take 4) ∧ (fun w cs => (RSt 4 (fun w cs => (RInt .i64) w (cs.take 1) ∧ (fun w cs => (RInt .i64) w (cs.take 1) ∧ (fun w cs => (RInt .i64) w (cs.take 1) ∧ (fun w cs => (RInt .i64) w (cs.take 1)) w (cs.drop 1)) w (cs.drop 1)) w (cs.drop 1))) w (cs.take 4) ∧ (fun w cs => (RSt 4 (fun w cs => (RInt .u64) w (cs.take 1) ∧ (fun w cs => (RInt .u64) w (cs.take 1) ∧ (fun w cs => (RInt .u64) w (cs.take 1) ∧ (fun w cs => (RInt .u64) w (cs.take 1)) w (cs.drop 1)) w (cs.drop 1)) w (cs.drop 1))) w (cs.take 4) ∧ (fun w cs => (RSt 4 (fun w cs => (RInt .i64) w (cs.take 1) ∧ (fun w cs => (RInt .i64) w (cs.take 1) ∧ (fun w cs => (RInt .i64) w (cs.take 1) ∧ (fun w cs => (RInt .i64) w (cs.take 1)) w (cs.drop 1)) w (cs.drop 1)) w (cs.drop 1))) w (cs.take 4) ∧ (fun w cs => (RInt .i64) w (cs.take 1) ∧ (fun w cs => (RInt .i64) w (cs.take 1) ∧ (fun w cs => RBool w (cs.take 1) ∧ (fun w cs => RBool w (cs.take 1) ∧ (fun w cs => RBool w (cs.take 1) ∧ (fun w cs => RBool w (cs.take 1) ∧ (fun w cs => RBool w (cs.take 1) ∧ (fun w cs => RBool w (cs.take 1) ∧ (fun w cs => RBool w (cs.take 1) ∧ (fun w cs => RBool w (cs.take 1) ∧ (fun w cs => RBool w (cs.take 1) ∧ (fun w cs => RBool w (cs.take 1) ∧ (fun w cs => RBool w (cs.take 1) ∧ (fun w cs => RBool w (cs.take 1) ∧ (fun w cs => RBool w (cs.take 1) ∧ (fun w cs => RBool w (cs.take 1) ∧ (fun w cs => RBool w (cs.take 1) ∧ (fun w cs => RBool w (cs.take 1) ∧ (fun w cs => RBool w (cs.take 1) ∧ (fun w cs => RBool w (cs.take 1) ∧ (fun w cs => RBool w (cs.take 1) ∧ (fun w cs => RBool w (cs.take 1) ∧ (fun w cs => RBool w (cs.take 1) ∧ (fun w cs => RBool w (cs.take 1) ∧ (fun w cs => RBool w (cs.take 1) ∧ (fun w cs => RBool w (cs.take 1) ∧ (fun w cs => RBool w (cs.take 1) ∧ (fun w cs => RBool w (cs.take 1) ∧ (fun w cs => (RInt .i64) w (cs.take 1) ∧ (fun w cs => (RInt .i64) w (cs.take 1) ∧ (fun w cs => (RInt .i64) w (cs.take 1) ∧ (fun w cs => (RInt .i64) w (cs.take 1) ∧ (fun w cs => (RInt .i64) w (cs.take 1) ∧ (fun w cs => (RInt .i64) w (cs.take 1) ∧ (fun w cs => (RInt .i64) w (cs.take 1) ∧ (fun w cs => (RInt .i64) w (cs.take 1) ∧ (fun w cs => (RInt .i64) w (cs.take 1) ∧ (fun w cs => (RInt .i64) w (cs.take 1) ∧ (fun w cs => (RInt .i64) w (cs.take 1)) w (cs.drop 1)) w (cs.drop 1)) w (cs.drop 1)) w (cs.drop 1)) w (cs.drop 1)) w (cs.drop 1)) w (cs.drop 1)) w (cs.drop 1)) w (cs.drop 1)) w (cs.drop 1)) w (cs.drop 1)) w (cs.drop 1)) w (cs.drop 1)) w (cs.drop 1)) w (cs.drop 1)) w (cs.drop 1)) w (cs.drop 1)) w (cs.drop 1)) w (cs.drop 1)) w (cs.drop 1)) w (cs.drop 1)) w (cs.drop 1)) w (cs.drop 1)) w (cs.drop 1)) w (cs.drop 1)) w (cs.drop 1)) w (cs.drop 1)) w (cs.drop 1)) w (cs.drop 1)) w (cs.drop 1)) w (cs.drop 1)) w (cs.drop 1)) w (cs.drop 1)) w (cs.drop 1)) w (cs.drop 1)) w (cs.drop 1)) w (cs.drop 1)) w (cs.drop 1)) w (cs.drop 4)) w (cs.drop 4)) w (cs.drop 4)) w (cs.drop 4)) w (cs.drop 1)) w (cs.drop 1)) w (cs.drop 1)) w (cs.drop 1)) w (cs.drop 1)) w (cs.drop 1)))) (w := W) (c := v1) hk1
  subst e1
  obtain ⟨ps1, eps1, hq1⟩ := rowsOf (enc := PortV.enc) (Q := fun _ => True) (R := fun e => e.length = 61 ∧ (RSt 61 (fun w cs => (RInt .u64) w (cs.take 1) ∧ (fun w cs => (RInt .u64) w (cs.take 1) ∧ (fun w cs => RBool w (cs.take 1) ∧ (fun w cs => RBool w (cs.take 1) ∧ (fun w cs => RBool w (cs.take 1) ∧ (fun w cs => (RInt .i64) w (cs.take 1) ∧ (fun w cs => (RSt 4 (fun w cs => (RInt .u64) w (cs.take 1) ∧ (fun w cs => (RInt .u64) w (cs.take 1) ∧ (fun w cs => (RInt .u64) w (cs.take 1) ∧ (fun w cs => (RInt .u64) w (cs.take 1)) w (cs.drop 1)) w (cs.drop 1)) w (cs.drop 1))) w (cs.take 4) ∧ (fun w cs => (RSt 4 (fun w cs => (RInt .i64) w (cs.take 1) ∧ (fun w cs => (RInt .i64) w (cs.take 1) ∧ (fun w cs => (RInt .i64) w (cs.take 1) ∧ (fun w cs => (RInt .i64) w (cs.take 1)) w (cs.drop 1)) w (cs.drop 1)) w (cs.drop 1))) w (cs.take 4) ∧ (fun w cs => (RSt 4 (fun w cs => (RInt .u64) w (cs.take 1) ∧ (fun w cs => (RInt .u64) w (cs.take 1) ∧ (fun w cs => (RInt .u64) w (cs.take 1) ∧ (fun w cs => (RInt .u64) w (cs.take 1)) w (cs.drop 1)) w (cs.drop 1)) w (cs.drop 1))) w (cs.take 4) ∧ (fun w cs => (RSt 4 (fun w cs => (RInt .i64) w (cs.take 1) ∧ (fun w cs => (RInt .i64) w (cs.take 1) ∧ (fun w cs => (RInt .i64) w (cs.take 1) ∧ (fun w cs => (RInt .i64) w (cs.take 1)) w (cs.drop 1)) w (cs.drop 1)) w (cs.drop 1))) w (cs.take 4) ∧ (fun w cs => (RInt .i64) w (cs.take 1) ∧ (fun w cs => (RInt .i64) w (cs.take 1) ∧ (fun w cs => RBool w (cs.take 1) ∧ (fun w cs => RBool w (cs.take 1) ∧ (fun w cs => RBool w (cs.take 1) ∧ (fun w cs => RBool w (cs.take 1) ∧ (fun w cs => RBool w (cs.take 1) ∧ (fun w cs => RBool w (cs.take 1) ∧ (fun w cs => RBool w (cs.take 1) ∧ (fun w cs => RBool w (cs.take 1) ∧ (fun w cs => RBool w (cs.take 1) ∧ (fun w cs => RBool w (cs.take 1) ∧ (fun w cs => RBool w (cs.take 1) ∧ (fun w cs => RBool w (cs.take 1) ∧ (fun w cs => RBool w (cs.take 1) ∧ (fun w cs => RBool w (cs.take 1) ∧ (fun w cs => RBool w (cs.take 1) ∧ (fun w cs => RBool w (cs.take 1) ∧ (fun w cs => RBool w (cs.take 1) ∧ (fun w cs => RBool w (cs.take 1) ∧ (fun w cs => RBool w (cs.take 1) ∧ (fun w cs => RBool w (cs.take 1) ∧ (fun w cs => RBool w (cs.take 1) ∧ (fun w cs => RBool w (cs.take 1) ∧ (fun w cs => RBool w (cs.take 1) ∧ (fun w cs => RBool w (cs.take 1) ∧ (fun w cs => RBool w (cs.take 1) ∧ (fun w cs => RBool w (cs.take 1) ∧ (fun w cs => (RInt .i64) w (cs.take 1) ∧ (fun w cs => (RInt .i64) w (cs.take 1) ∧ (fun w cs => (RInt .i64) w (cs.take 1) ∧ (fun w cs => (RInt .i64) w (cs.take 1) ∧ (fun w cs => (RInt .i64) w (cs.take 1) ∧ (fun w cs => (RInt .i64) w (cs.take 1) ∧ (fun w cs => (RInt .i64) w (cs.take 1) ∧ (fun w cs => (RInt .i64) w (cs.take 1) ∧ (fun w cs => (RInt .i64) w (cs.take 1) ∧ (fun w cs => (RInt .i64) w (cs.take 1) ∧ (fun w cs => (RInt .i64) w (cs.take 1)) w (cs.drop 1)) w (cs.drop 1)) w (cs.drop 1)) w (cs.drop 1)) w (cs.drop 1)) w (cs.drop 1)) w (cs.drop 1)) w (cs.drop 1)) w (cs.drop 1)) w (cs.drop 1)) w (cs.drop 1)) w (cs.drop 1)) w (cs.drop 1)) w (cs.drop 1)) w (cs.drop 1)) w (cs.drop 1)) w (cs.drop 1)) w (cs.drop 1)) w (cs.drop 1)) w (cs.drop 1)) w (cs.drop 1)) w (cs.drop 1)) w (cs.drop 1)) w (cs.drop 1)) w (cs.drop 1)) w (cs.drop 1)) w (cs.drop 1)) w (cs.drop 1)) w (cs.drop 1)) w (cs.drop 1)) w (cs.drop 1)) w (cs.drop 1)) w (cs.drop 1)) w (cs.drop 1)) w (cs.drop 1)) w (cs.drop 1)) w (cs.drop 1)) w (cs.drop 1)) w (cs.drop 4)) w (cs.drop 4)) w (cs.drop 4)) w (cs.drop 4)) w (cs.drop 1)) w (cs.drop 1)) w (cs.drop 1)) w (cs.drop 1)) w (cs.drop 1)) w (cs.drop 1))) W e) (by
    intro e he
    have hk := he.2
    have z0 : e.length = 61 := he.1
    obtain ⟨x0, y1, f0, z1⟩ := cons_of z0
    subst f0
    obtain ⟨x1, y2, f1, z2⟩ := cons_of z1
    subst f1
    obtain ⟨x2, y3, f2, z3⟩ := cons_of z2
    subst f2
    obtain ⟨x3, y4, f3, z4⟩ := cons_of z3
    subst f3
    obtain ⟨x4, y5, f4, z5⟩ := cons_of z4
    subst f4
    obtain ⟨x5, y6, f5, z6⟩ := cons_of z5
    subst f5
    obtain ⟨x6, y7, f6, z7⟩ := cons_of z6
    subst f6
    obtain ⟨x7, y8, f7, z8⟩ := cons_of z7
    subst f7
    obtain ⟨x8, y9, f8, z9⟩ := cons_of z8
    subst f8
    obtain ⟨x9, y10, f9, z10⟩ := cons_of z9
    subst f9
    obtain ⟨x10, y11, f10, z11⟩ := cons_of z10
    subst f10
    obtain ⟨x11, y12, f11, z12⟩ := cons_of z11
    subst f11
    obtain ⟨x12, y13, f12, z13⟩ := cons_of z12
    subst f12
    obtain ⟨x13, y14, f13, z14⟩ := cons_of z13
    subst f13
    obtain ⟨x14, y15, f14, z15⟩ := cons_of z14
    subst f14
    obtain ⟨x15, y16, f15, z16⟩ := cons_of z15
    subst f15
    obtain ⟨x16, y17, f16, z17⟩ := cons_of z16
    subst f16
    obtain ⟨x17, y18, f17, z18⟩ := cons_of z17
    subst f17
    obtain ⟨x18, y19, f18, z19⟩ := cons_of z18
    subst f18
    obtain ⟨x19, y20, f19, z20⟩ := cons_of z19
    subst f19
    obtain ⟨x20, y21, f20, z21⟩ := cons_of z20
    subst f20
    obtain ⟨x21, y22, f21, z22⟩ := cons_of z21
    subst f21
    obtain ⟨x22, y23, f22, z23⟩ := cons_of z22
    subst f22
    obtain ⟨x23, y24, f23, z24⟩ := cons_of z23
    subst f23
    obtain ⟨x24, y25, f24, z25⟩ := cons_of z24
    subst f24
    obtain ⟨x25, y26, f25, z26⟩ := cons_of z25
    subst f25
    obtain ⟨x26, y27, f26, z27⟩ := cons_of z26
    subst f26
    obtain ⟨x27, y28, f27, z28⟩ := cons_of z27
    subst f27
    obtain ⟨x28, y29, f28, z29⟩ := cons_of z28
    subst f28
    obtain ⟨x29, y30, f29, z30⟩ := cons_of z29
    subst f29
    obtain ⟨x30, y31, f30, z31⟩ := cons_of z30
    subst f30
    obtain ⟨x31, y32, f31, z32⟩ := cons_of z31
    subst f31
    obtain ⟨x32, y33, f32, z33⟩ := cons_of z32
    subst f32
    obtain ⟨x33, y34, f33, z34⟩ := cons_of z33
    subst f33
    obtain ⟨x34, y35, f34, z35⟩ := cons_of z34
    subst f34
    obtain ⟨x35, y36, f35, z36⟩ := cons_of z35
    subst f35
    obtain ⟨x36, y37, f36, z37⟩ := cons_of z36
    subst f36
    obtain ⟨x37, y38, f37, z38⟩ := cons_of z37
    subst f37
    obtain ⟨x38, y39, f38, z39⟩ := cons_of z38
    subst f38
    obtain ⟨x39, y40, f39, z40⟩ := cons_of z39
    subst f39
    obtain ⟨x40, y41, f40, z41⟩ := cons_of z40
    subst f40
    obtain ⟨x41, y42, f41, z42⟩ := cons_of z41
    subst f41
    obtain ⟨x42, y43, f42, z43⟩ := cons_of z42
    subst f42
    obtain ⟨x43, y44, f43, z44⟩ := cons_of z43
    subst f43
    obtain ⟨x44, y45, f44, z45⟩ := cons_of z44
    subst f44
    obtain ⟨x45, y46, f45, z46⟩ := cons_of z45
    subst f45
    obtain ⟨x46, y47, f46, z47⟩ := cons_of z46
    subst f46
    obtain ⟨x47, y48, f47, z48⟩ := cons_of z47
    subst f47
    obtain ⟨x48, y49, f48, z49⟩ := cons_of z48
    subst f48
    obtain ⟨x49, y50, f49, z50⟩ := cons_of z49
    subst f49
    obtain ⟨x50, y51, f50, z51⟩ := cons_of z50
    subst f50
    obtain ⟨x51, y52, f51, z52⟩ := cons_of z51
    subst f51
    obtain ⟨x52, y53, f52, z53⟩ := cons_of z52
    subst f52
    obtain ⟨x53, y54, f53, z54⟩ := cons_of z53
    subst f53
    obtain ⟨x54, y55, f54, z55⟩ := cons_of z54
    subst f54
    obtain ⟨x55, y56, f55, z56⟩ := cons_of z55
    subst f55
    obtain ⟨x56, y57, f56, z57⟩ := cons_of z56
    subst f56
    obtain ⟨x57, y58, f57, z58⟩ := cons_of z57
    subst f57
    obtain ⟨x58, y59, f58, z59⟩ := cons_of z58
    subst f58
    obtain ⟨x59, y60, f59, z60⟩ := cons_of z59
    subst f59
    obtain ⟨x60, y61, f60, z61⟩ := cons_of z60
    subst f60
    obtain rfl := nil_of z61
    have g0 : (RInt .u64) W [x0] := hk.2.1
    have g1 : (RInt .u64) W [x1] := hk.2.2.1
    have g2 : RBool W [x2] := hk.2.2.2.1
    have g3 : RBool W [x3] := hk.2.2.2.2.1
    have g4 : RBool W [x4] := hk.2.2.2.2.2.1
    have g5 : (RInt .i64) W [x5] := hk.2.2.2.2.2.2.1
    have g6 : (RInt .u64) W [x6] := hk.2.2.2.2.2.2.2.1.2.1
    have g7 : (RInt .u64) W [x7] := hk.2.2.2.2.2.2.2.1.2.2.1
    have g8 : (RInt .u64) W [x8] := hk.2.2.2.2.2.2.2.1.2.2.2.1
    have g9 : (RInt .u64) W [x9] := hk.2.2.2.2.2.2.2.1.2.2.2.2
    have g10 : (RInt .i64) W [x10] := hk.2.2.2.2.2.2.2.2.1.2.1
    have g11 : (RInt .i64) W [x11] := hk.2.2.2.2.2.2.2.2.1.2.2.1
    have g12 : (RInt .i64) W [x12] := hk.2.2.2.2.2.2.2.2.1.2.2.2.1
    have g13 : (RInt .i64) W [x13] := hk.2.2.2.2.2.2.2.2.1.2.2.2.2
    have g14 : (RInt .u64) W [x14] := hk.2.2.2.2.2.2.2.2.2.1.2.1
    have g15 : (RInt .u64) W [x15] := hk.2.2.2.2.2.2.2.2.2.1.2.2.1
    have g16 : (RInt .u64) W [x16] := hk.2.2.2.2.2.2.2.2.2.1.2.2.2.1
    have g17 : (RInt .u64) W [x17] := hk.2.2.2.2.2.2.2.2.2.1.2.2.2.2
    have g18 : (RInt .i64) W [x18] := hk.2.2.2.2.2.2.2.2.2.2.1.2.1
    have g19 : (RInt .i64) W [x19] := hk.2.2.2.2.2.2.2.2.2.2.1.2.2.1
    have g20 : (RInt .i64) W [x20] := hk.2.2.2.2.2.2.2.2.2.2.1.2.2.2.1
    have g21 : (RInt .i64) W [x21] := hk.2.2.2.2.2.2.2.2.2.2.1.2.2.2.2
    have g22 : (RInt .i64) W [x22] := hk.2.2.2.2.2.2.2.2.2.2.2.1
    have g23 : (RInt .i64) W [x23] := hk.2.2.2.2.2.2.2.2.2.2.2.2.1
    have g24 : RBool W [x24] := hk.2.2.2.2.2.2.2.2.2.2.2.2.2.1
    have g25 : RBool W [x25] := hk.2.2.2.2.2.2.2.2.2.2.2.2.2.2.1
    have g26 : RBool W [x26] := hk.2.2.2.2.2.2.2.2.2.2.2.2.2.2.2.1
    have g27 : RBool W [x27] := hk.2.2.2.2.2.2.2.2.2.2.2.2.2.2.2.2.1
    have g28 : RBool W [x28] := hk.2.2.2.2.2.2.2.2.2.2.2.2.2.2.2.2.2.1
    have g29 : RBool W [x29] := hk.2.2.2.2.2.2.2.2.2.2.2.2.2.2.2.2.2.2.1
    have g30 : RBool W [x30] := hk.2.2.2.2.2.2.2.2.2.2.2.2.2.2.2.2.2.2.2.1
    have g31 : RBool W [x31] := hk.2.2.2.2.2.2.2.2.2.2.2.2.2.2.2.2.2.2.2.2.1
    have g32 : RBool W [x32] := hk.2.2.2.2.2.2.2.2.2.2.2.2.2.2.2.2.2.2.2.2.2.1
    have g33 : RBool W [x33] := hk.2.2.2.2.2.2.2.2.2.2.2.2.2.2.2.2.2.2.2.2.2.2.1
    have g34 : RBool W [x34] := hk.2.2.2.2.2.2.2.2.2.2.2.2.2.2.2.2.2.2.2.2.2.2.2.1
    have g35 : RBool W [x35] := hk.2.2.2.2.2.2.2.2.2.2.2.2.2.2.2.2.2.2.2.2.2.2.2.2.1
    have g36 : RBool W [x36] := hk.2.2.2.2.2.2.2.2.2.2.2.2.2.2.2.2.2.2.2.2.2.2.2.2.2.1
    have g37 : RBool W [x37] := hk.2.2.2.2.2.2.2.2.2.2.2.2.2.2.2.2.2.2.2.2.2.2.2.2.2.2.1
    have g38 : RBool W [x38] := hk.2.2.2.2.2.2.2.2.2.2.2.2.2.2.2.2.2.2.2.2.2.2.2.2.2.2.2.1
    have g39 : RBool W [x39] := hk.2.2.2.2.2.2.2.2.2.2.2.2.2.2.2.2.2.2.2.2.2.2.2.2.2.2.2.2.1
    have g40 : RBool W [x40] := hk.2.2.2.2.2.2.2.2.2.2.2.2.2.2.2.2.2.2.2.2.2.2.2.2.2.2.2.2.2.1
    have g41 : RBool W [x41] := hk.2.2.2.2.2.2.2.2.2.2.2.2.2.2.2.2.2.2.2.2.2.2.2.2.2.2.2.2.2.2.1
    have g42 : RBool W [x42] := hk.2.2.2.2.2.2.2.2.2.2.2.2.2.2.2.2.2.2.2.2.2.2.2.2.2.2.2.2.2.2.2.1
    have g43 : RBool W [x43] := hk.2.2.2.2.2.2.2.2.2.2.2.2.2.2.2.2.2.2.2.2.2.2.2.2.2.2.2.2.2.2.2.2.1
    have g44 : RBool W [x44] := hk.2.2.2.2.2.2.2.2.2.2.2.2.2.2.2.2.2.2.2.2.2.2.2.2.2.2.2.2.2.2.2.2.2.1
    have g45 : RBool W [x45] := hk.2.2.2.2.2.2.2.2.2.2.2.2.2.2.2.2.2.2.2.2.2.2.2.2.2.2.2.2.2.2.2.2.2.2.1
    have g46 : RBool W [x46] := hk.2.2.2.2.2.2.2.2.2.2.2.2.2.2.2.2.2.2.2.2.2.2.2.2.2.2.2.2.2.2.2.2.2.2.2.1
    have g47 : RBool W [x47] := hk.2.2.2.2.2.2.2.2.2.2.2.2.2.2.2.2.2.2.2.2.2.2.2.2.2.2.2.2.2.2.2.2.2.2.2.2.1
    have g48 : RBool W [x48] := hk.2.2.2.2.2.2.2.2.2.2.2.2.2.2.2.2.2.2.2.2.2.2.2.2.2.2.2.2.2.2.2.2.2.2.2.2.2.1
    have g49 : RBool W [x49] := hk.2.2.2.2.2.2.2.2.2.2.2.2.2.2.2.2.2.2.2.2.2.2.2.2.2.2.2.2.2.2.2.2.2.2.2.2.2.2.1
    have g50 : (RInt .i64) W [x50] := hk.2.2.2.2.2.2.2.2.2.2.2.2.2.2.2.2.2.2.2.2.2.2.2.2.2.2.2.2.2.2.2.2.2.2.2.2.2.2.2.1
    have g51 : (RInt .i64) W [x51] := hk.2.2.2.2.2.2.2.2.2.2.2.2.2.2.2.2.2.2.2.2.2.2.2.2.2.2.2.2.2.2.2.2.2.2.2.2.2.2.2.2.1
    have g52 : (RInt .i64) W [x52] := hk.2.2.2.2.2.2.2.2.2.2.2.2.2.2.2.2.2.2.2.2.2.2.2.2.2.2.2.2.2.2.2.2.2.2.2.2.2.2.2.2.2.1
    have g53 : (RInt .i64) W [x53] := hk.2.2.2.2.2.2.2.2.2.2.2.2.2.2.2.2.2.2.2.2.2.2.2.2.2.2.2.2.2.2.2.2.2.2.2.2.2.2.2.2.2.2.1
    have g54 : (RInt .i64) W [x54] := hk.2.2.2.2.2.2.2.2.2.2.2.2.2.2.2.2.2.2.2.2.2.2.2.2.2.2.2.2.2.2.2.2.2.2.2.2.2.2.2.2.2.2.2.1
    have g55 : (RInt .i64) W [x55] := hk.2.2.2.2.2.2.2.2.2.2.2.2.2.2.2.2.2.2.2.2.2.2.2.2.2.2.2.2.2.2.2.2.2.2.2.2.2.2.2.2.2.2.2.2.1
    have g56 : (RInt .i64) W [x56] := hk.2.2.2.2.2.2.2.2.2.2.2.2.2.2.2.2.2.2.2.2.2.2.2.2.2.2.2.2.2.2.2.2.2.2.2.2.2.2.2.2.2.2.2.2.2.1
    have g57 : (RInt .i64) W [x57] := hk.2.2.2.2.2.2.2.2.2.2.2.2.2.2.2.2.2.2.2.2.2.2.2.2.2.2.2.2.2.2.2.2.2.2.2.2.2.2.2.2.2.2.2.2.2.2.1
    have g58 : (RInt .i64) W [x58] := hk.2.2.2.2.2.2.2.2.2.2.2.2.2.2.2.2.2.2.2.2.2.2.2.2.2.2.2.2.2.2.2.2.2.2.2.2.2.2.2.2.2.2.2.2.2.2.2.1
    have g59 : (RInt .i64) W [x59] := hk.2.2.2.2.2.2.2.2.2.2.2.2.2.2.2.2.2.2.2.2.2.2.2.2.2.2.2.2.2.2.2.2.2.2.2.2.2.2.2.2.2.2.2.2.2.2.2.2.1
    have g60 : (RInt .i64) W [x60] := hk.2.2.2.2.2.2.2.2.2.2.2.2.2.2.2.2.2.2.2.2.2.2.2.2.2.2.2.2.2.2.2.2.2.2.2.2.2.2.2.2.2.2.2.2.2.2.2.2.2
    obtain ⟨q1_0, e0, v1_0⟩ := one_int (k := .u64) (w := W) (c := x0) g0
    subst e0
    obtain ⟨q1_1, e1, v1_1⟩ := one_int (k := .u64) (w := W) (c := x1) g1
    subst e1
    obtain ⟨q1_2, e2⟩ := one_bool (w := W) (c := x2) g2
    subst e2
    obtain ⟨q1_3, e3⟩ := one_bool (w := W) (c := x3) g3
    subst e3
    obtain ⟨q1_4, e4⟩ := one_bool (w := W) (c := x4) g4
    subst e4
    obtain ⟨q1_5, e5, v1_5⟩ := one_int (k := .i64) (w := W) (c := x5) g5
    subst e5
    obtain ⟨q1_6, e6, v1_6⟩ := one_int (k := .u64) (w := W) (c := x6) g6
    subst e6
    obtain ⟨q1_7, e7, v1_7⟩ := one_int (k := .u64) (w := W) (c := x7) g7
    subst e7
    obtain ⟨q1_8, e8, v1_8⟩ := one_int (k := .u64) (w := W) (c := x8) g8
    subst e8
    obtain ⟨q1_9, e9, v1_9⟩ := one_int (k := .u64) (w := W) (c := x9) g9
    subst e9
    obtain ⟨q1_10, e10, v1_10⟩ := one_int (k := .i64) (w := W) (c := x10) g10
    subst e10
    obtain ⟨q1_11, e11, v1_11⟩ := one_int (k := .i64) (w := W) (c := x11) g11
    subst e11
    obtain ⟨q1_12, e12, v1_12⟩ := one_int (k := .i64) (w := W) (c := x12) g12
    subst e12
    obtain ⟨q1_13, e13, v1_13⟩ := one_int (k := .i64) (w := W) (c := x13) g13
    subst e13
    obtain ⟨q1_14, e14, v1_14⟩ := one_int (k := .u64) (w := W) (c := x14) g14
    subst e14
    obtain ⟨q1_15, e15, v1_15⟩ := one_int (k := .u64) (w := W) (c := x15) g15
    subst e15
    obtain ⟨q1_16, e16, v1_16⟩ := one_int (k := .u64) (w := W) (c := x16) g16
    subst e16
    obtain ⟨q1_17, e17, v1_17⟩ := one_int (k := .u64) (w := W) (c := x17) g17
    subst e17
    obtain ⟨q1_18, e18, v1_18⟩ := one_int (k := .i64) (w := W) (c := x18) g18
    subst e18
    obtain ⟨q1_19, e19, v1_19⟩ := one_int (k := .i64) (w := W) (c := x19) g19
    subst e19
    obtain ⟨q1_20, e20, v1_20⟩ := one_int (k := .i64) (w := W) (c := x20) g20
    subst e20
    obtain ⟨q1_21, e21, v1_21⟩ := one_int (k := .i64) (w := W) (c := x21) g21
    subst e21
    obtain ⟨q1_22, e22, v1_22⟩ := one_int (k := .i64) (w := W) (c := x22) g22
    subst e22
    obtain ⟨q1_23, e23, v1_23⟩ := one_int (k := .i64) (w := W) (c := x23) g23
    subst e23
    obtain ⟨q1_24, e24⟩ := one_bool (w := W) (c := x24) g24
    subst e24
    obtain ⟨q1_25, e25⟩ := one_bool (w := W) (c := x25) g25
    subst e25
    obtain ⟨q1_26, e26⟩ := one_bool (w := W) (c := x26) g26
    subst e26
    obtain ⟨q1_27, e27⟩ := one_bool (w := W) (c := x27) g27
    subst e27
    obtain ⟨q1_28, e28⟩ := one_bool (w := W) (c := x28) g28
    subst e28
    obtain ⟨q1_29, e29⟩ := one_bool (w := W) (c := x29) g29
    subst e29
    obtain ⟨q1_30, e30⟩ := one_bool (w := W) (c := x30) g30
    subst e30
    obtain ⟨q1_31, e31⟩ := one_bool (w := W) (c := x31) g31
    subst e31
    obtain ⟨q1_32, e32⟩ := one_bool (w := W) (c := x32) g32
    subst e32
    obtain ⟨q1_33, e33⟩ := one_bool (w := W) (c := x33) g33
    subst e33
    obtain ⟨q1_34, e34⟩ := one_bool (w := W) (c := x34) g34
    subst e34
    obtain ⟨q1_35, e35⟩ := one_bool (w := W) (c := x35) g35
    subst e35
    obtain ⟨q1_36, e36⟩ := one_bool (w := W) (c := x36) g36
    subst e36
    obtain ⟨q1_37, e37⟩ := one_bool (w := W) (c := x37) g37
    subst e37
    obtain ⟨q1_38, e38⟩ := one_bool (w := W) (c := x38) g38
    subst e38
    obtain ⟨q1_39, e39⟩ := one_bool (w := W) (c := x39) g39
    subst e39
    obtain ⟨q1_40, e40⟩ := one_bool (w := W) (c := x40) g40
    subst e40
    obtain ⟨q1_41, e41⟩ := one_bool (w := W) (c := x41) g41
    subst e41
    obtain ⟨q1_42, e42⟩ := one_bool (w := W) (c := x42) g42
    subst e42
    obtain ⟨q1_43, e43⟩ := one_bool (w := W) (c := x43) g43
    subst e43
    obtain ⟨q1_44, e44⟩ := one_bool (w := W) (c := x44) g44
    subst e44
    obtain ⟨q1_45, e45⟩ := one_bool (w := W) (c := x45) g45
    subst e45
    obtain ⟨q1_46, e46⟩ := one_bool (w := W) (c := x46) g46
    subst e46
    obtain ⟨q1_47, e47⟩ := one_bool (w := W) (c := x47) g47
    subst e47
    obtain ⟨q1_48, e48⟩ := one_bool (w := W) (c := x48) g48
    subst e48
    obtain ⟨q1_49, e49⟩ := one_bool (w := W) (c := x49) g49
    subst e49
    obtain ⟨q1_50, e50, v1_50⟩ := one_int (k := .i64) (w := W) (c := x50) g50
    subst e50
    obtain ⟨q1_51, e51, v1_51⟩ := one_int (k := .i64) (w := W) (c := x51) g51
    subst e51
    obtain ⟨q1_52, e52, v1_52⟩ := one_int (k := .i64) (w := W) (c := x52) g52
    subst e52
    obtain ⟨q1_53, e53, v1_53⟩ := one_int (k := .i64) (w := W) (c := x53) g53
    subst e53
    obtain ⟨q1_54, e54, v1_54⟩ := one_int (k := .i64) (w := W) (c := x54) g54
    subst e54
    obtain ⟨q1_55, e55, v1_55⟩ := one_int (k := .i64) (w := W) (c := x55) g55
    subst e55
    obtain ⟨q1_56, e56, v1_56⟩ := one_int (k := .i64) (w := W) (c := x56) g56
    subst e56
    obtain ⟨q1_57, e57, v1_57⟩ := one_int (k := .i64) (w := W) (c := x57) g57
    subst e57
    obtain ⟨q1_58, e58, v1_58⟩ := one_int (k := .i64) (w := W) (c := x58) g58
    subst e58
    obtain ⟨q1_59, e59, v1_59⟩ := one_int (k := .i64) (w := W) (c := x59) g59
    subst e59
    obtain ⟨q1_60, e60, v1_60⟩ := one_int (k := .i64) (w := W) (c := x60) g60
    subst e60
    exact ⟨⟨q1_0, q1_1, q1_2, q1_3, q1_4, q1_5, q1_6, q1_7, q1_8, q1_9, q1_10, q1_11, q1_12, q1_13, q1_14, q1_15, q1_16, q1_17, q1_18, q1_19, q1_20, q1_21, q1_22, q1_23, q1_24, q1_25, q1_26, q1_27, q1_28, q1_29, q1_30, q1_31, q1_32, q1_33, q1_34, q1_35, q1_36, q1_37, q1_38, q1_39, q1_40, q1_41, q1_42, q1_43, q1_44, q1_45, q1_46, q1_47, q1_48, q1_49, q1_50, q1_51, q1_52, q1_53, q1_54, q1_55, q1_56, q1_57, q1_58, q1_59, q1_60⟩, rfl, trivial⟩) l1 hel1
  have hs1 : SlAt W A1 61 l1 := slAt_of (fun e he => (hel1 e he).1) hrd1
  rw [eps1] at hs1
  have hn1 : l1.length = ps1.length := by rw [eps1, List.length_map]
  clear hA0 hval0 hsz0
  refine (PuAt.out (TransSafe_n ⟨a0_0, a0_1, a0_2, a0_3, a0_4⟩ ps1 A1 _ c1 W hn1 hs1)).mono fun e W' ⟨he, bel⟩ => ?_
  subst he
  exact ⟨_, rfl, _, _, _, [], _, [], hW', trodAll_mk1 (shut_bool Try.underlying4 _), (trodAll_cons_mk (Below.trod laidOut (by kernel_rfl) (of_decide_eq_true (by kernel_rfl)) kk0 bel lt0) (trodAll_cons_mk (Below.trod laidOut (by kernel_rfl) (of_decide_eq_true (by kernel_rfl)) kk1 bel lt1) trodAll_mk0)), rfl, bel.frame _, fun h => by cases h⟩
theorem over : Rows.transSafeRow.holds Try.pinned (OpenSpec.ofChange Rows.transSafeSpec) :=
  OpenClaim.holds_of_wide 10 Try.f10 rfl rfl rfl rfl rfl rfl rfl ⟨rfl, rfl, rfl, rfl, rfl⟩ rfl rfl rfl rfl rfl (by kernel_rfl) Try.func10 (by kernel_rfl)
    (of_decide_eq_true (by kernel_rfl)) (by unfold Func.isWrapper; first | (rw [if_pos (by decide +kernel)]; kernel_rfl) | (rw [if_neg (by decide +kernel)]; exact ⟨rfl, rfl⟩))
    (fun os started H enc _ => lifted os started H enc)
theorem proved : Rows.TransSafeSaid := over
#print axioms proved
end Go.Proofs.Ytmgoahmbdpoikaa.transSafe
namespace Go.Proofs.Ytmgoahmbdpoikaa
/-- The row, under a short name, for the claim. -/
theorem transSafe_holds : Rows.TransSafeSaid := transSafe.proved
end Go.Proofs.Ytmgoahmbdpoikaa
