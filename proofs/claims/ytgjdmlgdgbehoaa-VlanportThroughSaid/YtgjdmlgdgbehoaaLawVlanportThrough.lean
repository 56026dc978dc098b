/- The law VlanportThrough of the given program, for every input: it returns true, and its arguments read afterwards as before. -/
import Derived.Test.YtgjdmlgdgbehoaaRows
import Derived.Test.YtgjdmlgdgbehoaaOpb
import Derived.Test.YtgjdmlgdgbehoaaVlanL
import Derived.WalkKit
import Derived.ProofKit
import Derived.OpenShut
import Derived.ShutString
import Derived.ChangeOld
import Derived.Below
import Derived.SizedLaws
namespace Go.Proofs.Ytgjdmlgdgbehoaa.vlanportThrough
open Go.ChangeShapes Go.WideShapes Go.ChangeAt Go.RowKit Go.Proofs.Ytgjdmlgdgbehoaa.Am
open Go.ChangeMaps (open_string shut_string)
set_option linter.unusedVariables false
set_option linter.unusedSimpArgs false
theorem own : ownKnob Try.prog.godebug = none := by kernel_rfl
theorem laidOut : laidOutB Try.prog = true := by kernel_rfl
set_option maxRecDepth 100000 in
set_option maxHeartbeats 1000000 in
theorem lifted (os : Os) (started : os.Started) (H : Type) (enc : TypeId × Value → H) :
    ReturnsInHanded {} Try.checked os 7 .any (Rows.vlanportThroughSpec.pre6 enc Try.prog Try.f7 Rows.vlanportThroughRow.domain false) (Rows.vlanportThroughSpec.post enc Try.prog Try.f7 false true false false) := by
  refine returnsInHanded_of_change_sized (C := Try.checked) own started (by kernel_rfl) Try.func7
    (ChangeSpec.witness6 (enc := enc) (C := Try.checked) false ⟨#[], #[.agg #[.bool false, .int .i64 0, .slice none 0 0], .agg #[.string ByteArray.empty, .string ByteArray.empty, .bool false, .int .i64 0, .int .i64 0, .int .i64 0, .string ByteArray.empty], .int .i64 0, .int .i64 0], []⟩ 8 (by kernel_rfl) (by kernel_rfl) (by kernel_rfl) (by kernel_rfl)) ?_
  intro W base args ds gs before hval0 hW hcnd hsz0 _
  have hval : ∀ (j : Nat) t v, Try.f7.params[j]? = some t → args[j]? = some v → Value.okWide Try.prog W .any base t v := hval0
  have hW' := hW
  obtain ⟨p, q, hA0, hV, rfl, hfz, hnd⟩ := hW
  have hA : DataW.TrodAll enc Try.prog W 0 (fun _ => true) true Try.f7.params.toList args.toList ds p := hA0
  rw [Try.params7] at hA hval
  obtain ⟨v0, vs0, d0, ds0, p0, q0, hargs, rfl, rfl, h0, r0⟩ := trodAll_cons hA
  obtain ⟨v1, vs1, d1, ds1, p1, q1, rfl, rfl, rfl, h1, r1⟩ := trodAll_cons r0
  obtain ⟨v2, vs2, d2, ds2, p2, q2, rfl, rfl, rfl, h2, r2⟩ := trodAll_cons r1
  obtain ⟨v3, vs3, d3, ds3, p3, q3, rfl, rfl, rfl, h3, r3⟩ := trodAll_cons r2
  obtain ⟨rfl, rfl, rfl⟩ := trodAll_nil r3
  obtain rfl : args = #[v0, v1, v2, v3] := by cases args; simp_all
  obtain ⟨rfl, rfl⟩ := trodVars_none hV
  have kk0 := h0
  have lt0 : ∀ x ∈ p0, x.block < W.heap.size := by obtain ⟨m, hm⟩ := kk0; exact DataW.trod_lt m _ _ _ hm
  obtain ⟨cs0, ev0, hk0⟩ := open_value (opens_struct (sz := 3) Try.underlying48 (by kernel_rfl) (opensF_cons (sz := 1) (opens_bool Try.underlying4) (by rfl) (by kernel_rfl) (opensF_cons (sz := 1) (opens_int (k := .i64) Try.underlying3) (by rfl) (by kernel_rfl) (opensF_last (sz := 1) (opens_slice (sz := 1) Try.underlying29 (by kernel_rfl) (by decide) (opens_int (k := .i64) Try.underlying3)) (by rfl) (by kernel_rfl))))) Try.underlying48 (hval 0 48 v0 rfl rfl) h0
  have hk0 : (RSt 3 (fun w cs => RBool w (cs.take 1) ∧ (fun w cs => (RInt .i64) w (cs.take 1) ∧ (fun w cs => (RSl 1 (RInt .i64)) w (cs.take 1)) w (cs.drop 1)) w (cs.drop 1))) W cs0 := hk0
  have z0_0 : cs0.length = 3 := hk0.1
  obtain ⟨x0_0, y0_1, f0_0, z0_1⟩ := cons_of z0_0
  subst f0_0
  obtain ⟨x0_1, y0_2, f0_1, z0_2⟩ := cons_of z0_1
  subst f0_1
  obtain ⟨x0_2, y0_3, f0_2, z0_3⟩ := cons_of z0_2
  subst f0_2
  obtain rfl := nil_of z0_3
  have g0_0 : RBool W [x0_0] := hk0.2.1
  have g0_1 : (RInt .i64) W [x0_1] := hk0.2.2.1
  have g0_2 : (RSl 1 (RInt .i64)) W [x0_2] := hk0.2.2.2
  clear hk0
  subst ev0
  obtain ⟨a0_0, e0_0⟩ := one_bool (w := W) (c := x0_0) g0_0
  subst e0_0
  obtain ⟨a0_1, e0_1, w0_1⟩ := one_int (k := .i64) (w := W) (c := x0_1) g0_1
  subst e0_1
  obtain ⟨l0_2, A0_2, c0_2, e0_2, hc0_2, hm0_2, hel0_2, hrd0_2⟩ := one_sl (sz := 1) (R := (RInt .i64)) (w := W) (c := x0_2) g0_2
  subst e0_2
  have kk1 := h1
  have lt1 : ∀ x ∈ p1, x.block < W.heap.size := by obtain ⟨m, hm⟩ := kk1; exact DataW.trod_lt m _ _ _ hm
  obtain ⟨cs1, ev1, hk1⟩ := open_value (opens_struct (sz := 7) Try.underlying50 (by kernel_rfl) (opensF_cons (sz := 1) (opens_string Try.underlying9) (by rfl) (by kernel_rfl) (opensF_cons (sz := 1) (opens_string Try.underlying9) (by rfl) (by kernel_rfl) (opensF_cons (sz := 1) (opens_bool Try.underlying4) (by rfl) (by kernel_rfl) (opensF_cons (sz := 1) (opens_int (k := .i64) Try.underlying3) (by rfl) (by kernel_rfl) (opensF_cons (sz := 1) (opens_int (k := .i64) Try.underlying3) (by rfl) (by kernel_rfl) (opensF_cons (sz := 1) (opens_int (k := .i64) Try.underlying3) (by rfl) (by kernel_rfl) (opensF_last (sz := 1) (opens_string Try.underlying9) (by rfl) (by kernel_rfl))))))))) Try.underlying50 (hval 1 50 v1 rfl rfl) h1
  have hk1 : (RSt 7 (fun w cs => RStr w (cs.take 1) ∧ (fun w cs => RStr w (cs.take 1) ∧ (fun w cs => RBool w (cs.take 1) ∧ (fun w cs => (RInt .i64) w (cs.take 1) ∧ (fun w cs => (RInt .i64) w (cs.take 1) ∧ (fun w cs => (RInt .i64) w (cs.take 1) ∧ (fun w cs => RStr w (cs.take 1)) w (cs.drop 1)) w (cs.drop 1)) w (cs.drop 1)) w (cs.drop 1)) w (cs.drop 1)) w (cs.drop 1))) W cs1 := hk1
  have z1_0 : cs1.length = 7 := hk1.1
  obtain ⟨x1_0, y1_1, f1_0, z1_1⟩ := cons_of z1_0
  subst f1_0
  obtain ⟨x1_1, y1_2, f1_1, z1_2⟩ := cons_of z1_1
  subst f1_1
  obtain ⟨x1_2, y1_3, f1_2, z1_3⟩ := cons_of z1_2
  subst f1_2
  obtain ⟨x1_3, y1_4, f1_3, z1_4⟩ := cons_of z1_3
  subst f1_3
  obtain ⟨x1_4, y1_5, f1_4, z1_5⟩ := cons_of z1_4
  subst f1_4
  obtain ⟨x1_5, y1_6, f1_5, z1_6⟩ := cons_of z1_5
  subst f1_5
  obtain ⟨x1_6, y1_7, f1_6, z1_7⟩ := cons_of z1_6
  subst f1_6
  obtain rfl := nil_of z1_7
  have g1_0 : RStr W [x1_0] := hk1.2.1
  have g1_1 : RStr W [x1_1] := hk1.2.2.1
  have g1_2 : RBool W [x1_2] := hk1.2.2.2.1
  have g1_3 : (RInt .i64) W [x1_3] := hk1.2.2.2.2.1
  have g1_4 : (RInt .i64) W [x1_4] := hk1.2.2.2.2.2.1
  have g1_5 : (RInt .i64) W [x1_5] := hk1.2.2.2.2.2.2.1
  have g1_6 : RStr W [x1_6] := hk1.2.2.2.2.2.2.2
  clear hk1
  subst ev1
  obtain ⟨a1_0, e1_0, w1_0⟩ := one_str (w := W) (c := x1_0) g1_0
  subst e1_0
  obtain ⟨a1_1, e1_1, w1_1⟩ := one_str (w := W) (c := x1_1) g1_1
  subst e1_1
  obtain ⟨a1_2, e1_2⟩ := one_bool (w := W) (c := x1_2) g1_2
  subst e1_2
  obtain ⟨a1_3, e1_3, w1_3⟩ := one_int (k := .i64) (w := W) (c := x1_3) g1_3
  subst e1_3
  obtain ⟨a1_4, e1_4, w1_4⟩ := one_int (k := .i64) (w := W) (c := x1_4) g1_4
  subst e1_4
  obtain ⟨a1_5, e1_5, w1_5⟩ := one_int (k := .i64) (w := W) (c := x1_5) g1_5
  subst e1_5
  obtain ⟨a1_6, e1_6, w1_6⟩ := one_str (w := W) (c := x1_6) g1_6
  subst e1_6
  have kk2 := h2
  have lt2 : ∀ x ∈ p2, x.block < W.heap.size := by obtain ⟨m, hm⟩ := kk2; exact DataW.trod_lt m _ _ _ hm
  obtain ⟨a2, rfl, rfl, rfl, w2⟩ := open_int Try.underlying3 (hval 2 3 v2 rfl rfl) h2
  have kk3 := h3
  have lt3 : ∀ x ∈ p3, x.block < W.heap.size := by obtain ⟨m, hm⟩ := kk3; exact DataW.trod_lt m _ _ _ hm
  obtain ⟨a3, rfl, rfl, rfl, w3⟩ := open_int Try.underlying3 (hval 3 3 v3 rfl rfl) h3
  clear hA0 hval0 hsz0
  refine (PuAt.out (VlanportThrough_n a0_0 a0_1 l0_2 ⟨a1_0, a1_1, a1_2, a1_3, a1_4, a1_5, a1_6⟩ a2 a3 A0_2 c0_2 W hel0_2 hrd0_2)).mono fun e W' ⟨he, bel⟩ => ?_
  subst he
  exact ⟨_, rfl, _, _, _, [], _, [], hW', trodAll_mk1 (shut_bool Try.underlying4 _), (trodAll_cons_mk (Below.trod laidOut (by kernel_rfl) (of_decide_eq_true (by kernel_rfl)) kk0 bel lt0) (trodAll_cons_mk (Below.trod laidOut (by kernel_rfl) (of_decide_eq_true (by kernel_rfl)) kk1 bel lt1) (trodAll_cons_mk (Below.trod laidOut (by kernel_rfl) (of_decide_eq_true (by kernel_rfl)) kk2 bel lt2) (trodAll_cons_mk (Below.trod laidOut (by kernel_rfl) (of_decide_eq_true (by kernel_rfl)) kk3 bel lt3) trodAll_mk0)))), rfl, bel.frame _, fun h => by cases h⟩
theorem over : Rows.vlanportThroughRow.holds Try.pinned (OpenSpec.ofChange Rows.vlanportThroughSpec) :=
  OpenClaim.holds_of_wide 7 Try.f7 rfl rfl rfl rfl rfl rfl rfl ⟨rfl, rfl, rfl, rfl, rfl⟩ rfl rfl rfl rfl rfl (by kernel_rfl) Try.func7 (by kernel_rfl)
    (of_decide_eq_true (by kernel_rfl)) (by unfold Func.isWrapper; first | (rw [if_pos (by decide +kernel)]; kernel_rfl) | (rw [if_neg (by decide +kernel)]; exact ⟨rfl, rfl⟩))
    (fun os started H enc _ => lifted os started H enc)
theorem proved : Rows.VlanportThroughSaid := over
#print axioms proved
end Go.Proofs.Ytgjdmlgdgbehoaa.vlanportThrough
namespace Go.Proofs.Ytgjdmlgdgbehoaa
/-- The row, under a short name, for the claim. -/
theorem vlanportThrough_holds : Rows.VlanportThroughSaid := vlanportThrough.proved
end Go.Proofs.Ytgjdmlgdgbehoaa
