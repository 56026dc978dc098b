/- The law VlanportTells of the given program, for every input: it returns true, and its arguments read afterwards as before. -/
import Derived.Test.YtgjdmlgdgbehoaaRows
import Derived.Test.YtgjdmlgdgbehoaaOpb
import Derived.Test.YtgjdmlgdgbehoaaVlanL
import Derived.WalkKit
import Derived.ProofKit
import Derived.OpenShut
import Derived.ShutString
import Derived.ChangeOld
import Derived.Below
import Derived.SizedLaws
namespace Go.Proofs.Ytgjdmlgdgbehoaa.vlanportTells
open Go.ChangeShapes Go.WideShapes Go.ChangeAt Go.RowKit Go.Proofs.Ytgjdmlgdgbehoaa.Am
open Go.ChangeMaps (open_string shut_string)
set_option linter.unusedVariables false
set_option linter.unusedSimpArgs false
theorem own : ownKnob Try.prog.godebug = none := by kernel_rfl
theorem laidOut : laidOutB Try.prog = true := by kernel_rfl
set_option maxRecDepth 100000 in
set_option maxHeartbeats 1000000 in
theorem lifted (os : Os) (started : os.Started) (H : Type) (enc : TypeId × Value → H) :
    ReturnsInHanded {} Try.checked os 6 .any (Rows.vlanportTellsSpec.pre6 enc Try.prog Try.f6 Rows.vlanportTellsRow.domain false) (Rows.vlanportTellsSpec.post enc Try.prog Try.f6 false true false false) := by
  refine returnsInHanded_of_change_sized (C := Try.checked) own started (by kernel_rfl) Try.func6
    (ChangeSpec.witness6 (enc := enc) (C := Try.checked) false ⟨#[], #[.agg #[.bool false, .int .i64 0, .slice none 0 0], .string ByteArray.empty, .agg #[.string ByteArray.empty, .string ByteArray.empty, .bool false, .int .i64 0, .int .i64 0, .int .i64 0, .string ByteArray.empty], .int .i64 0], []⟩ 8 (by kernel_rfl) (by kernel_rfl) (by kernel_rfl) (by kernel_rfl)) ?_
  intro W base args ds gs before hval0 hW hcnd hsz0 _
  have hval : ∀ (j : Nat) t v, Try.f6.params[j]? = some t → args[j]? = some v → Value.okWide Try.prog W .any base t v := hval0
  have hW' := hW
  obtain ⟨p, q, hA0, hV, rfl, hfz, hnd⟩ := hW
  have hA : DataW.TrodAll enc Try.prog W 0 (fun _ => true) true Try.f6.params.toList args.toList ds p := hA0
  rw [Try.params6] at hA hval
  obtain ⟨v0, vs0, d0, ds0, p0, q0, hargs, rfl, rfl, h0, r0⟩ := trodAll_cons hA
  obtain ⟨v1, vs1, d1, ds1, p1, q1, rfl, rfl, rfl, h1, r1⟩ := trodAll_cons r0
  obtain ⟨v2, vs2, d2, ds2, p2, q2, rfl, rfl, rfl, h2, r2⟩ := trodAll_cons r1
  obtain ⟨v3, vs3, d3, ds3, p3, q3, rfl, rfl, rfl, h3, r3⟩ := trodAll_cons r2
  obtain ⟨rfl, rfl, rfl⟩ := trodAll_nil r3
  obtain rfl : args = #[v0, v1, v2, v3] := by cases args; simp_all
  obtain ⟨rfl, rfl⟩ := trodVars_none hV
  have kk0 := h0
  have lt0 : ∀ x ∈ p0, x.block < W.heap.size := by obtain ⟨m, hm⟩ := kk0; exact DataW.trod_lt m _ _ _ hm
  obtain ⟨cs0, ev0, hk0⟩ := open_value (opens_struct (sz := 3) Try.underlying48 (by kernel_rfl) (opensF_cons (sz := 1) (opens_bool Try.underlying4) (by rfl) (by kernel_rfl) (opensF_cons (sz := 1) (opens_int (k := .i64) Try.underlying3) (by rfl) (by kernel_rfl) (opensF_last (sz := 1) (opens_slice (sz := 1) Try.underlying29 (by kernel_rfl) (by decide) (opens_int (k := .i64) Try.underlying3)) (by rfl) (by kernel_rfl))))) Try.underlying48 (hval 0 48 v0 rfl rfl) h0
  have hk0 : (RSt 3 (fun w cs => RBool w (cs.take 1) ∧ (fun w cs => (RInt .i64) w (cs.take 1) ∧ (fun w cs => (RSl 1 (RInt .i64)) w (cs.take 1)) w (cs.drop 1)) w (cs.drop 1))) W cs0 := hk0
  have z0_0 : cs0.length = 3 := hk0.1
  obtain ⟨x0_0, y0_1, f0_0, z0_1⟩ := cons_of z0_0
  subst f0_0
  obtain ⟨x0_1, y0_2, f0_1, z0_2⟩ := cons_of z0_1
  subst f0_1
  obtain ⟨x0_2, y0_3, f0_2, z0_3⟩ := cons_of z0_2
  subst f0_2
  obtain rfl := nil_of z0_3
  have g0_0 : RBool W [x0_0] := hk0.2.1
  have g0_1 : (RInt .i64) W [x0_1] := hk0.2.2.1
  have g0_2 : (RSl 1 (RInt .i64)) W [x0_2] := hk0.2.2.2
  clear hk0
  subst ev0
  obtain ⟨a0_0, e0_0⟩ := one_bool (w := W) (c := x0_0) g0_0
  subst e0_0
  obtain ⟨a0_1, e0_1, w0_1⟩ := one_int (k := .i64) (w := W) (c := x0_1) g0_1
  subst e0_1
  obtain ⟨l0_2, A0_2, c0_2, e0_2, hc0_2, hm0_2, hel0_2, hrd0_2⟩ := one_sl (sz := 1) (R := (RInt .i64)) (w := W) (c := x0_2) g0_2
  subst e0_2
  have kk1 := h1
  have lt1 : ∀ x ∈ p1, x.block < W.heap.size := by obtain ⟨m, hm⟩ := kk1; exact DataW.trod_lt m _ _ _ hm
  obtain ⟨a1, rfl, rfl, rfl, w1⟩ := open_string Try.underlying9 (hval 1 9 v1 rfl rfl) h1
  have kk2 := h2
  have lt2 : ∀ x ∈ p2, x.block < W.heap.size := by obtain ⟨m, hm⟩ := kk2; exact DataW.trod_lt m _ _ _ hm
  obtain ⟨cs2, ev2, hk2⟩ := open_value (opens_struct (sz := 7) Try.underlying50 (by kernel_rfl) (opensF_cons (sz := 1) (opens_string Try.underlying9) (by rfl) (by kernel_rfl) (opensF_cons (sz := 1) (opens_string Try.underlying9) (by rfl) (by kernel_rfl) (opensF_cons (sz := 1) (opens_bool Try.underlying4) (by rfl) (by kernel_rfl) (opensF_cons (sz := 1) (opens_int (k := .i64) Try.underlying3) (by rfl) (by kernel_rfl) (opensF_cons (sz := 1) (opens_int (k := .i64) Try.underlying3) (by rfl) (by kernel_rfl) (opensF_cons (sz := 1) (opens_int (k := .i64) Try.underlying3) (by rfl) (by kernel_rfl) (opensF_last (sz := 1) (opens_string Try.underlying9) (by rfl) (by kernel_rfl))))))))) Try.underlying50 (hval 2 50 v2 rfl rfl) h2
  have hk2 : (RSt 7 (fun w cs => RStr w (cs.take 1) ∧ (fun w cs => RStr w (cs.take 1) ∧ (fun w cs => RBool w (cs.take 1) ∧ (fun w cs => (RInt .i64) w (cs.take 1) ∧ (fun w cs => (RInt .i64) w (cs.take 1) ∧ (fun w cs => (RInt .i64) w (cs.take 1) ∧ (fun w cs => RStr w (cs.take 1)) w (cs.drop 1)) w (cs.drop 1)) w (cs.drop 1)) w (cs.drop 1)) w (cs.drop 1)) w (cs.drop 1))) W cs2 := hk2
  have z2_0 : cs2.length = 7 := hk2.1
  obtain ⟨x2_0, y2_1, f2_0, z2_1⟩ := cons_of z2_0
  subst f2_0
  obtain ⟨x2_1, y2_2, f2_1, z2_2⟩ := cons_of z2_1
  subst f2_1
  obtain ⟨x2_2, y2_3, f2_2, z2_3⟩ := cons_of z2_2
  subst f2_2
  obtain ⟨x2_3, y2_4, f2_3, z2_4⟩ := cons_of z2_3
  subst f2_3
  obtain ⟨x2_4, y2_5, f2_4, z2_5⟩ := cons_of z2_4
  subst f2_4
  obtain ⟨x2_5, y2_6, f2_5, z2_6⟩ := cons_of z2_5
  subst f2_5
  obtain ⟨x2_6, y2_7, f2_6, z2_7⟩ := cons_of z2_6
  subst f2_6
  obtain rfl := nil_of z2_7
  have g2_0 : RStr W [x2_0] := hk2.2.1
  have g2_1 : RStr W [x2_1] := hk2.2.2.1
  have g2_2 : RBool W [x2_2] := hk2.2.2.2.1
  have g2_3 : (RInt .i64) W [x2_3] := hk2.2.2.2.2.1
  have g2_4 : (RInt .i64) W [x2_4] := hk2.2.2.2.2.2.1
  have g2_5 : (RInt .i64) W [x2_5] := hk2.2.2.2.2.2.2.1
  have g2_6 : RStr W [x2_6] := hk2.2.2.2.2.2.2.2
  clear hk2
  subst ev2
  obtain ⟨a2_0, e2_0, w2_0⟩ := one_str (w := W) (c := x2_0) g2_0
  subst e2_0
  obtain ⟨a2_1, e2_1, w2_1⟩ := one_str (w := W) (c := x2_1) g2_1
  subst e2_1
  obtain ⟨a2_2, e2_2⟩ := one_bool (w := W) (c := x2_2) g2_2
  subst e2_2
  obtain ⟨a2_3, e2_3, w2_3⟩ := one_int (k := .i64) (w := W) (c := x2_3) g2_3
  subst e2_3
  obtain ⟨a2_4, e2_4, w2_4⟩ := one_int (k := .i64) (w := W) (c := x2_4) g2_4
  subst e2_4
  obtain ⟨a2_5, e2_5, w2_5⟩ := one_int (k := .i64) (w := W) (c := x2_5) g2_5
  subst e2_5
  obtain ⟨a2_6, e2_6, w2_6⟩ := one_str (w := W) (c := x2_6) g2_6
  subst e2_6
  have kk3 := h3
  have lt3 : ∀ x ∈ p3, x.block < W.heap.size := by obtain ⟨m, hm⟩ := kk3; exact DataW.trod_lt m _ _ _ hm
  obtain ⟨a3, rfl, rfl, rfl, w3⟩ := open_int Try.underlying3 (hval 3 3 v3 rfl rfl) h3
  clear hA0 hval0 hsz0
  refine (PuAt.out (VlanportTells_n a0_0 a0_1 l0_2 a1 ⟨a2_0, a2_1, a2_2, a2_3, a2_4, a2_5, a2_6⟩ a3 A0_2 c0_2 W hel0_2 hrd0_2)).mono fun e W' ⟨he, bel⟩ => ?_
  subst he
  exact ⟨_, rfl, _, _, _, [], _, [], hW', trodAll_mk1 (shut_bool Try.underlying4 _), (trodAll_cons_mk (Below.trod laidOut (by kernel_rfl) (of_decide_eq_true (by kernel_rfl)) kk0 bel lt0) (trodAll_cons_mk (Below.trod laidOut (by kernel_rfl) (of_decide_eq_true (by kernel_rfl)) kk1 bel lt1) (trodAll_cons_mk (Below.trod laidOut (by kernel_rfl) (of_decide_eq_true (by kernel_rfl)) kk2 bel lt2) (trodAll_cons_mk (Below.trod laidOut (by kernel_rfl) (of_decide_eq_true (by kernel_rfl)) kk3 bel lt3) trodAll_mk0)))), rfl, bel.frame _, fun h => by cases h⟩
theorem over : Rows.vlanportTellsRow.holds Try.pinned (OpenSpec.ofChange Rows.vlanportTellsSpec) :=
  OpenClaim.holds_of_wide 6 Try.f6 rfl rfl rfl rfl rfl rfl rfl ⟨rfl, rfl, rfl, rfl, rfl⟩ rfl rfl rfl rfl rfl (by kernel_rfl) Try.func6 (by kernel_rfl)
    (of_decide_eq_true (by kernel_rfl)) (by unfold Func.isWrapper; first | (rw [if_pos (by decide +kernel)]; kernel_rfl) | (rw [if_neg (by decide +kernel)]; exact ⟨rfl, rfl⟩))
    (fun os started H enc _ => lifted os started H enc)
theorem proved : Rows.VlanportTellsSaid := over
#print axioms proved
end Go.Proofs.Ytgjdmlgdgbehoaa.vlanportTells
namespace Go.Proofs.Ytgjdmlgdgbehoaa
/-- The row, under a short name, for the claim. -/
theorem vlanportTells_holds : Rows.VlanportTellsSaid := vlanportTells.proved
end Go.Proofs.Ytgjdmlgdgbehoaa
