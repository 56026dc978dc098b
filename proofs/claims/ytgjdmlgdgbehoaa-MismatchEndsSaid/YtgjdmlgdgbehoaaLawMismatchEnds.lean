/- The law MismatchEnds of the given program, for every input: it returns true, and its arguments read afterwards as before. -/
import Derived.Test.YtgjdmlgdgbehoaaRows
import Derived.Test.YtgjdmlgdgbehoaaOpb
import Derived.Test.YtgjdmlgdgbehoaaMism11
import Derived.WalkKit
import Derived.ProofKit
import Derived.OpenShut
import Derived.ShutString
import Derived.ChangeOld
import Derived.Below
import Derived.SizedLaws
namespace Go.Proofs.Ytgjdmlgdgbehoaa.mismatchEnds
open Go.ChangeShapes Go.WideShapes Go.ChangeAt Go.RowKit Go.Proofs.Ytgjdmlgdgbehoaa.Am
open Go.ChangeMaps (open_string shut_string)
set_option linter.unusedVariables false
set_option linter.unusedSimpArgs false
theorem own : ownKnob Try.prog.godebug = none := by kernel_rfl
theorem laidOut : laidOutB Try.prog = true := by kernel_rfl
set_option maxRecDepth 100000 in
set_option maxHeartbeats 1000000 in
theorem lifted (os : Os) (started : os.Started) (H : Type) (enc : TypeId × Value → H) :
    ReturnsInHanded {} Try.checked os 9 .any (Rows.mismatchEndsSpec.pre6 enc Try.prog Try.f9 Rows.mismatchEndsRow.domain false) (Rows.mismatchEndsSpec.post enc Try.prog Try.f9 false true false false) := by
  refine returnsInHanded_of_change_sized (C := Try.checked) own started (by kernel_rfl) Try.func9
    (ChangeSpec.witness6 (enc := enc) (C := Try.checked) false ⟨#[], #[.agg #[.bool false, .int .i64 0, .slice none 0 0], .int .i64 0, .int .i64 0, .int .i64 0, .int .i64 0, .int .i64 0], []⟩ 8 (by kernel_rfl) (by kernel_rfl) (by kernel_rfl) (by kernel_rfl)) ?_
  intro W base args ds gs before hval0 hW hcnd hsz0 _
  have hval : ∀ (j : Nat) t v, Try.f9.params[j]? = some t → args[j]? = some v → Value.okWide Try.prog W .any base t v := hval0
  have hW' := hW
  obtain ⟨p, q, hA0, hV, rfl, hfz, hnd⟩ := hW
  have hA : DataW.TrodAll enc Try.prog W 0 (fun _ => true) true Try.f9.params.toList args.toList ds p := hA0
  rw [Try.params9] at hA hval
  obtain ⟨v0, vs0, d0, ds0, p0, q0, hargs, rfl, rfl, h0, r0⟩ := trodAll_cons hA
  obtain ⟨v1, vs1, d1, ds1, p1, q1, rfl, rfl, rfl, h1, r1⟩ := trodAll_cons r0
  obtain ⟨v2, vs2, d2, ds2, p2, q2, rfl, rfl, rfl, h2, r2⟩ := trodAll_cons r1
  obtain ⟨v3, vs3, d3, ds3, p3, q3, rfl, rfl, rfl, h3, r3⟩ := trodAll_cons r2
  obtain ⟨v4, vs4, d4, ds4, p4, q4, rfl, rfl, rfl, h4, r4⟩ := trodAll_cons r3
  obtain ⟨v5, vs5, d5, ds5, p5, q5, rfl, rfl, rfl, h5, r5⟩ := trodAll_cons r4
  obtain ⟨rfl, rfl, rfl⟩ := trodAll_nil r5
  obtain rfl : args = #[v0, v1, v2, v3, v4, v5] := by cases args; simp_all
  obtain ⟨rfl, rfl⟩ := trodVars_none hV
  have kk0 := h0
  have lt0 : ∀ x ∈ p0, x.block < W.heap.size := by obtain ⟨m, hm⟩ := kk0; exact DataW.trod_lt m _ _ _ hm
  obtain ⟨cs0, ev0, hk0⟩ := open_value (opens_struct (sz := 3) Try.underlying48 (by kernel_rfl) (opensF_cons (sz := 1) (opens_bool Try.underlying4) (by rfl) (by kernel_rfl) (opensF_cons (sz := 1) (opens_int (k := .i64) Try.underlying3) (by rfl) (by kernel_rfl) (opensF_last (sz := 1) (opens_slice (sz := 1) Try.underlying29 (by kernel_rfl) (by decide) (opens_int (k := .i64) Try.underlying3)) (by rfl) (by kernel_rfl))))) Try.underlying48 (hval 0 48 v0 rfl rfl) h0
  have hk0 : (RSt 3 (fun w cs => RBool w (cs.take 1) ∧ (fun w cs => (RInt .i64) w (cs.take 1) ∧ (fun w cs => (RSl 1 (RInt .i64)) w (cs.take 1)) w (cs.drop 1)) w (cs.drop 1))) W cs0 := hk0
  have z0_0 : cs0.length = 3 := hk0.1
  obtain ⟨x0_0, y0_1, f0_0, z0_1⟩ := cons_of z0_0
  subst f0_0
  obtain ⟨x0_1, y0_2, f0_1, z0_2⟩ := cons_of z0_1
  subst f0_1
  obtain ⟨x0_2, y0_3, f0_2, z0_3⟩ := cons_of z0_2
  subst f0_2
  obtain rfl := nil_of z0_3
  have g0_0 : RBool W [x0_0] := hk0.2.1
  have g0_1 : (RInt .i64) W [x0_1] := hk0.2.2.1
  have g0_2 : (RSl 1 (RInt .i64)) W [x0_2] := hk0.2.2.2
  clear hk0
  subst ev0
  obtain ⟨a0_0, e0_0⟩ := one_bool (w := W) (c := x0_0) g0_0
  subst e0_0
  obtain ⟨a0_1, e0_1, w0_1⟩ := one_int (k := .i64) (w := W) (c := x0_1) g0_1
  subst e0_1
  obtain ⟨l0_2, A0_2, c0_2, e0_2, hc0_2, hm0_2, hel0_2, hrd0_2⟩ := one_sl (sz := 1) (R := (RInt .i64)) (w := W) (c := x0_2) g0_2
  subst e0_2
  have kk1 := h1
  have lt1 : ∀ x ∈ p1, x.block < W.heap.size := by obtain ⟨m, hm⟩ := kk1; exact DataW.trod_lt m _ _ _ hm
  obtain ⟨a1, rfl, rfl, rfl, w1⟩ := open_int Try.underlying3 (hval 1 3 v1 rfl rfl) h1
  have kk2 := h2
  have lt2 : ∀ x ∈ p2, x.block < W.heap.size := by obtain ⟨m, hm⟩ := kk2; exact DataW.trod_lt m _ _ _ hm
  obtain ⟨a2, rfl, rfl, rfl, w2⟩ := open_int Try.underlying3 (hval 2 3 v2 rfl rfl) h2
  have kk3 := h3
  have lt3 : ∀ x ∈ p3, x.block < W.heap.size := by obtain ⟨m, hm⟩ := kk3; exact DataW.trod_lt m _ _ _ hm
  obtain ⟨a3, rfl, rfl, rfl, w3⟩ := open_int Try.underlying3 (hval 3 3 v3 rfl rfl) h3
  have kk4 := h4
  have lt4 : ∀ x ∈ p4, x.block < W.heap.size := by obtain ⟨m, hm⟩ := kk4; exact DataW.trod_lt m _ _ _ hm
  obtain ⟨a4, rfl, rfl, rfl, w4⟩ := open_int Try.underlying3 (hval 4 3 v4 rfl rfl) h4
  have kk5 := h5
  have lt5 : ∀ x ∈ p5, x.block < W.heap.size := by obtain ⟨m, hm⟩ := kk5; exact DataW.trod_lt m _ _ _ hm
  obtain ⟨a5, rfl, rfl, rfl, w5⟩ := open_int Try.underlying3 (hval 5 3 v5 rfl rfl) h5
  clear hA0 hval0 hsz0
  refine (PuAt.out (MismatchEnds_n a0_0 a0_1 l0_2 a1 a2 a3 a4 a5 A0_2 c0_2 W hel0_2 hrd0_2)).mono fun e W' ⟨he, bel⟩ => ?_
  subst he
  exact ⟨_, rfl, _, _, _, [], _, [], hW', trodAll_mk1 (shut_bool Try.underlying4 _), (trodAll_cons_mk (Below.trod laidOut (by kernel_rfl) (of_decide_eq_true (by kernel_rfl)) kk0 bel lt0) (trodAll_cons_mk (Below.trod laidOut (by kernel_rfl) (of_decide_eq_true (by kernel_rfl)) kk1 bel lt1) (trodAll_cons_mk (Below.trod laidOut (by kernel_rfl) (of_decide_eq_true (by kernel_rfl)) kk2 bel lt2) (trodAll_cons_mk (Below.trod laidOut (by kernel_rfl) (of_decide_eq_true (by kernel_rfl)) kk3 bel lt3) (trodAll_cons_mk (Below.trod laidOut (by kernel_rfl) (of_decide_eq_true (by kernel_rfl)) kk4 bel lt4) (trodAll_cons_mk (Below.trod laidOut (by kernel_rfl) (of_decide_eq_true (by kernel_rfl)) kk5 bel lt5) trodAll_mk0)))))), rfl, bel.frame _, fun h => by cases h⟩
theorem over : Rows.mismatchEndsRow.holds Try.pinned (OpenSpec.ofChange Rows.mismatchEndsSpec) :=
  OpenClaim.holds_of_wide 9 Try.f9 rfl rfl rfl rfl rfl rfl rfl ⟨rfl, rfl, rfl, rfl, rfl⟩ rfl rfl rfl rfl rfl (by kernel_rfl) Try.func9 (by kernel_rfl)
    (of_decide_eq_true (by kernel_rfl)) (by unfold Func.isWrapper; first | (rw [if_pos (by decide +kernel)]; kernel_rfl) | (rw [if_neg (by decide +kernel)]; exact ⟨rfl, rfl⟩))
    (fun os started H enc _ => lifted os started H enc)
theorem proved : Rows.MismatchEndsSaid := over
#print axioms proved
end Go.Proofs.Ytgjdmlgdgbehoaa.mismatchEnds
namespace Go.Proofs.Ytgjdmlgdgbehoaa
/-- The row, under a short name, for the claim. -/
theorem mismatchEnds_holds : Rows.MismatchEndsSaid := mismatchEnds.proved
end Go.Proofs.Ytgjdmlgdgbehoaa
