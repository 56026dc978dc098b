/- The law MismatchPlays of the given program, for every input: it returns true, and its arguments read afterwards as before. -/
import Derived.Test.YtgjdmlgdgbehoaaRows
import Derived.Test.YtgjdmlgdgbehoaaOpb
import Derived.Test.YtgjdmlgdgbehoaaMism10
import Derived.WalkKit
import Derived.ProofKit
import Derived.OpenShut
import Derived.ShutString
import Derived.ChangeOld
import Derived.Below
import Derived.SizedLaws
namespace Go.Proofs.Ytgjdmlgdgbehoaa.mismatchPlays
open Go.ChangeShapes Go.WideShapes Go.ChangeAt Go.RowKit Go.Proofs.Ytgjdmlgdgbehoaa.Am
open Go.ChangeMaps (open_string shut_string)
set_option linter.unusedVariables false
set_option linter.unusedSimpArgs false
theorem own : ownKnob Try.prog.godebug = none := by kernel_rfl
theorem laidOut : laidOutB Try.prog = true := by kernel_rfl
set_option maxRecDepth 100000 in
set_option maxHeartbeats 1000000 in
theorem lifted (os : Os) (started : os.Started) (H : Type) (enc : TypeId × Value → H) :
    ReturnsInHanded {} Try.checked os 8 .any (Rows.mismatchPlaysSpec.pre6 enc Try.prog Try.f8 Rows.mismatchPlaysRow.domain false) (Rows.mismatchPlaysSpec.post enc Try.prog Try.f8 false true false false) := by
  refine returnsInHanded_of_change_sized (C := Try.checked) own started (by kernel_rfl) Try.func8
    (ChangeSpec.witness6 (enc := enc) (C := Try.checked) false ⟨#[], #[.agg #[.bool false, .int .i64 0, .slice none 0 0], .int .i64 0, .slice none 0 0], []⟩ 8 (by kernel_rfl) (by kernel_rfl) (by kernel_rfl) (by kernel_rfl)) ?_
  intro W base args ds gs before hval0 hW hcnd hsz0 _
  have hval : ∀ (j : Nat) t v, Try.f8.params[j]? = some t → args[j]? = some v → Value.okWide Try.prog W .any base t v := hval0
  have hW' := hW
  obtain ⟨p, q, hA0, hV, rfl, hfz, hnd⟩ := hW
  have hA : DataW.TrodAll enc Try.prog W 0 (fun _ => true) true Try.f8.params.toList args.toList ds p := hA0
  rw [Try.params8] at hA hval
  obtain ⟨v0, vs0, d0, ds0, p0, q0, hargs, rfl, rfl, h0, r0⟩ := trodAll_cons hA
  obtain ⟨v1, vs1, d1, ds1, p1, q1, rfl, rfl, rfl, h1, r1⟩ := trodAll_cons r0
  obtain ⟨v2, vs2, d2, ds2, p2, q2, rfl, rfl, rfl, h2, r2⟩ := trodAll_cons r1
  obtain ⟨rfl, rfl, rfl⟩ := trodAll_nil r2
  obtain rfl : args = #[v0, v1, v2] := by cases args; simp_all
  obtain ⟨rfl, rfl⟩ := trodVars_none hV
  have kk0 := h0
  have lt0 : ∀ x ∈ p0, x.block < W.heap.size := by obtain ⟨m, hm⟩ := kk0; exact DataW.trod_lt m _ _ _ hm
  obtain ⟨cs0, ev0, hk0⟩ := open_value (opens_struct (sz := 3) Try.underlying48 (by kernel_rfl) (opensF_cons (sz := 1) (opens_bool Try.underlying4) (by rfl) (by kernel_rfl) (opensF_cons (sz := 1) (opens_int (k := .i64) Try.underlying3) (by rfl) (by kernel_rfl) (opensF_last (sz := 1) (opens_slice (sz := 1) Try.underlying29 (by kernel_rfl) (by decide) (opens_int (k := .i64) Try.underlying3)) (by rfl) (by kernel_rfl))))) Try.underlying48 (hval 0 48 v0 rfl rfl) h0
  have hk0 : (RSt 3 (fun w cs => RBool w (cs.take 1) ∧ (fun w cs => (RInt .i64) w (cs.take 1) ∧ (fun w cs => (RSl 1 (RInt .i64)) w (cs.take 1)) w (cs.drop 1)) w (cs.drop 1))) W cs0 := hk0
  have z0_0 : cs0.length = 3 := hk0.1
  obtain ⟨x0_0, y0_1, f0_0, z0_1⟩ := cons_of z0_0
  subst f0_0
  obtain ⟨x0_1, y0_2, f0_1, z0_2⟩ := cons_of z0_1
  subst f0_1
  obtain ⟨x0_2, y0_3, f0_2, z0_3⟩ := cons_of z0_2
  subst f0_2
  obtain rfl := nil_of z0_3
  have g0_0 : RBool W [x0_0] := hk0.2.1
  have g0_1 : (RInt .i64) W [x0_1] := hk0.2.2.1
  have g0_2 : (RSl 1 (RInt .i64)) W [x0_2] := hk0.2.2.2
  clear hk0
  subst ev0
  obtain ⟨a0_0, e0_0⟩ := one_bool (w := W) (c := x0_0) g0_0
  subst e0_0
  obtain ⟨a0_1, e0_1, w0_1⟩ := one_int (k := .i64) (w := W) (c := x0_1) g0_1
  subst e0_1
  obtain ⟨l0_2, A0_2, c0_2, e0_2, hc0_2, hm0_2, hel0_2, hrd0_2⟩ := one_sl (sz := 1) (R := (RInt .i64)) (w := W) (c := x0_2) g0_2
  subst e0_2
  have kk1 := h1
  have lt1 : ∀ x ∈ p1, x.block < W.heap.size := by obtain ⟨m, hm⟩ := kk1; exact DataW.trod_lt m _ _ _ hm
  obtain ⟨a1, rfl, rfl, rfl, w1⟩ := open_int Try.underlying3 (hval 1 3 v1 rfl rfl) h1
  have kk2 := h2
  have lt2 : ∀ x ∈ p2, x.block < W.heap.size := by obtain ⟨m, hm⟩ := kk2; exact DataW.trod_lt m _ _ _ hm
  have hk2 : (RSl 4 (RSt 4 (fun w cs => RBool w (cs.take 1) ∧ (fun w cs => (RInt .i64) w (cs.take 1) ∧ (fun w cs => (RInt .i64) w (cs.take 1) ∧ (fun w cs => (RInt .i64) w (cs.take 1)) w (cs.drop 1)) w (cs.drop 1)) w (cs.drop 1)))) W [v2] := open_row (opens_slice (sz := 4) Try.underlying76 (by kernel_rfl) (by decide) (opens_struct (sz := 4) Try.underlying84 (by kernel_rfl) (opensF_cons (sz := 1) (opens_bool Try.underlying4) (by rfl) (by kernel_rfl) (opensF_cons (sz := 1) (opens_int (k := .i64) Try.underlying3) (by rfl) (by kernel_rfl) (opensF_cons (sz := 1) (opens_int (k := .i64) Try.underlying3) (by rfl) (by kernel_rfl) (opensF_last (sz := 1) (opens_int (k := .i64) Try.underlying3) (by rfl) (by kernel_rfl))))))) Try.underlying76 (hval 2 76 v2 rfl rfl) h2
  obtain ⟨l2, A2, c2, e2, hc2, hm2, hel2, hrd2⟩ := one_sl (sz := 4) (R := (RSt 4 (fun w cs => RBool w (cs.take 1) ∧ (fun w cs => (RInt .i64) w (cs.take 1) ∧ (fun w cs => (RInt .i64) w (cs.take 1) ∧ (fun w cs => (RInt .i64) w (cs.take 1)) w (cs.drop 1)) w (cs.drop 1)) w (cs.drop 1)))) (w := W) (c := v2) hk2
  subst e2
  obtain ⟨ps2, eps2, hq2⟩ := rowsOf (enc := Act9.enc) (Q := fun _ => True) (R := fun e => e.length = 4 ∧ (RSt 4 (fun w cs => RBool w (cs.take 1) ∧ (fun w cs => (RInt .i64) w (cs.take 1) ∧ (fun w cs => (RInt .i64) w (cs.take 1) ∧ (fun w cs => (RInt .i64) w (cs.take 1)) w (cs.drop 1)) w (cs.drop 1)) w (cs.drop 1))) W e) (by
    intro e he
    have hk := he.2
    have z0 : e.length = 4 := he.1
    obtain ⟨x0, y1, f0, z1⟩ := cons_of z0
    subst f0
    obtain ⟨x1, y2, f1, z2⟩ := cons_of z1
    subst f1
    obtain ⟨x2, y3, f2, z3⟩ := cons_of z2
    subst f2
    obtain ⟨x3, y4, f3, z4⟩ := cons_of z3
    subst f3
    obtain rfl := nil_of z4
    have g0 : RBool W [x0] := hk.2.1
    have g1 : (RInt .i64) W [x1] := hk.2.2.1
    have g2 : (RInt .i64) W [x2] := hk.2.2.2.1
    have g3 : (RInt .i64) W [x3] := hk.2.2.2.2
    obtain ⟨q2_0, e0⟩ := one_bool (w := W) (c := x0) g0
    subst e0
    obtain ⟨q2_1, e1, v2_1⟩ := one_int (k := .i64) (w := W) (c := x1) g1
    subst e1
    obtain ⟨q2_2, e2, v2_2⟩ := one_int (k := .i64) (w := W) (c := x2) g2
    subst e2
    obtain ⟨q2_3, e3, v2_3⟩ := one_int (k := .i64) (w := W) (c := x3) g3
    subst e3
    exact ⟨⟨q2_0, q2_1, q2_2, q2_3⟩, rfl, trivial⟩) l2 hel2
  have hs2 : SlAt W A2 4 l2 := slAt_of (fun e he => (hel2 e he).1) hrd2
  rw [eps2] at hs2
  have hn2 : l2.length = ps2.length := by rw [eps2, List.length_map]
  clear hA0 hval0 hsz0
  refine (PuAt.out (MismatchPlays_n a0_0 a0_1 l0_2 a1 ps2 A0_2 c0_2 A2 _ c2 W hel0_2 hrd0_2 hn2 hs2)).mono fun e W' ⟨he, bel⟩ => ?_
  subst he
  exact ⟨_, rfl, _, _, _, [], _, [], hW', trodAll_mk1 (shut_bool Try.underlying4 _), (trodAll_cons_mk (Below.trod laidOut (by kernel_rfl) (of_decide_eq_true (by kernel_rfl)) kk0 bel lt0) (trodAll_cons_mk (Below.trod laidOut (by kernel_rfl) (of_decide_eq_true (by kernel_rfl)) kk1 bel lt1) (trodAll_cons_mk (Below.trod laidOut (by kernel_rfl) (of_decide_eq_true (by kernel_rfl)) kk2 bel lt2) trodAll_mk0))), rfl, bel.frame _, fun h => by cases h⟩
theorem over : Rows.mismatchPlaysRow.holds Try.pinned (OpenSpec.ofChange Rows.mismatchPlaysSpec) :=
  OpenClaim.holds_of_wide 8 Try.f8 rfl rfl rfl rfl rfl rfl rfl ⟨rfl, rfl, rfl, rfl, rfl⟩ rfl rfl rfl rfl rfl (by kernel_rfl) Try.func8 (by kernel_rfl)
    (of_decide_eq_true (by kernel_rfl)) (by unfold Func.isWrapper; first | (rw [if_pos (by decide +kernel)]; kernel_rfl) | (rw [if_neg (by decide +kernel)]; exact ⟨rfl, rfl⟩))
    (fun os started H enc _ => lifted os started H enc)
theorem proved : Rows.MismatchPlaysSaid := over
#print axioms proved
end Go.Proofs.Ytgjdmlgdgbehoaa.mismatchPlays
namespace Go.Proofs.Ytgjdmlgdgbehoaa
/-- The row, under a short name, for the claim. -/
theorem mismatchPlays_holds : Rows.MismatchPlaysSaid := mismatchPlays.proved
end Go.Proofs.Ytgjdmlgdgbehoaa
