/- The law RolesOrder of the given program, for every input: it returns true, and its arguments read afterwards as before. -/
import Derived.Test.YtgjdmlgdgbehoaaRows
import Derived.Test.YtgjdmlgdgbehoaaOpb
import Derived.Test.YtgjdmlgdgbehoaaRolesO2
import Derived.WalkKit
import Derived.ProofKit
import Derived.OpenShut
import Derived.ShutString
import Derived.ChangeOld
import Derived.Below
import Derived.SizedLaws
namespace Go.Proofs.Ytgjdmlgdgbehoaa.rolesOrder
open Go.ChangeShapes Go.WideShapes Go.ChangeAt Go.RowKit Go.Proofs.Ytgjdmlgdgbehoaa.Am
open Go.ChangeMaps (open_string shut_string)
set_option linter.unusedVariables false
set_option linter.unusedSimpArgs false
theorem own : ownKnob Try.prog.godebug = none := by kernel_rfl
theorem laidOut : laidOutB Try.prog = true := by kernel_rfl
set_option maxRecDepth 100000 in
set_option maxHeartbeats 1000000 in
theorem lifted (os : Os) (started : os.Started) (H : Type) (enc : TypeId × Value → H) :
    ReturnsInHanded {} Try.checked os 5 .any (Rows.rolesOrderSpec.pre6 enc Try.prog Try.f5 Rows.rolesOrderRow.domain false) (Rows.rolesOrderSpec.post enc Try.prog Try.f5 false true false false) := by
  refine returnsInHanded_of_change_sized (C := Try.checked) own started (by kernel_rfl) Try.func5
    (ChangeSpec.witness6 (enc := enc) (C := Try.checked) false ⟨#[], #[.int .u64 0, .slice none 0 0], []⟩ 8 (by kernel_rfl) (by kernel_rfl) (by kernel_rfl) (by kernel_rfl)) ?_
  intro W base args ds gs before hval0 hW hcnd hsz0 _
  have hval : ∀ (j : Nat) t v, Try.f5.params[j]? = some t → args[j]? = some v → Value.okWide Try.prog W .any base t v := hval0
  have hW' := hW
  obtain ⟨p, q, hA0, hV, rfl, hfz, hnd⟩ := hW
  have hA : DataW.TrodAll enc Try.prog W 0 (fun _ => true) true Try.f5.params.toList args.toList ds p := hA0
  rw [Try.params5] at hA hval
  obtain ⟨v0, vs0, d0, ds0, p0, q0, hargs, rfl, rfl, h0, r0⟩ := trodAll_cons hA
  obtain ⟨v1, vs1, d1, ds1, p1, q1, rfl, rfl, rfl, h1, r1⟩ := trodAll_cons r0
  obtain ⟨rfl, rfl, rfl⟩ := trodAll_nil r1
  obtain rfl : args = #[v0, v1] := by cases args; simp_all
  obtain ⟨rfl, rfl⟩ := trodVars_none hV
  have kk0 := h0
  have lt0 : ∀ x ∈ p0, x.block < W.heap.size := by obtain ⟨m, hm⟩ := kk0; exact DataW.trod_lt m _ _ _ hm
  obtain ⟨a0, rfl, rfl, rfl, w0⟩ := open_int Try.underlying22 (hval 0 22 v0 rfl rfl) h0
  have kk1 := h1
  have lt1 : ∀ x ∈ p1, x.block < W.heap.size := by obtain ⟨m, hm⟩ := kk1; exact DataW.trod_lt m _ _ _ hm
  have hk1 : (RSl 7 (RSt 7 (fun w cs => (RInt .u64) w (cs.take 1) ∧ (fun w cs => (RInt .u64) w (cs.take 1) ∧ (fun w cs => (RInt .i64) w (cs.take 1) ∧ (fun w cs => (RSt 4 (fun w cs => (RInt .u64) w (cs.take 1) ∧ (fun w cs => (RInt .u64) w (cs.take 1) ∧ (fun w cs => (RInt .u64) w (cs.take 1) ∧ (fun w cs => (RInt .u64) w (cs.take 1)) w (cs.drop 1)) w (cs.drop 1)) w (cs.drop 1))) w (cs.take 4)) w (cs.drop 1)) w (cs.drop 1)) w (cs.drop 1)))) W [v1] := open_row (opens_slice (sz := 7) Try.underlying23 (by kernel_rfl) (by decide) (opens_struct (sz := 7) Try.underlying42 (by kernel_rfl) (opensF_cons (sz := 1) (opens_int (k := .u64) Try.underlying22) (by rfl) (by kernel_rfl) (opensF_cons (sz := 1) (opens_int (k := .u64) Try.underlying22) (by rfl) (by kernel_rfl) (opensF_cons (sz := 1) (opens_int (k := .i64) Try.underlying3) (by rfl) (by kernel_rfl) (opensF_last (sz := 4) (opens_struct (sz := 4) Try.underlying28 (by kernel_rfl) (opensF_cons (sz := 1) (opens_int (k := .u64) Try.underlying22) (by rfl) (by kernel_rfl) (opensF_cons (sz := 1) (opens_int (k := .u64) Try.underlying22) (by rfl) (by kernel_rfl) (opensF_cons (sz := 1) (opens_int (k := .u64) Try.underlying22) (by rfl) (by kernel_rfl) (opensF_last (sz := 1) (opens_int (k := .u64) Try.underlying22) (by rfl) (by kernel_rfl)))))) (by rfl) (by kernel_rfl))))))) Try.underlying23 (hval 1 23 v1 rfl rfl) h1
  obtain ⟨l1, A1, c1, e1, hc1, hm1, hel1, hrd1⟩ := one_sl (sz := 7) (R := (RSt 7 (fun w cs => (RInt .u64) w (cs.take 1) ∧ (fun w cs => (RInt .u64) w (cs.take 1) ∧ (fun w cs => (RInt .i64) w (cs.take 1) ∧ (fun w cs => (RSt 4 (fun w cs => (RInt .u64) w (cs.take 1) ∧ (fun w cs => (RInt .u64) w (cs.take 1) ∧ (fun w cs => (RInt .u64) w (cs.take 1) ∧ (fun w cs => (RInt .u64) w (cs.take 1)) w (cs.drop 1)) w (cs.drop 1)) w (cs.drop 1))) w (cs.take 4)) w (cs.drop 1)) w (cs.drop 1)) w (cs.drop 1)))) (w := W) (c := v1) hk1
  subst e1
  obtain ⟨ps1, eps1, hq1⟩ := rowsOf (enc := InfoV.enc) (Q := okI8) (R := fun e => e.length = 7 ∧ (RSt 7 (fun w cs => (RInt .u64) w (cs.take 1) ∧ (fun w cs => (RInt .u64) w (cs.take 1) ∧ (fun w cs => (RInt .i64) w (cs.take 1) ∧ (fun w cs => (RSt 4 (fun w cs => (RInt .u64) w (cs.take 1) ∧ (fun w cs => (RInt .u64) w (cs.take 1) ∧ (fun w cs => (RInt .u64) w (cs.take 1) ∧ (fun w cs => (RInt .u64) w (cs.take 1)) w (cs.drop 1)) w (cs.drop 1)) w (cs.drop 1))) w (cs.take 4)) w (cs.drop 1)) w (cs.drop 1)) w (cs.drop 1))) W e) (by
    intro e he
    have hk := he.2
    have z0 : e.length = 7 := he.1
    obtain ⟨x0, y1, f0, z1⟩ := cons_of z0
    subst f0
    obtain ⟨x1, y2, f1, z2⟩ := cons_of z1
    subst f1
    obtain ⟨x2, y3, f2, z3⟩ := cons_of z2
    subst f2
    obtain ⟨x3, y4, f3, z4⟩ := cons_of z3
    subst f3
    obtain ⟨x4, y5, f4, z5⟩ := cons_of z4
    subst f4
    obtain ⟨x5, y6, f5, z6⟩ := cons_of z5
    subst f5
    obtain ⟨x6, y7, f6, z7⟩ := cons_of z6
    subst f6
    obtain rfl := nil_of z7
    have g0 : (RInt .u64) W [x0] := hk.2.1
    have g1 : (RInt .u64) W [x1] := hk.2.2.1
    have g2 : (RInt .i64) W [x2] := hk.2.2.2.1
    have g3 : (RInt .u64) W [x3] := hk.2.2.2.2.2.1
    have g4 : (RInt .u64) W [x4] := hk.2.2.2.2.2.2.1
    have g5 : (RInt .u64) W [x5] := hk.2.2.2.2.2.2.2.1
    have g6 : (RInt .u64) W [x6] := hk.2.2.2.2.2.2.2.2
    obtain ⟨q1_0, e0, v1_0⟩ := one_int (k := .u64) (w := W) (c := x0) g0
    subst e0
    obtain ⟨q1_1, e1, v1_1⟩ := one_int (k := .u64) (w := W) (c := x1) g1
    subst e1
    obtain ⟨q1_2, e2, v1_2⟩ := one_int (k := .i64) (w := W) (c := x2) g2
    subst e2
    obtain ⟨q1_3, e3, v1_3⟩ := one_int (k := .u64) (w := W) (c := x3) g3
    subst e3
    obtain ⟨q1_4, e4, v1_4⟩ := one_int (k := .u64) (w := W) (c := x4) g4
    subst e4
    obtain ⟨q1_5, e5, v1_5⟩ := one_int (k := .u64) (w := W) (c := x5) g5
    subst e5
    obtain ⟨q1_6, e6, v1_6⟩ := one_int (k := .u64) (w := W) (c := x6) g6
    subst e6
    exact ⟨⟨q1_0, q1_1, q1_2, q1_3, q1_4, q1_5, q1_6⟩, rfl, ⟨lit_u64 v1_0, lit_u64 v1_1, lit_u64 v1_3, lit_u64 v1_4, lit_u64 v1_5, lit_u64 v1_6⟩⟩) l1 hel1
  have hs1 : SlAt W A1 7 l1 := slAt_of (fun e he => (hel1 e he).1) hrd1
  rw [eps1] at hs1
  have hn1 : l1.length = ps1.length := by rw [eps1, List.length_map]
  clear hA0 hval0 hsz0
  refine (PuAt.out (RolesOrder_n a0 ps1 A1 _ c1 W hn1 hs1 (lit_u64 w0) hq1)).mono fun e W' ⟨he, bel⟩ => ?_
  subst he
  exact ⟨_, rfl, _, _, _, [], _, [], hW', trodAll_mk1 (shut_bool Try.underlying4 _), (trodAll_cons_mk (Below.trod laidOut (by kernel_rfl) (of_decide_eq_true (by kernel_rfl)) kk0 bel lt0) (trodAll_cons_mk (Below.trod laidOut (by kernel_rfl) (of_decide_eq_true (by kernel_rfl)) kk1 bel lt1) trodAll_mk0)), rfl, bel.frame _, fun h => by cases h⟩
theorem over : Rows.rolesOrderRow.holds Try.pinned (OpenSpec.ofChange Rows.rolesOrderSpec) :=
  OpenClaim.holds_of_wide 5 Try.f5 rfl rfl rfl rfl rfl rfl rfl ⟨rfl, rfl, rfl, rfl, rfl⟩ rfl rfl rfl rfl rfl (by kernel_rfl) Try.func5 (by kernel_rfl)
    (of_decide_eq_true (by kernel_rfl)) (by unfold Func.isWrapper; first | (rw [if_pos (by decide +kernel)]; kernel_rfl) | (rw [if_neg (by decide +kernel)]; exact ⟨rfl, rfl⟩))
    (fun os started H enc _ => lifted os started H enc)
theorem proved : Rows.RolesOrderSaid := over
#print axioms proved
end Go.Proofs.Ytgjdmlgdgbehoaa.rolesOrder
namespace Go.Proofs.Ytgjdmlgdgbehoaa
/-- The row, under a short name, for the claim. -/
theorem rolesOrder_holds : Rows.RolesOrderSaid := rolesOrder.proved
end Go.Proofs.Ytgjdmlgdgbehoaa
