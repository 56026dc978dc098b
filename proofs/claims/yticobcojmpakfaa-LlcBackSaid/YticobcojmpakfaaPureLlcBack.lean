/- LlcBack: what was made is of its kind, and has its inner bytes. -/
import Derived.Test.YticobcojmpakfaaStLlcBack
import Derived.Test.YticobcojmpakfaaLlc
import Derived.Test.YticobcojmpakfaaPframeWith
set_option linter.unusedVariables false
set_option linter.unusedSimpArgs false
namespace Go.Proofs.Yticobcojmpakfaa.P
open Go.RowKit Go.Proofs.YticobcojmpakfaaW.PrintWords

def isKind (x9 : Int) (D pre : ByteArray) : Prop := (x9 = 1 ∧ D = dst1 ∧ pre = pre1) ∨ (x9 = 2 ∧ D = dst2 ∧ pre = pre2)
theorem kind_dst {x9 : Int} {D pre inner d : ByteArray} {ty : Int} (h : isKind x9 D pre) (ht : ty < 1536) : kindOf d.data.toList ty (pre ++ inner).data.toList = x9 ↔ d = D := by
  have hl : (pre ++ inner).data.toList = pre.data.toList ++ inner.data.toList := app_list _ _
  constructor
  · intro e
    unfold kindOf at e
    rcases h with ⟨rfl, rfl, rfl⟩ | ⟨rfl, rfl, rfl⟩
    · split at e
      · rename_i c; exact Go.WideShapes.bytes_inj c.1
      · split at e
        · exact absurd e (by decide)
        · split at e <;> exact absurd e (by decide)
    · split at e
      · exact absurd e (by decide)
      · split at e
        · rename_i c; exact Go.WideShapes.bytes_inj c.1
        · split at e <;> exact absurd e (by decide)
  · rintro rfl
    unfold kindOf
    rcases h with ⟨rfl, rfl, rfl⟩ | ⟨rfl, rfl, rfl⟩
    · rw [if_pos ⟨rfl, ht, by rw [hl]; rfl⟩]
    · rw [if_neg (fun c => absurd c.1 (by decide)), if_pos ⟨rfl, ht, by rw [hl]; rfl⟩]
theorem inner_made {x9 : Int} {D pre : ByteArray} (inner : ByteArray) (h : isKind x9 D pre) : innerOf x9 (pre ++ inner) = (inner, 0) := by
  unfold innerOf
  rcases h with ⟨rfl, rfl, rfl⟩ | ⟨rfl, rfl, rfl⟩
  · rw [if_pos rfl]
    congr 1
    apply Go.WideShapes.bytes_inj
    rw [ex_end, app_list]
    rfl
  · rw [if_neg (by decide), if_pos rfl]
    congr 1
    apply Go.WideShapes.bytes_inj
    rw [ex_end, app_list]
    rfl
theorem pre_size {x9 : Int} {D pre : ByteArray} (inner : ByteArray) (h : isKind x9 D pre) : (x9 = 1 → 3 ≤ (pre ++ inner).size) ∧ (x9 = 2 → 8 ≤ (pre ++ inner).size) := by
  rw [ByteArray.size_append]
  rcases h with ⟨rfl, rfl, rfl⟩ | ⟨rfl, rfl, rfl⟩
  · exact ⟨fun _ => by show 3 ≤ 3 + _; omega, fun e => by simp at e⟩
  · exact ⟨fun e => by simp at e, fun _ => by show 8 ≤ 8 + _; omega⟩
theorem back2_next (m : Nat) (src inner dst : ByteArray) (vlan x9 : Int) (D pre : ByteArray) (hk : isKind x9 D pre) (hd : dst.size = 6) (ty : Int) (ht : ty < 1536) (hR : rightP D src false 0 0 ty (pre ++ inner)) :
    llc_Kind.f (m + 2) dst src false 0 0 ty (pre ++ inner) = some (kindOf dst.data.toList ty (pre ++ inner).data.toList) ∧ ((kindOf dst.data.toList ty (pre ++ inner).data.toList == x9) != (dst.toList == D.toList)) = false := by
  refine ⟨kind_yes m _ _ _ _ _ _ _ ⟨hd, hR.2⟩, ?_⟩
  rw [bne_eq_false_iff_eq, Bool.eq_iff_iff, beq_iff_eq, beq_iff_eq, kind_dst hk ht]
  exact ⟨fun e => by rw [e], tl_inj⟩
theorem back2_j2 (m : Nat) (src inner dst : ByteArray) (vlan x9 : Int) (D pre : ByteArray) (hk : isKind x9 D pre) (hd : dst.size = 6) (hnext : ∀ n, treebridgelaw02_LlcBack.l0 (m + n + 1) src inner dst vlan (wrap64 (x9 + 1)) = some true)
    (b : Bool) (hb : b = true ↔ rightP D src false 0 0 ((pre ++ inner).size : Int) (pre ++ inner)) (r1 r2 : ByteArray) (r3 : Bool) (r4 r5 r6 : Int) (r7 : ByteArray) (r8 : Int) (hr : madeOf D src (pre ++ inner) b = (r1, r2, r3, r4, r5, r6, r7, r8)) :
    treebridgelaw02_LlcBack.j2 (m + 8) src inner dst vlan x9 r8 r1 r2 r3 r4 r5 r6 r7 = some true := by
  unfold madeOf at hr
  rw [show m + 8 = (m + 7) + 1 from rfl, treebridgelaw02_LlcBack.j2]
  by_cases h1 : ((pre ++ inner).size : Int) > 1500
  · rw [if_pos h1] at hr
    simp only [Prod.mk.injEq] at hr
    obtain ⟨rfl, rfl, rfl, rfl, rfl, rfl, rfl, rfl⟩ := hr
    rw [if_neg (by decide)]
    exact hnext 6
  · rw [if_neg h1] at hr
    cases b with
    | false =>
      rw [if_neg (by simp)] at hr
      simp only [Prod.mk.injEq] at hr
      obtain ⟨rfl, rfl, rfl, rfl, rfl, rfl, rfl, rfl⟩ := hr
      rw [if_neg (by decide)]
      exact hnext 6
    | true =>
      rw [if_pos rfl] at hr
      simp only [Prod.mk.injEq] at hr
      obtain ⟨rfl, rfl, rfl, rfl, rfl, rfl, rfl, rfl⟩ := hr
      have hR := hb.1 rfl
      have ht : ((pre ++ inner).size : Int) < 1536 := by omega
      have hp := pre_size inner hk
      have k1 : llc_Kind.f (m + 7) D src false 0 0 ((pre ++ inner).size : Int) (pre ++ inner) = some x9 := by rw [kind_yes (m + 5) _ _ _ _ _ _ _ hR, (kind_dst hk ht).2 rfl]
      rw [if_pos rfl, inner_is _ _ _ _ _ _ _ _ x9 k1 hp.1 hp.2, k1, inner_made inner hk, right_true (m := m + 5) hR]
      simp only [Option.bind_some, if_true]
      rw [show m + 7 = (m + 6) + 1 from rfl, treebridgelaw02_LlcBack.j3, if_neg (by simp)]
      obtain ⟨n1, n2⟩ := back2_next (m + 4) src inner dst vlan x9 D pre hk hd _ ht hR
      obtain ⟨n3, _⟩ := back2_next (m + 3) src inner dst vlan x9 D pre hk hd _ ht hR
      unfold frame_With.f
      rw [right_true (m := m + 4) hR]
      simp only [Option.bind_some, if_true]
      by_cases h2 : vlan < 0
      · simp only [if_pos h2, Option.bind_some]
        rw [if_neg (by decide), n1]
        simp only [Option.bind_some, n2, Bool.false_eq_true, if_false]
        exact hnext 5
      · rw [if_neg h2]
        by_cases h3 : vlan > 4094
        · simp only [if_pos h3, Option.bind_some]
          rw [if_neg (by decide), n1]
          simp only [Option.bind_some, n2, Bool.false_eq_true, if_false]
          exact hnext 5
        · have hW : rightP D src true 0 vlan ((pre ++ inner).size : Int) (pre ++ inner) := by
            obtain ⟨g1, g2, g3, g4, g5, g6, g7, g8, g9⟩ := hR
            exact ⟨g1, g2, g3, g4, g5, by omega, by omega, .inl rfl, g9⟩
          have k2 : llc_Kind.f (m + 6) D src true 0 vlan ((pre ++ inner).size : Int) (pre ++ inner) = some x9 := by rw [kind_yes (m + 4) _ _ _ _ _ _ _ hW, (kind_dst hk ht).2 rfl]
          simp only [if_neg h3, Option.bind_some, if_true]
          rw [inner_is _ _ _ _ _ _ _ _ x9 k2 hp.1 hp.2, k2, inner_made inner hk]
          simp only [Option.bind_some, if_true]
          rw [show m + 6 = (m + 5) + 1 from rfl, treebridgelaw02_LlcBack.j4, if_neg (by decide), n3]
          simp only [Option.bind_some, n2, Bool.false_eq_true, if_false]
          exact hnext 4
theorem back2_3 (m : Nat) (src inner dst : ByteArray) (vlan : Int) : treebridgelaw02_LlcBack.l0 (m + 1) src inner dst vlan 3 = some true := by
  rw [treebridgelaw02_LlcBack.l0, if_neg (by decide)]
theorem back2_2 (m : Nat) (src inner dst : ByteArray) (vlan : Int) (hi : inner.size ≤ 1600) (hd : dst.size = 6) : treebridgelaw02_LlcBack.l0 (m + 9) src inner dst vlan 2 = some true := by
  obtain ⟨b1, hb1, _, _⟩ := rights (m + 6) 0 dst1 src false 0 0 ((pre1 ++ inner).size : Int) (pre1 ++ inner)
  obtain ⟨b2, hb2, _, h2⟩ := rights (m + 6) 0 dst2 src false 0 0 ((pre2 ++ inner).size : Int) (pre2 ++ inner)
  rw [show m + 9 = (m + 8) + 1 from rfl, treebridgelaw02_LlcBack.l0, if_pos (by decide), ieee_is _ _ _ b1 hi hb1, sstp_is _ _ _ b2 hi hb2]
  simp only [Option.bind_some, if_true]
  exact back2_j2 m src inner dst vlan 2 dst2 pre2 (.inr ⟨rfl, rfl, rfl⟩) hd (fun n => by rw [show wrap64 (2 + 1) = 3 from by unfold wrap64; omega]; exact back2_3 _ src inner dst vlan) b2 h2 _ _ _ _ _ _ _ _ rfl
theorem back2_1 (m : Nat) (src inner dst : ByteArray) (vlan : Int) (hi : inner.size ≤ 1600) (hd : dst.size = 6) : treebridgelaw02_LlcBack.l0 (m + 17) src inner dst vlan 1 = some true := by
  obtain ⟨b1, hb1, _, h1⟩ := rights (m + 14) 0 dst1 src false 0 0 ((pre1 ++ inner).size : Int) (pre1 ++ inner)
  rw [show m + 17 = (m + 16) + 1 from rfl, treebridgelaw02_LlcBack.l0, if_pos (by decide), ieee_is _ _ _ b1 hi hb1]
  simp only [Option.bind_some]
  rw [if_neg (by decide)]
  exact back2_j2 (m + 8) src inner dst vlan 1 dst1 pre1 (.inl ⟨rfl, rfl, rfl⟩) hd (fun n => by
    rw [show m + 8 + n + 1 = (m + n) + 9 from by omega, show wrap64 (1 + 1) = 2 from by unfold wrap64; omega]
    exact back2_2 (m + n) src inner dst vlan hi hd) b1 h1 _ _ _ _ _ _ _ _ rfl
theorem awake18_true : treebridgelaw02_awake.f 18 = some true := by decide +kernel
theorem back2_j0 (src inner dst : ByteArray) (vlan : Int) (x : Bool) (h : x = false → inner.size ≤ 1600 ∧ dst.size = 6) : treebridgelaw02_LlcBack.j0 18 src inner dst vlan x = some true := by
  rw [treebridgelaw02_LlcBack.j0]
  cases x
  · rw [if_neg (by simp)]
    exact back2_1 0 src inner dst vlan (h rfl).1 (h rfl).2
  · simp
theorem LlcBack : treebridgelaw02_LlcBack.Pure := by
  intro src inner dst vlan _ _ _ _
  refine ⟨18, ?_⟩
  unfold treebridgelaw02_LlcBack.f
  rw [awake18_true]
  simp only [Option.bind_some, if_true]
  split
  · exact back2_j0 src inner dst vlan _ (fun h => by cases h)
  · split
    · exact back2_j0 src inner dst vlan _ (fun h => by cases h)
    · refine back2_j0 src inner dst vlan _ (fun h => ?_)
      rw [bne_eq_false_iff_eq] at h
      omega
end Go.Proofs.Yticobcojmpakfaa.P
