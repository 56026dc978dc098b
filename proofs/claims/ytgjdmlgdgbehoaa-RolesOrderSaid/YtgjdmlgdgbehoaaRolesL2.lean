/- The law RolesTells: awake, the law. -/
import Derived.Test.YtgjdmlgdgbehoaaRolesL
set_option linter.unusedVariables false
set_option linter.unusedSimpArgs false
set_option maxRecDepth 100000
set_option maxHeartbeats 4000000
namespace Go.Proofs.Ytgjdmlgdgbehoaa.Am
open Go Go.RowKit
def aL : List InfoV := [⟨1, 4, 3, 1, 0, 2, 1⟩, ⟨2, 4, 3, 1, 0, 2, 2⟩, ⟨3, 0, 2, 0, 0, 0, 0⟩, ⟨4, 0, 0, 0, 0, 0, 0⟩]
theorem aL_right : rightI aL = true := by decide +kernel
theorem aL_best : bestV 9 aL = ((1, 4, 2, 1), 0) := by decide +kernel
theorem aL_roles : rolesV 9 aL = [1, 3, 2, 0] := by decide +kernel
theorem aL_offers : offersV 9 aL = [(1, 4, 9, 1), (1, 4, 9, 2), (1, 4, 9, 3), (1, 4, 9, 4)] := by decide +kernel
theorem info_len (l : List InfoV) : ∀ x ∈ l.map InfoV.enc, x.length = 7 := by
  intro x hx
  obtain ⟨p, _, rfl⟩ := List.mem_map.1 hx
  rfl
theorem Select_n (bridge : Int) (ps : List InfoV) (n : Nat) (hn : ps.length = n) (A : Option Addr) (c : Nat) (w : World) (hs : SlAt w A 7 (ps.map InfoV.enc)) (hl : n ≤ 1000) (hyes : rightI ps = true) (hp : 0 < n) :
    FnX Try.prog 15 [.int .u64 bridge, .slice A n c] [] (fun s : (Nat × Nat) × (Nat × Nat) => n ≤ s.1.2 ∧ n ≤ s.2.2) (fun s => .tuple ⟨[.agg ⟨encV (bestV bridge ps).1 ++ [.int .i64 (bestV bridge ps).2, .slice (some ⟨s.1.1, 0, none⟩) n s.1.2, .slice (some ⟨s.2.1, 0, none⟩) n s.2.2]⟩, .int .i64 0]⟩)
      (fun s => [.row (.slice (some ⟨s.1.1, 0, none⟩) n s.1.2) 3 1 n ((rolesV bridge ps).map (Value.int .i64)), .arr (.slice (some ⟨s.2.1, 0, none⟩) n s.2.2) 28 4 ((offersV bridge ps).map encV)]) w :=
  (Select_w bridge ps n hn A c w hs hl hyes).map fun s h => by
    obtain ⟨⟨A1, c1⟩, ⟨A2, c2⟩⟩ := s
    obtain ⟨g1, rfl, h1⟩ := h.1.at_ hp
    obtain ⟨g2, rfl, h2⟩ := h.2.at_ hp
    exact ⟨((g1, c1), (g2, c2)), ⟨h1, h2⟩, rfl, Ent.refl⟩
theorem aSelect (A : Option Addr) (c : Nat) (w : World) (hs : SlAt w A 7 (aL.map InfoV.enc)) :
    FnX Try.prog 15 [.int .u64 9, .slice A 4 c] [] (fun s : (Nat × Nat) × (Nat × Nat) => 4 ≤ s.1.2 ∧ 4 ≤ s.2.2) (fun s => .tuple ⟨[.agg ⟨[.int .u64 1, .int .u64 4, .int .u64 2, .int .u64 1, .int .i64 0, .slice (some ⟨s.1.1, 0, none⟩) 4 s.1.2, .slice (some ⟨s.2.1, 0, none⟩) 4 s.2.2]⟩, .int .i64 0]⟩)
      (fun s => [.row (.slice (some ⟨s.1.1, 0, none⟩) 4 s.1.2) 3 1 4 [.int .i64 1, .int .i64 3, .int .i64 2, .int .i64 0], .arr (.slice (some ⟨s.2.1, 0, none⟩) 4 s.2.2) 28 4 [encV (1, 4, 9, 1), encV (1, 4, 9, 2), encV (1, 4, 9, 3), encV (1, 4, 9, 4)]]) w := by
  have h := Select_n 9 aL 4 rfl A c w hs (by decide) aL_right (by decide)
  rw [aL_best, aL_roles, aL_offers] at h
  exact h
def aZ : List InfoV := [⟨0, 0, 0, 0, 0, 0, 0⟩]
theorem aZ_no : rightI aZ = false := by decide +kernel
theorem ok_awake08 : (match Try.f13.body with | some c => codeOk Try.f13.ntmps c | none => false) = true := by kernel_rfl
theorem en_awake08 : ∃ fn, Try.prog.funcs[13]? = some fn ∧ (fn.name == "runtime.NumGoroutine") = false ∧ fn.body.isNone = false := ⟨_, Try.func13, by kernel_rfl, by kernel_rfl⟩
theorem awake08_w (w : World) : PuAt Try.prog 13 [] (.bool true) w := by
  refine funcR_pure tyOk wide Try.func13 ok_awake08 (Nat.le_of_ble_eq_true rfl) ?_
  repeat' first
    | (simp only [putK, overK, Value.cells, fillK]; (conv => whnf); first | refine ⟨rfl, ?_⟩ | skip)
    | (conv => whnf
       first
       | intro _
       | (first | refine selSplit (fun h => ?_) (fun h => ?_) | refine condSplit (fun h => ?_) (fun h => ?_)) <;> first | exact (clash (by assumption) h).elim | exact (clash h (by assumption)).elim | (simp only [decide_eq_true_eq, decide_eq_false_iff_not, Bool.not_eq_true', Bool.not_eq_false', Bool.not_true, Bool.not_false, Bool.or_eq_true, Bool.and_eq_true, Bool.or_eq_false_iff, Bool.and_eq_false_iff, beq_iff_eq, beq_eq_false_iff_ne, ne_eq] at h; first | (exfalso; omega) | skip) | skip
       | refine SeqP.go ?_
       | refine cdM ?_
       | exact IsV.mk
       | apply GuardP.mk
       | (refine callX takeM en_Select (fun w hw => aSelect _ 4 w (hw.blkSl hasM rfl (info_len _))) ?_)
       | ((first | apply callPure' en_Select | apply callQuiet' en_Select); · exact fun w hw => Select_no 9 aZ 1 rfl _ 1 w (hw.blkSl hasM rfl (info_len _)) (by decide) aZ_no)
       | ((first | apply callPure' en_Mine | apply callQuiet' en_Mine); · exact fun w _ => Mine_w 9 w)
       | ((first | apply callPure' en_iRight | apply callQuiet' en_iRight); · exact fun w hw => iRight_w aL 4 rfl _ 4 w (hw.blkSl hasM rfl (info_len _)) (by decide))
       | (first | refine eqlW eqS28 rfl rfl rfl fitM fitM ?_ | refine neqW eqS28 rfl rfl rfl fitM fitM ?_)
       | refine Or.inl ⟨_, _, hasM, ?_⟩
       | refine Or.inl ⟨_, _, _, holeM, rfl, rfl, ?_⟩
       | refine lA ?_
       | refine lA0 ?_
       | refine lA1 ?_
       | refine lO ?_
       | refine lO0 ?_
       | refine lO1 ?_
       | refine lR ?_
       | refine lG ?_
       | refine lG0 ?_
       | refine tA ?_
       | refine tA0 ?_
       | refine tA1 ?_
       | refine BytW.ofBlk hasM rfl rfl ?_
       | refine AppW.noneB hasM leM rfl rfl rfl leM leM ?_
       | refine AppW.rowB hasM leM rfl rfl holeM leM leM ?_
       | refine AppW.blkB hasM leM rfl rfl holeM rfl rfl leM leM ?_
       | refine AppW.rowS hasM leM rfl rfl holeM (by omega) leM ?_
       | refine AppW.arrS hasM leM rfl rfl rfl holeM (by first | omega | (simp; omega)) leM ?_
       | refine ⟨sideM, ?_⟩
       | fail)
  all_goals (try conv => whnf)
  all_goals exact v_bool (by decide +kernel)
end Go.Proofs.Ytgjdmlgdgbehoaa.Am
