/- The laws of layer 13. -/
import Derived.Test.YtmgoahmbdpoikaaChange4
import Derived.Test.YtmgoahmbdpoikaaSendL
set_option linter.unusedVariables false
set_option linter.unusedSimpArgs false
set_option maxRecDepth 100000
set_option maxHeartbeats 4000000
namespace Go.Proofs.Ytmgoahmbdpoikaa.Am
open Go Go.RowKit
def cP1 : PortV := { PortV.zero with Id := 1, Role := 1, Forward := true, Change := 1, SendRstp := true }
def cP2 : PortV := { PortV.zero with Id := 2, Flush := true }
def cQ1 : PortV := { cP1 with Tc := 3, NewInfo := true, Change := 2 }
def cQ2 : PortV := { cP2 with TcProp := true }
theorem c_step : stepL (timesOf (usualV 9)) [cP1, cP2] 0 cP1 = [cQ1, cQ2] := rfl
theorem c_moved : (stepQ (timesOf (usualV 9)) cP1).2.2 = true := by decide +kernel
theorem c_ids : idsV [cQ1, cQ2] = [2] := by decide +kernel
theorem c_len (l : List PortV) : ∀ x ∈ l.map PortV.enc, x.length = 61 := ports_len l
theorem cStep (A : Option Addr) (c : Nat) (w : World) (hs : SlAt w A 61 ([cP1, cP2].map PortV.enc)) : FnX Try.prog 16 [.agg ⟨(usualV 9).enc⟩, .slice A 2 c, .int .i64 0] [] (fun s : Nat × Nat => 2 ≤ s.2) (fun s => .tuple ⟨[.slice (some ⟨s.1, 0, none⟩) 2 s.2, .bool true]⟩) (fun s => [.arr (.slice (some ⟨s.1, 0, none⟩) 2 s.2) 28 61 [cQ1.enc, cQ2.enc]]) w := by
  have h1 := Step_yes (usualV 9) [cP1, cP2] A c 0 cP1 w hs (by decide) (by decide) (by decide) (by decide) rfl
  rw [c_step, c_moved] at h1
  exact h1
theorem cFlushed (A : Option Addr) (c : Nat) (w : World) (hs : SlAt w A 61 ([cQ1, cQ2].map PortV.enc)) : FnX Try.prog 27 [.slice A 2 c] [] (fun s : (Nat × Nat) × (Nat × Nat) => True) (fun s => .tuple ⟨[.slice (some ⟨s.1.1, 0, none⟩) 2 s.1.2, .slice (some ⟨s.2.1, 0, none⟩) 1 s.2.2]⟩)
      (fun s => [.row (.slice (some ⟨s.2.1, 0, none⟩) 1 s.2.2) 22 1 1 [.int .u64 2], .arr (.slice (some ⟨s.1.1, 0, none⟩) 2 s.1.2) 28 61 [cQ1.enc, { cQ2 with Flush := false }.enc]]) w :=
  (Flushed_w [cQ1, cQ2] 2 rfl A c w hs (by decide)).map fun s ⟨h1, h2, h3⟩ => by
    obtain ⟨⟨A1, c1⟩, ⟨A2, m, c2⟩⟩ := s
    rw [c_ids] at h2
    simp only [List.length_cons, List.length_nil, Nat.zero_add] at h2
    subst h2
    rcases h1 with ⟨_, h1⟩ | ⟨g, cap, he, _⟩
    · cases h1
    · simp only [Value.slice.injEq] at he
      obtain ⟨rfl, _, rfl⟩ := he
      rcases h3 with ⟨_, h3⟩ | ⟨g2, cap2, he2, _⟩
      · cases h3
      · simp only [Value.slice.injEq] at he2
        obtain ⟨rfl, _, rfl⟩ := he2
        exact ⟨((g, c1), (g2, c2)), trivial, rfl, by rw [c_ids]; exact Ent.refl⟩
theorem ok_awake13 : (match Try.f14.body with | some c => codeOk Try.f14.ntmps c | none => false) = true := by kernel_rfl
theorem en_awake13 : ∃ fn, Try.prog.funcs[14]? = some fn ∧ (fn.name == "runtime.NumGoroutine") = false ∧ fn.body.isNone = false := ⟨_, Try.func14, by kernel_rfl, by kernel_rfl⟩
theorem awake13_w (w : World) : PuAt Try.prog 14 [] (.bool true) w := by
  refine funcR_pure tyOk wide Try.func14 ok_awake13 (Nat.le_of_ble_eq_true rfl) ?_
  repeat' first
    | (conv => whnf
       first
       | intro _
       | (first | refine selSplit (fun h => ?_) (fun h => ?_) | refine condSplit (fun h => ?_) (fun h => ?_)) <;> first | exact (clash (by assumption) h).elim | exact (clash h (by assumption)).elim | (simp only [decide_eq_true_eq, decide_eq_false_iff_not, Bool.not_eq_true', Bool.not_eq_false', Bool.not_true, Bool.not_false, Bool.or_eq_true, Bool.and_eq_true, Bool.or_eq_false_iff, Bool.and_eq_false_iff, beq_iff_eq, beq_eq_false_iff_ne, ne_eq] at h; first | (exfalso; omega) | skip) | skip
       | refine SeqP.go ?_
       | refine CondR.mk (by decide +kernel) ?_
       | exact IsV.mk
       | apply GuardP.mk
       | (apply callPure' en_Usual; · exact fun w _ => Usual_w _ w)
       | (apply callQuiet' en_Usual; · exact fun w _ => Usual_w _ w)
       | (refine callX (by repeat' first | apply Take.nil | apply Take.cons | apply Pick.here | apply Pick.there) en_Step (fun w hw => cStep _ 2 w (hw.blkSl (memHas (by repeat (first | apply Has.here | apply Has.there))) rfl (c_len _))) ?_)
       | (refine callX (by repeat' first | apply Take.nil | apply Take.cons | apply Pick.here | apply Pick.there) en_Step (fun w hw => Step_w (usualV 9) [cQ1, cQ2] 2 rfl _ _ 2 w (hw.arrSl (memHas (by repeat (first | apply Has.here | apply Has.there)))) (by decide)) ?_)
       | (refine callX (by repeat' first | apply Take.nil | apply Take.cons | apply Pick.here | apply Pick.there) en_Step (fun w hw => Step_w (usualV 9) [cQ1, cQ2] 2 rfl _ _ 0 w (hw.arrSl (memHas (by repeat (first | apply Has.here | apply Has.there)))) (by decide)) ?_)
       | (refine callX (by repeat' first | apply Take.nil | apply Take.cons | apply Pick.here | apply Pick.there) en_Flushed (fun w hw => cFlushed _ _ w (hw.arrSl (memHas (by repeat (first | apply Has.here | apply Has.there))))) ?_)
       | (first | refine eqlW eqS28 rfl rfl rfl (by repeat' first | exact trivial | apply And.intro | rfl) (by repeat' first | exact trivial | apply And.intro | rfl) ?_ | refine neqW eqS28 rfl rfl rfl (by repeat' first | exact trivial | apply And.intro | rfl) (by repeat' first | exact trivial | apply And.intro | rfl) ?_ | refine eqlW eqS24 rfl rfl rfl (by repeat' first | exact trivial | apply And.intro | rfl) (by repeat' first | exact trivial | apply And.intro | rfl) ?_ | refine neqW eqS24 rfl rfl rfl (by repeat' first | exact trivial | apply And.intro | rfl) (by repeat' first | exact trivial | apply And.intro | rfl) ?_)
       | refine Or.inl ⟨_, _, (memHas (by repeat (first | apply Has.here | apply Has.there))), ?_⟩
       | refine Or.inl ⟨_, _, _, (by repeat (first | apply Hole.here | apply Hole.there)), rfl, rfl, ?_⟩
       | (apply loadArr; (· apply memHas; (repeat (first | apply Has.here | apply Has.there))); (· rfl); (· (first | assumption | (apply getSelf; (repeat' first | assumption | apply getSelf); done) | exact mapGet (by omega) | exact rfl | (simp; done))))
       | (apply loadArr0; (· apply memHas; (repeat (first | apply Has.here | apply Has.there))); (· rfl); (· (first | assumption | (apply getSelf; (repeat' first | assumption | apply getSelf); done) | exact mapGet (by omega) | exact rfl | (simp; done))))
       | (apply loadArr1; (· apply memHas; (repeat (first | apply Has.here | apply Has.there))); (· rfl); (· (first | assumption | (apply getSelf; (repeat' first | assumption | apply getSelf); done) | exact mapGet (by omega) | exact rfl | (simp; done))))
       | (apply loadOld; (· assumption); (· rfl); (· (first | assumption | (apply getSelf; (repeat' first | assumption | apply getSelf); done) | exact mapGet (by omega) | exact rfl | (simp; done))))
       | (apply loadOld0; (· assumption); (· rfl); (· (first | assumption | (apply getSelf; (repeat' first | assumption | apply getSelf); done) | exact mapGet (by omega) | exact rfl | (simp; done))))
       | (apply loadOld1; (· assumption); (· rfl); (· (first | assumption | (apply getSelf; (repeat' first | assumption | apply getSelf); done) | exact mapGet (by omega) | exact rfl | (simp; done))))
       | (apply loadRowAt; (· apply memHas; (repeat (first | apply Has.here | apply Has.there))); (· rfl); (· first | assumption | exact rfl); (· rfl))
       | (apply loadRg; (· assumption); (· rfl))
       | (apply loadRg0; (· assumption))
       | (apply Or.inr; apply storeArr; (· (repeat (first | apply Hole.here | apply Hole.there))); (· rfl); (· (first | assumption | (apply getSelf; (repeat' first | assumption | apply getSelf); done) | exact mapGet (by omega) | exact rfl | (simp; done))); (· rfl); (· rfl))
       | (apply Or.inr; apply storeArr0; (· (repeat (first | apply Hole.here | apply Hole.there))); (· rfl); (· (first | assumption | (apply getSelf; (repeat' first | assumption | apply getSelf); done) | exact mapGet (by omega) | exact rfl | (simp; done))); (· rfl); (· rfl))
       | (apply Or.inr; apply storeArr1; (· (repeat (first | apply Hole.here | apply Hole.there))); (· rfl); (· (first | assumption | (apply getSelf; (repeat' first | assumption | apply getSelf); done) | exact mapGet (by omega) | exact rfl | (simp; done))); (· rfl); (· rfl))
       | refine BytW.ofBlk (memHas (by repeat (first | apply Has.here | apply Has.there))) rfl rfl ?_
       | refine AppW.noneB (memHas (by repeat (first | apply Has.here | apply Has.there))) (Nat.le_of_ble_eq_true rfl) rfl rfl rfl (Nat.le_of_ble_eq_true rfl) (Nat.le_of_ble_eq_true rfl) ?_
       | refine AppW.rowB (memHas (by repeat (first | apply Has.here | apply Has.there))) (Nat.le_of_ble_eq_true rfl) rfl rfl (by repeat (first | apply Hole.here | apply Hole.there)) (Nat.le_of_ble_eq_true rfl) (Nat.le_of_ble_eq_true rfl) ?_
       | refine AppW.blkB (memHas (by repeat (first | apply Has.here | apply Has.there))) (Nat.le_of_ble_eq_true rfl) rfl rfl (by repeat (first | apply Hole.here | apply Hole.there)) rfl rfl (Nat.le_of_ble_eq_true rfl) (Nat.le_of_ble_eq_true rfl) ?_
       | refine AppW.rowS (memHas (by repeat (first | apply Has.here | apply Has.there))) (Nat.le_of_ble_eq_true rfl) rfl rfl (by repeat (first | apply Hole.here | apply Hole.there)) (by omega) (Nat.le_of_ble_eq_true rfl) ?_
       | refine AppW.arrS (memHas (by repeat (first | apply Has.here | apply Has.there))) (Nat.le_of_ble_eq_true rfl) rfl rfl rfl (by repeat (first | apply Hole.here | apply Hole.there)) (by first | omega | (simp; omega)) (Nat.le_of_ble_eq_true rfl) ?_
       | refine ⟨(by first | rfl | omega | exact ⟨by omega, by omega⟩ | exact ⟨by omega, by omega, by omega⟩ | exact ⟨_, _, rfl⟩ | decide), ?_⟩
       | fail)
  all_goals (try conv => whnf)
  all_goals exact v_bool (by decide +kernel)
end Go.Proofs.Ytmgoahmbdpoikaa.Am
