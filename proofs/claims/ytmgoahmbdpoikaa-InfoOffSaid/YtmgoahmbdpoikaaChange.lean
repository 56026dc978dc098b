/- Package change, and what it uses of slices. -/
import Derived.Test.YtmgoahmbdpoikaaSend2
import Derived.Test.YtmgoahmbdpoikaaAm15
set_option linter.unusedVariables false
set_option linter.unusedSimpArgs false
set_option maxRecDepth 100000
set_option maxHeartbeats 4000000
namespace Go.Proofs.Ytmgoahmbdpoikaa.Am
open Go Go.RowKit
/-- Ports' cells are one cell each. -/
theorem PortV.one (p : PortV) : p.enc.all (·.oneCell') = true := rfl
theorem ports_one (ps : List PortV) : (ps.map PortV.enc).flatten.all (·.oneCell') = true := by
  induction ps with
  | nil => rfl
  | cons p ps ih => rw [List.map_cons, List.flatten_cons, List.all_append, ih, p.one]; rfl
theorem ports_len (ps : List PortV) : ∀ x ∈ ps.map PortV.enc, x.length = 61 := by
  intro x hx
  obtain ⟨p, _, rfl⟩ := List.mem_map.1 hx
  rfl
theorem ok_PClone : (match Try.f47.body with | some c => codeOk Try.f47.ntmps c | none => false) = true := by kernel_rfl
theorem en_PClone : ∃ fn, Try.prog.funcs[47]? = some fn ∧ (fn.name == "runtime.NumGoroutine") = false ∧ fn.body.isNone = false := ⟨_, Try.func47, by kernel_rfl, by kernel_rfl⟩
theorem PClone_w (ps : List PortV) (A : Option Addr) (c : Nat) (w : World) (h : SlAt w A 61 (ps.map PortV.enc)) (hb : ps.length ≤ 1000) : FnX Try.prog 47 [.slice A ps.length c] [] (fun s : Option Addr × Nat => IsRow (.slice s.1 ps.length s.2) ps.length) (fun s => .slice s.1 ps.length s.2) (fun s => [.arr (.slice s.1 ps.length s.2) 28 61 (ps.map PortV.enc)]) w := by
  refine funcR_x tyOk wide Try.func47 ok_PClone (Nat.le_of_ble_eq_true rfl) (St.start0 w) ?_
  cases A with
  | none =>
    obtain rfl : ps = [] := by
      cases ps with
      | nil => rfl
      | cons p ps => obtain ⟨b, o, e, _⟩ := h.at_ (by simp); cases e
    repeat' first
      | (conv => whnf
         first
         | intro _
         | (first | refine selSplit (fun h => ?_) (fun h => ?_) | refine condSplit (fun h => ?_) (fun h => ?_)) <;> first | exact (clash (by assumption) h).elim | exact (clash h (by assumption)).elim | (simp only [decide_eq_true_eq, decide_eq_false_iff_not, Bool.not_eq_true', Bool.not_eq_false', Bool.not_true, Bool.not_false, Bool.or_eq_true, Bool.and_eq_true, Bool.or_eq_false_iff, Bool.and_eq_false_iff, beq_iff_eq, beq_eq_false_iff_ne, ne_eq] at h; first | (exfalso; omega) | skip) | skip
         | refine SeqP.go ?_
         | refine CondR.mk (by decide +kernel) ?_
         | exact IsV.mk
         | apply GuardP.mk
         | (first | refine eqlW eqS28 rfl rfl rfl (by repeat' first | exact trivial | apply And.intro | rfl) (by repeat' first | exact trivial | apply And.intro | rfl) ?_ | refine neqW eqS28 rfl rfl rfl (by repeat' first | exact trivial | apply And.intro | rfl) (by repeat' first | exact trivial | apply And.intro | rfl) ?_)
         | refine Or.inl ⟨_, _, (memHas (by repeat (first | apply Has.here | apply Has.there))), ?_⟩
         | refine Or.inl ⟨_, _, _, (by repeat (first | apply Hole.here | apply Hole.there)), rfl, rfl, ?_⟩
         | (apply loadArr; (· apply memHas; (repeat (first | apply Has.here | apply Has.there))); (· rfl); (· (first | assumption | (apply getSelf; (repeat' first | assumption | apply getSelf); done) | exact mapGet (by omega) | exact rfl | (simp; done))))
         | (apply loadArr0; (· apply memHas; (repeat (first | apply Has.here | apply Has.there))); (· rfl); (· (first | assumption | (apply getSelf; (repeat' first | assumption | apply getSelf); done) | exact mapGet (by omega) | exact rfl | (simp; done))))
         | (apply loadArr1; (· apply memHas; (repeat (first | apply Has.here | apply Has.there))); (· rfl); (· (first | assumption | (apply getSelf; (repeat' first | assumption | apply getSelf); done) | exact mapGet (by omega) | exact rfl | (simp; done))))
         | (apply loadOld; (· assumption); (· rfl); (· (first | assumption | (apply getSelf; (repeat' first | assumption | apply getSelf); done) | exact mapGet (by omega) | exact rfl | (simp; done))))
         | (apply loadOld0; (· assumption); (· rfl); (· (first | assumption | (apply getSelf; (repeat' first | assumption | apply getSelf); done) | exact mapGet (by omega) | exact rfl | (simp; done))))
         | (apply loadOld1; (· assumption); (· rfl); (· (first | assumption | (apply getSelf; (repeat' first | assumption | apply getSelf); done) | exact mapGet (by omega) | exact rfl | (simp; done))))
         | (apply loadRowAt; (· apply memHas; (repeat (first | apply Has.here | apply Has.there))); (· rfl); (· first | assumption | exact rfl); (· rfl))
         | (apply loadRg; (· assumption); (· rfl))
         | (apply loadRg0; (· assumption))
         | (apply Or.inr; apply storeArr; (· (repeat (first | apply Hole.here | apply Hole.there))); (· rfl); (· (first | assumption | (apply getSelf; (repeat' first | assumption | apply getSelf); done) | exact mapGet (by omega) | exact rfl | (simp; done))); (· rfl); (· rfl))
         | (apply Or.inr; apply storeArr0; (· (repeat (first | apply Hole.here | apply Hole.there))); (· rfl); (· (first | assumption | (apply getSelf; (repeat' first | assumption | apply getSelf); done) | exact mapGet (by omega) | exact rfl | (simp; done))); (· rfl); (· rfl))
         | (apply Or.inr; apply storeArr1; (· (repeat (first | apply Hole.here | apply Hole.there))); (· rfl); (· (first | assumption | (apply getSelf; (repeat' first | assumption | apply getSelf); done) | exact mapGet (by omega) | exact rfl | (simp; done))); (· rfl); (· rfl))
         | refine BytW.ofBlk (memHas (by repeat (first | apply Has.here | apply Has.there))) rfl rfl ?_
         | refine AppW.noneB (memHas (by repeat (first | apply Has.here | apply Has.there))) (Nat.le_of_ble_eq_true rfl) rfl rfl rfl (Nat.le_of_ble_eq_true rfl) (Nat.le_of_ble_eq_true rfl) ?_
         | refine AppW.rowB (memHas (by repeat (first | apply Has.here | apply Has.there))) (Nat.le_of_ble_eq_true rfl) rfl rfl (by repeat (first | apply Hole.here | apply Hole.there)) (Nat.le_of_ble_eq_true rfl) (Nat.le_of_ble_eq_true rfl) ?_
         | refine AppW.blkB (memHas (by repeat (first | apply Has.here | apply Has.there))) (Nat.le_of_ble_eq_true rfl) rfl rfl (by repeat (first | apply Hole.here | apply Hole.there)) rfl rfl (Nat.le_of_ble_eq_true rfl) (Nat.le_of_ble_eq_true rfl) ?_
         | refine AppW.rowS (memHas (by repeat (first | apply Has.here | apply Has.there))) (Nat.le_of_ble_eq_true rfl) rfl rfl (by repeat (first | apply Hole.here | apply Hole.there)) (by omega) (Nat.le_of_ble_eq_true rfl) ?_
         | refine AppW.arrS (memHas (by repeat (first | apply Has.here | apply Has.there))) (Nat.le_of_ble_eq_true rfl) rfl rfl rfl (by repeat (first | apply Hole.here | apply Hole.there)) (by first | omega | (simp; omega)) (Nat.le_of_ble_eq_true rfl) ?_
         | refine ⟨(by first | rfl | omega | exact ⟨by omega, by omega⟩ | exact ⟨by omega, by omega, by omega⟩ | exact ⟨_, _, rfl⟩ | decide), ?_⟩
         | fail)
    all_goals (try conv => whnf)
    all_goals exact ⟨(none, 0), .inl ⟨rfl, rfl⟩, rfl, nilArr⟩
  | some a =>
    cases ps with
    | nil =>
      obtain ⟨b, o, _ | sp⟩ := a
      · have ho : Old w [] b o 61 [] := ⟨by simp, fun H w hw j v hv => by simp at hv⟩
        repeat' first
          | (conv => whnf
             first
             | intro _
             | (first | refine selSplit (fun h => ?_) (fun h => ?_) | refine condSplit (fun h => ?_) (fun h => ?_)) <;> first | exact (clash (by assumption) h).elim | exact (clash h (by assumption)).elim | (simp only [decide_eq_true_eq, decide_eq_false_iff_not, Bool.not_eq_true', Bool.not_eq_false', Bool.not_true, Bool.not_false, Bool.or_eq_true, Bool.and_eq_true, Bool.or_eq_false_iff, Bool.and_eq_false_iff, beq_iff_eq, beq_eq_false_iff_ne, ne_eq] at h; first | (exfalso; omega) | skip) | skip
             | refine SeqP.go ?_
             | refine CondR.mk (by decide +kernel) ?_
             | exact IsV.mk
             | apply GuardP.mk
             | (refine AppW.cloneS (l := []) ho (Nat.le_of_ble_eq_true rfl) rfl (by repeat (first | apply Hole.here | apply Hole.there)) rfl rfl (Nat.zero_le _) (Nat.le_of_ble_eq_true rfl) ?_)
             | (first | refine eqlW eqS28 rfl rfl rfl (by repeat' first | exact trivial | apply And.intro | rfl) (by repeat' first | exact trivial | apply And.intro | rfl) ?_ | refine neqW eqS28 rfl rfl rfl (by repeat' first | exact trivial | apply And.intro | rfl) (by repeat' first | exact trivial | apply And.intro | rfl) ?_)
             | refine Or.inl ⟨_, _, (memHas (by repeat (first | apply Has.here | apply Has.there))), ?_⟩
             | refine Or.inl ⟨_, _, _, (by repeat (first | apply Hole.here | apply Hole.there)), rfl, rfl, ?_⟩
             | (apply loadArr; (· apply memHas; (repeat (first | apply Has.here | apply Has.there))); (· rfl); (· (first | assumption | (apply getSelf; (repeat' first | assumption | apply getSelf); done) | exact mapGet (by omega) | exact rfl | (simp; done))))
             | (apply loadArr0; (· apply memHas; (repeat (first | apply Has.here | apply Has.there))); (· rfl); (· (first | assumption | (apply getSelf; (repeat' first | assumption | apply getSelf); done) | exact mapGet (by omega) | exact rfl | (simp; done))))
             | (apply loadArr1; (· apply memHas; (repeat (first | apply Has.here | apply Has.there))); (· rfl); (· (first | assumption | (apply getSelf; (repeat' first | assumption | apply getSelf); done) | exact mapGet (by omega) | exact rfl | (simp; done))))
             | (apply loadOld; (· assumption); (· rfl); (· (first | assumption | (apply getSelf; (repeat' first | assumption | apply getSelf); done) | exact mapGet (by omega) | exact rfl | (simp; done))))
             | (apply loadOld0; (· assumption); (· rfl); (· (first | assumption | (apply getSelf; (repeat' first | assumption | apply getSelf); done) | exact mapGet (by omega) | exact rfl | (simp; done))))
             | (apply loadOld1; (· assumption); (· rfl); (· (first | assumption | (apply getSelf; (repeat' first | assumption | apply getSelf); done) | exact mapGet (by omega) | exact rfl | (simp; done))))
             | (apply loadRowAt; (· apply memHas; (repeat (first | apply Has.here | apply Has.there))); (· rfl); (· first | assumption | exact rfl); (· rfl))
             | (apply loadRg; (· assumption); (· rfl))
             | (apply loadRg0; (· assumption))
             | (apply Or.inr; apply storeArr; (· (repeat (first | apply Hole.here | apply Hole.there))); (· rfl); (· (first | assumption | (apply getSelf; (repeat' first | assumption | apply getSelf); done) | exact mapGet (by omega) | exact rfl | (simp; done))); (· rfl); (· rfl))
             | (apply Or.inr; apply storeArr0; (· (repeat (first | apply Hole.here | apply Hole.there))); (· rfl); (· (first | assumption | (apply getSelf; (repeat' first | assumption | apply getSelf); done) | exact mapGet (by omega) | exact rfl | (simp; done))); (· rfl); (· rfl))
             | (apply Or.inr; apply storeArr1; (· (repeat (first | apply Hole.here | apply Hole.there))); (· rfl); (· (first | assumption | (apply getSelf; (repeat' first | assumption | apply getSelf); done) | exact mapGet (by omega) | exact rfl | (simp; done))); (· rfl); (· rfl))
             | refine BytW.ofBlk (memHas (by repeat (first | apply Has.here | apply Has.there))) rfl rfl ?_
             | refine AppW.noneB (memHas (by repeat (first | apply Has.here | apply Has.there))) (Nat.le_of_ble_eq_true rfl) rfl rfl rfl (Nat.le_of_ble_eq_true rfl) (Nat.le_of_ble_eq_true rfl) ?_
             | refine AppW.rowB (memHas (by repeat (first | apply Has.here | apply Has.there))) (Nat.le_of_ble_eq_true rfl) rfl rfl (by repeat (first | apply Hole.here | apply Hole.there)) (Nat.le_of_ble_eq_true rfl) (Nat.le_of_ble_eq_true rfl) ?_
             | refine AppW.blkB (memHas (by repeat (first | apply Has.here | apply Has.there))) (Nat.le_of_ble_eq_true rfl) rfl rfl (by repeat (first | apply Hole.here | apply Hole.there)) rfl rfl (Nat.le_of_ble_eq_true rfl) (Nat.le_of_ble_eq_true rfl) ?_
             | refine AppW.rowS (memHas (by repeat (first | apply Has.here | apply Has.there))) (Nat.le_of_ble_eq_true rfl) rfl rfl (by repeat (first | apply Hole.here | apply Hole.there)) (by omega) (Nat.le_of_ble_eq_true rfl) ?_
             | refine AppW.arrS (memHas (by repeat (first | apply Has.here | apply Has.there))) (Nat.le_of_ble_eq_true rfl) rfl rfl rfl (by repeat (first | apply Hole.here | apply Hole.there)) (by first | omega | (simp; omega)) (Nat.le_of_ble_eq_true rfl) ?_
             | refine ⟨(by first | rfl | omega | exact ⟨by omega, by omega⟩ | exact ⟨by omega, by omega, by omega⟩ | exact ⟨_, _, rfl⟩ | decide), ?_⟩
             | fail)
        all_goals (try conv => whnf)
        all_goals exact ⟨(_, _), by assumption, rfl, Ent.refl⟩
      · skip
        repeat' first
          | (conv => whnf
             first
             | intro _
             | (first | refine selSplit (fun h => ?_) (fun h => ?_) | refine condSplit (fun h => ?_) (fun h => ?_)) <;> first | exact (clash (by assumption) h).elim | exact (clash h (by assumption)).elim | (simp only [decide_eq_true_eq, decide_eq_false_iff_not, Bool.not_eq_true', Bool.not_eq_false', Bool.not_true, Bool.not_false, Bool.or_eq_true, Bool.and_eq_true, Bool.or_eq_false_iff, Bool.and_eq_false_iff, beq_iff_eq, beq_eq_false_iff_ne, ne_eq] at h; first | (exfalso; omega) | skip) | skip
             | refine SeqP.go ?_
             | refine CondR.mk (by decide +kernel) ?_
             | exact IsV.mk
             | apply GuardP.mk
             | (refine appNil rfl rfl rfl rfl Try.underlying34 Try.underlying34 (by kernel_rfl) rfl rfl (Nat.le_refl _) ?_)
             | (first | refine eqlW eqS28 rfl rfl rfl (by repeat' first | exact trivial | apply And.intro | rfl) (by repeat' first | exact trivial | apply And.intro | rfl) ?_ | refine neqW eqS28 rfl rfl rfl (by repeat' first | exact trivial | apply And.intro | rfl) (by repeat' first | exact trivial | apply And.intro | rfl) ?_)
             | refine Or.inl ⟨_, _, (memHas (by repeat (first | apply Has.here | apply Has.there))), ?_⟩
             | refine Or.inl ⟨_, _, _, (by repeat (first | apply Hole.here | apply Hole.there)), rfl, rfl, ?_⟩
             | (apply loadArr; (· apply memHas; (repeat (first | apply Has.here | apply Has.there))); (· rfl); (· (first | assumption | (apply getSelf; (repeat' first | assumption | apply getSelf); done) | exact mapGet (by omega) | exact rfl | (simp; done))))
             | (apply loadArr0; (· apply memHas; (repeat (first | apply Has.here | apply Has.there))); (· rfl); (· (first | assumption | (apply getSelf; (repeat' first | assumption | apply getSelf); done) | exact mapGet (by omega) | exact rfl | (simp; done))))
             | (apply loadArr1; (· apply memHas; (repeat (first | apply Has.here | apply Has.there))); (· rfl); (· (first | assumption | (apply getSelf; (repeat' first | assumption | apply getSelf); done) | exact mapGet (by omega) | exact rfl | (simp; done))))
             | (apply loadOld; (· assumption); (· rfl); (· (first | assumption | (apply getSelf; (repeat' first | assumption | apply getSelf); done) | exact mapGet (by omega) | exact rfl | (simp; done))))
             | (apply loadOld0; (· assumption); (· rfl); (· (first | assumption | (apply getSelf; (repeat' first | assumption | apply getSelf); done) | exact mapGet (by omega) | exact rfl | (simp; done))))
             | (apply loadOld1; (· assumption); (· rfl); (· (first | assumption | (apply getSelf; (repeat' first | assumption | apply getSelf); done) | exact mapGet (by omega) | exact rfl | (simp; done))))
             | (apply loadRowAt; (· apply memHas; (repeat (first | apply Has.here | apply Has.there))); (· rfl); (· first | assumption | exact rfl); (· rfl))
             | (apply loadRg; (· assumption); (· rfl))
             | (apply loadRg0; (· assumption))
             | (apply Or.inr; apply storeArr; (· (repeat (first | apply Hole.here | apply Hole.there))); (· rfl); (· (first | assumption | (apply getSelf; (repeat' first | assumption | apply getSelf); done) | exact mapGet (by omega) | exact rfl | (simp; done))); (· rfl); (· rfl))
             | (apply Or.inr; apply storeArr0; (· (repeat (first | apply Hole.here | apply Hole.there))); (· rfl); (· (first | assumption | (apply getSelf; (repeat' first | assumption | apply getSelf); done) | exact mapGet (by omega) | exact rfl | (simp; done))); (· rfl); (· rfl))
             | (apply Or.inr; apply storeArr1; (· (repeat (first | apply Hole.here | apply Hole.there))); (· rfl); (· (first | assumption | (apply getSelf; (repeat' first | assumption | apply getSelf); done) | exact mapGet (by omega) | exact rfl | (simp; done))); (· rfl); (· rfl))
             | refine BytW.ofBlk (memHas (by repeat (first | apply Has.here | apply Has.there))) rfl rfl ?_
             | refine AppW.noneB (memHas (by repeat (first | apply Has.here | apply Has.there))) (Nat.le_of_ble_eq_true rfl) rfl rfl rfl (Nat.le_of_ble_eq_true rfl) (Nat.le_of_ble_eq_true rfl) ?_
             | refine AppW.rowB (memHas (by repeat (first | apply Has.here | apply Has.there))) (Nat.le_of_ble_eq_true rfl) rfl rfl (by repeat (first | apply Hole.here | apply Hole.there)) (Nat.le_of_ble_eq_true rfl) (Nat.le_of_ble_eq_true rfl) ?_
             | refine AppW.blkB (memHas (by repeat (first | apply Has.here | apply Has.there))) (Nat.le_of_ble_eq_true rfl) rfl rfl (by repeat (first | apply Hole.here | apply Hole.there)) rfl rfl (Nat.le_of_ble_eq_true rfl) (Nat.le_of_ble_eq_true rfl) ?_
             | refine AppW.rowS (memHas (by repeat (first | apply Has.here | apply Has.there))) (Nat.le_of_ble_eq_true rfl) rfl rfl (by repeat (first | apply Hole.here | apply Hole.there)) (by omega) (Nat.le_of_ble_eq_true rfl) ?_
             | refine AppW.arrS (memHas (by repeat (first | apply Has.here | apply Has.there))) (Nat.le_of_ble_eq_true rfl) rfl rfl rfl (by repeat (first | apply Hole.here | apply Hole.there)) (by first | omega | (simp; omega)) (Nat.le_of_ble_eq_true rfl) ?_
             | refine ⟨(by first | rfl | omega | exact ⟨by omega, by omega⟩ | exact ⟨by omega, by omega, by omega⟩ | exact ⟨_, _, rfl⟩ | decide), ?_⟩
             | fail)
        all_goals (try conv => whnf)
        all_goals exact ⟨(_, _), .inr ⟨_, _, rfl, Nat.le_refl _⟩, rfl, blkArr0⟩
    | cons p ps =>
      obtain ⟨b, o, e, hr⟩ := h.at_ (by simp)
      cases e
      have ho := h.old (X := []) (by simp) (by simp)
      have hone := ports_one (p :: ps)
      repeat' first
        | (conv => whnf
           first
           | intro _
           | (first | refine selSplit (fun h => ?_) (fun h => ?_) | refine condSplit (fun h => ?_) (fun h => ?_)) <;> first | exact (clash (by assumption) h).elim | exact (clash h (by assumption)).elim | (simp only [decide_eq_true_eq, decide_eq_false_iff_not, Bool.not_eq_true', Bool.not_eq_false', Bool.not_true, Bool.not_false, Bool.or_eq_true, Bool.and_eq_true, Bool.or_eq_false_iff, Bool.and_eq_false_iff, beq_iff_eq, beq_eq_false_iff_ne, ne_eq] at h; first | (exfalso; omega) | skip) | skip
           | refine SeqP.go ?_
           | refine CondR.mk (by decide +kernel) ?_
           | exact IsV.mk
           | apply GuardP.mk
           | (refine AppW.cloneS (l := (p :: ps).map PortV.enc) ho (Nat.le_of_ble_eq_true rfl) hone (by repeat (first | apply Hole.here | apply Hole.there)) rfl (by simp) (by omega) (Nat.le_of_ble_eq_true rfl) ?_)
           | (first | refine eqlW eqS28 rfl rfl rfl (by repeat' first | exact trivial | apply And.intro | rfl) (by repeat' first | exact trivial | apply And.intro | rfl) ?_ | refine neqW eqS28 rfl rfl rfl (by repeat' first | exact trivial | apply And.intro | rfl) (by repeat' first | exact trivial | apply And.intro | rfl) ?_)
           | refine Or.inl ⟨_, _, (memHas (by repeat (first | apply Has.here | apply Has.there))), ?_⟩
           | refine Or.inl ⟨_, _, _, (by repeat (first | apply Hole.here | apply Hole.there)), rfl, rfl, ?_⟩
           | (apply loadArr; (· apply memHas; (repeat (first | apply Has.here | apply Has.there))); (· rfl); (· (first | assumption | (apply getSelf; (repeat' first | assumption | apply getSelf); done) | exact mapGet (by omega) | exact rfl | (simp; done))))
           | (apply loadArr0; (· apply memHas; (repeat (first | apply Has.here | apply Has.there))); (· rfl); (· (first | assumption | (apply getSelf; (repeat' first | assumption | apply getSelf); done) | exact mapGet (by omega) | exact rfl | (simp; done))))
           | (apply loadArr1; (· apply memHas; (repeat (first | apply Has.here | apply Has.there))); (· rfl); (· (first | assumption | (apply getSelf; (repeat' first | assumption | apply getSelf); done) | exact mapGet (by omega) | exact rfl | (simp; done))))
           | (apply loadOld; (· assumption); (· rfl); (· (first | assumption | (apply getSelf; (repeat' first | assumption | apply getSelf); done) | exact mapGet (by omega) | exact rfl | (simp; done))))
           | (apply loadOld0; (· assumption); (· rfl); (· (first | assumption | (apply getSelf; (repeat' first | assumption | apply getSelf); done) | exact mapGet (by omega) | exact rfl | (simp; done))))
           | (apply loadOld1; (· assumption); (· rfl); (· (first | assumption | (apply getSelf; (repeat' first | assumption | apply getSelf); done) | exact mapGet (by omega) | exact rfl | (simp; done))))
           | (apply loadRowAt; (· apply memHas; (repeat (first | apply Has.here | apply Has.there))); (· rfl); (· first | assumption | exact rfl); (· rfl))
           | (apply loadRg; (· assumption); (· rfl))
           | (apply loadRg0; (· assumption))
           | (apply Or.inr; apply storeArr; (· (repeat (first | apply Hole.here | apply Hole.there))); (· rfl); (· (first | assumption | (apply getSelf; (repeat' first | assumption | apply getSelf); done) | exact mapGet (by omega) | exact rfl | (simp; done))); (· rfl); (· rfl))
           | (apply Or.inr; apply storeArr0; (· (repeat (first | apply Hole.here | apply Hole.there))); (· rfl); (· (first | assumption | (apply getSelf; (repeat' first | assumption | apply getSelf); done) | exact mapGet (by omega) | exact rfl | (simp; done))); (· rfl); (· rfl))
           | (apply Or.inr; apply storeArr1; (· (repeat (first | apply Hole.here | apply Hole.there))); (· rfl); (· (first | assumption | (apply getSelf; (repeat' first | assumption | apply getSelf); done) | exact mapGet (by omega) | exact rfl | (simp; done))); (· rfl); (· rfl))
           | refine BytW.ofBlk (memHas (by repeat (first | apply Has.here | apply Has.there))) rfl rfl ?_
           | refine AppW.noneB (memHas (by repeat (first | apply Has.here | apply Has.there))) (Nat.le_of_ble_eq_true rfl) rfl rfl rfl (Nat.le_of_ble_eq_true rfl) (Nat.le_of_ble_eq_true rfl) ?_
           | refine AppW.rowB (memHas (by repeat (first | apply Has.here | apply Has.there))) (Nat.le_of_ble_eq_true rfl) rfl rfl (by repeat (first | apply Hole.here | apply Hole.there)) (Nat.le_of_ble_eq_true rfl) (Nat.le_of_ble_eq_true rfl) ?_
           | refine AppW.blkB (memHas (by repeat (first | apply Has.here | apply Has.there))) (Nat.le_of_ble_eq_true rfl) rfl rfl (by repeat (first | apply Hole.here | apply Hole.there)) rfl rfl (Nat.le_of_ble_eq_true rfl) (Nat.le_of_ble_eq_true rfl) ?_
           | refine AppW.rowS (memHas (by repeat (first | apply Has.here | apply Has.there))) (Nat.le_of_ble_eq_true rfl) rfl rfl (by repeat (first | apply Hole.here | apply Hole.there)) (by omega) (Nat.le_of_ble_eq_true rfl) ?_
           | refine AppW.arrS (memHas (by repeat (first | apply Has.here | apply Has.there))) (Nat.le_of_ble_eq_true rfl) rfl rfl rfl (by repeat (first | apply Hole.here | apply Hole.there)) (by first | omega | (simp; omega)) (Nat.le_of_ble_eq_true rfl) ?_
           | refine ⟨(by first | rfl | omega | exact ⟨by omega, by omega⟩ | exact ⟨by omega, by omega, by omega⟩ | exact ⟨_, _, rfl⟩ | decide), ?_⟩
           | fail)
      all_goals (try conv => whnf)
      all_goals exact ⟨(_, _), by assumption, rfl, Ent.refl⟩
def inB (p : PortV) : Bool := decide (p.Role = 1) || decide (p.Role = 2)
theorem ok_chIn : (match Try.f50.body with | some c => codeOk Try.f50.ntmps c | none => false) = true := by kernel_rfl
theorem en_chIn : ∃ fn, Try.prog.funcs[50]? = some fn ∧ (fn.name == "runtime.NumGoroutine") = false ∧ fn.body.isNone = false := ⟨_, Try.func50, by kernel_rfl, by kernel_rfl⟩
theorem chIn_w (p : PortV) (b o : Nat) (w : World) (h : w.rangeAt b o p.enc) : PuAt Try.prog 50 [.pointer (some ⟨b, o, none⟩)] (.bool (inB p)) w := by
  refine funcR_pure tyOk wide Try.func50 ok_chIn (Nat.le_of_ble_eq_true rfl) ?_
  have hr := rg_old (X := []) h (by simp)
  repeat' first
    | (conv => whnf
       first
       | intro _
       | (first | refine selSplit (fun h => ?_) (fun h => ?_) | refine condSplit (fun h => ?_) (fun h => ?_)) <;> first | exact (clash (by assumption) h).elim | exact (clash h (by assumption)).elim | (simp only [decide_eq_true_eq, decide_eq_false_iff_not, Bool.not_eq_true', Bool.not_eq_false', Bool.not_true, Bool.not_false, Bool.or_eq_true, Bool.and_eq_true, Bool.or_eq_false_iff, Bool.and_eq_false_iff, beq_iff_eq, beq_eq_false_iff_ne, ne_eq] at h; first | (exfalso; omega) | skip) | skip
       | refine SeqP.go ?_
       | refine CondR.mk (by decide +kernel) ?_
       | exact IsV.mk
       | apply GuardP.mk
       | (first | refine eqlW eqS28 rfl rfl rfl (by repeat' first | exact trivial | apply And.intro | rfl) (by repeat' first | exact trivial | apply And.intro | rfl) ?_ | refine neqW eqS28 rfl rfl rfl (by repeat' first | exact trivial | apply And.intro | rfl) (by repeat' first | exact trivial | apply And.intro | rfl) ?_)
       | refine Or.inl ⟨_, _, (memHas (by repeat (first | apply Has.here | apply Has.there))), ?_⟩
       | refine Or.inl ⟨_, _, _, (by repeat (first | apply Hole.here | apply Hole.there)), rfl, rfl, ?_⟩
       | (apply loadArr; (· apply memHas; (repeat (first | apply Has.here | apply Has.there))); (· rfl); (· (first | assumption | (apply getSelf; (repeat' first | assumption | apply getSelf); done) | exact mapGet (by omega) | exact rfl | (simp; done))))
       | (apply loadArr0; (· apply memHas; (repeat (first | apply Has.here | apply Has.there))); (· rfl); (· (first | assumption | (apply getSelf; (repeat' first | assumption | apply getSelf); done) | exact mapGet (by omega) | exact rfl | (simp; done))))
       | (apply loadArr1; (· apply memHas; (repeat (first | apply Has.here | apply Has.there))); (· rfl); (· (first | assumption | (apply getSelf; (repeat' first | assumption | apply getSelf); done) | exact mapGet (by omega) | exact rfl | (simp; done))))
       | (apply loadOld; (· assumption); (· rfl); (· (first | assumption | (apply getSelf; (repeat' first | assumption | apply getSelf); done) | exact mapGet (by omega) | exact rfl | (simp; done))))
       | (apply loadOld0; (· assumption); (· rfl); (· (first | assumption | (apply getSelf; (repeat' first | assumption | apply getSelf); done) | exact mapGet (by omega) | exact rfl | (simp; done))))
       | (apply loadOld1; (· assumption); (· rfl); (· (first | assumption | (apply getSelf; (repeat' first | assumption | apply getSelf); done) | exact mapGet (by omega) | exact rfl | (simp; done))))
       | (apply loadRowAt; (· apply memHas; (repeat (first | apply Has.here | apply Has.there))); (· rfl); (· first | assumption | exact rfl); (· rfl))
       | (apply loadRg; (· assumption); (· rfl))
       | (apply loadRg0; (· assumption))
       | (apply Or.inr; apply storeArr; (· (repeat (first | apply Hole.here | apply Hole.there))); (· rfl); (· (first | assumption | (apply getSelf; (repeat' first | assumption | apply getSelf); done) | exact mapGet (by omega) | exact rfl | (simp; done))); (· rfl); (· rfl))
       | (apply Or.inr; apply storeArr0; (· (repeat (first | apply Hole.here | apply Hole.there))); (· rfl); (· (first | assumption | (apply getSelf; (repeat' first | assumption | apply getSelf); done) | exact mapGet (by omega) | exact rfl | (simp; done))); (· rfl); (· rfl))
       | (apply Or.inr; apply storeArr1; (· (repeat (first | apply Hole.here | apply Hole.there))); (· rfl); (· (first | assumption | (apply getSelf; (repeat' first | assumption | apply getSelf); done) | exact mapGet (by omega) | exact rfl | (simp; done))); (· rfl); (· rfl))
       | refine BytW.ofBlk (memHas (by repeat (first | apply Has.here | apply Has.there))) rfl rfl ?_
       | refine AppW.noneB (memHas (by repeat (first | apply Has.here | apply Has.there))) (Nat.le_of_ble_eq_true rfl) rfl rfl rfl (Nat.le_of_ble_eq_true rfl) (Nat.le_of_ble_eq_true rfl) ?_
       | refine AppW.rowB (memHas (by repeat (first | apply Has.here | apply Has.there))) (Nat.le_of_ble_eq_true rfl) rfl rfl (by repeat (first | apply Hole.here | apply Hole.there)) (Nat.le_of_ble_eq_true rfl) (Nat.le_of_ble_eq_true rfl) ?_
       | refine AppW.blkB (memHas (by repeat (first | apply Has.here | apply Has.there))) (Nat.le_of_ble_eq_true rfl) rfl rfl (by repeat (first | apply Hole.here | apply Hole.there)) rfl rfl (Nat.le_of_ble_eq_true rfl) (Nat.le_of_ble_eq_true rfl) ?_
       | refine AppW.rowS (memHas (by repeat (first | apply Has.here | apply Has.there))) (Nat.le_of_ble_eq_true rfl) rfl rfl (by repeat (first | apply Hole.here | apply Hole.there)) (by omega) (Nat.le_of_ble_eq_true rfl) ?_
       | refine AppW.arrS (memHas (by repeat (first | apply Has.here | apply Has.there))) (Nat.le_of_ble_eq_true rfl) rfl rfl rfl (by repeat (first | apply Hole.here | apply Hole.there)) (by first | omega | (simp; omega)) (Nat.le_of_ble_eq_true rfl) ?_
       | refine ⟨(by first | rfl | omega | exact ⟨by omega, by omega⟩ | exact ⟨by omega, by omega, by omega⟩ | exact ⟨_, _, rfl⟩ | decide), ?_⟩
       | fail)
  all_goals (try conv => whnf)
  all_goals rfl
def toldB (p : PortV) : Bool := p.HeardTc || p.HeardTcn || p.HeardAck || p.TcProp
theorem ok_told : (match Try.f52.body with | some c => codeOk Try.f52.ntmps c | none => false) = true := by kernel_rfl
theorem en_told : ∃ fn, Try.prog.funcs[52]? = some fn ∧ (fn.name == "runtime.NumGoroutine") = false ∧ fn.body.isNone = false := ⟨_, Try.func52, by kernel_rfl, by kernel_rfl⟩
theorem told_w (p : PortV) (b o : Nat) (w : World) (h : w.rangeAt b o p.enc) : PuAt Try.prog 52 [.pointer (some ⟨b, o, none⟩)] (.bool (toldB p)) w := by
  refine funcR_pure tyOk wide Try.func52 ok_told (Nat.le_of_ble_eq_true rfl) ?_
  have hr := rg_old (X := []) h (by simp)
  repeat' first
    | (conv => whnf
       first
       | intro _
       | (first | refine selSplit (fun h => ?_) (fun h => ?_) | refine condSplit (fun h => ?_) (fun h => ?_)) <;> first | exact (clash (by assumption) h).elim | exact (clash h (by assumption)).elim | (simp only [decide_eq_true_eq, decide_eq_false_iff_not, Bool.not_eq_true', Bool.not_eq_false', Bool.not_true, Bool.not_false, Bool.or_eq_true, Bool.and_eq_true, Bool.or_eq_false_iff, Bool.and_eq_false_iff, beq_iff_eq, beq_eq_false_iff_ne, ne_eq] at h; first | (exfalso; omega) | skip) | skip
       | refine SeqP.go ?_
       | refine CondR.mk (by decide +kernel) ?_
       | exact IsV.mk
       | apply GuardP.mk
       | (first | refine eqlW eqS28 rfl rfl rfl (by repeat' first | exact trivial | apply And.intro | rfl) (by repeat' first | exact trivial | apply And.intro | rfl) ?_ | refine neqW eqS28 rfl rfl rfl (by repeat' first | exact trivial | apply And.intro | rfl) (by repeat' first | exact trivial | apply And.intro | rfl) ?_)
       | refine Or.inl ⟨_, _, (memHas (by repeat (first | apply Has.here | apply Has.there))), ?_⟩
       | refine Or.inl ⟨_, _, _, (by repeat (first | apply Hole.here | apply Hole.there)), rfl, rfl, ?_⟩
       | (apply loadArr; (· apply memHas; (repeat (first | apply Has.here | apply Has.there))); (· rfl); (· (first | assumption | (apply getSelf; (repeat' first | assumption | apply getSelf); done) | exact mapGet (by omega) | exact rfl | (simp; done))))
       | (apply loadArr0; (· apply memHas; (repeat (first | apply Has.here | apply Has.there))); (· rfl); (· (first | assumption | (apply getSelf; (repeat' first | assumption | apply getSelf); done) | exact mapGet (by omega) | exact rfl | (simp; done))))
       | (apply loadArr1; (· apply memHas; (repeat (first | apply Has.here | apply Has.there))); (· rfl); (· (first | assumption | (apply getSelf; (repeat' first | assumption | apply getSelf); done) | exact mapGet (by omega) | exact rfl | (simp; done))))
       | (apply loadOld; (· assumption); (· rfl); (· (first | assumption | (apply getSelf; (repeat' first | assumption | apply getSelf); done) | exact mapGet (by omega) | exact rfl | (simp; done))))
       | (apply loadOld0; (· assumption); (· rfl); (· (first | assumption | (apply getSelf; (repeat' first | assumption | apply getSelf); done) | exact mapGet (by omega) | exact rfl | (simp; done))))
       | (apply loadOld1; (· assumption); (· rfl); (· (first | assumption | (apply getSelf; (repeat' first | assumption | apply getSelf); done) | exact mapGet (by omega) | exact rfl | (simp; done))))
       | (apply loadRowAt; (· apply memHas; (repeat (first | apply Has.here | apply Has.there))); (· rfl); (· first | assumption | exact rfl); (· rfl))
       | (apply loadRg; (· assumption); (· rfl))
       | (apply loadRg0; (· assumption))
       | (apply Or.inr; apply storeArr; (· (repeat (first | apply Hole.here | apply Hole.there))); (· rfl); (· (first | assumption | (apply getSelf; (repeat' first | assumption | apply getSelf); done) | exact mapGet (by omega) | exact rfl | (simp; done))); (· rfl); (· rfl))
       | (apply Or.inr; apply storeArr0; (· (repeat (first | apply Hole.here | apply Hole.there))); (· rfl); (· (first | assumption | (apply getSelf; (repeat' first | assumption | apply getSelf); done) | exact mapGet (by omega) | exact rfl | (simp; done))); (· rfl); (· rfl))
       | (apply Or.inr; apply storeArr1; (· (repeat (first | apply Hole.here | apply Hole.there))); (· rfl); (· (first | assumption | (apply getSelf; (repeat' first | assumption | apply getSelf); done) | exact mapGet (by omega) | exact rfl | (simp; done))); (· rfl); (· rfl))
       | refine BytW.ofBlk (memHas (by repeat (first | apply Has.here | apply Has.there))) rfl rfl ?_
       | refine AppW.noneB (memHas (by repeat (first | apply Has.here | apply Has.there))) (Nat.le_of_ble_eq_true rfl) rfl rfl rfl (Nat.le_of_ble_eq_true rfl) (Nat.le_of_ble_eq_true rfl) ?_
       | refine AppW.rowB (memHas (by repeat (first | apply Has.here | apply Has.there))) (Nat.le_of_ble_eq_true rfl) rfl rfl (by repeat (first | apply Hole.here | apply Hole.there)) (Nat.le_of_ble_eq_true rfl) (Nat.le_of_ble_eq_true rfl) ?_
       | refine AppW.blkB (memHas (by repeat (first | apply Has.here | apply Has.there))) (Nat.le_of_ble_eq_true rfl) rfl rfl (by repeat (first | apply Hole.here | apply Hole.there)) rfl rfl (Nat.le_of_ble_eq_true rfl) (Nat.le_of_ble_eq_true rfl) ?_
       | refine AppW.rowS (memHas (by repeat (first | apply Has.here | apply Has.there))) (Nat.le_of_ble_eq_true rfl) rfl rfl (by repeat (first | apply Hole.here | apply Hole.there)) (by omega) (Nat.le_of_ble_eq_true rfl) ?_
       | refine AppW.arrS (memHas (by repeat (first | apply Has.here | apply Has.there))) (Nat.le_of_ble_eq_true rfl) rfl rfl rfl (by repeat (first | apply Hole.here | apply Hole.there)) (by first | omega | (simp; omega)) (Nat.le_of_ble_eq_true rfl) ?_
       | refine ⟨(by first | rfl | omega | exact ⟨by omega, by omega⟩ | exact ⟨by omega, by omega, by omega⟩ | exact ⟨_, _, rfl⟩ | decide), ?_⟩
       | fail)
  all_goals (try conv => whnf)
  all_goals rfl
def countV (t : TimesV) (p : PortV) : PortV :=
  if p.Tc ≠ 0 then p else if p.SendRstp = true then { p with Tc := IntKind.i64.wrap (t.Hello + 1), NewInfo := true } else { p with Tc := IntKind.i64.wrap (t.Max + t.Delay) }
theorem ok_count : (match Try.f51.body with | some c => codeOk Try.f51.ntmps c | none => false) = true := by kernel_rfl
theorem en_count : ∃ fn, Try.prog.funcs[51]? = some fn ∧ (fn.name == "runtime.NumGoroutine") = false ∧ fn.body.isNone = false := ⟨_, Try.func51, by kernel_rfl, by kernel_rfl⟩
theorem count_w (t : TimesV) (l : List (List Value)) (p : PortV) (b n c j : Nat) (w : World) (hx : l[j]? = some p.enc) (hw : St w (feet [.arr (.slice (some ⟨b, 0, none⟩) n c) 28 61 l]) [.arr (.slice (some ⟨b, 0, none⟩) n c) 28 61 l] w) :
    FnX Try.prog 51 [.agg ⟨t.enc⟩, .pointer (some ⟨b, 0 + j * 61, none⟩)] [.arr (.slice (some ⟨b, 0, none⟩) n c) 28 61 l] (fun _ : Unit => True) (fun _ => .tuple ⟨[]⟩) (fun _ => [.arr (.slice (some ⟨b, 0, none⟩) n c) 28 61 (l.set j (countV t p).enc)]) w := by
  refine funcR_x tyOk wide Try.func51 ok_count (Nat.le_of_ble_eq_true rfl) hw ?_
  repeat' first
    | (conv => whnf
       first
       | intro _
       | (first | refine selSplit (fun h => ?_) (fun h => ?_) | refine condSplit (fun h => ?_) (fun h => ?_)) <;> first | exact (clash (by assumption) h).elim | exact (clash h (by assumption)).elim | (simp only [decide_eq_true_eq, decide_eq_false_iff_not, Bool.not_eq_true', Bool.not_eq_false', Bool.not_true, Bool.not_false, Bool.or_eq_true, Bool.and_eq_true, Bool.or_eq_false_iff, Bool.and_eq_false_iff, beq_iff_eq, beq_eq_false_iff_ne, ne_eq] at h; first | (exfalso; omega) | skip) | skip
       | refine SeqP.go ?_
       | refine CondR.mk (by decide +kernel) ?_
       | exact IsV.mk
       | apply GuardP.mk
       | (first | refine eqlW eqS28 rfl rfl rfl (by repeat' first | exact trivial | apply And.intro | rfl) (by repeat' first | exact trivial | apply And.intro | rfl) ?_ | refine neqW eqS28 rfl rfl rfl (by repeat' first | exact trivial | apply And.intro | rfl) (by repeat' first | exact trivial | apply And.intro | rfl) ?_)
       | refine Or.inl ⟨_, _, (memHas (by repeat (first | apply Has.here | apply Has.there))), ?_⟩
       | refine Or.inl ⟨_, _, _, (by repeat (first | apply Hole.here | apply Hole.there)), rfl, rfl, ?_⟩
       | (apply loadArr; (· apply memHas; (repeat (first | apply Has.here | apply Has.there))); (· rfl); (· (first | assumption | (apply getSelf; (repeat' first | assumption | apply getSelf); done) | exact mapGet (by omega) | exact rfl | (simp; done))))
       | (apply loadArr0; (· apply memHas; (repeat (first | apply Has.here | apply Has.there))); (· rfl); (· (first | assumption | (apply getSelf; (repeat' first | assumption | apply getSelf); done) | exact mapGet (by omega) | exact rfl | (simp; done))))
       | (apply loadArr1; (· apply memHas; (repeat (first | apply Has.here | apply Has.there))); (· rfl); (· (first | assumption | (apply getSelf; (repeat' first | assumption | apply getSelf); done) | exact mapGet (by omega) | exact rfl | (simp; done))))
       | (apply loadOld; (· assumption); (· rfl); (· (first | assumption | (apply getSelf; (repeat' first | assumption | apply getSelf); done) | exact mapGet (by omega) | exact rfl | (simp; done))))
       | (apply loadOld0; (· assumption); (· rfl); (· (first | assumption | (apply getSelf; (repeat' first | assumption | apply getSelf); done) | exact mapGet (by omega) | exact rfl | (simp; done))))
       | (apply loadOld1; (· assumption); (· rfl); (· (first | assumption | (apply getSelf; (repeat' first | assumption | apply getSelf); done) | exact mapGet (by omega) | exact rfl | (simp; done))))
       | (apply loadRowAt; (· apply memHas; (repeat (first | apply Has.here | apply Has.there))); (· rfl); (· first | assumption | exact rfl); (· rfl))
       | (apply loadRg; (· assumption); (· rfl))
       | (apply loadRg0; (· assumption))
       | (apply Or.inr; apply storeArr; (· (repeat (first | apply Hole.here | apply Hole.there))); (· rfl); (· (first | assumption | (apply getSelf; (repeat' first | assumption | apply getSelf); done) | exact mapGet (by omega) | exact rfl | (simp; done))); (· rfl); (· rfl))
       | (apply Or.inr; apply storeArr0; (· (repeat (first | apply Hole.here | apply Hole.there))); (· rfl); (· (first | assumption | (apply getSelf; (repeat' first | assumption | apply getSelf); done) | exact mapGet (by omega) | exact rfl | (simp; done))); (· rfl); (· rfl))
       | (apply Or.inr; apply storeArr1; (· (repeat (first | apply Hole.here | apply Hole.there))); (· rfl); (· (first | assumption | (apply getSelf; (repeat' first | assumption | apply getSelf); done) | exact mapGet (by omega) | exact rfl | (simp; done))); (· rfl); (· rfl))
       | refine BytW.ofBlk (memHas (by repeat (first | apply Has.here | apply Has.there))) rfl rfl ?_
       | refine AppW.noneB (memHas (by repeat (first | apply Has.here | apply Has.there))) (Nat.le_of_ble_eq_true rfl) rfl rfl rfl (Nat.le_of_ble_eq_true rfl) (Nat.le_of_ble_eq_true rfl) ?_
       | refine AppW.rowB (memHas (by repeat (first | apply Has.here | apply Has.there))) (Nat.le_of_ble_eq_true rfl) rfl rfl (by repeat (first | apply Hole.here | apply Hole.there)) (Nat.le_of_ble_eq_true rfl) (Nat.le_of_ble_eq_true rfl) ?_
       | refine AppW.blkB (memHas (by repeat (first | apply Has.here | apply Has.there))) (Nat.le_of_ble_eq_true rfl) rfl rfl (by repeat (first | apply Hole.here | apply Hole.there)) rfl rfl (Nat.le_of_ble_eq_true rfl) (Nat.le_of_ble_eq_true rfl) ?_
       | refine AppW.rowS (memHas (by repeat (first | apply Has.here | apply Has.there))) (Nat.le_of_ble_eq_true rfl) rfl rfl (by repeat (first | apply Hole.here | apply Hole.there)) (by omega) (Nat.le_of_ble_eq_true rfl) ?_
       | refine AppW.arrS (memHas (by repeat (first | apply Has.here | apply Has.there))) (Nat.le_of_ble_eq_true rfl) rfl rfl rfl (by repeat (first | apply Hole.here | apply Hole.there)) (by first | omega | (simp; omega)) (Nat.le_of_ble_eq_true rfl) ?_
       | refine ⟨(by first | rfl | omega | exact ⟨by omega, by omega⟩ | exact ⟨by omega, by omega, by omega⟩ | exact ⟨_, _, rfl⟩ | decide), ?_⟩
       | fail)
  all_goals (try conv => whnf)
  all_goals (refine EndX.mk () trivial rfl (Ent.of ?_); unfold countV; (repeat (first | rw [if_pos (by first | assumption | grind | decide)] | rw [if_neg (by first | assumption | grind | decide)])); (try simp only [List.set_set, setSame hx]); first | exact List.Sublist.refl _ | exact List.Sublist.cons _ (List.Sublist.refl _))
def offP (k : Nat) (p : PortV) : PortV := match k with
  | 0 => p
  | 1 => { p with HeardTc := false }
  | 2 => { p with HeardTc := false, HeardTcn := false }
  | 3 => { p with HeardTc := false, HeardTcn := false, HeardAck := false }
  | _ => { p with HeardTc := false, HeardTcn := false, HeardAck := false, TcProp := false }
def forgetV (p : PortV) : PortV := { p with HeardTc := false, HeardTcn := false, HeardAck := false, TcProp := false }
theorem ok_off : (match Try.f78.body with | some c => codeOk Try.f78.ntmps c | none => false) = true := by kernel_rfl
theorem en_off : ∃ fn, Try.prog.funcs[78]? = some fn ∧ (fn.name == "runtime.NumGoroutine") = false ∧ fn.body.isNone = false := ⟨_, Try.func78, by kernel_rfl, by kernel_rfl⟩
theorem off_w (l : List (List Value)) (p : PortV) (b n c j g : Nat) (w : World) (hx : l[j]? = some p.enc)
    (hw : St w (feet [.arr (.slice (some ⟨b, 0, none⟩) n c) 28 61 l, .blk g [.pointer (some ⟨b, 0 + j * 61 + 40, none⟩), .pointer (some ⟨b, 0 + j * 61 + 41, none⟩), .pointer (some ⟨b, 0 + j * 61 + 42, none⟩), .pointer (some ⟨b, 0 + j * 61 + 44, none⟩)] 114]) [.arr (.slice (some ⟨b, 0, none⟩) n c) 28 61 l, .blk g [.pointer (some ⟨b, 0 + j * 61 + 40, none⟩), .pointer (some ⟨b, 0 + j * 61 + 41, none⟩), .pointer (some ⟨b, 0 + j * 61 + 42, none⟩), .pointer (some ⟨b, 0 + j * 61 + 44, none⟩)] 114] w) :
    FnX Try.prog 78 [.slice (some ⟨g, 0, none⟩) 4 4] [.arr (.slice (some ⟨b, 0, none⟩) n c) 28 61 l, .blk g [.pointer (some ⟨b, 0 + j * 61 + 40, none⟩), .pointer (some ⟨b, 0 + j * 61 + 41, none⟩), .pointer (some ⟨b, 0 + j * 61 + 42, none⟩), .pointer (some ⟨b, 0 + j * 61 + 44, none⟩)] 114] (fun _ : Unit => True) (fun _ => .tuple ⟨[]⟩) (fun _ => [.arr (.slice (some ⟨b, 0, none⟩) n c) 28 61 (l.set j (forgetV p).enc)]) w := by
  refine funcR_x tyOk wide Try.func78 ok_off (Nat.le_of_ble_eq_true rfl) hw ?_
  repeat' first
    | (conv => whnf
       first
       | intro _
       | (first | refine selSplit (fun h => ?_) (fun h => ?_) | refine condSplit (fun h => ?_) (fun h => ?_)) <;> first | exact (clash (by assumption) h).elim | exact (clash h (by assumption)).elim | (simp only [decide_eq_true_eq, decide_eq_false_iff_not, Bool.not_eq_true', Bool.not_eq_false', Bool.not_true, Bool.not_false, Bool.or_eq_true, Bool.and_eq_true, Bool.or_eq_false_iff, Bool.and_eq_false_iff, beq_iff_eq, beq_eq_false_iff_ne, ne_eq] at h; first | (exfalso; omega) | skip) | skip
       | refine SeqP.go ?_
       | refine CondR.mk (by decide +kernel) ?_
       | exact IsV.mk
       | apply GuardP.mk
       | (first | refine eqlW eqS28 rfl rfl rfl (by repeat' first | exact trivial | apply And.intro | rfl) (by repeat' first | exact trivial | apply And.intro | rfl) ?_ | refine neqW eqS28 rfl rfl rfl (by repeat' first | exact trivial | apply And.intro | rfl) (by repeat' first | exact trivial | apply And.intro | rfl) ?_)
       | refine Or.inl ⟨_, _, (memHas (by repeat (first | apply Has.here | apply Has.there))), ?_⟩
       | refine Or.inl ⟨_, _, _, (by repeat (first | apply Hole.here | apply Hole.there)), rfl, rfl, ?_⟩
       | (apply loadArr; (· apply memHas; (repeat (first | apply Has.here | apply Has.there))); (· rfl); (· (first | assumption | (apply getSelf; (repeat' first | assumption | apply getSelf); done) | exact mapGet (by omega) | exact rfl | (simp; done))))
       | (apply loadArr0; (· apply memHas; (repeat (first | apply Has.here | apply Has.there))); (· rfl); (· (first | assumption | (apply getSelf; (repeat' first | assumption | apply getSelf); done) | exact mapGet (by omega) | exact rfl | (simp; done))))
       | (apply loadArr1; (· apply memHas; (repeat (first | apply Has.here | apply Has.there))); (· rfl); (· (first | assumption | (apply getSelf; (repeat' first | assumption | apply getSelf); done) | exact mapGet (by omega) | exact rfl | (simp; done))))
       | (apply loadOld; (· assumption); (· rfl); (· (first | assumption | (apply getSelf; (repeat' first | assumption | apply getSelf); done) | exact mapGet (by omega) | exact rfl | (simp; done))))
       | (apply loadOld0; (· assumption); (· rfl); (· (first | assumption | (apply getSelf; (repeat' first | assumption | apply getSelf); done) | exact mapGet (by omega) | exact rfl | (simp; done))))
       | (apply loadOld1; (· assumption); (· rfl); (· (first | assumption | (apply getSelf; (repeat' first | assumption | apply getSelf); done) | exact mapGet (by omega) | exact rfl | (simp; done))))
       | (apply loadRowAt; (· apply memHas; (repeat (first | apply Has.here | apply Has.there))); (· rfl); (· first | assumption | exact rfl); (· rfl))
       | (apply loadRg; (· assumption); (· rfl))
       | (apply loadRg0; (· assumption))
       | (apply Or.inr; apply storeArr; (· (repeat (first | apply Hole.here | apply Hole.there))); (· rfl); (· (first | assumption | (apply getSelf; (repeat' first | assumption | apply getSelf); done) | exact mapGet (by omega) | exact rfl | (simp; done))); (· rfl); (· rfl))
       | (apply Or.inr; apply storeArr0; (· (repeat (first | apply Hole.here | apply Hole.there))); (· rfl); (· (first | assumption | (apply getSelf; (repeat' first | assumption | apply getSelf); done) | exact mapGet (by omega) | exact rfl | (simp; done))); (· rfl); (· rfl))
       | (apply Or.inr; apply storeArr1; (· (repeat (first | apply Hole.here | apply Hole.there))); (· rfl); (· (first | assumption | (apply getSelf; (repeat' first | assumption | apply getSelf); done) | exact mapGet (by omega) | exact rfl | (simp; done))); (· rfl); (· rfl))
       | refine BytW.ofBlk (memHas (by repeat (first | apply Has.here | apply Has.there))) rfl rfl ?_
       | refine AppW.noneB (memHas (by repeat (first | apply Has.here | apply Has.there))) (Nat.le_of_ble_eq_true rfl) rfl rfl rfl (Nat.le_of_ble_eq_true rfl) (Nat.le_of_ble_eq_true rfl) ?_
       | refine AppW.rowB (memHas (by repeat (first | apply Has.here | apply Has.there))) (Nat.le_of_ble_eq_true rfl) rfl rfl (by repeat (first | apply Hole.here | apply Hole.there)) (Nat.le_of_ble_eq_true rfl) (Nat.le_of_ble_eq_true rfl) ?_
       | refine AppW.blkB (memHas (by repeat (first | apply Has.here | apply Has.there))) (Nat.le_of_ble_eq_true rfl) rfl rfl (by repeat (first | apply Hole.here | apply Hole.there)) rfl rfl (Nat.le_of_ble_eq_true rfl) (Nat.le_of_ble_eq_true rfl) ?_
       | refine AppW.rowS (memHas (by repeat (first | apply Has.here | apply Has.there))) (Nat.le_of_ble_eq_true rfl) rfl rfl (by repeat (first | apply Hole.here | apply Hole.there)) (by omega) (Nat.le_of_ble_eq_true rfl) ?_
       | refine AppW.arrS (memHas (by repeat (first | apply Has.here | apply Has.there))) (Nat.le_of_ble_eq_true rfl) rfl rfl rfl (by repeat (first | apply Hole.here | apply Hole.there)) (by first | omega | (simp; omega)) (Nat.le_of_ble_eq_true rfl) ?_
       | refine ⟨(by first | rfl | omega | exact ⟨by omega, by omega⟩ | exact ⟨by omega, by omega, by omega⟩ | exact ⟨_, _, rfl⟩ | decide), ?_⟩
       | fail)
  all_goals (try conv => whnf)
  refine .mk Nat (fun k S H => k ≤ 4 ∧ S = [(6, .int .i64 k), (5, .int .i64 4), (4, .slice (some ⟨g, 0, none⟩) 4 4)] ∧ H = [.arr (.slice (some ⟨b, 0, none⟩) n c) 28 61 (l.set j (offP k p).enc), .blk g [.pointer (some ⟨b, 0 + j * 61 + 40, none⟩), .pointer (some ⟨b, 0 + j * 61 + 41, none⟩), .pointer (some ⟨b, 0 + j * 61 + 42, none⟩), .pointer (some ⟨b, 0 + j * 61 + 44, none⟩)] 114]) (fun k => 4 - k) 0 _ _ ⟨by omega, rfl, rfl⟩ (by repeat' first | exact trivial | apply And.intro | rfl | (refine eq_int ?_; first | omega | (rw [w64 (by omega) (by omega)]; omega))) (by rw [show offP 0 p = p from rfl, setSame hx]; exact Ent.refl) ?_
  rintro k S1 H1 ⟨hk, rfl, rfl⟩
  have hxk := getSelf (x := (offP k p).enc) hx
  rcases (show k = 0 ∨ k = 1 ∨ k = 2 ∨ k = 3 ∨ k = 4 by omega) with rfl | rfl | rfl | rfl | rfl
  all_goals
    repeat' first
      | (conv => whnf
         first
         | intro _
         | (first | refine selSplit (fun h => ?_) (fun h => ?_) | refine condSplit (fun h => ?_) (fun h => ?_)) <;> first | exact (clash (by assumption) h).elim | exact (clash h (by assumption)).elim | (simp only [decide_eq_true_eq, decide_eq_false_iff_not, Bool.not_eq_true', Bool.not_eq_false', Bool.not_true, Bool.not_false, Bool.or_eq_true, Bool.and_eq_true, Bool.or_eq_false_iff, Bool.and_eq_false_iff, beq_iff_eq, beq_eq_false_iff_ne, ne_eq] at h; first | (exfalso; omega) | skip) | skip
         | refine SeqP.go ?_
         | refine CondR.mk (by decide +kernel) ?_
         | exact IsV.mk
         | apply GuardP.mk
         | (first | refine eqlW eqS28 rfl rfl rfl (by repeat' first | exact trivial | apply And.intro | rfl) (by repeat' first | exact trivial | apply And.intro | rfl) ?_ | refine neqW eqS28 rfl rfl rfl (by repeat' first | exact trivial | apply And.intro | rfl) (by repeat' first | exact trivial | apply And.intro | rfl) ?_)
         | refine Or.inl ⟨_, _, (memHas (by repeat (first | apply Has.here | apply Has.there))), ?_⟩
         | refine Or.inl ⟨_, _, _, (by repeat (first | apply Hole.here | apply Hole.there)), rfl, rfl, ?_⟩
         | (apply loadArr; (· apply memHas; (repeat (first | apply Has.here | apply Has.there))); (· rfl); (· (first | assumption | (apply getSelf; (repeat' first | assumption | apply getSelf); done) | exact mapGet (by omega) | exact rfl | (simp; done))))
         | (apply loadArr0; (· apply memHas; (repeat (first | apply Has.here | apply Has.there))); (· rfl); (· (first | assumption | (apply getSelf; (repeat' first | assumption | apply getSelf); done) | exact mapGet (by omega) | exact rfl | (simp; done))))
         | (apply loadArr1; (· apply memHas; (repeat (first | apply Has.here | apply Has.there))); (· rfl); (· (first | assumption | (apply getSelf; (repeat' first | assumption | apply getSelf); done) | exact mapGet (by omega) | exact rfl | (simp; done))))
         | (apply loadOld; (· assumption); (· rfl); (· (first | assumption | (apply getSelf; (repeat' first | assumption | apply getSelf); done) | exact mapGet (by omega) | exact rfl | (simp; done))))
         | (apply loadOld0; (· assumption); (· rfl); (· (first | assumption | (apply getSelf; (repeat' first | assumption | apply getSelf); done) | exact mapGet (by omega) | exact rfl | (simp; done))))
         | (apply loadOld1; (· assumption); (· rfl); (· (first | assumption | (apply getSelf; (repeat' first | assumption | apply getSelf); done) | exact mapGet (by omega) | exact rfl | (simp; done))))
         | (apply loadRowAt; (· apply memHas; (repeat (first | apply Has.here | apply Has.there))); (· rfl); (· first | assumption | exact rfl); (· rfl))
         | (apply loadRg; (· assumption); (· rfl))
         | (apply loadRg0; (· assumption))
         | (apply Or.inr; apply storeArr; (· (repeat (first | apply Hole.here | apply Hole.there))); (· rfl); (· (first | assumption | (apply getSelf; (repeat' first | assumption | apply getSelf); done) | exact mapGet (by omega) | exact rfl | (simp; done))); (· rfl); (· rfl))
         | (apply Or.inr; apply storeArr0; (· (repeat (first | apply Hole.here | apply Hole.there))); (· rfl); (· (first | assumption | (apply getSelf; (repeat' first | assumption | apply getSelf); done) | exact mapGet (by omega) | exact rfl | (simp; done))); (· rfl); (· rfl))
         | (apply Or.inr; apply storeArr1; (· (repeat (first | apply Hole.here | apply Hole.there))); (· rfl); (· (first | assumption | (apply getSelf; (repeat' first | assumption | apply getSelf); done) | exact mapGet (by omega) | exact rfl | (simp; done))); (· rfl); (· rfl))
         | refine BytW.ofBlk (memHas (by repeat (first | apply Has.here | apply Has.there))) rfl rfl ?_
         | refine AppW.noneB (memHas (by repeat (first | apply Has.here | apply Has.there))) (Nat.le_of_ble_eq_true rfl) rfl rfl rfl (Nat.le_of_ble_eq_true rfl) (Nat.le_of_ble_eq_true rfl) ?_
         | refine AppW.rowB (memHas (by repeat (first | apply Has.here | apply Has.there))) (Nat.le_of_ble_eq_true rfl) rfl rfl (by repeat (first | apply Hole.here | apply Hole.there)) (Nat.le_of_ble_eq_true rfl) (Nat.le_of_ble_eq_true rfl) ?_
         | refine AppW.blkB (memHas (by repeat (first | apply Has.here | apply Has.there))) (Nat.le_of_ble_eq_true rfl) rfl rfl (by repeat (first | apply Hole.here | apply Hole.there)) rfl rfl (Nat.le_of_ble_eq_true rfl) (Nat.le_of_ble_eq_true rfl) ?_
         | refine AppW.rowS (memHas (by repeat (first | apply Has.here | apply Has.there))) (Nat.le_of_ble_eq_true rfl) rfl rfl (by repeat (first | apply Hole.here | apply Hole.there)) (by omega) (Nat.le_of_ble_eq_true rfl) ?_
         | refine AppW.arrS (memHas (by repeat (first | apply Has.here | apply Has.there))) (Nat.le_of_ble_eq_true rfl) rfl rfl rfl (by repeat (first | apply Hole.here | apply Hole.there)) (by first | omega | (simp; omega)) (Nat.le_of_ble_eq_true rfl) ?_
         | refine ⟨(by first | rfl | omega | exact ⟨by omega, by omega⟩ | exact ⟨by omega, by omega, by omega⟩ | exact ⟨_, _, rfl⟩ | decide), ?_⟩
         | fail)
    all_goals (try conv => whnf)
  all_goals first
    | (refine .mk 1 _ _ (by omega) ⟨by omega, rfl, rfl⟩ (by repeat' first | exact trivial | apply And.intro | rfl | (refine eq_int ?_; first | omega | (rw [w64 (by omega) (by omega)]; omega))) (by show Ent _ _ (Res.arr _ _ _ ((l.set j _).set j _) :: _) _; rw [List.set_set]; exact Ent.refl); done)
    | (refine .mk 2 _ _ (by omega) ⟨by omega, rfl, rfl⟩ (by repeat' first | exact trivial | apply And.intro | rfl | (refine eq_int ?_; first | omega | (rw [w64 (by omega) (by omega)]; omega))) (by show Ent _ _ (Res.arr _ _ _ ((l.set j _).set j _) :: _) _; rw [List.set_set]; exact Ent.refl); done)
    | (refine .mk 3 _ _ (by omega) ⟨by omega, rfl, rfl⟩ (by repeat' first | exact trivial | apply And.intro | rfl | (refine eq_int ?_; first | omega | (rw [w64 (by omega) (by omega)]; omega))) (by show Ent _ _ (Res.arr _ _ _ ((l.set j _).set j _) :: _) _; rw [List.set_set]; exact Ent.refl); done)
    | (refine .mk 4 _ _ (by omega) ⟨by omega, rfl, rfl⟩ (by repeat' first | exact trivial | apply And.intro | rfl | (refine eq_int ?_; first | omega | (rw [w64 (by omega) (by omega)]; omega))) (by show Ent _ _ (Res.arr _ _ _ ((l.set j _).set j _) :: _) _; rw [List.set_set]; exact Ent.refl); done)
    | exact EndX.mk () trivial rfl (Ent.of (List.Sublist.cons_cons _ (List.nil_sublist _)))
theorem ok_forget : (match Try.f49.body with | some c => codeOk Try.f49.ntmps c | none => false) = true := by kernel_rfl
theorem en_forget : ∃ fn, Try.prog.funcs[49]? = some fn ∧ (fn.name == "runtime.NumGoroutine") = false ∧ fn.body.isNone = false := ⟨_, Try.func49, by kernel_rfl, by kernel_rfl⟩
theorem forget_w (l : List (List Value)) (p : PortV) (b n c j : Nat) (w : World) (hx : l[j]? = some p.enc) (hw : St w (feet [.arr (.slice (some ⟨b, 0, none⟩) n c) 28 61 l]) [.arr (.slice (some ⟨b, 0, none⟩) n c) 28 61 l] w) :
    FnX Try.prog 49 [.pointer (some ⟨b, 0 + j * 61, none⟩)] [.arr (.slice (some ⟨b, 0, none⟩) n c) 28 61 l] (fun _ : Unit => True) (fun _ => .tuple ⟨[]⟩) (fun _ => [.arr (.slice (some ⟨b, 0, none⟩) n c) 28 61 (l.set j (forgetV p).enc)]) w := by
  refine funcR_x tyOk wide Try.func49 ok_forget (Nat.le_of_ble_eq_true rfl) hw ?_
  repeat' first
    | (conv => whnf
       first
       | intro _
       | (first | refine selSplit (fun h => ?_) (fun h => ?_) | refine condSplit (fun h => ?_) (fun h => ?_)) <;> first | exact (clash (by assumption) h).elim | exact (clash h (by assumption)).elim | (simp only [decide_eq_true_eq, decide_eq_false_iff_not, Bool.not_eq_true', Bool.not_eq_false', Bool.not_true, Bool.not_false, Bool.or_eq_true, Bool.and_eq_true, Bool.or_eq_false_iff, Bool.and_eq_false_iff, beq_iff_eq, beq_eq_false_iff_ne, ne_eq] at h; first | (exfalso; omega) | skip) | skip
       | (first | refine DrawR.mk _ (.quiet 0 (.quiet 1 (.quiet 2 (.quiet 3 (.quiet 4 (.quiet 5 (.quiet 6 (.quiet 7 (.quiet 8 (.quiet 9 (.quiet 10 (.quiet 11 (.last 12 false (.last 13 false .done)))))))))))))) (by decide +kernel) (SubL.refl _) ?_)
       | refine AltP.mk ?_ ?_
       | refine KeepP.mk (SubL.of (by repeat (first | exact List.Sublist.refl _ | exact List.nil_sublist _ | apply List.Sublist.cons_cons | apply List.Sublist.cons))) ?_
       | refine SeqP.go ?_
       | refine CondR.mk (by decide +kernel) ?_
       | exact IsV.mk
       | apply GuardP.mk
       | (refine callX (by repeat' first | apply Take.nil | apply Take.cons | apply Pick.here | apply Pick.there) en_off (fun w hw => off_w l p b n c j _ w hx (hw.sub2 (by repeat' first | apply Take.nil | apply Take.cons | apply Pick.here | apply Pick.there))) ?_)
       | (first | refine eqlW eqS28 rfl rfl rfl (by repeat' first | exact trivial | apply And.intro | rfl) (by repeat' first | exact trivial | apply And.intro | rfl) ?_ | refine neqW eqS28 rfl rfl rfl (by repeat' first | exact trivial | apply And.intro | rfl) (by repeat' first | exact trivial | apply And.intro | rfl) ?_)
       | refine Or.inl ⟨_, _, (memHas (by repeat (first | apply Has.here | apply Has.there))), ?_⟩
       | refine Or.inl ⟨_, _, _, (by repeat (first | apply Hole.here | apply Hole.there)), rfl, rfl, ?_⟩
       | (apply loadArr; (· apply memHas; (repeat (first | apply Has.here | apply Has.there))); (· rfl); (· (first | assumption | (apply getSelf; (repeat' first | assumption | apply getSelf); done) | exact mapGet (by omega) | exact rfl | (simp; done))))
       | (apply loadArr0; (· apply memHas; (repeat (first | apply Has.here | apply Has.there))); (· rfl); (· (first | assumption | (apply getSelf; (repeat' first | assumption | apply getSelf); done) | exact mapGet (by omega) | exact rfl | (simp; done))))
       | (apply loadArr1; (· apply memHas; (repeat (first | apply Has.here | apply Has.there))); (· rfl); (· (first | assumption | (apply getSelf; (repeat' first | assumption | apply getSelf); done) | exact mapGet (by omega) | exact rfl | (simp; done))))
       | (apply loadOld; (· assumption); (· rfl); (· (first | assumption | (apply getSelf; (repeat' first | assumption | apply getSelf); done) | exact mapGet (by omega) | exact rfl | (simp; done))))
       | (apply loadOld0; (· assumption); (· rfl); (· (first | assumption | (apply getSelf; (repeat' first | assumption | apply getSelf); done) | exact mapGet (by omega) | exact rfl | (simp; done))))
       | (apply loadOld1; (· assumption); (· rfl); (· (first | assumption | (apply getSelf; (repeat' first | assumption | apply getSelf); done) | exact mapGet (by omega) | exact rfl | (simp; done))))
       | (apply loadRowAt; (· apply memHas; (repeat (first | apply Has.here | apply Has.there))); (· rfl); (· first | assumption | exact rfl); (· rfl))
       | (apply loadRg; (· assumption); (· rfl))
       | (apply loadRg0; (· assumption))
       | (apply Or.inr; apply storeArr; (· (repeat (first | apply Hole.here | apply Hole.there))); (· rfl); (· (first | assumption | (apply getSelf; (repeat' first | assumption | apply getSelf); done) | exact mapGet (by omega) | exact rfl | (simp; done))); (· rfl); (· rfl))
       | (apply Or.inr; apply storeArr0; (· (repeat (first | apply Hole.here | apply Hole.there))); (· rfl); (· (first | assumption | (apply getSelf; (repeat' first | assumption | apply getSelf); done) | exact mapGet (by omega) | exact rfl | (simp; done))); (· rfl); (· rfl))
       | (apply Or.inr; apply storeArr1; (· (repeat (first | apply Hole.here | apply Hole.there))); (· rfl); (· (first | assumption | (apply getSelf; (repeat' first | assumption | apply getSelf); done) | exact mapGet (by omega) | exact rfl | (simp; done))); (· rfl); (· rfl))
       | refine BytW.ofBlk (memHas (by repeat (first | apply Has.here | apply Has.there))) rfl rfl ?_
       | refine AppW.noneB (memHas (by repeat (first | apply Has.here | apply Has.there))) (Nat.le_of_ble_eq_true rfl) rfl rfl rfl (Nat.le_of_ble_eq_true rfl) (Nat.le_of_ble_eq_true rfl) ?_
       | refine AppW.rowB (memHas (by repeat (first | apply Has.here | apply Has.there))) (Nat.le_of_ble_eq_true rfl) rfl rfl (by repeat (first | apply Hole.here | apply Hole.there)) (Nat.le_of_ble_eq_true rfl) (Nat.le_of_ble_eq_true rfl) ?_
       | refine AppW.blkB (memHas (by repeat (first | apply Has.here | apply Has.there))) (Nat.le_of_ble_eq_true rfl) rfl rfl (by repeat (first | apply Hole.here | apply Hole.there)) rfl rfl (Nat.le_of_ble_eq_true rfl) (Nat.le_of_ble_eq_true rfl) ?_
       | refine AppW.rowS (memHas (by repeat (first | apply Has.here | apply Has.there))) (Nat.le_of_ble_eq_true rfl) rfl rfl (by repeat (first | apply Hole.here | apply Hole.there)) (by omega) (Nat.le_of_ble_eq_true rfl) ?_
       | refine AppW.arrS (memHas (by repeat (first | apply Has.here | apply Has.there))) (Nat.le_of_ble_eq_true rfl) rfl rfl rfl (by repeat (first | apply Hole.here | apply Hole.there)) (by first | omega | (simp; omega)) (Nat.le_of_ble_eq_true rfl) ?_
       | refine ⟨(by first | rfl | omega | exact ⟨by omega, by omega⟩ | exact ⟨by omega, by omega, by omega⟩ | exact ⟨_, _, rfl⟩ | decide), ?_⟩
       | fail)
  all_goals (try conv => whnf)
  all_goals exact EndX.mk () trivial rfl Ent.refl
theorem PClone_ne (ps : List PortV) (A : Option Addr) (c : Nat) (w : World) (h : SlAt w A 61 (ps.map PortV.enc)) (hb : ps.length ≤ 1000) (hp : 0 < ps.length) : FnX Try.prog 47 [.slice A ps.length c] [] (fun s : Nat × Nat => ps.length ≤ s.2) (fun s => .slice (some ⟨s.1, 0, none⟩) ps.length s.2) (fun s => [.arr (.slice (some ⟨s.1, 0, none⟩) ps.length s.2) 28 61 (ps.map PortV.enc)]) w :=
  (PClone_w ps A c w h hb).map fun s hs => by
    obtain ⟨A', c'⟩ := s
    rcases hs with ⟨_, h0⟩ | ⟨g, cap, he, hc⟩
    · omega
    · simp only [Value.slice.injEq] at he
      obtain ⟨rfl, _, rfl⟩ := he
      exact ⟨(g, c'), hc, rfl, Ent.refl⟩
def othersF (at_ : Int) (i : Nat) (q : PortV) : PortV := { q with TcProp := q.TcProp || !decide ((i : Int) = at_) }
def othersV (ps : List PortV) (at_ : Int) : List PortV := ps.mapIdx (othersF at_)
theorem ok_others : (match Try.f48.body with | some c => codeOk Try.f48.ntmps c | none => false) = true := by kernel_rfl
theorem en_others : ∃ fn, Try.prog.funcs[48]? = some fn ∧ (fn.name == "runtime.NumGoroutine") = false ∧ fn.body.isNone = false := ⟨_, Try.func48, by kernel_rfl, by kernel_rfl⟩
theorem others_w (ps : List PortV) (n : Nat) (hn : ps.length = n) (l : List (List Value)) (hl : l = ps.map PortV.enc) (b c bo ba : Nat) (at_ : Int) (w : World) (hlen : n ≤ 1000) (hw : St w (feet [.arr (.slice (some ⟨b, 0, none⟩) n c) 28 61 l, .blk bo [.slice (some ⟨b, 0, none⟩) n c] 34, .blk ba [.int .i64 at_] 3]) [.arr (.slice (some ⟨b, 0, none⟩) n c) 28 61 l, .blk bo [.slice (some ⟨b, 0, none⟩) n c] 34, .blk ba [.int .i64 at_] 3] w) :
    FnX Try.prog 48 [.pointer (some ⟨bo, 0, none⟩), .pointer (some ⟨ba, 0, none⟩)] [.arr (.slice (some ⟨b, 0, none⟩) n c) 28 61 l, .blk bo [.slice (some ⟨b, 0, none⟩) n c] 34, .blk ba [.int .i64 at_] 3] (fun _ : Unit => True) (fun _ => .tuple ⟨[]⟩)
      (fun _ => [.arr (.slice (some ⟨b, 0, none⟩) n c) 28 61 ((othersV ps at_).map PortV.enc), .blk bo [.slice (some ⟨b, 0, none⟩) n c] 34, .blk ba [.int .i64 at_] 3]) w := by
  subst hl hn
  refine funcR_x tyOk wide Try.func48 ok_others (Nat.le_of_ble_eq_true rfl) hw ?_
  repeat' first
    | (conv => whnf
       first
       | intro _
       | (first | refine selSplit (fun h => ?_) (fun h => ?_) | refine condSplit (fun h => ?_) (fun h => ?_)) <;> first | exact (clash (by assumption) h).elim | exact (clash h (by assumption)).elim | (simp only [decide_eq_true_eq, decide_eq_false_iff_not, Bool.not_eq_true', Bool.not_eq_false', Bool.not_true, Bool.not_false, Bool.or_eq_true, Bool.and_eq_true, Bool.or_eq_false_iff, Bool.and_eq_false_iff, beq_iff_eq, beq_eq_false_iff_ne, ne_eq] at h; first | (exfalso; omega) | skip) | skip
       | (first | refine DrawR.mkC _ (.quiet 0 (.quiet 1 (.quiet 2 (.quiet 3 (.quiet 4 (.quiet 5 (.quiet 6 (.quiet 7 (.quiet 8 (.quiet 9 (.quiet 10 (.quiet 11 (.quiet 12 (.quiet 13 (.last 14 false .done))))))))))))))) (by decide +kernel) (by decide +kernel) (SubL.refl _) ?_)
       | refine AltP.mk ?_ ?_
       | refine KeepP.mk (SubL.of (by repeat (first | exact List.Sublist.refl _ | exact List.nil_sublist _ | apply List.Sublist.cons_cons | apply List.Sublist.cons))) ?_
       | refine SeqP.go ?_
       | refine CondR.mk (by decide +kernel) ?_
       | exact IsV.mk
       | apply GuardP.mk
       | (first | refine eqlW eqS28 rfl rfl rfl (by repeat' first | exact trivial | apply And.intro | rfl) (by repeat' first | exact trivial | apply And.intro | rfl) ?_ | refine neqW eqS28 rfl rfl rfl (by repeat' first | exact trivial | apply And.intro | rfl) (by repeat' first | exact trivial | apply And.intro | rfl) ?_)
       | refine Or.inl ⟨_, _, (memHas (by repeat (first | apply Has.here | apply Has.there))), ?_⟩
       | refine Or.inl ⟨_, _, _, (by repeat (first | apply Hole.here | apply Hole.there)), rfl, rfl, ?_⟩
       | (apply loadArr; (· apply memHas; (repeat (first | apply Has.here | apply Has.there))); (· rfl); (· (first | assumption | (apply getSelf; (repeat' first | assumption | apply getSelf); done) | exact mapGet (by omega) | exact rfl | (simp; done))))
       | (apply loadArr0; (· apply memHas; (repeat (first | apply Has.here | apply Has.there))); (· rfl); (· (first | assumption | (apply getSelf; (repeat' first | assumption | apply getSelf); done) | exact mapGet (by omega) | exact rfl | (simp; done))))
       | (apply loadArr1; (· apply memHas; (repeat (first | apply Has.here | apply Has.there))); (· rfl); (· (first | assumption | (apply getSelf; (repeat' first | assumption | apply getSelf); done) | exact mapGet (by omega) | exact rfl | (simp; done))))
       | (apply loadOld; (· assumption); (· rfl); (· (first | assumption | (apply getSelf; (repeat' first | assumption | apply getSelf); done) | exact mapGet (by omega) | exact rfl | (simp; done))))
       | (apply loadOld0; (· assumption); (· rfl); (· (first | assumption | (apply getSelf; (repeat' first | assumption | apply getSelf); done) | exact mapGet (by omega) | exact rfl | (simp; done))))
       | (apply loadOld1; (· assumption); (· rfl); (· (first | assumption | (apply getSelf; (repeat' first | assumption | apply getSelf); done) | exact mapGet (by omega) | exact rfl | (simp; done))))
       | (apply loadRowAt; (· apply memHas; (repeat (first | apply Has.here | apply Has.there))); (· rfl); (· first | assumption | exact rfl); (· rfl))
       | (apply loadRg; (· assumption); (· rfl))
       | (apply loadRg0; (· assumption))
       | (apply Or.inr; apply storeArr; (· (repeat (first | apply Hole.here | apply Hole.there))); (· rfl); (· (first | assumption | (apply getSelf; (repeat' first | assumption | apply getSelf); done) | exact mapGet (by omega) | exact rfl | (simp; done))); (· rfl); (· rfl))
       | (apply Or.inr; apply storeArr0; (· (repeat (first | apply Hole.here | apply Hole.there))); (· rfl); (· (first | assumption | (apply getSelf; (repeat' first | assumption | apply getSelf); done) | exact mapGet (by omega) | exact rfl | (simp; done))); (· rfl); (· rfl))
       | (apply Or.inr; apply storeArr1; (· (repeat (first | apply Hole.here | apply Hole.there))); (· rfl); (· (first | assumption | (apply getSelf; (repeat' first | assumption | apply getSelf); done) | exact mapGet (by omega) | exact rfl | (simp; done))); (· rfl); (· rfl))
       | refine BytW.ofBlk (memHas (by repeat (first | apply Has.here | apply Has.there))) rfl rfl ?_
       | refine AppW.noneB (memHas (by repeat (first | apply Has.here | apply Has.there))) (Nat.le_of_ble_eq_true rfl) rfl rfl rfl (Nat.le_of_ble_eq_true rfl) (Nat.le_of_ble_eq_true rfl) ?_
       | refine AppW.rowB (memHas (by repeat (first | apply Has.here | apply Has.there))) (Nat.le_of_ble_eq_true rfl) rfl rfl (by repeat (first | apply Hole.here | apply Hole.there)) (Nat.le_of_ble_eq_true rfl) (Nat.le_of_ble_eq_true rfl) ?_
       | refine AppW.blkB (memHas (by repeat (first | apply Has.here | apply Has.there))) (Nat.le_of_ble_eq_true rfl) rfl rfl (by repeat (first | apply Hole.here | apply Hole.there)) rfl rfl (Nat.le_of_ble_eq_true rfl) (Nat.le_of_ble_eq_true rfl) ?_
       | refine AppW.rowS (memHas (by repeat (first | apply Has.here | apply Has.there))) (Nat.le_of_ble_eq_true rfl) rfl rfl (by repeat (first | apply Hole.here | apply Hole.there)) (by omega) (Nat.le_of_ble_eq_true rfl) ?_
       | refine AppW.arrS (memHas (by repeat (first | apply Has.here | apply Has.there))) (Nat.le_of_ble_eq_true rfl) rfl rfl rfl (by repeat (first | apply Hole.here | apply Hole.there)) (by first | omega | (simp; omega)) (Nat.le_of_ble_eq_true rfl) ?_
       | refine ⟨(by first | rfl | omega | exact ⟨by omega, by omega⟩ | exact ⟨by omega, by omega, by omega⟩ | exact ⟨_, _, rfl⟩ | decide), ?_⟩
       | fail)
  all_goals (try conv => whnf)
  refine .mk Nat (fun k S H => k ≤ ps.length ∧ S = [(5, .int .i64 k), (4, .int .i64 ps.length), (0, .pointer (some ⟨bo, 0, none⟩)), (1, .pointer (some ⟨ba, 0, none⟩))] ∧ H = [.arr (.slice (some ⟨b, 0, none⟩) ps.length c) 28 61 ((mapTo (othersF at_) ps k).map PortV.enc), .blk bo [.slice (some ⟨b, 0, none⟩) ps.length c] 34, .blk ba [.int .i64 at_] 3]) (fun k => ps.length - k) 0 _ _ ⟨by omega, rfl, rfl⟩ (by repeat' first | exact trivial | apply And.intro | rfl | (refine eq_int ?_; first | omega | (rw [w64 (by omega) (by omega)]; omega))) (by rw [mapTo_zero]; exact Ent.refl) ?_
  rintro k S1 H1 ⟨hk, rfl, rfl⟩
  by_cases hk2 : k < ps.length
  · have hx : ((mapTo (othersF at_) ps k).map PortV.enc)[k]? = some (ps[k]).enc := mapTo_enc hk2
    repeat' first
      | (conv => whnf
         first
         | intro _
         | (first | refine selSplit (fun h => ?_) (fun h => ?_) | refine condSplit (fun h => ?_) (fun h => ?_)) <;> first | exact (clash (by assumption) h).elim | exact (clash h (by assumption)).elim | (simp only [decide_eq_true_eq, decide_eq_false_iff_not, Bool.not_eq_true', Bool.not_eq_false', Bool.not_true, Bool.not_false, Bool.or_eq_true, Bool.and_eq_true, Bool.or_eq_false_iff, Bool.and_eq_false_iff, beq_iff_eq, beq_eq_false_iff_ne, ne_eq] at h; first | (exfalso; omega) | skip) | skip
         | (first | refine DrawR.mkC _ (.quiet 0 (.quiet 1 (.quiet 2 (.quiet 3 (.quiet 4 (.quiet 5 (.quiet 6 (.quiet 7 (.quiet 8 (.quiet 9 (.quiet 10 (.quiet 11 (.quiet 12 (.quiet 13 (.last 14 false .done))))))))))))))) (by decide +kernel) (by decide +kernel) (SubL.refl _) ?_)
         | refine AltP.mk ?_ ?_
         | refine KeepP.mk (SubL.of (by repeat (first | exact List.Sublist.refl _ | exact List.nil_sublist _ | apply List.Sublist.cons_cons | apply List.Sublist.cons))) ?_
         | refine SeqP.go ?_
         | refine CondR.mk (by decide +kernel) ?_
         | exact IsV.mk
         | apply GuardP.mk
         | (first | refine eqlW eqS28 rfl rfl rfl (by repeat' first | exact trivial | apply And.intro | rfl) (by repeat' first | exact trivial | apply And.intro | rfl) ?_ | refine neqW eqS28 rfl rfl rfl (by repeat' first | exact trivial | apply And.intro | rfl) (by repeat' first | exact trivial | apply And.intro | rfl) ?_)
         | refine Or.inl ⟨_, _, (memHas (by repeat (first | apply Has.here | apply Has.there))), ?_⟩
         | refine Or.inl ⟨_, _, _, (by repeat (first | apply Hole.here | apply Hole.there)), rfl, rfl, ?_⟩
         | (apply loadArr; (· apply memHas; (repeat (first | apply Has.here | apply Has.there))); (· rfl); (· (first | assumption | (apply getSelf; (repeat' first | assumption | apply getSelf); done) | exact mapGet (by omega) | exact rfl | (simp; done))))
         | (apply loadArr0; (· apply memHas; (repeat (first | apply Has.here | apply Has.there))); (· rfl); (· (first | assumption | (apply getSelf; (repeat' first | assumption | apply getSelf); done) | exact mapGet (by omega) | exact rfl | (simp; done))))
         | (apply loadArr1; (· apply memHas; (repeat (first | apply Has.here | apply Has.there))); (· rfl); (· (first | assumption | (apply getSelf; (repeat' first | assumption | apply getSelf); done) | exact mapGet (by omega) | exact rfl | (simp; done))))
         | (apply loadOld; (· assumption); (· rfl); (· (first | assumption | (apply getSelf; (repeat' first | assumption | apply getSelf); done) | exact mapGet (by omega) | exact rfl | (simp; done))))
         | (apply loadOld0; (· assumption); (· rfl); (· (first | assumption | (apply getSelf; (repeat' first | assumption | apply getSelf); done) | exact mapGet (by omega) | exact rfl | (simp; done))))
         | (apply loadOld1; (· assumption); (· rfl); (· (first | assumption | (apply getSelf; (repeat' first | assumption | apply getSelf); done) | exact mapGet (by omega) | exact rfl | (simp; done))))
         | (apply loadRowAt; (· apply memHas; (repeat (first | apply Has.here | apply Has.there))); (· rfl); (· first | assumption | exact rfl); (· rfl))
         | (apply loadRg; (· assumption); (· rfl))
         | (apply loadRg0; (· assumption))
         | (apply Or.inr; apply storeArr; (· (repeat (first | apply Hole.here | apply Hole.there))); (· rfl); (· (first | assumption | (apply getSelf; (repeat' first | assumption | apply getSelf); done) | exact mapGet (by omega) | exact rfl | (simp; done))); (· rfl); (· rfl))
         | (apply Or.inr; apply storeArr0; (· (repeat (first | apply Hole.here | apply Hole.there))); (· rfl); (· (first | assumption | (apply getSelf; (repeat' first | assumption | apply getSelf); done) | exact mapGet (by omega) | exact rfl | (simp; done))); (· rfl); (· rfl))
         | (apply Or.inr; apply storeArr1; (· (repeat (first | apply Hole.here | apply Hole.there))); (· rfl); (· (first | assumption | (apply getSelf; (repeat' first | assumption | apply getSelf); done) | exact mapGet (by omega) | exact rfl | (simp; done))); (· rfl); (· rfl))
         | refine BytW.ofBlk (memHas (by repeat (first | apply Has.here | apply Has.there))) rfl rfl ?_
         | refine AppW.noneB (memHas (by repeat (first | apply Has.here | apply Has.there))) (Nat.le_of_ble_eq_true rfl) rfl rfl rfl (Nat.le_of_ble_eq_true rfl) (Nat.le_of_ble_eq_true rfl) ?_
         | refine AppW.rowB (memHas (by repeat (first | apply Has.here | apply Has.there))) (Nat.le_of_ble_eq_true rfl) rfl rfl (by repeat (first | apply Hole.here | apply Hole.there)) (Nat.le_of_ble_eq_true rfl) (Nat.le_of_ble_eq_true rfl) ?_
         | refine AppW.blkB (memHas (by repeat (first | apply Has.here | apply Has.there))) (Nat.le_of_ble_eq_true rfl) rfl rfl (by repeat (first | apply Hole.here | apply Hole.there)) rfl rfl (Nat.le_of_ble_eq_true rfl) (Nat.le_of_ble_eq_true rfl) ?_
         | refine AppW.rowS (memHas (by repeat (first | apply Has.here | apply Has.there))) (Nat.le_of_ble_eq_true rfl) rfl rfl (by repeat (first | apply Hole.here | apply Hole.there)) (by omega) (Nat.le_of_ble_eq_true rfl) ?_
         | refine AppW.arrS (memHas (by repeat (first | apply Has.here | apply Has.there))) (Nat.le_of_ble_eq_true rfl) rfl rfl rfl (by repeat (first | apply Hole.here | apply Hole.there)) (by first | omega | (simp; omega)) (Nat.le_of_ble_eq_true rfl) ?_
         | refine ⟨(by first | rfl | omega | exact ⟨by omega, by omega⟩ | exact ⟨by omega, by omega, by omega⟩ | exact ⟨_, _, rfl⟩ | decide), ?_⟩
         | fail)
    all_goals (try conv => whnf)
    all_goals first
      | (exfalso; omega)
      | exact .mk (k + 1) _ _ (by omega) ⟨by omega, rfl, rfl⟩ (by repeat' first | exact trivial | apply And.intro | rfl | (refine eq_int ?_; first | omega | (rw [w64 (by omega) (by omega)]; omega))) (by rw [← mapTo_set hk2]; exact Ent.refl)
  · skip
    repeat' first
      | (conv => whnf
         first
         | intro _
         | (first | refine selSplit (fun h => ?_) (fun h => ?_) | refine condSplit (fun h => ?_) (fun h => ?_)) <;> first | exact (clash (by assumption) h).elim | exact (clash h (by assumption)).elim | (simp only [decide_eq_true_eq, decide_eq_false_iff_not, Bool.not_eq_true', Bool.not_eq_false', Bool.not_true, Bool.not_false, Bool.or_eq_true, Bool.and_eq_true, Bool.or_eq_false_iff, Bool.and_eq_false_iff, beq_iff_eq, beq_eq_false_iff_ne, ne_eq] at h; first | (exfalso; omega) | skip) | skip
         | (first | refine DrawR.mkC _ (.quiet 0 (.quiet 1 (.quiet 2 (.quiet 3 (.quiet 4 (.quiet 5 (.quiet 6 (.quiet 7 (.quiet 8 (.quiet 9 (.quiet 10 (.quiet 11 (.quiet 12 (.quiet 13 (.last 14 false .done))))))))))))))) (by decide +kernel) (by decide +kernel) (SubL.refl _) ?_)
         | refine AltP.mk ?_ ?_
         | refine KeepP.mk (SubL.of (by repeat (first | exact List.Sublist.refl _ | exact List.nil_sublist _ | apply List.Sublist.cons_cons | apply List.Sublist.cons))) ?_
         | refine SeqP.go ?_
         | refine CondR.mk (by decide +kernel) ?_
         | exact IsV.mk
         | apply GuardP.mk
         | (first | refine eqlW eqS28 rfl rfl rfl (by repeat' first | exact trivial | apply And.intro | rfl) (by repeat' first | exact trivial | apply And.intro | rfl) ?_ | refine neqW eqS28 rfl rfl rfl (by repeat' first | exact trivial | apply And.intro | rfl) (by repeat' first | exact trivial | apply And.intro | rfl) ?_)
         | refine Or.inl ⟨_, _, (memHas (by repeat (first | apply Has.here | apply Has.there))), ?_⟩
         | refine Or.inl ⟨_, _, _, (by repeat (first | apply Hole.here | apply Hole.there)), rfl, rfl, ?_⟩
         | (apply loadArr; (· apply memHas; (repeat (first | apply Has.here | apply Has.there))); (· rfl); (· (first | assumption | (apply getSelf; (repeat' first | assumption | apply getSelf); done) | exact mapGet (by omega) | exact rfl | (simp; done))))
         | (apply loadArr0; (· apply memHas; (repeat (first | apply Has.here | apply Has.there))); (· rfl); (· (first | assumption | (apply getSelf; (repeat' first | assumption | apply getSelf); done) | exact mapGet (by omega) | exact rfl | (simp; done))))
         | (apply loadArr1; (· apply memHas; (repeat (first | apply Has.here | apply Has.there))); (· rfl); (· (first | assumption | (apply getSelf; (repeat' first | assumption | apply getSelf); done) | exact mapGet (by omega) | exact rfl | (simp; done))))
         | (apply loadOld; (· assumption); (· rfl); (· (first | assumption | (apply getSelf; (repeat' first | assumption | apply getSelf); done) | exact mapGet (by omega) | exact rfl | (simp; done))))
         | (apply loadOld0; (· assumption); (· rfl); (· (first | assumption | (apply getSelf; (repeat' first | assumption | apply getSelf); done) | exact mapGet (by omega) | exact rfl | (simp; done))))
         | (apply loadOld1; (· assumption); (· rfl); (· (first | assumption | (apply getSelf; (repeat' first | assumption | apply getSelf); done) | exact mapGet (by omega) | exact rfl | (simp; done))))
         | (apply loadRowAt; (· apply memHas; (repeat (first | apply Has.here | apply Has.there))); (· rfl); (· first | assumption | exact rfl); (· rfl))
         | (apply loadRg; (· assumption); (· rfl))
         | (apply loadRg0; (· assumption))
         | (apply Or.inr; apply storeArr; (· (repeat (first | apply Hole.here | apply Hole.there))); (· rfl); (· (first | assumption | (apply getSelf; (repeat' first | assumption | apply getSelf); done) | exact mapGet (by omega) | exact rfl | (simp; done))); (· rfl); (· rfl))
         | (apply Or.inr; apply storeArr0; (· (repeat (first | apply Hole.here | apply Hole.there))); (· rfl); (· (first | assumption | (apply getSelf; (repeat' first | assumption | apply getSelf); done) | exact mapGet (by omega) | exact rfl | (simp; done))); (· rfl); (· rfl))
         | (apply Or.inr; apply storeArr1; (· (repeat (first | apply Hole.here | apply Hole.there))); (· rfl); (· (first | assumption | (apply getSelf; (repeat' first | assumption | apply getSelf); done) | exact mapGet (by omega) | exact rfl | (simp; done))); (· rfl); (· rfl))
         | refine BytW.ofBlk (memHas (by repeat (first | apply Has.here | apply Has.there))) rfl rfl ?_
         | refine AppW.noneB (memHas (by repeat (first | apply Has.here | apply Has.there))) (Nat.le_of_ble_eq_true rfl) rfl rfl rfl (Nat.le_of_ble_eq_true rfl) (Nat.le_of_ble_eq_true rfl) ?_
         | refine AppW.rowB (memHas (by repeat (first | apply Has.here | apply Has.there))) (Nat.le_of_ble_eq_true rfl) rfl rfl (by repeat (first | apply Hole.here | apply Hole.there)) (Nat.le_of_ble_eq_true rfl) (Nat.le_of_ble_eq_true rfl) ?_
         | refine AppW.blkB (memHas (by repeat (first | apply Has.here | apply Has.there))) (Nat.le_of_ble_eq_true rfl) rfl rfl (by repeat (first | apply Hole.here | apply Hole.there)) rfl rfl (Nat.le_of_ble_eq_true rfl) (Nat.le_of_ble_eq_true rfl) ?_
         | refine AppW.rowS (memHas (by repeat (first | apply Has.here | apply Has.there))) (Nat.le_of_ble_eq_true rfl) rfl rfl (by repeat (first | apply Hole.here | apply Hole.there)) (by omega) (Nat.le_of_ble_eq_true rfl) ?_
         | refine AppW.arrS (memHas (by repeat (first | apply Has.here | apply Has.there))) (Nat.le_of_ble_eq_true rfl) rfl rfl rfl (by repeat (first | apply Hole.here | apply Hole.there)) (by first | omega | (simp; omega)) (Nat.le_of_ble_eq_true rfl) ?_
         | refine ⟨(by first | rfl | omega | exact ⟨by omega, by omega⟩ | exact ⟨by omega, by omega, by omega⟩ | exact ⟨_, _, rfl⟩ | decide), ?_⟩
         | fail)
    all_goals (try conv => whnf)
    all_goals first
      | (exfalso; omega)
      | (refine EndX.mk () trivial rfl ?_; rw [mapTo_all (by omega)]; exact Ent.refl)
def heardV (p : PortV) : PortV := { p with HeardTc := false, HeardTcn := false, TcAck := p.TcAck || decide (p.Role = 2) }
/-- A port's step: the port behind it; are the others told; did it move. -/
def stepQ (t : TimesV) (p : PortV) : PortV × Bool × Bool :=
  if p.Change = 0 then
    if p.Learn = false ∨ p.Flush = true then (p, false, false) else (forgetV { p with Change := 1 }, false, true)
  else if p.Change = 1 then
    if (inB p = true ∧ p.Forward = true) ∧ p.Oper = false then ({ countV t p with NewInfo := true, Change := 2 }, true, true)
    else if ((inB p = false ∧ p.Learn = false) ∧ p.Learning = false) ∧ toldB p = false then ({ p with Change := 0, Flush := true, Tc := 0, TcAck := false }, false, true)
    else if toldB p = true then (forgetV p, false, true)
    else (p, false, false)
  else if p.Change = 2 then
    if inB p = false ∨ p.Oper = true then (forgetV { p with Change := 1 }, false, true)
    else if p.HeardTcn = true then (heardV (countV t p), true, true)
    else if p.HeardTc = true then (heardV p, true, true)
    else if p.TcProp = true then ({ countV t p with Flush := true, TcProp := false }, false, true)
    else if p.HeardAck = true then ({ p with Tc := 0, HeardAck := false }, false, true)
    else (p, false, false)
  else (p, false, false)
def stepL (t : TimesV) (ps : List PortV) (at_ : Int) (p : PortV) : List PortV := if (stepQ t p).2.1 = true then othersV (ps.set at_.toNat (stepQ t p).1) at_ else ps.set at_.toNat (stepQ t p).1
def timesOf (b : BridgeV) : TimesV := ⟨b.Times_Age, b.Times_Max, b.Times_Hello, b.Times_Delay⟩
def stepV (b : BridgeV) (ps : List PortV) (at_ : Int) : List PortV × Bool :=
  if rightB b = false ∨ at_ < 0 then (ps, false) else match ps[at_.toNat]? with
    | none => (ps, false)
    | some p => (stepL (timesOf b) ps at_ p, (stepQ (timesOf b) p).2.2)
theorem ok_Step : (match Try.f16.body with | some c => codeOk Try.f16.ntmps c | none => false) = true := by kernel_rfl
theorem en_Step : ∃ fn, Try.prog.funcs[16]? = some fn ∧ (fn.name == "runtime.NumGoroutine") = false ∧ fn.body.isNone = false := ⟨_, Try.func16, by kernel_rfl, by kernel_rfl⟩
theorem Step_no (b : BridgeV) (ps : List PortV) (A : Option Addr) (c : Nat) (at_ : Int) (w : World) (h : SlAt w A 61 (ps.map PortV.enc)) (hlen : ps.length ≤ 1000) (hno : rightB b = false ∨ at_ < 0 ∨ (ps.length : Int) ≤ at_) :
    FnX Try.prog 16 [.agg ⟨b.enc⟩, .slice A ps.length c, .int .i64 at_] [] (fun s : Option Addr × Nat => IsRow (.slice s.1 ps.length s.2) ps.length) (fun s => .tuple ⟨[.slice s.1 ps.length s.2, .bool false]⟩) (fun s => [.arr (.slice s.1 ps.length s.2) 28 61 (ps.map PortV.enc)]) w := by
  refine funcR_x tyOk wide Try.func16 ok_Step (Nat.le_of_ble_eq_true rfl) (St.start0 w) ?_
  have hA : ∀ {H : List Res} {w1 : World}, St w (feet []) H w1 → SlAt w1 A 61 (ps.map PortV.enc) := fun hw => ⟨h.len, fun hp => by
    obtain ⟨b', o, e, hr⟩ := h.at_ hp
    exact ⟨b', o, e, Rd.old (X := []) hr (by simp) _ hw⟩⟩
  repeat' first
    | (conv => whnf
       first
       | intro _
       | (first | refine selSplit (fun h => ?_) (fun h => ?_) | refine condSplit (fun h => ?_) (fun h => ?_)) <;> first | exact (clash (by assumption) h).elim | exact (clash h (by assumption)).elim | (simp only [decide_eq_true_eq, decide_eq_false_iff_not, Bool.not_eq_true', Bool.not_eq_false', Bool.not_true, Bool.not_false, Bool.or_eq_true, Bool.and_eq_true, Bool.or_eq_false_iff, Bool.and_eq_false_iff, beq_iff_eq, beq_eq_false_iff_ne, ne_eq] at h; first | (exfalso; omega) | skip) | skip
       | refine SeqP.go ?_
       | refine CondR.mk (by decide +kernel) ?_
       | exact IsV.mk
       | apply GuardP.mk
       | (refine callX (by repeat' first | apply Take.nil | apply Take.cons | apply Pick.here | apply Pick.there) en_PClone (fun w hw => PClone_w ps A c w (hA hw) hlen) ?_)
       | (apply callPure' en_infoRight; · exact fun w _ => infoRight_w b w)
       | (apply callQuiet' en_infoRight; · exact fun w _ => infoRight_w b w)
       | (first | refine eqlW eqS28 rfl rfl rfl (by repeat' first | exact trivial | apply And.intro | rfl) (by repeat' first | exact trivial | apply And.intro | rfl) ?_ | refine neqW eqS28 rfl rfl rfl (by repeat' first | exact trivial | apply And.intro | rfl) (by repeat' first | exact trivial | apply And.intro | rfl) ?_)
       | refine Or.inl ⟨_, _, (memHas (by repeat (first | apply Has.here | apply Has.there))), ?_⟩
       | refine Or.inl ⟨_, _, _, (by repeat (first | apply Hole.here | apply Hole.there)), rfl, rfl, ?_⟩
       | (apply loadArr; (· apply memHas; (repeat (first | apply Has.here | apply Has.there))); (· rfl); (· (first | assumption | (apply getSelf; (repeat' first | assumption | apply getSelf); done) | exact mapGet (by omega) | exact rfl | (simp; done))))
       | (apply loadArr0; (· apply memHas; (repeat (first | apply Has.here | apply Has.there))); (· rfl); (· (first | assumption | (apply getSelf; (repeat' first | assumption | apply getSelf); done) | exact mapGet (by omega) | exact rfl | (simp; done))))
       | (apply loadArr1; (· apply memHas; (repeat (first | apply Has.here | apply Has.there))); (· rfl); (· (first | assumption | (apply getSelf; (repeat' first | assumption | apply getSelf); done) | exact mapGet (by omega) | exact rfl | (simp; done))))
       | (apply loadOld; (· assumption); (· rfl); (· (first | assumption | (apply getSelf; (repeat' first | assumption | apply getSelf); done) | exact mapGet (by omega) | exact rfl | (simp; done))))
       | (apply loadOld0; (· assumption); (· rfl); (· (first | assumption | (apply getSelf; (repeat' first | assumption | apply getSelf); done) | exact mapGet (by omega) | exact rfl | (simp; done))))
       | (apply loadOld1; (· assumption); (· rfl); (· (first | assumption | (apply getSelf; (repeat' first | assumption | apply getSelf); done) | exact mapGet (by omega) | exact rfl | (simp; done))))
       | (apply loadRowAt; (· apply memHas; (repeat (first | apply Has.here | apply Has.there))); (· rfl); (· first | assumption | exact rfl); (· rfl))
       | (apply loadRg; (· assumption); (· rfl))
       | (apply loadRg0; (· assumption))
       | (apply Or.inr; apply storeArr; (· (repeat (first | apply Hole.here | apply Hole.there))); (· rfl); (· (first | assumption | (apply getSelf; (repeat' first | assumption | apply getSelf); done) | exact mapGet (by omega) | exact rfl | (simp; done))); (· rfl); (· rfl))
       | (apply Or.inr; apply storeArr0; (· (repeat (first | apply Hole.here | apply Hole.there))); (· rfl); (· (first | assumption | (apply getSelf; (repeat' first | assumption | apply getSelf); done) | exact mapGet (by omega) | exact rfl | (simp; done))); (· rfl); (· rfl))
       | (apply Or.inr; apply storeArr1; (· (repeat (first | apply Hole.here | apply Hole.there))); (· rfl); (· (first | assumption | (apply getSelf; (repeat' first | assumption | apply getSelf); done) | exact mapGet (by omega) | exact rfl | (simp; done))); (· rfl); (· rfl))
       | refine BytW.ofBlk (memHas (by repeat (first | apply Has.here | apply Has.there))) rfl rfl ?_
       | refine AppW.noneB (memHas (by repeat (first | apply Has.here | apply Has.there))) (Nat.le_of_ble_eq_true rfl) rfl rfl rfl (Nat.le_of_ble_eq_true rfl) (Nat.le_of_ble_eq_true rfl) ?_
       | refine AppW.rowB (memHas (by repeat (first | apply Has.here | apply Has.there))) (Nat.le_of_ble_eq_true rfl) rfl rfl (by repeat (first | apply Hole.here | apply Hole.there)) (Nat.le_of_ble_eq_true rfl) (Nat.le_of_ble_eq_true rfl) ?_
       | refine AppW.blkB (memHas (by repeat (first | apply Has.here | apply Has.there))) (Nat.le_of_ble_eq_true rfl) rfl rfl (by repeat (first | apply Hole.here | apply Hole.there)) rfl rfl (Nat.le_of_ble_eq_true rfl) (Nat.le_of_ble_eq_true rfl) ?_
       | refine AppW.rowS (memHas (by repeat (first | apply Has.here | apply Has.there))) (Nat.le_of_ble_eq_true rfl) rfl rfl (by repeat (first | apply Hole.here | apply Hole.there)) (by omega) (Nat.le_of_ble_eq_true rfl) ?_
       | refine AppW.arrS (memHas (by repeat (first | apply Has.here | apply Has.there))) (Nat.le_of_ble_eq_true rfl) rfl rfl rfl (by repeat (first | apply Hole.here | apply Hole.there)) (by first | omega | (simp; omega)) (Nat.le_of_ble_eq_true rfl) ?_
       | refine ⟨(by first | rfl | omega | exact ⟨by omega, by omega⟩ | exact ⟨by omega, by omega, by omega⟩ | exact ⟨_, _, rfl⟩ | decide), ?_⟩
       | fail)
  all_goals (try conv => whnf)
  all_goals first
    | exact EndX.mk _ (by assumption) rfl (Ent.of (by repeat (first | exact List.Sublist.refl _ | exact List.nil_sublist _ | apply List.Sublist.cons_cons | apply List.Sublist.cons)))
    | (exfalso; rcases hno with g | g | g <;> simp [g] at h <;> omega)
end Go.Proofs.Ytmgoahmbdpoikaa.Am
