/- Package change: a step. -/
import Derived.Test.YtmgoahmbdpoikaaChange
set_option linter.unusedVariables false
set_option linter.unusedSimpArgs false
set_option maxRecDepth 100000
set_option maxHeartbeats 4000000
namespace Go.Proofs.Ytmgoahmbdpoikaa.Am
open Go Go.RowKit
theorem othersV_set (ps : List PortV) (at_ : Int) (q : PortV) (h : 0 ≤ at_) : othersV (ps.set at_.toNat q) at_ = (othersV ps at_).set at_.toNat q := by
  apply List.ext_getElem?
  intro i
  by_cases e : at_.toNat = i
  · subst e
    by_cases hl : at_.toNat < ps.length
    · simp [othersV, hl, othersF, show ((at_.toNat : Nat) : Int) = at_ by omega, Bool.or_false]
    · simp [othersV, hl]
  · rw [List.getElem?_set_ne e]
    simp [othersV, List.getElem?_mapIdx, List.getElem?_set_ne e]
theorem Step_yes (b : BridgeV) (ps : List PortV) (A : Option Addr) (c : Nat) (at_ : Int) (p : PortV) (w : World) (h : SlAt w A 61 (ps.map PortV.enc)) (hlen : ps.length ≤ 1000) (h0 : rightB b = true) (h1 : 0 ≤ at_) (h2 : at_ < ps.length) (hp : ps[at_.toNat]? = some p) :
    FnX Try.prog 16 [.agg ⟨b.enc⟩, .slice A ps.length c, .int .i64 at_] [] (fun s : Nat × Nat => ps.length ≤ s.2) (fun s => .tuple ⟨[.slice (some ⟨s.1, 0, none⟩) ps.length s.2, .bool (stepQ (timesOf b) p).2.2]⟩) (fun s => [.arr (.slice (some ⟨s.1, 0, none⟩) ps.length s.2) 28 61 ((stepL (timesOf b) ps at_ p).map PortV.enc)]) w := by
  refine funcR_x tyOk wide Try.func16 ok_Step (Nat.le_of_ble_eq_true rfl) (St.start0 w) ?_
  have hA : ∀ {H : List Res} {w1 : World}, St w (feet []) H w1 → SlAt w1 A 61 (ps.map PortV.enc) := fun hw => ⟨h.len, fun hp => by
    obtain ⟨b', o, e, hr⟩ := h.at_ hp
    exact ⟨b', o, e, Rd.old (X := []) hr (by simp) _ hw⟩⟩
  have hx : (ps.map PortV.enc)[at_.toNat]? = some p.enc := by rw [List.getElem?_map, hp]; rfl
  have hx2 : ((othersV (ps.set at_.toNat (countV (timesOf b) p)) at_).map PortV.enc)[at_.toNat]? = some (countV (timesOf b) p).enc := by
    have hlt : at_.toNat < ps.length := by omega
    simp [othersV, List.getElem?_mapIdx, hlt, othersF, show ((at_.toNat : Nat) : Int) = at_ by omega, Bool.or_false]
  have hO := fun q => othersV_set ps at_ q h1
  repeat' first
    | (conv => whnf
       first
       | intro _
       | (first | refine selSplit (fun h => ?_) (fun h => ?_) | refine condSplit (fun h => ?_) (fun h => ?_)) <;> first | exact (clash (by assumption) h).elim | exact (clash h (by assumption)).elim | (simp only [decide_eq_true_eq, decide_eq_false_iff_not, Bool.not_eq_true', Bool.not_eq_false', Bool.not_true, Bool.not_false, Bool.or_eq_true, Bool.and_eq_true, Bool.or_eq_false_iff, Bool.and_eq_false_iff, beq_iff_eq, beq_eq_false_iff_ne, ne_eq] at h; first | (exfalso; omega) | skip) | skip
       | refine SeqP.go ?_
       | refine CondR.mk (by decide +kernel) ?_
       | exact IsV.mk
       | apply GuardP.mk
       | (refine callX (by repeat' first | apply Take.nil | apply Take.cons | apply Pick.here | apply Pick.there) en_PClone (fun w hw => PClone_ne ps A c w (hA hw) hlen (by omega)) ?_)
       | (apply callPure' en_infoRight; · exact fun w _ => infoRight_w b w)
       | (apply callQuiet' en_infoRight; · exact fun w _ => infoRight_w b w)
       | (apply callPure' en_chIn; · exact fun w hw => chIn_w p _ _ w (hw.elem (memHas (by repeat (first | apply Has.here | apply Has.there))) hx))
       | (apply callQuiet' en_chIn; · exact fun w hw => chIn_w p _ _ w (hw.elem (memHas (by repeat (first | apply Has.here | apply Has.there))) hx))
       | (apply callPure' en_told; · exact fun w hw => told_w p _ _ w (hw.elem (memHas (by repeat (first | apply Has.here | apply Has.there))) hx))
       | (apply callQuiet' en_told; · exact fun w hw => told_w p _ _ w (hw.elem (memHas (by repeat (first | apply Has.here | apply Has.there))) hx))
       | (refine callX (by repeat' first | apply Take.nil | apply Take.cons | apply Pick.here | apply Pick.there) en_forget (fun w hw => forget_w _ { p with Change := 1 } _ _ _ at_.toNat w (getSelf hx) (hw.sub2 (by repeat' first | apply Take.nil | apply Take.cons | apply Pick.here | apply Pick.there))) ?_)
       | (refine callX (by repeat' first | apply Take.nil | apply Take.cons | apply Pick.here | apply Pick.there) en_forget (fun w hw => forget_w _ p _ _ _ at_.toNat w hx (hw.sub2 (by repeat' first | apply Take.nil | apply Take.cons | apply Pick.here | apply Pick.there))) ?_)
       | (refine callX (by repeat' first | apply Take.nil | apply Take.cons | apply Pick.here | apply Pick.there) en_count (fun w hw => count_w (timesOf b) _ p _ _ _ at_.toNat w hx (hw.sub2 (by repeat' first | apply Take.nil | apply Take.cons | apply Pick.here | apply Pick.there))) ?_)
       | (refine callX (by repeat' first | apply Take.nil | apply Take.cons | apply Pick.here | apply Pick.there) en_others (fun w hw => others_w (ps.set at_.toNat (countV (timesOf b) p)) _ (List.length_set ..) _ (by simp only [List.map_set, List.set_set]; first | done | rfl) _ _ _ _ at_ w hlen (hw.sub2 (by repeat' first | apply Take.nil | apply Take.cons | apply Pick.here | apply Pick.there))) ?_)
       | (refine callX (by repeat' first | apply Take.nil | apply Take.cons | apply Pick.here | apply Pick.there) en_others (fun w hw => others_w (ps.set at_.toNat (heardV (countV (timesOf b) p))) _ (List.length_set ..) _ (by simp only [List.map_set, List.set_set]; first | done | rfl) _ _ _ _ at_ w hlen (hw.sub2 (by repeat' first | apply Take.nil | apply Take.cons | apply Pick.here | apply Pick.there))) ?_)
       | (refine callX (by repeat' first | apply Take.nil | apply Take.cons | apply Pick.here | apply Pick.there) en_others (fun w hw => others_w (ps.set at_.toNat (heardV p)) _ (List.length_set ..) _ (by simp only [List.map_set, List.set_set]; first | done | rfl) _ _ _ _ at_ w hlen (hw.sub2 (by repeat' first | apply Take.nil | apply Take.cons | apply Pick.here | apply Pick.there))) ?_)
       | (first | refine eqlW eqS28 rfl rfl rfl (by repeat' first | exact trivial | apply And.intro | rfl) (by repeat' first | exact trivial | apply And.intro | rfl) ?_ | refine neqW eqS28 rfl rfl rfl (by repeat' first | exact trivial | apply And.intro | rfl) (by repeat' first | exact trivial | apply And.intro | rfl) ?_)
       | refine Or.inl ⟨_, _, (memHas (by repeat (first | apply Has.here | apply Has.there))), ?_⟩
       | refine Or.inl ⟨_, _, _, (by repeat (first | apply Hole.here | apply Hole.there)), rfl, rfl, ?_⟩
       | (apply loadArr; (· apply memHas; (repeat (first | apply Has.here | apply Has.there))); (· rfl); (· (first | assumption | (apply getSelf; (repeat' first | assumption | apply getSelf); done) | exact mapGet (by omega) | exact rfl | (simp; done))))
       | (apply loadArr0; (· apply memHas; (repeat (first | apply Has.here | apply Has.there))); (· rfl); (· (first | assumption | (apply getSelf; (repeat' first | assumption | apply getSelf); done) | exact mapGet (by omega) | exact rfl | (simp; done))))
       | (apply loadArr1; (· apply memHas; (repeat (first | apply Has.here | apply Has.there))); (· rfl); (· (first | assumption | (apply getSelf; (repeat' first | assumption | apply getSelf); done) | exact mapGet (by omega) | exact rfl | (simp; done))))
       | (apply loadOld; (· assumption); (· rfl); (· (first | assumption | (apply getSelf; (repeat' first | assumption | apply getSelf); done) | exact mapGet (by omega) | exact rfl | (simp; done))))
       | (apply loadOld0; (· assumption); (· rfl); (· (first | assumption | (apply getSelf; (repeat' first | assumption | apply getSelf); done) | exact mapGet (by omega) | exact rfl | (simp; done))))
       | (apply loadOld1; (· assumption); (· rfl); (· (first | assumption | (apply getSelf; (repeat' first | assumption | apply getSelf); done) | exact mapGet (by omega) | exact rfl | (simp; done))))
       | (apply loadRowAt; (· apply memHas; (repeat (first | apply Has.here | apply Has.there))); (· rfl); (· first | assumption | exact rfl); (· rfl))
       | (apply loadRg; (· assumption); (· rfl))
       | (apply loadRg0; (· assumption))
       | (apply Or.inr; apply storeArr; (· (repeat (first | apply Hole.here | apply Hole.there))); (· rfl); (· (first | assumption | (apply getSelf; (repeat' first | assumption | apply getSelf); done) | exact mapGet (by omega) | exact rfl | (simp; done))); (· rfl); (· rfl))
       | (apply Or.inr; apply storeArr0; (· (repeat (first | apply Hole.here | apply Hole.there))); (· rfl); (· (first | assumption | (apply getSelf; (repeat' first | assumption | apply getSelf); done) | exact mapGet (by omega) | exact rfl | (simp; done))); (· rfl); (· rfl))
       | (apply Or.inr; apply storeArr1; (· (repeat (first | apply Hole.here | apply Hole.there))); (· rfl); (· (first | assumption | (apply getSelf; (repeat' first | assumption | apply getSelf); done) | exact mapGet (by omega) | exact rfl | (simp; done))); (· rfl); (· rfl))
       | refine BytW.ofBlk (memHas (by repeat (first | apply Has.here | apply Has.there))) rfl rfl ?_
       | refine AppW.noneB (memHas (by repeat (first | apply Has.here | apply Has.there))) (Nat.le_of_ble_eq_true rfl) rfl rfl rfl (Nat.le_of_ble_eq_true rfl) (Nat.le_of_ble_eq_true rfl) ?_
       | refine AppW.rowB (memHas (by repeat (first | apply Has.here | apply Has.there))) (Nat.le_of_ble_eq_true rfl) rfl rfl (by repeat (first | apply Hole.here | apply Hole.there)) (Nat.le_of_ble_eq_true rfl) (Nat.le_of_ble_eq_true rfl) ?_
       | refine AppW.blkB (memHas (by repeat (first | apply Has.here | apply Has.there))) (Nat.le_of_ble_eq_true rfl) rfl rfl (by repeat (first | apply Hole.here | apply Hole.there)) rfl rfl (Nat.le_of_ble_eq_true rfl) (Nat.le_of_ble_eq_true rfl) ?_
       | refine AppW.rowS (memHas (by repeat (first | apply Has.here | apply Has.there))) (Nat.le_of_ble_eq_true rfl) rfl rfl (by repeat (first | apply Hole.here | apply Hole.there)) (by omega) (Nat.le_of_ble_eq_true rfl) ?_
       | refine AppW.arrS (memHas (by repeat (first | apply Has.here | apply Has.there))) (Nat.le_of_ble_eq_true rfl) rfl rfl rfl (by repeat (first | apply Hole.here | apply Hole.there)) (by first | omega | (simp; omega)) (Nat.le_of_ble_eq_true rfl) ?_
       | refine ⟨(by first | rfl | omega | exact ⟨by omega, by omega⟩ | exact ⟨by omega, by omega, by omega⟩ | exact ⟨_, _, rfl⟩ | decide), ?_⟩
       | fail)
  all_goals (try conv => whnf)
  all_goals first
    | (exfalso; simp [h0] at h; omega)
    | (refine EndX.mk (_, _) (by assumption) ?_ ?_; (· (unfold stepQ; (repeat (first | rw [if_pos (by first | assumption | grind | decide)] | rw [if_neg (by first | assumption | grind | decide)])); rfl)); (· (refine Ent.of ?_; unfold stepL stepQ; (repeat (first | rw [if_pos (by first | assumption | grind | decide)] | rw [if_neg (by first | assumption | grind | decide)])); simp only [hO, List.map_set, List.set_set, setSame hx]; (repeat (first | exact List.Sublist.refl _ | exact List.nil_sublist _ | apply List.Sublist.cons_cons | apply List.Sublist.cons)); done)))
end Go.Proofs.Ytmgoahmbdpoikaa.Am
