/- That the function of the code tells the truth: code. -/
import Derived.Test.YtgjdmlgdgbehoaaAm6
import Derived.Test.YtgjdmlgdgbehoaaAm7
import Derived.Deep.LoopGhost
set_option linter.unusedVariables false
set_option linter.unusedSimpArgs false
namespace Go.Proofs.Ytgjdmlgdgbehoaa.Am
open Go Go.RowKit

section
variable {P : Program} {ty : Nat → Option TD} {w0 : World} {X : List Nat} {D : List Deferred}

theorem quietW_q (hty : TyOk P ty) {o : Oper} {S : Sl} {H : List Res} {K : Value → Prop} (h : quietW P ty w0 X o S H K) : ∃ v, K v ∧ ∀ a, Agree a S → qAt P w0 X H o a v := by
  have pure : pureW P ty w0 X o S H K → ∃ v, K v ∧ ∀ a, Agree a S → qAt P w0 X H o a v := fun h => by
    obtain ⟨v, h1, h2⟩ := pureW_run hty h
    exact ⟨v, h1, fun a hA w hw => .inl (h2 a w hA hw)⟩
  unfold quietW at h
  split at h
  · rename_i c ho
    split at h
    · rename_i fo hc
      split at h
      · rename_i f first caps args hf hargs
        rw [appK_eq, appK_eq, ← List.append_assoc] at h
        obtain ⟨v, ⟨⟨fn, hfn, hn, hb⟩, hcall⟩, hk⟩ := h
        refine ⟨v, hk, fun a hA w hw => .inr ⟨f, ⟨first.toList ++ args ++ caps.toList⟩, ?_, hcall w hw⟩⟩
        have e1 : c.args.map a.eval = ⟨args⟩ := by apply Array.ext'; simpa using opds_eval hA hargs
        have e2 : first ++ (⟨args⟩ : Array Value) ++ caps = ⟨first.toList ++ args ++ caps.toList⟩ := by apply Array.ext'; simp
        simp only [execOp, ho, resolve, hc, opd_eval hA hf, Deferred.ofValue, Sem.run_bind, Sem.run_pure, Result.andThen_ok, invoke, e1, e2]
        exact call_run hfn hn hb w
      · exact h.elim
    · exact pure h
  · exact pure h

section
variable {H : List Res} {ops : Array Oper} {Q : Exit → Act → World → Prop} {n : Nat}

theorem stepW_q (hty : TyOk P ty) {i : Nat} {o : Oper} {a : Act} {S : Sl} {Hi : List Res} {K' : Sl → Prop} (hi : ops[i]? = some o) (hd : dOk n o.dst = true) (hF : Fr D n a S)
    (h : stepW (fun j => (ops[j]?).bind (·.dst)) o S (fun S' k => quietW P ty w0 X o S' Hi fun v => k v H) H fun S' _ => K' S') :
    ∃ v S', Yq P w0 X Hi ops o v a ∧ Fr D n (a.put o.dst v) S' ∧ K' S' := by
  have fin : ∀ (v : Value) (S1 : Sl), Fr D n a S1 → Yq P w0 X Hi ops o v a → (match o.dst with
      | some d => K' ((d, v) :: S1)
      | none => K' S1) → ∃ v S', Yq P w0 X Hi ops o v a ∧ Fr D n (a.put o.dst v) S' ∧ K' S' := by
    intro v S1 hF1 hy hk
    cases hdst : o.dst with
    | none => rw [hdst] at hk; exact ⟨v, S1, hy, hF1, hk⟩
    | some d => rw [hdst] at hk hd; exact ⟨v, _, hy, hF1.put hd v, hk⟩
  unfold stepW at h
  split at h
  · rename_i hg
    obtain ⟨v, hk, hv⟩ := quietW_q hty h
    exact fin v S hF (.inl ⟨by simp [Region.wanted, hg], hv a hF.ag⟩) hk
  · rename_i j want hg
    split at h
    · rename_i t htt
      have htt : (ops[j]?).bind (·.dst) = some t := htt
      split at h
      · rename_i b hb
        have hy : yielded ops a.tmps j = some b := by
          unfold yielded
          rw [htt]
          simp [hF.ag t _ hb]
        by_cases hbw : b = want
        · have hF2 : Fr D n a ((t, .bool want) :: S) := ⟨hF.ag.again (by rw [hb, hbw]), hF.sz, hF.df⟩
          obtain ⟨v, hk, hv⟩ := quietW_q hty (h.1 hbw)
          exact fin v _ hF2 (.inl ⟨by simp [Region.wanted, hg, hy, hbw], hv a hF2.ag⟩) hk
        · have hbn : b = !want := by cases b <;> cases want <;> simp_all
          have hF2 : Fr D n a ((t, .bool !want) :: S) := ⟨hF.ag.again (by rw [hb, hbn]), hF.sz, hF.df⟩
          exact fin undef _ hF2 (.inr ⟨by simp [Region.wanted, hg, hy]; exact hbw, rfl⟩) (h.2 hbn)
      · rename_i hu
        have hy : yielded ops a.tmps j = none := by
          unfold yielded
          rw [htt]
          simp [hF.ag t _ hu]
        exact fin undef S hF (.inr ⟨by simp [Region.wanted, hg, hy], rfl⟩) h
      · exact h.elim
    · exact h.elim

theorem stepW_g (hty : TyOk P ty) {i : Nat} {o : Oper} {a : Act} {S : Sl} {K' : Sl → List Res → Prop} {K : Act → List Res → Prop} (hi : ops[i]? = some o) (hd : dOk n o.dst = true) (hF : Fr D n a S)
    (h : stepW (fun j => (ops[j]?).bind (·.dst)) o S (fun S' k => opW P ty w0 X o S' H k) H K') (hK : ∀ a' S' H', Fr D n a' S' → K' S' H' → K a' H') : gO P ty w0 X ops i K a H := by
  have fin : ∀ (v : Value) (S1 : Sl) (H' : List Res), Fr D n a S1 → (match o.dst with
      | some d => K' ((d, v) :: S1) H'
      | none => K' S1 H') → K (a.put o.dst v) H' := by
    intro v S1 H' hF1 hk
    cases hdst : o.dst with
    | none => rw [hdst] at hk; exact hK a S1 H' hF1 hk
    | some d => rw [hdst] at hk hd; exact hK _ _ H' (hF1.put hd v) hk
  unfold gO
  simp only [hi]
  unfold stepW at h
  split at h
  · rename_i hg
    by_cases hA : isA o = true
    · rw [if_pos hA]
      have hA' := hA
      unfold isA at hA'
      split at hA'
      · rename_i d e _ hdst hop
        unfold opW at h
        simp only [hop] at h
        split at h
        · rename_i ti hti
          exact ⟨fun b => .blk b ti.zero e, by simp [aRes, hop, hti], fun b => fin _ S _ hF (h b)⟩
        · exact h.elim
      · rename_i d e x _ hdst hop
        unfold opW at h
        simp only [hop] at h
        split at h
        · rename_i v hx
          exact ⟨fun b => .blk b v.cells.toList e, by simp [aRes, hop, opd_eval hF.ag hx], fun b => fin _ S _ hF (h b)⟩
        · exact h.elim
      · cases hA'
    · rw [if_neg hA, if_pos (by simp [Region.wanted, hg])]
      exact ⟨_, fun w hw => opW_run hty hF.ag hw h, fun v H' hr => fin v S H' hF hr⟩
  · rename_i j want hg
    have hA : ¬ isA o = true := by
      intro hA
      have := (isA_guard hA).1
      rw [hg] at this
      cases this
    rw [if_neg hA]
    split at h
    · rename_i t htt
      have htt : (ops[j]?).bind (·.dst) = some t := htt
      split at h
      · rename_i b hb
        have hy : yielded ops a.tmps j = some b := by
          unfold yielded
          rw [htt]
          simp [hF.ag t _ hb]
        by_cases hbw : b = want
        · have hF2 : Fr D n a ((t, .bool want) :: S) := ⟨hF.ag.again (by rw [hb, hbw]), hF.sz, hF.df⟩
          rw [if_pos (by simp [Region.wanted, hg, hy, hbw])]
          exact ⟨_, fun w hw => opW_run hty hF2.ag hw (h.1 hbw), fun v H' hr => fin v _ H' hF2 hr⟩
        · have hbn : b = !want := by cases b <;> cases want <;> simp_all
          have hF2 : Fr D n a ((t, .bool !want) :: S) := ⟨hF.ag.again (by rw [hb, hbn]), hF.sz, hF.df⟩
          rw [if_neg (by simp [Region.wanted, hg, hy]; exact hbw)]
          exact fin undef _ H hF2 (h.2 hbn)
      · rename_i hu
        have hy : yielded ops a.tmps j = none := by
          unfold yielded
          rw [htt]
          simp [hF.ag t _ hu]
        rw [if_neg (by simp [Region.wanted, hg, hy])]
        exact fin undef S H hF h
      · exact h.elim
    · exact h.elim

theorem nthW_spec {i : Nat} {k : Oper → Prop} (h : nthW ops i k) : ∃ o, ops[i]? = some o ∧ k o := by
  unfold nthW at h
  split at h
  · rename_i o ho; exact ⟨o, by rw [← Array.getElem?_toList]; exact ho, h⟩
  · exact h.elim

theorem allocW_a {o : Oper} {a : Act} {S : Sl} {K' : Sl → List Res → Prop} (hd : dOk n o.dst = true) (hF : Fr D n a S) (h : allocW ty o S H K') :
    ∃ res, aRes ty o a = some res ∧ ∀ b, ∃ S', Fr D n (a.put o.dst (.pointer (some ⟨b, 0, none⟩))) S' ∧ K' S' (res b :: H) := by
  unfold allocW at h
  split at h
  · rename_i d e hdst hop
    split at h
    · rename_i ti hti
      rw [hdst] at hd ⊢
      exact ⟨fun b => .blk b ti.zero e, by simp [aRes, hop, hti], fun b => ⟨_, hF.put hd _, h b⟩⟩
    · exact h.elim
  · rename_i d e x hdst hop
    split at h
    · rename_i v hx
      rw [hdst] at hd ⊢
      exact ⟨fun b => .blk b v.cells.toList e, by simp [aRes, hop, opd_eval hF.ag hx], fun b => ⟨_, hF.put hd _, h b⟩⟩
    · exact h.elim
  · exact h.elim

section
variable {ms qs : List Nat} {Hc : List Res} {σ : Type} {K : σ → List Res → Prop} {A : Array Bool → Act → σ → Prop}
variable {stQ : Oper → List Res → σ → List Res → (σ → Prop) → Prop} {stA stG : Oper → σ → List Res → (σ → List Res → Prop) → Prop}
def FinT (A : Array Bool → Act → σ → Prop) (K : σ → List Res → Prop) (a : Act) (H : List Res) : Prop := ∃ listed S H1, H1.Perm H ∧ A listed a S ∧ K S H1
theorem isAt_of {i : Nat} {o : Oper} (h : ops[i]? = some o) : isAt ops i = isA o := by simp [isAt, h]
theorem keepK_out {kj : Bool} {A : Prop} {Hx : List Res} (h : keepK kj Hc Hx A) : A ∧ (kj = true → SubL Hc Hx) := by
  cases kj with
  | true => exact ⟨h.go, fun _ => h.sub⟩
  | false => exact ⟨h, fun e => by cases e⟩
theorem anyBound_out {listed : Array Bool} {m : Nat} (h : anyBound ms qs listed m = true) : ∃ k, boundB ms qs k = true ∧ listed.getD k false = true := by
  unfold anyBound at h
  obtain ⟨k, _, hk⟩ := List.any_eq_true.1 h
  simp only [Bool.and_eq_true] at hk
  exact ⟨k, hk⟩
theorem tree_sound (hsel : ∀ (j : Nat) (o : Oper) cs b, ops[j]? = some o → o.op ≠ .select cs b) (hms : ∀ j i, Nat.testBit (ms.getD j 0) i = true → Waits ops j i)
    (hQ : ∀ (i : Nat) (o : Oper) (listed : Array Bool) (a : Act) (s : σ) (Hi H : List Res) (K' : σ → Prop), ops[i]? = some o → i ∈ Region.ready .any ops listed → A listed a s → stQ o Hi s H K' → ∃ v s', Yq P w0 X Hi ops o v a ∧ A (listed.setIfInBounds i true) (a.put o.dst v) s' ∧ K' s')
    (hA : ∀ (i : Nat) (o : Oper) (listed : Array Bool) (a : Act) (s : σ) (H : List Res) (K' : σ → List Res → Prop), ops[i]? = some o → i ∈ Region.ready .any ops listed → A listed a s → stA o s H K' → ∃ res, aRes ty o a = some res ∧ ∀ b, ∃ s', A (listed.setIfInBounds i true) (a.put o.dst (.pointer (some ⟨b, 0, none⟩))) s' ∧ K' s' (res b :: H))
    (hG : ∀ (i : Nat) (o : Oper) (listed : Array Bool) (a : Act) (s : σ) (H : List Res) (K' : σ → List Res → Prop) (K : Act → List Res → Prop), ops[i]? = some o → i ∈ Region.ready .any ops listed → A listed a s → stG o s H K' → (∀ a' s' H', A (listed.setIfInBounds i true) a' s' → K' s' H' → K a' H') → gO P ty w0 X ops i K a H) :
    ∀ (t : OTree) (f : Nat) (listed : Array Bool) (rem : Option (List Nat)) (a : Act) (S : σ) (H : List Res), treeOk ops ms qs t f listed rem = true → (∀ l, rem = some l → ∀ i ∈ l, i ∈ Region.ready .any ops listed) → A listed a S → DC ops listed →
      Kp Hc (fun k => boundB ms qs k = true) (qs.isEmpty = true) listed H → treeG stQ stA stG ops Hc t S H K →
      (rem = none → gT P ty w0 X Hc ops (fun k => boundB ms qs k = true) (qs.isEmpty = true) (FinT A K) f listed a H) ∧
      ∀ l, rem = some l → ∀ m, f = m + 1 → ∀ i ∈ l, gO P ty w0 X ops i (gT P ty w0 X Hc ops (fun k => boundB ms qs k = true) (qs.isEmpty = true) (FinT A K) m (listed.setIfInBounds i true)) a H := by
  have hbw : ∀ {k i : Nat}, boundB ms qs k = true → i ∈ qs → Waits ops k i := fun hk hi => hms _ _ (List.all_eq_true.1 hk _ hi)
  have rdy : ∀ {i : Nat} {listed : Array Bool}, (Region.ready .any ops listed).contains i = true → i ∈ Region.ready .any ops listed := fun h => by simpa using h
  have hFp : ∀ a H H', H.Perm H' → FinT A K a H → FinT A K a H' := fun a H H' hp ⟨L, S, H1, h1, h2, h3⟩ => ⟨L, S, H1, h1.trans hp, h2, h3⟩
  -- one way that may come now
  have way : ∀ (i : Nat) (kj : Bool) (t : OTree) (m : Nat) (listed : Array Bool) (a : Act) (S : σ) (H : List Res), i ∈ Region.ready .any ops listed → (kj || qs.isEmpty || anyBound ms qs (listed.setIfInBounds i true) ops.size) = true → A listed a S →
      (∀ a' S' H', A (listed.setIfInBounds i true) a' S' → Kp Hc (fun k => boundB ms qs k = true) (qs.isEmpty = true) (listed.setIfInBounds i true) H' → treeG stQ stA stG ops Hc t S' H' K → gT P ty w0 X Hc ops (fun k => boundB ms qs k = true) (qs.isEmpty = true) (FinT A K) m (listed.setIfInBounds i true) a' H') →
      (nthW ops i fun o => stG o S H fun S' H' => keepK kj Hc H' (treeG stQ stA stG ops Hc t S' H' K)) →
      gO P ty w0 X ops i (gT P ty w0 X Hc ops (fun k => boundB ms qs k = true) (qs.isEmpty = true) (FinT A K) m (listed.setIfInBounds i true)) a H := by
    intro i kj t m listed a S H hr hkj hF ih h
    obtain ⟨o, ho, h⟩ := nthW_spec h
    refine hG i o listed a S H _ _ ho hr hF h fun a' S' H' hF' hk => ?_
    obtain ⟨hk, hs⟩ := keepK_out hk
    refine ih a' S' H' hF' ?_ hk
    simp only [Bool.or_eq_true] at hkj
    rcases hkj with (hkj | hkj) | hkj
    · exact .inr (hs hkj)
    · exact .inl (.inl hkj)
    · exact .inl (.inr (anyBound_out hkj))
  intro t
  induction t with
  | done =>
    intro f listed rem a S H hok hrem hF hdc hkp h
    simp only [treeOk, Bool.and_eq_true, beq_iff_eq] at hok
    obtain ⟨⟨rfl, h2⟩, h3⟩ := hok
    refine ⟨fun _ => ⟨hkp, by simpa using h3, listed, S, H, List.Perm.refl _, hF, h⟩, fun l hl => ?_⟩
    rw [hl] at h2; cases h2
  | quiet i t ih =>
    intro f listed rem a S H hok hrem hF hdc hkp h
    cases f with
    | zero => simp [treeOk] at hok
    | succ f =>
      simp only [treeOk, Bool.and_eq_true, Bool.not_eq_true'] at hok
      obtain ⟨⟨⟨⟨⟨⟨h1, h2⟩, h3⟩, h4⟩, h5⟩, h6⟩, h7⟩ := hok
      refine ⟨fun _ => ?_, fun l hl => by rw [hl] at h1; cases h1⟩
      obtain ⟨o, ho, h⟩ := nthW_spec h
      have hr := rdy h3
      obtain ⟨v, S', hy, hF', hk⟩ := hQ i o listed a S _ H _ ho hr hF h
      rw [isAt_of ho] at h2
      have hiq : i ∈ qs := by simpa using h5
      have hkp' : Kp Hc (fun k => boundB ms qs k = true) (qs.isEmpty = true) (listed.setIfInBounds i true) H := by
        rcases hkp with (he | ⟨k, hbk, hl⟩) | hs
        · exact .inl (.inl he)
        · exact .inl (.inr ⟨k, hbk, getD_set_true hl⟩)
        · exact .inr hs
      refine firstQ ho (by simp [h2]) hsel (fun listed' H' hdc' hun hk' => ?_) f listed a H hdc (Region.free_spec ho h4) hr hy hkp (.inl (by simp [h6])) ((ih f _ none _ S' H h7 (fun l hl => by cases hl) hF' (hdc.set hr) hkp' hk).1 rfl)
      rcases hk' with (he | ⟨k, hbk, hl⟩) | hs
      · exfalso
        cases qs with
        | nil => cases hiq
        | cons => simp at he
      · exfalso
        have hw := hbw hbk hiq
        cases hko : ops[k]? with
        | none => cases hw <;> simp_all
        | some ok => exact hun (reach_listed hdc' hw ok hko (hdc' k ok hko hl))
      · exact hs
  | pure i t ih =>
    intro f listed rem a S H hok hrem hF hdc hkp h
    cases f with
    | zero => simp [treeOk] at hok
    | succ f =>
      simp only [treeOk, Bool.and_eq_true, Bool.not_eq_true'] at hok
      obtain ⟨⟨⟨⟨⟨h1, h2⟩, h3⟩, h4⟩, h6⟩, h7⟩ := hok
      refine ⟨fun _ => ?_, fun l hl => by rw [hl] at h1; cases h1⟩
      obtain ⟨o, ho, h⟩ := nthW_spec h
      have hr := rdy h3
      obtain ⟨v, S', hy, hF', hk⟩ := hQ i o listed a S _ H _ ho hr hF h
      rw [isAt_of ho] at h2
      have hkp' : Kp Hc (fun k => boundB ms qs k = true) (qs.isEmpty = true) (listed.setIfInBounds i true) H := by
        rcases hkp with (he | ⟨k, hbk, hl⟩) | hs
        · exact .inl (.inl he)
        · exact .inl (.inr ⟨k, hbk, getD_set_true hl⟩)
        · exact .inr hs
      have h6' : ¬ boundB ms qs i = true ∨ qs.isEmpty = true ∨ ∃ k, boundB ms qs k = true ∧ listed.getD k false = true := by
        simp only [Bool.or_eq_true, Bool.not_eq_true'] at h6
        rcases h6 with (h6 | h6) | h6
        · exact .inr (.inl h6)
        · exact .inl (by simp [h6])
        · exact .inr (.inr (anyBound_out h6))
      exact firstQ ho (by simp [h2]) hsel (fun listed' H' _ _ _ => SubL.nil) f listed a H hdc (Region.free_spec ho h4) hr hy hkp h6' ((ih f _ none _ S' H h7 (fun l hl => by cases hl) hF' (hdc.set hr) hkp' hk).1 rfl)
  | alloc i t ih =>
    intro f listed rem a S H hok hrem hF hdc hkp h
    cases f with
    | zero => simp [treeOk] at hok
    | succ f =>
      simp only [treeOk, Bool.and_eq_true] at hok
      obtain ⟨⟨⟨⟨⟨h1, h2⟩, h3⟩, h4⟩, h5⟩, h7⟩ := hok
      refine ⟨fun _ => ?_, fun l hl => by rw [hl] at h1; cases h1⟩
      obtain ⟨o, ho, h⟩ := nthW_spec h
      have hr := rdy h3
      obtain ⟨res, hres, hb⟩ := hA i o listed a S H _ ho hr hF h
      rw [isAt_of ho] at h2
      refine firstA hFp ho h2 f listed a H res hdc (Region.free_spec ho h4) (fun j oj hj hji hun => ?_) hr hres hkp (fun b => ?_)
      · have := List.all_eq_true.1 h5 j (by simpa using (Array.getElem?_eq_some_iff.1 hj).1)
        simp only [Bool.or_eq_true, beq_iff_eq, hji, hun, Bool.false_eq_true, false_or, isAt_of hj] at this
        rcases this with this | this
        · exact .inl this
        · exact .inr (hms _ _ this)
      · obtain ⟨S', hF', hk⟩ := hb b
        refine (ih f _ none _ S' _ h7 (fun l hl => by cases hl) hF' (hdc.set hr) ?_ hk).1 rfl
        rcases hkp with (he | ⟨k, hbk, hl⟩) | hs
        · exact .inl (.inl he)
        · exact .inl (.inr ⟨k, hbk, getD_set_true hl⟩)
        · exact .inr (hs.cons _)
  | last i kj t ih =>
    intro f listed rem a S H hok hrem hF hdc hkp h
    cases f with
    | zero => simp [treeOk] at hok
    | succ f =>
      simp only [treeOk, Bool.and_eq_true] at hok
      obtain ⟨⟨h1, h2⟩, h3⟩ := hok
      have h1' : rem.getD (Region.ready .any ops listed) = [i] := by simpa using h1
      have hr : i ∈ Region.ready .any ops listed := by
        cases rem with
        | none => simp only [Option.getD_none] at h1'; rw [h1']; exact List.mem_cons_self
        | some l => simp only [Option.getD_some] at h1'; subst h1'; exact hrem _ rfl i List.mem_cons_self
      have go := way i kj t f listed a S H hr h2 hF (fun a' S' H' hF' hk' ht => (ih f _ none a' S' H' h3 (fun l hl => by cases hl) hF' (hdc.set hr) hk' ht).1 rfl) h
      refine ⟨fun e => ?_, fun l hl m hm j hj => ?_⟩
      · subst e
        simp only [Option.getD_none] at h1'
        refine ⟨hkp, ⟨i, hr⟩, fun j hj => ?_⟩
        rw [h1'] at hj
        obtain rfl : j = i := by simpa using hj
        exact go
      · subst hl
        simp only [Option.getD_some] at h1'
        subst h1'
        obtain rfl : j = i := by simpa using hj
        obtain rfl : f = m := by omega
        exact go
  | alt i kj t r iht ihr =>
    intro f listed rem a S H hok hrem hF hdc hkp h
    cases f with
    | zero => simp [treeOk] at hok
    | succ f =>
      simp only [treeOk, Bool.and_eq_true] at hok
      obtain ⟨⟨⟨h1, h2⟩, h3⟩, h4⟩ := hok
      have hsub : ∀ j ∈ rem.getD (Region.ready .any ops listed), j ∈ Region.ready .any ops listed := by
        intro j hj
        cases rem with
        | none => simpa using hj
        | some l => exact hrem l rfl j (by simpa using hj)
      have hr : i ∈ Region.ready .any ops listed := hsub i (by simpa using h1)
      have go := way i kj t f listed a S H hr h2 hF (fun a' S' H' hF' hk' ht => (iht f _ none a' S' H' h3 (fun l hl => by cases hl) hF' (hdc.set hr) hk' ht).1 rfl) h.one
      have rest := (ihr (f + 1) listed _ a S H h4 (fun l hl j hj => by
        obtain rfl := Option.some.inj hl
        exact hsub j (List.mem_filter.1 hj).1) hF hdc hkp h.two).2 _ rfl f rfl
      have all : ∀ j ∈ rem.getD (Region.ready .any ops listed), gO P ty w0 X ops j (gT P ty w0 X Hc ops (fun k => boundB ms qs k = true) (qs.isEmpty = true) (FinT A K) f (listed.setIfInBounds j true)) a H := by
        intro j hj
        by_cases e : j = i
        · subst e; exact go
        · exact rest j (List.mem_filter.2 ⟨hj, by simpa using e⟩)
      refine ⟨fun e => ?_, fun l hl m hm j hj => ?_⟩
      · subst e
        exact ⟨hkp, ⟨i, hr⟩, fun j hj => all j (by simpa using hj)⟩
      · subst hl
        obtain rfl : f = m := by omega
        exact all j (by simpa using hj)
end


/-! ### Guards as conditions -/
section
variable {g : Nat → Option Nat} {a : Act} {S : Sl} {C : Cl} {done : Nat → Prop}
def holdsG (g : Nat → Option Nat) (a : Act) (ch : Ch) : Prop := ∀ j w, (j, w) ∈ ch → ∃ t, g j = some t ∧ a.tmps[t]? = some (.bool w)
def CAg (g : Nat → Option Nat) (a : Act) (C : Cl) : Prop := ∀ t ch v, (t, ch, v) ∈ C → (holdsG g a ch → a.tmps[t]? = some v) ∧ (¬ holdsG g a ch → a.tmps[t]? = some undef)
def CI (done : Nat → Prop) (ops : Array Oper) (C : Cl) : Prop := ∀ t ch v, (t, ch, v) ∈ C → (∃ i, done i ∧ (ops[i]?).bind (·.dst) = some t) ∧ ∀ j w, (j, w) ∈ ch → done j
theorem lookC_mem : ∀ {C : Cl} {t : Nat} {ch : Ch} {v : Value}, lookC C t = some (ch, v) → (t, ch, v) ∈ C
  | [], t, ch, v, h => by simp [lookC] at h
  | (k, c, u) :: r, t, ch, v, h => by
    simp only [lookC] at h
    split at h
    · rename_i e
      have e : k = t := by simpa using e
      subst e
      simp at h
      rw [h.1, h.2]
      exact List.mem_cons_self
    · exact List.mem_cons_of_mem _ (lookC_mem h)
theorem sameB_eq {a b : Bool} (h : sameB a b = true) : a = b := by cases a <;> cases b <;> simp_all [sameB]
theorem hasL_mem : ∀ {ch : Ch} {j : Nat} {w : Bool}, hasL ch j w = true → (j, w) ∈ ch
  | [], j, w, h => by simp [hasL] at h
  | (i, w') :: r, j, w, h => by
    simp only [hasL] at h
    split at h
    · rename_i e
      have e : i = j := by simpa using e
      subst e
      split at h
      · rename_i e; rw [sameB_eq e]; exact List.mem_cons_self
      · exact List.mem_cons_of_mem _ (hasL_mem h)
    · exact List.mem_cons_of_mem _ (hasL_mem h)
theorem subL_mem : ∀ {c ch : Ch}, subL c ch = true → ∀ j w, (j, w) ∈ c → (j, w) ∈ ch
  | [], ch, _, j, w, hm => by cases hm
  | (i, u) :: r, ch, h, j, w, hm => by
    simp only [subL] at h
    split at h
    · rename_i e
      rcases List.mem_cons.1 hm with hm | hm
      · cases hm; exact hasL_mem e
      · exact subL_mem h j w hm
    · cases h
theorem holdsG.sub {c ch : Ch} (h : holdsG g a ch) (hs : subL c ch = true) : holdsG g a c := fun j w hm => h j w (subL_mem hs j w hm)
theorem holdsG.subt {t : Nat} {w : Bool} {ch : Ch} (h : holdsG g a ch) (ht : a.tmps[t]? = some (.bool w)) : ∀ {c : Ch}, subLt g t w c ch = true → holdsG g a c
  | [], _, j, u, hm => by cases hm
  | (i, v) :: r, hs, j, u, hm => by
    simp only [subLt] at hs
    split at hs
    · rename_i e
      rcases List.mem_cons.1 hm with hm | hm
      · cases hm; exact h _ _ (hasL_mem e)
      · exact h.subt ht hs j u hm
    · split at hs
      · rename_i t' ht'
        split at hs
        · rename_i e1
          have e1 : t' = t := by simpa using e1
          subst e1
          split at hs
          · rename_i e2
            have e2 := sameB_eq e2
            subst e2
            rcases List.mem_cons.1 hm with hm | hm
            · cases hm; exact ⟨t', ht', ht⟩
            · exact h.subt ht hs j u hm
          · cases hs
        · cases hs
      · cases hs
theorem sure_agree (hA : Agree a S) {ch : Ch} (hh : holdsG g a ch) : ∀ {C : Cl}, CAg g a C → Agree a (sureS S ch C)
  | [], _ => hA
  | (t, c, v) :: r, hC => by
    have ih := sure_agree hA hh (C := r) (fun t ch v hm => hC t ch v (List.mem_cons_of_mem _ hm))
    simp only [sureS]
    split
    · rename_i e
      intro s u hu
      simp only [look] at hu
      split at hu
      · rename_i e2
        have e2 : t = s := by simpa using e2
        subst e2
        rw [← Option.some.inj hu]
        exact (hC t c v List.mem_cons_self).1 (hh.sub e)
      · exact ih s u hu
    · exact ih
theorem undef_bool {w : Bool} : undef ≠ Value.bool w := by simp [undef]
theorem hyp_of (hA : Agree a S) (hC : CAg g a C) : ∀ {ch : Ch}, holdsG g a ch → hypC g S C ch
  | [], _ => trivial
  | (j, w) :: r, hh => by
    refine ⟨?_, hyp_of hA hC (fun j w hm => hh j w (List.mem_cons_of_mem _ hm))⟩
    obtain ⟨t, ht, htw⟩ := hh j w List.mem_cons_self
    rw [ht]
    simp only [litP]
    split
    · rename_i b hb
      have := hA t _ hb
      rw [this] at htw
      simpa using htw
    · trivial
    · split
      · rename_i ch b hb
        have h1 := hC t _ _ (lookC_mem hb)
        by_cases hc : holdsG g a ch
        · rw [h1.1 hc] at htw; simpa using htw
        · rw [h1.2 hc] at htw; exact absurd (Option.some.inj htw) undef_bool
      · trivial
theorem boolK_out (hA : Agree a S) (hC : CAg g a C) {t : Nat} {k : Ch → Bool → Prop} {u : Prop} (h : boolK S C t k u) :
    (∃ ch b, k ch b ∧ (holdsG g a ch → a.tmps[t]? = some (.bool b)) ∧ (¬ holdsG g a ch → a.tmps[t]? = some undef) ∧ (ch = [] ∨ ∃ v, (t, ch, v) ∈ C)) ∨ (u ∧ ∃ vs, a.tmps[t]? = some (.tuple vs)) := by
  unfold boolK at h
  split at h
  · rename_i b hb
    exact .inl ⟨[], b, h, fun _ => hA t _ hb, fun hn => absurd (fun j w hm => by cases hm) hn, .inl rfl⟩
  · rename_i vs hv
    exact .inr ⟨h, vs, hA t _ hv⟩
  · exact h.elim
  · split at h
    · rename_i ch b hb
      have h1 := hC t _ _ (lookC_mem hb)
      exact .inl ⟨ch, b, h, h1.1, h1.2, .inr ⟨_, lookC_mem hb⟩⟩
    · exact h.elim
theorem eval_at {t : Nat} {v : Value} (h : a.tmps[t]? = some v) : a.eval (.tmp t) = v := by simp [Act.eval, Array.getD_eq_getD_getElem?, h]
theorem pickK_out (hA : Agree a S) (hC : CAg g a C) {ch : Ch} {o : Oper} {c x y : Operand} (ho : o.op = .pick c x y) {K : Value → Prop} (h : pickK g S C ch c x y K) :
    ∃ v, K v ∧ (holdsG g a ch → ∀ w, (execOp a.eval o).run P w = .ok (.value v) w) := by
  unfold pickK at h
  split at h
  · rename_i tc
    rcases boolK_out hA hC h with ⟨cc, b, h, h1, _, _⟩ | ⟨h, _⟩
    · split at h
      · rename_i hcc
        split at h
        · split at h
          · rename_i t
            rcases boolK_out hA hC h with ⟨cy, q, h, h3, _, _⟩ | ⟨h, _⟩
            · split at h
              · rename_i hs
                refine ⟨_, h, fun hh w => ?_⟩
                have hb := h1 (hh.sub hcc)
                have hbe := eval_at hb
                cases b with
                | true => simp [execOp, ho, hb, asBool, Act.eval]
                | false =>
                  have hq := h3 (hh.subt hb hs)
                  simp [execOp, ho, hb, asBool, Act.eval, hq]
              · exact h.elim
            · exact h.elim
          · rename_i q
            refine ⟨_, h, fun hh w => ?_⟩
            have hb := h1 (hh.sub hcc)
            have hbe := eval_at hb
            cases b <;> simp [execOp, ho, hb, asBool, Act.eval]
          · exact h.elim
        · rename_i t
          split at h
          · rcases boolK_out hA hC h with ⟨cx, p, h, h3, _, _⟩ | ⟨h, _⟩
            · split at h
              · rename_i hs
                refine ⟨_, h, fun hh w => ?_⟩
                have hb := h1 (hh.sub hcc)
                have hbe := eval_at hb
                cases b with
                | false => simp [execOp, ho, hb, asBool, Act.eval]
                | true =>
                  have hq := h3 (hh.subt hb hs)
                  simp [execOp, ho, hb, asBool, Act.eval, hq]
              · exact h.elim
            · exact h.elim
          · exact h.elim
        · split at h
          · refine ⟨_, h, fun hh w => ?_⟩
            have hb := h1 (hh.sub hcc)
            have hbe := eval_at hb
            cases b <;> simp [execOp, ho, hb, asBool, Act.eval]
          · exact h.elim
        · exact h.elim
      · exact h.elim
    · exact h.elim
  · exact h.elim

def Inj (ops : Array Oper) : Prop := ∀ (i j d : Nat), (ops[i]?).bind (·.dst) = some d → (ops[j]?).bind (·.dst) = some d → i = j
theorem distB_inj (h : distB ops = true) : Inj ops := by
  intro i j d hi hj
  have hil : i < ops.size := by
    rcases Nat.lt_or_ge i ops.size with h | h
    · exact h
    · simp [Array.getElem?_eq_none h] at hi
  have hjl : j < ops.size := by
    rcases Nat.lt_or_ge j ops.size with h | h
    · exact h
    · simp [Array.getElem?_eq_none h] at hj
  unfold distB at h
  have h1 := List.all_eq_true.1 h i (by simpa using hil)
  have h2 := List.all_eq_true.1 h1 j (by simpa using hjl)
  rw [hi, hj] at h2
  simpa using h2
theorem holdsG_put {i d : Nat} (hinj : Inj ops) (hi : (ops[i]?).bind (·.dst) = some d) (hn : ¬ done i) {ch : Ch} (hd : ∀ j w, (j, w) ∈ ch → done j) (v : Value) :
    holdsG (fun j => (ops[j]?).bind (·.dst)) (a.put (some d) v) ch ↔ holdsG (fun j => (ops[j]?).bind (·.dst)) a ch := by
  have key : ∀ j w, (j, w) ∈ ch → ∀ t, (ops[j]?).bind (·.dst) = some t → (a.put (some d) v).tmps[t]? = a.tmps[t]? := by
    intro j w hm t ht
    have hne : d ≠ t := by
      rintro rfl
      exact hn (hinj i j d hi ht ▸ hd j w hm)
    simp [Act.put, Array.getElem?_setIfInBounds_ne hne]
  constructor
  · intro h j w hm
    obtain ⟨t, ht, htw⟩ := h j w hm
    exact ⟨t, ht, by rw [← key j w hm t ht]; exact htw⟩
  · intro h j w hm
    obtain ⟨t, ht, htw⟩ := h j w hm
    exact ⟨t, ht, by rw [key j w hm t ht]; exact htw⟩
theorem CAg.put {i d : Nat} (hinj : Inj ops) (hi : (ops[i]?).bind (·.dst) = some d) (hn : ¬ done i) (hC : CAg (fun j => (ops[j]?).bind (·.dst)) a C) (hI : CI done ops C) (v : Value) : CAg (fun j => (ops[j]?).bind (·.dst)) (a.put (some d) v) C := by
  intro t ch u hm
  obtain ⟨⟨k, hk, hkt⟩, h2⟩ := hI t ch u hm
  have hne : d ≠ t := by
    rintro rfl
    exact hn (hinj i k d hi hkt ▸ hk)
  rw [holdsG_put hinj hi hn h2 v]
  have e : (a.put (some d) v).tmps[t]? = a.tmps[t]? := by simp [Act.put, Array.getElem?_setIfInBounds_ne hne]
  rw [e]
  exact hC t ch u hm
theorem CI.more {i : Nat} (hI : CI done ops C) : CI (fun k => done k ∨ k = i) ops C := fun t ch v hm => ⟨(hI t ch v hm).1.imp fun k hk => ⟨.inl hk.1, hk.2⟩, fun j w hj => .inl ((hI t ch v hm).2 j w hj)⟩

/-- What is known of slots, conditions too. -/
structure FrC (D : List Deferred) (ops : Array Oper) (n : Nat) (done : Nat → Prop) (a : Act) (S : Sl) (C : Cl) : Prop where
  fr : Fr D n a S
  cag : CAg (fun j => (ops[j]?).bind (·.dst)) a C
  ci : CI done ops C
theorem FrC.putN {i : Nat} {o : Oper} (h : FrC D ops n done a S C) (hd : o.dst = none) (v : Value) : FrC D ops n (fun k => done k ∨ k = i) (a.put o.dst v) S C := by
  rw [hd]; exact ⟨h.fr, h.cag, h.ci.more⟩
theorem FrC.putS {i d : Nat} {o : Oper} (h : FrC D ops n done a S C) (hinj : Inj ops) (ho : ops[i]? = some o) (hn : ¬ done i) (hd : o.dst = some d) (hdk : dOk n o.dst = true) (v : Value) : FrC D ops n (fun k => done k ∨ k = i) (a.put o.dst v) ((d, v) :: S) C := by
  have hi : (ops[i]?).bind (·.dst) = some d := by simp [ho, hd]
  rw [hd] at hdk ⊢
  exact ⟨h.fr.put hdk v, h.cag.put hinj hi hn h.ci v, h.ci.more⟩
/-- A slot with a condition. -/
theorem FrC.putC {i d : Nat} {o : Oper} (h : FrC D ops n done a S C) (hinj : Inj ops) (ho : ops[i]? = some o) (hn : ¬ done i) (hd : o.dst = some d) (hdk : dOk n o.dst = true) (hS : look S d = none) {ch : Ch} (hch : ∀ j w, (j, w) ∈ ch → done j) {v v' : Value}
    (h1 : holdsG (fun j => (ops[j]?).bind (·.dst)) a ch → v' = v) (h2 : ¬ holdsG (fun j => (ops[j]?).bind (·.dst)) a ch → v' = undef) : FrC D ops n (fun k => done k ∨ k = i) (a.put o.dst v') S ((d, ch, v) :: C) := by
  have hi : (ops[i]?).bind (·.dst) = some d := by simp [ho, hd]
  rw [hd] at hdk ⊢
  have hlt : d < a.tmps.size := by have := h.fr.sz; simp [dOk] at hdk; omega
  refine ⟨⟨fun t u hu => ?_, by rw [put_size]; exact h.fr.sz, by rw [put_defers]; exact h.fr.df⟩, fun t c u hm => ?_, fun t c u hm => ?_⟩
  · have hne : d ≠ t := by
      rintro rfl
      rw [hS] at hu
      cases hu
    simp only [Act.put, Array.getElem?_setIfInBounds_ne hne]
    exact h.fr.ag t u hu
  · rcases List.mem_cons.1 hm with e | hm
    · cases e
      rw [holdsG_put hinj hi hn hch v']
      refine ⟨fun hh => ?_, fun hh => ?_⟩
      · simp [Act.put, hlt, h1 hh]
      · simp [Act.put, hlt, h2 hh]
    · exact h.cag.put hinj hi hn h.ci v' t c u hm
  · rcases List.mem_cons.1 hm with e | hm
    · cases e
      exact ⟨⟨i, .inr rfl, hi⟩, fun j w hj => .inl (hch j w hj)⟩
    · exact h.ci.more t c u hm

/-- A guarded step: what its guard comes to. -/
theorem guard_out {o : Oper} {j t : Nat} {want : Bool} (hg : o.guard = some (j, want)) (htt : (ops[j]?).bind (·.dst) = some t) : Region.wanted o (yielded ops a.tmps) = true ↔ a.tmps[t]? = some (.bool want) := by
  have hy : yielded ops a.tmps j = match a.tmps[t]? with
    | some (.bool b) => some b
    | _ => none := by
    unfold yielded
    rw [htt]
    rfl
  simp only [Region.wanted, hg, hy]
  split
  · rename_i b hb
    rw [hb]
    simp
  · rename_i hne
    simp
    intro e
    exact hne _ e

theorem stepC_key {i : Nat} {o : Oper} {H Hi : List Res} (hty : TyOk P ty) (hinj : Inj ops) (ho : ops[i]? = some o) (hn : ¬ done i) (hdk : dOk n o.dst = true) (hF : FrC D ops n done a S C) (hdone : ∀ j w, o.guard = some (j, w) → done j)
    {op : Sl → (Value → List Res → Prop) → Prop} {K' : Sl → Cl → List Res → Prop} (h : stepC (fun j => (ops[j]?).bind (·.dst)) o S C op (fun S' k => quietW P ty w0 X o S' Hi k) H K') :
    (isA o = false ∧ ∃ v S' C', Yq P w0 X Hi ops o v a ∧ FrC D ops n (fun k => done k ∨ k = i) (a.put o.dst v) S' C' ∧ K' S' C' H) ∨
    (o.guard = none ∧ op S fun v H' => match o.dst with
      | some d => K' ((d, v) :: S) C H'
      | none => K' S C H') := by
  unfold stepC at h
  split at h
  · rename_i hg
    split at h
    · rename_i c x y hop
      split at h
      · rename_i d hd
        obtain ⟨v, hk, hv⟩ := pickK_out (P := P) hF.fr.ag hF.cag hop h
        refine .inl ⟨by simp [isA, hop], v, _, C, .inl ⟨by simp [Region.wanted, hg], fun w _ => .inl (hv (fun j w hm => by cases hm) w)⟩, hF.putS hinj ho hn hd hdk v, hk⟩
      · exact h.elim
    · exact .inr ⟨hg, h⟩
  · rename_i j want hg
    split at h
    · rename_i t htt
      have hnA : isA o = false := by simp [isA, hg]
      have htt : (ops[j]?).bind (·.dst) = some t := htt
      have hwt := guard_out (a := a) hg htt
      split at h
      · rename_i d hd
        split at h
        · rename_i hS
          rcases boolK_out hF.fr.ag hF.cag h with ⟨ch, b, h, h1, h2, h3⟩ | ⟨h, vs, hvs⟩
          · have hch : ∀ j' w, (j', w) ∈ (j, want) :: ch → done j' := by
              intro j' w hm
              rcases List.mem_cons.1 hm with e | hm
              · cases e; exact hdone j want hg
              · rcases h3 with rfl | ⟨v, hv⟩
                · cases hm
                · exact (hF.ci _ _ _ hv).2 j' w hm
            have hw1 : Region.wanted o (yielded ops a.tmps) = true → holdsG (fun j => (ops[j]?).bind (·.dst)) a ((j, want) :: ch) := by
              intro hw
              have ht := hwt.1 hw
              have hc : holdsG (fun j => (ops[j]?).bind (·.dst)) a ch := by
                by_cases hc : holdsG (fun j => (ops[j]?).bind (·.dst)) a ch
                · exact hc
                · rw [h2 hc] at ht; exact absurd (Option.some.inj ht) undef_bool
              intro j' w hm
              rcases List.mem_cons.1 hm with e | hm
              · cases e; exact ⟨t, htt, ht⟩
              · exact hc j' w hm
            have hw2 : ¬ Region.wanted o (yielded ops a.tmps) = true → ¬ holdsG (fun j => (ops[j]?).bind (·.dst)) a ((j, want) :: ch) := by
              intro hw hh
              obtain ⟨t', ht', htw⟩ := hh j want List.mem_cons_self
              have ht' : (ops[j]?).bind (·.dst) = some t' := ht'
              rw [htt] at ht'
              obtain rfl := Option.some.inj ht'
              exact hw (hwt.2 htw)
            have fin : ∀ v, K' S ((d, (j, want) :: ch, v) :: C) H → (holdsG (fun j => (ops[j]?).bind (·.dst)) a ((j, want) :: ch) → qAt P w0 X Hi o a v) → ∃ v S' C', Yq P w0 X Hi ops o v a ∧ FrC D ops n (fun k => done k ∨ k = i) (a.put o.dst v) S' C' ∧ K' S' C' H := by
              intro v hk hq
              by_cases hw : Region.wanted o (yielded ops a.tmps) = true
              · exact ⟨v, S, _, .inl ⟨hw, hq (hw1 hw)⟩, hF.putC hinj ho hn hd hdk hS hch (fun _ => rfl) (fun hh => absurd (hw1 hw) hh), hk⟩
              · exact ⟨undef, S, _, .inr ⟨by simpa using hw, rfl⟩, hF.putC hinj ho hn hd hdk hS hch (fun hh => absurd hh (hw2 hw)) (fun _ => rfl), hk⟩
            split at h
            · rename_i c x y hop
              obtain ⟨v, hk, hv⟩ := pickK_out (P := P) hF.fr.ag hF.cag hop h
              exact .inl ⟨hnA, fin v hk fun hh w _ => .inl (hv hh w)⟩
            · obtain ⟨v, hh, hk⟩ := h
              refine .inl ⟨hnA, fin v hk fun hH => ?_⟩
              obtain ⟨u, hvu, hu⟩ := quietW_q hty (hh (hyp_of hF.fr.ag hF.cag hH))
              cases hvu
              exact hu a (sure_agree hF.fr.ag hH hF.cag)
          · refine .inl ⟨hnA, undef, _, C, .inr ⟨?_, rfl⟩, hF.putS hinj ho hn hd hdk undef, h⟩
            cases hw : Region.wanted o (yielded ops a.tmps) with
            | false => rfl
            | true =>
              have := hwt.1 hw
              rw [hvs] at this
              simp at this
        · exact h.elim
      · exact h.elim
    · exact h.elim
theorem stepC_q {i : Nat} {o : Oper} {H Hi : List Res} (hty : TyOk P ty) (hinj : Inj ops) (ho : ops[i]? = some o) (hn : ¬ done i) (hdk : dOk n o.dst = true) (hF : FrC D ops n done a S C) (hdone : ∀ j w, o.guard = some (j, w) → done j)
    {K' : Sl → Cl → Prop} (h : stepC (fun j => (ops[j]?).bind (·.dst)) o S C (fun S' k => quietW P ty w0 X o S' Hi fun v => k v H) (fun S' k => quietW P ty w0 X o S' Hi k) H fun S' C' _ => K' S' C') :
    ∃ v S' C', Yq P w0 X Hi ops o v a ∧ FrC D ops n (fun k => done k ∨ k = i) (a.put o.dst v) S' C' ∧ K' S' C' := by
  rcases stepC_key hty hinj ho hn hdk hF hdone h with ⟨_, h⟩ | ⟨hg, h⟩
  · exact h
  · obtain ⟨v, hk, hv⟩ := quietW_q hty h
    have hy : Yq P w0 X Hi ops o v a := .inl ⟨by simp [Region.wanted, hg], hv a hF.fr.ag⟩
    cases hd : o.dst with
    | none => rw [hd] at hk; exact ⟨v, S, C, hy, hd ▸ hF.putN hd v, hk⟩
    | some d => rw [hd] at hk; exact ⟨v, _, C, hy, hd ▸ hF.putS hinj ho hn hd hdk v, hk⟩
theorem stepC_g {i : Nat} {o : Oper} {H : List Res} (hty : TyOk P ty) (hinj : Inj ops) (ho : ops[i]? = some o) (hn : ¬ done i) (hdk : dOk n o.dst = true) (hF : FrC D ops n done a S C) (hdone : ∀ j w, o.guard = some (j, w) → done j)
    {K' : Sl → Cl → List Res → Prop} {K : Act → List Res → Prop} (h : stepC (fun j => (ops[j]?).bind (·.dst)) o S C (fun S' k => opW P ty w0 X o S' H k) (fun S' k => quietW P ty w0 X o S' H k) H K')
    (hK : ∀ a' S' C' H', FrC D ops n (fun k => done k ∨ k = i) a' S' C' → K' S' C' H' → K a' H') : gO P ty w0 X ops i K a H := by
  have fin : ∀ (v : Value) (H' : List Res), (match o.dst with
      | some d => K' ((d, v) :: S) C H'
      | none => K' S C H') → K (a.put o.dst v) H' := by
    intro v H' hk
    cases hd : o.dst with
    | none => rw [hd] at hk; exact hK _ S C H' (hd ▸ hF.putN hd v) hk
    | some d => rw [hd] at hk; exact hK _ _ C H' (hd ▸ hF.putS hinj ho hn hd hdk v) hk
  have alloc : ∀ (hA : isA o = true) (h : opW P ty w0 X o S H fun v H' => match o.dst with
      | some d => K' ((d, v) :: S) C H'
      | none => K' S C H'), gO P ty w0 X ops i K a H := by
    intro hA h
    unfold gO
    simp only [ho]
    rw [if_pos hA]
    have hA' := hA
    unfold isA at hA'
    split at hA'
    · rename_i d e _ hdst hop
      unfold opW at h
      simp only [hop] at h
      split at h
      · rename_i ti hti
        exact ⟨fun b => .blk b ti.zero e, by simp [aRes, hop, hti], fun b => fin _ _ (h b)⟩
      · exact h.elim
    · rename_i d e x _ hdst hop
      unfold opW at h
      simp only [hop] at h
      split at h
      · rename_i v hx
        exact ⟨fun b => .blk b v.cells.toList e, by simp [aRes, hop, opd_eval hF.fr.ag hx], fun b => fin _ _ (h b)⟩
      · exact h.elim
    · cases hA'
  rcases stepC_key hty hinj ho hn hdk hF hdone h with ⟨hA, v, S', C', hy, hF', hk⟩ | ⟨hg, h⟩
  · exact hy.gO ho (by simp [hA]) (SubL.refl _) (hK _ _ _ _ hF' hk)
  · by_cases hA : isA o = true
    · exact alloc hA h
    · unfold gO
      simp only [ho]
      rw [if_neg hA, if_pos (by simp [Region.wanted, hg])]
      exact ⟨_, fun w hw => opW_run hty hF.fr.ag hw h, fun v H' hr => fin v H' hr⟩
end

theorem guardB_out (h : guardB ops = true) {i j : Nat} {w : Bool} {o : Oper} (ho : ops[i]? = some o) (hg : o.guard = some (j, w)) : j < i ∧ ∃ e ∈ o.after, Region.binds .any e = true ∧ e.on = j := by
  unfold guardB at h
  have h1 := List.all_eq_true.1 h i (by simpa using (Array.getElem?_eq_some_iff.1 ho).1)
  simp only [ho, Option.bind_some, hg, Option.map_some, Option.getD_some, Bool.and_eq_true] at h1
  refine ⟨by simpa using h1.1, ?_⟩
  obtain ⟨e, he, h2⟩ := Array.any_eq_true'.1 h1.2
  simp only [Bool.and_eq_true] at h2
  exact ⟨e, he, h2.1, by simpa using h2.2⟩
theorem opsC_sound (hty : TyOk P ty) (hinj : Inj ops) (hds : ∀ (i : Nat) (o : Oper), ops[i]? = some o → dOk n o.dst = true) : ∀ (l : List Oper) (k : Nat) (a : Act) (w : World) (S : Sl) (C : Cl) (H : List Res) (K : Sl → List Res → Prop),
    (∀ j, l[j]? = ops[k + j]?) → FrC D ops n (fun i => i < k) a S C → St w0 X H w → (∀ (i : Nat) (o : Oper) (j : Nat) (w : Bool), ops[i]? = some o → o.guard = some (j, w) → j < i) → opsC P ty w0 X (fun j => (ops[j]?).bind (·.dst)) l S C H K →
    (∀ a' w' S' H', Fr D n a' S' → St w0 X H' w' → K S' H' → Q .normal a' w') → wpOps P ops Q (List.range' k l.length) a w
  | [], k, a, w, S, C, H, K, hl, hF, hS, hgd, h, hK => by
    simp only [List.length_nil, List.range'_zero, wpOps]
    exact hK a w S H hF.fr hS h
  | o :: r, k, a, w, S, C, H, K, hl, hF, hS, hgd, h, hK => by
    have h0 : ops[k]? = some o := by simpa using (hl 0).symm
    have hr : ∀ j, r[j]? = ops[k + 1 + j]? := fun j => by have := hl (j + 1); simpa [Nat.add_assoc, Nat.add_comm 1 j] using this
    rw [List.length_cons, List.range'_succ, wpOps_cons]
    have h' : stepC (fun j => (ops[j]?).bind (·.dst)) o S C (fun S' k => opW P ty w0 X o S' H k) (fun S' k => quietW P ty w0 X o S' H k) H fun S' C' H' => opsC P ty w0 X (fun j => (ops[j]?).bind (·.dst)) r S' C' H' K := h
    have hgo := stepC_g (done := fun i => i < k) (K := fun a' H' => ∃ S' C', FrC D ops n (fun i => i < k + 1) a' S' C' ∧ opsC P ty w0 X (fun j => (ops[j]?).bind (·.dst)) r S' C' H' K) hty hinj h0 (Nat.lt_irrefl k) (hds k o h0) hF (fun j w hg => hgd k o j w h0 hg) h' (fun a' S' C' H' hF' hk => by
      refine ⟨S', C', ⟨hF'.fr, hF'.cag, fun t ch v hm => ?_⟩, hk⟩
      obtain ⟨⟨i, hi, hit⟩, h2⟩ := hF'.ci t ch v hm
      exact ⟨⟨i, by rcases hi with hi | hi <;> omega, hit⟩, fun j w hj => by rcases h2 j w hj with h3 | h3 <;> omega⟩)
    refine gO_wp hty h0 hgo hS fun a' H' w' ⟨S', C', hF', hk⟩ hS' => ?_
    exact opsC_sound hty hinj hds r (k + 1) a' w' S' C' H' K hr hF' hS' hgd hk hK

theorem drawW_sound (hty : TyOk P ty) (hm : P.follows .mixedOrders = true) {id : Nat} {a : Act} {w : World} {S : Sl} {K : Sl → List Res → Prop} (hok : opsOk n ops.toList = true) (hF : Fr D n a S) (hS : St w0 X H w)
    (h : DrawW P ty w0 X ops S H K) (hK : ∀ a' w' S' H', Fr D n a' S' → St w0 X H' w' → K S' H' → Q .normal a' w') : (Code.region id ops true).wp P Q a w := by
  have hms : ∀ j i, Nat.testBit ((masks ops.toList).getD j 0) i = true → Waits ops j i := masks_ok ops ops.toList [] [] rfl (fun j => by simp) (fun j i h => by simp at h)
  have hds : ∀ (i : Nat) (o : Oper), ops[i]? = some o → dOk n o.dst = true := fun i o ho => by
    have := List.all_eq_true.1 hok o (by
      have := Array.mem_of_getElem? ho
      simpa using this)
    exact this
  have hdc : DC ops (Array.replicate ops.size false) := fun j o ho hj => by
    have := (Array.getElem?_eq_some_iff.1 ho).1
    simp [this] at hj
  refine wp_region_any hm ?_
  cases h with
  | mk Hc t hd hsub h =>
    simp only [drawOk, Bool.and_eq_true] at hd
    obtain ⟨hns, hd⟩ := hd
    have hsel := Region.noSelect_spec hns
    have hG := (tree_sound (A := fun _ a S => Fr D n a S) (σ := Sl) (K := K) hsel hms
      (fun i o listed a s Hi H K' ho _ hA h => stepW_q hty ho (hds i o ho) hA h)
      (fun i o listed a s H K' ho _ hA h => allocW_a (hds i o ho) hA h)
      (fun i o listed a s H K' K ho _ hA h hk => stepW_g hty ho (hds i o ho) hA h hk)
      t ops.size (Array.replicate ops.size false) none a S H hd (fun l hl => by cases hl) hF hdc (.inr hsub) h).1 rfl
    refine gT_sound (Q := Q) hty (fun a H w hf hw => ?_) ops.size _ a H { w with drawn := w.drawn + 1 } hG (hS.drew _)
    obtain ⟨_, S', H1, hp, hF', hk⟩ := hf
    exact hK a w S' H1 hF' (hw.perm hp) hk
  | mkC Hc t hd dist hsub h =>
    simp only [drawOk, Bool.and_eq_true] at hd
    obtain ⟨hns, hd⟩ := hd
    have hsel := Region.noSelect_spec hns
    simp only [Bool.and_eq_true] at dist
    have hinj := distB_inj dist.1
    have dn : ∀ {i : Nat} {o : Oper} {listed : Array Bool}, ops[i]? = some o → i ∈ Region.ready .any ops listed → ∀ j w, o.guard = some (j, w) → listed.getD j false = true := by
      intro i o listed ho hr j w hg
      obtain ⟨_, o', ho', hall⟩ := mem_ready.1 hr
      rw [ho] at ho'
      obtain rfl := Option.some.inj ho'
      obtain ⟨_, e, he, hb, hej⟩ := guardB_out dist.2 ho hg
      rw [← hej]
      exact hall e he hb
    have up : ∀ {i : Nat} {listed : Array Bool} {a : Act} {S : Sl} {C : Cl}, i ∈ Region.ready .any ops listed → FrC D ops n (fun k => listed.getD k false = true ∨ k = i) a S C → FrC D ops n (fun k => (listed.setIfInBounds i true).getD k false = true) a S C := by
      intro i listed a S C hr hF
      have hlt : i < listed.size := by
        have h0 := (mem_ready.1 hr).1
        rcases Nat.lt_or_ge i listed.size with h' | h'
        · exact h'
        · simp [Array.getElem?_eq_none h'] at h0
      refine ⟨hF.fr, hF.cag, fun t ch v hm => ?_⟩
      have mv : ∀ k, (listed.getD k false = true ∨ k = i) → (listed.setIfInBounds i true).getD k false = true := by
        intro k hk
        rcases hk with hk | rfl
        · exact getD_set_true hk
        · simp [hlt]
      obtain ⟨⟨k, hk, hkt⟩, h2⟩ := hF.ci t ch v hm
      exact ⟨⟨k, mv k hk, hkt⟩, fun j w hj => mv j (h2 j w hj)⟩
    have hG := (tree_sound (A := fun listed a s => FrC D ops n (fun k => listed.getD k false = true) a s.1 s.2) (σ := Sl × Cl) (K := fun s H' => K s.1 H') hsel hms
      (fun i o listed a s Hi H K' ho hr hA h => by
        obtain ⟨v, S', C', hy, hF', hk⟩ := stepC_q (K' := fun S' C' => K' (S', C')) hty hinj ho (ready_unlisted hr) (hds i o ho) hA (dn ho hr) h
        exact ⟨v, (S', C'), hy, up hr hF', hk⟩)
      (fun i o listed a s H K' ho hr hA h => by
        have hA' := hA
        have h' := h
        unfold allocW at h
        split at h
        · rename_i d e hdst hop
          split at h
          · rename_i ti hti
            exact ⟨fun b => .blk b ti.zero e, by simp [aRes, hop, hti], fun b => ⟨((d, _) :: s.1, s.2), up hr (hA.putS hinj ho (ready_unlisted hr) hdst (hds i o ho) _), h b⟩⟩
          · exact h.elim
        · rename_i d e x hdst hop
          split at h
          · rename_i v hx
            exact ⟨fun b => .blk b v.cells.toList e, by simp [aRes, hop, opd_eval hA.fr.ag hx], fun b => ⟨((d, _) :: s.1, s.2), up hr (hA.putS hinj ho (ready_unlisted hr) hdst (hds i o ho) _), h b⟩⟩
          · exact h.elim
        · exact h.elim)
      (fun i o listed a s H K' K ho hr hA h hk => stepC_g hty hinj ho (ready_unlisted hr) (hds i o ho) hA (dn ho hr) h (fun a' S' C' H' hF' hk' => hk a' (S', C') H' (up hr hF') hk'))
      t ops.size (Array.replicate ops.size false) none a (S, []) H hd (fun l hl => by cases hl) ⟨hF, fun t ch v hm => (by cases hm), fun t ch v hm => (by cases hm)⟩ hdc (.inr hsub) h).1 rfl
    refine gT_sound (Q := Q) hty (fun a H w hf hw => ?_) ops.size _ a H { w with drawn := w.drawn + 1 } hG (hS.drew _)
    obtain ⟨_, S', H1, hp, hF', hk⟩ := hf
    exact hK a w S'.1 H1 hF'.fr (hw.perm hp) hk
end

/-- What the code's exits say, of slots and memory. -/
def Holds (D : List Deferred) (n : Nat) (w0 : World) (X : List Nat) (Q : Ex → Sl → List Res → Prop) (e : Exit) (a : Act) (w : World) : Prop :=
  match e with
  | .normal => ∃ S H, Fr D n a S ∧ St w0 X H w ∧ Q .normal S H
  | .exit i => ∃ S H, Fr D n a S ∧ St w0 X H w ∧ Q (.exit i) S H
  | .ret => ∃ S H, Fr D n a S ∧ St w0 X H w ∧ Q .ret S H
  | _ => False

theorem codeW_sound (hty : TyOk P ty) (hm : P.follows .mixedOrders = true) {n : Nat} : ∀ (c : Code) (Q : Ex → Sl → List Res → Prop) (a : Act) (w : World) (S : Sl) (H : List Res), codeOk n c = true → Fr D n a S → St w0 X H w → codeW P ty w0 X c Q S H → c.wp P (Holds D n w0 X Q) a w
  | .skip, Q, a, w, S, H, hok, hF, hS, h => wp_skip ⟨S, H, hF, hS, h⟩
  | .ret, Q, a, w, S, H, hok, hF, hS, h => wp_ret ⟨S, H, hF, hS, h⟩
  | .exit i, Q, a, w, S, H, hok, hF, hS, h => wp_exit ⟨S, H, hF, hS, h⟩
  | .seq x y, Q, a, w, S, H, hok, hF, hS, h => by
    simp only [codeOk, Bool.and_eq_true] at hok
    have plain : codeW P ty w0 X x (fun e S' H' => match e with
        | .normal => codeW P ty w0 X y Q S' H'
        | .exit i => Q (.exit i) S' H'
        | .ret => Q .ret S' H') S H → (Code.seq x y).wp P (Holds D n w0 X Q) a w := by
      intro h
      refine wp_seq (wp_mono (codeW_sound hty hm x _ a w S H hok.1 hF hS h) ?_)
      intro e a' w' he
      cases e with
      | normal =>
        obtain ⟨S', H', hF', hS', h'⟩ := he
        exact codeW_sound hty hm y Q a' w' S' H' hok.2 hF' hS' h'
      | exit i => exact he
      | ret => exact he
      | goto l => exact he.elim
      | panic ch => exact he.elim
      | outgrown => exact he.elim
    simp only [codeW] at h
    split at h
    · exact plain h
    · cases h with
      | go h => exact plain h
      | cut σ I h hy =>
        refine wp_seq (wp_mono (codeW_sound hty hm x _ a w S H hok.1 hF hS h) ?_)
        intro e a' w' he
        cases e with
        | normal =>
          obtain ⟨S', H', hF', hS', s, S1, H1, hI, hs, hent⟩ := he
          exact codeW_sound hty hm y Q a' w' S1 H1 hok.2 ⟨hF'.ag.sub hs, hF'.sz, hF'.df⟩ (hent _ hS') (hy s S1 H1 hI)
        | exit i => exact he
        | ret => exact he
        | goto l => exact he.elim
        | panic ch => exact he.elim
        | outgrown => exact he.elim
  | .cond c x y, Q, a, w, S, H, hok, hF, hS, h => by
    simp only [codeOk, Bool.and_eq_true] at hok
    simp only [codeW] at h
    split at h
    · rename_i t
      split at h
      · rename_i b hb
        have hev : a.eval (.tmp t) = .bool b := opd_eval hF.ag (by simpa [opd] using hb)
        refine wp_cond_split hev (fun hbt => ?_) (fun hbf => ?_)
        · exact codeW_sound hty hm x Q a w _ H hok.1 ⟨hF.ag.again (by rw [hb, hbt]), hF.sz, hF.df⟩ hS (h.1 hbt)
        · exact codeW_sound hty hm y Q a w _ H hok.2 ⟨hF.ag.again (by rw [hb, hbf]), hF.sz, hF.df⟩ hS (h.2 hbf)
      · exact h.elim
    · rename_i b
      have hev : a.eval (.const (.bool b)) = .bool b := rfl
      refine wp_cond_split hev (fun hbt => ?_) (fun hbf => ?_)
      · exact codeW_sound hty hm x Q a w _ H hok.1 hF hS (h.1 hbt)
      · exact codeW_sound hty hm y Q a w _ H hok.2 hF hS (h.2 hbf)
    · exact h.elim
  | .block i c, Q, a, w, S, H, hok, hF, hS, h => by
    simp only [codeOk] at hok
    refine wp_block (wp_mono (codeW_sound hty hm c _ a w S H hok hF hS h) ?_)
    intro e a' w' he
    cases e with
    | normal => exact he
    | exit j =>
      obtain ⟨S', H', hF', hS', h'⟩ := he
      simp only [Exit.inBlock]
      by_cases e : j = i
      · subst e
        simp at h'
        rw [if_pos rfl]
        exact ⟨S', H', hF', hS', h'⟩
      · have : Nat.beq j i = false := by cases hb : Nat.beq j i <;> simp_all
        simp only [this] at h'
        rw [if_neg e]
        exact ⟨S', H', hF', hS', h'⟩
    | ret => exact he
    | goto l => exact he.elim
    | panic ch => exact he.elim
    | outgrown => exact he.elim
  | .loop c, Q, a, w, S, H, hok, hF, hS, h => by
    simp only [codeOk] at hok
    obtain ⟨σ, I, μ, s, S1, H1, hI, hs, hh, hround⟩ := h
    refine wp_loop_ghost (fun m a w => ∃ s S1 H1, μ s = m ∧ I s S1 H1 ∧ Fr D n a S1 ∧ St w0 X H1 w) (μ s) ⟨s, S1, H1, rfl, hI, ⟨hF.ag.sub hs, hF.sz, hF.df⟩, hh w hS⟩ ?_
    rintro m a w ⟨s, S1, H1, rfl, hI, hF, hS⟩
    refine wp_mono (codeW_sound hty hm c _ a w S1 H1 hok hF hS (hround s S1 H1 hI)) ?_
    intro e a' w' he
    cases e with
    | normal =>
      obtain ⟨S', H', hF', hS', s', S2, H2, hlt, hI', hs2, hh2⟩ := he
      exact ⟨μ s', hlt, s', S2, H2, rfl, hI', ⟨hF'.ag.sub hs2, hF'.sz, hF'.df⟩, hh2 _ hS'⟩
    | exit i => exact he
    | ret => exact he
    | goto l => exact he.elim
    | panic ch => exact he.elim
    | outgrown => exact he.elim
  | .region id ops draw, Q, a, w, S, H, hok, hF, hS, h => by
    simp only [codeOk] at hok
    cases draw with
    | false =>
      refine wp_region ?_
      have split : opsW P ty w0 X (fun j => (ops[j]?).bind (·.dst)) ops.toList S H (fun S' H' => Q .normal S' H') → wpOps P ops (Holds D n w0 X Q) (List.range ops.size) a w := fun h => by
        have := opsW_sound hty (n := n) (ops := ops) (Q := Holds D n w0 X Q) ops.toList 0 a w S H _ (by simp) hok hF hS h (fun a' w' S' H' h1 h2 h3 => ⟨S', H', h1, h2, h3⟩)
        simpa [List.range_eq_range'] using this
      simp only [codeW] at h
      split at h
      · exact split h
      · cases h with
        | split h => exact split h
        | mk dist h =>
          simp only [Bool.and_eq_true] at dist
          have hds : ∀ (i : Nat) (o : Oper), ops[i]? = some o → dOk n o.dst = true := fun i o ho => by
            have := List.all_eq_true.1 hok o (by
              have := Array.mem_of_getElem? ho
              simpa using this)
            exact this
          have := opsC_sound (Q := Holds D n w0 X Q) hty (distB_inj dist.1) hds ops.toList 0 a w S [] H _ (by simp) ⟨hF, fun t ch v hm => (by cases hm), fun t ch v hm => (by cases hm)⟩ hS (fun i o j w ho hg => (guardB_out dist.2 ho hg).1) h (fun a' w' S' H' h1 h2 h3 => ⟨S', H', h1, h2, h3⟩)
          simpa [List.range_eq_range'] using this
    | true => exact drawW_sound hty hm (n := n) (Q := Holds D n w0 X Q) hok hF hS h (fun a' w' S' H' h1 h2 h3 => ⟨S', H', h1, h2, h3⟩)
  | .rangeFunc _ _ _ _, _, _, _, _, _, _, _, _, h => h.elim
  | .scope _, _, _, _, _, _, _, _, _, h => h.elim
  | .label _, _, _, _, _, _, _, _, _, h => h.elim
  | .goto _, _, _, _, _, _, _, _, _, h => h.elim
  | .refuse _, _, _, _, _, _, _, _, _, h => h.elim
end
end Go.Proofs.Ytgjdmlgdgbehoaa.Am
