/- That the function of the code tells the truth: code. -/
import Derived.Test.YticobcojmpakfaaAm6
import Derived.Test.YticobcojmpakfaaAm7
import Derived.Deep.LoopGhost
set_option linter.unusedVariables false
set_option linter.unusedSimpArgs false
namespace Go.Proofs.Yticobcojmpakfaa.Am
open Go Go.RowKit

section
variable {P : Program} {ty : Nat → Option TD} {w0 : World} {X : List Nat}

theorem quietW_q (hty : TyOk P ty) {o : Oper} {S : Sl} {H : List Res} {K : Value → Prop} (h : quietW P ty w0 X o S H K) : ∃ v, K v ∧ ∀ a, Agree a S → qAt P w0 X H o a v := by
  have pure : pureW P ty w0 X o S H K → ∃ v, K v ∧ ∀ a, Agree a S → qAt P w0 X H o a v := fun h => by
    obtain ⟨v, h1, h2⟩ := pureW_run hty h
    exact ⟨v, h1, fun a hA w hw => .inl (h2 a w hA hw)⟩
  unfold quietW at h
  split at h
  · rename_i c ho
    split at h
    · rename_i fo hc
      split at h
      · rename_i f first caps args hf hargs
        rw [appK_eq, appK_eq, ← List.append_assoc] at h
        obtain ⟨v, ⟨⟨fn, hfn, hn, hb⟩, hcall⟩, hk⟩ := h
        refine ⟨v, hk, fun a hA w hw => .inr ⟨f, ⟨first.toList ++ args ++ caps.toList⟩, ?_, hcall w hw⟩⟩
        have e1 : c.args.map a.eval = ⟨args⟩ := by apply Array.ext'; simpa using opds_eval hA hargs
        have e2 : first ++ (⟨args⟩ : Array Value) ++ caps = ⟨first.toList ++ args ++ caps.toList⟩ := by apply Array.ext'; simp
        simp only [execOp, ho, resolve, hc, opd_eval hA hf, Deferred.ofValue, Sem.run_bind, Sem.run_pure, Result.andThen_ok, invoke, e1, e2]
        exact call_run hfn hn hb w
      · exact h.elim
    · exact pure h
  · exact pure h

section
variable {H : List Res} {ops : Array Oper} {Q : Exit → Act → World → Prop} {nF n : Nat}

def notA (ops : Array Oper) (i : Nat) : Bool := !((ops[i]?).map isA).getD false
def yesA (ops : Array Oper) (i : Nat) : Bool := ((ops[i]?).map isA).getD false

theorem lexOrd_cons {i : Nat} {r : List Nat} {listed : Array Bool} (h : lexOrd ops nF (i :: r) listed = true) : i < nF ∧ i ∈ Region.ready .any ops listed ∧ Region.free .any ops listed i = true ∧ lexOrd ops nF r (listed.setIfInBounds i true) = true := by
  simp only [lexOrd, Bool.and_eq_true] at h
  obtain ⟨⟨⟨h1, h2⟩, h3⟩, h4⟩ := h
  exact ⟨by simpa using h1, by simpa using h2, h3, h4⟩

/-- What is listed. -/
structure Lst (ops : Array Oper) (nF : Nat) (listed : Array Bool) : Prop where
  size : listed.size = ops.size
  tail : ∀ j, nF ≤ j → j < ops.size → listed.getD j true = false
  dc : DC ops listed
theorem Lst.set {listed : Array Bool} (h : Lst ops nF listed) {i : Nat} (hi : i < nF) (hr : i ∈ Region.ready .any ops listed) : Lst ops nF (listed.setIfInBounds i true) :=
  ⟨by simp [h.size], fun j hj hs => by rw [getD_set_ne true (by omega)]; exact h.tail j hj hs, h.dc.set hr⟩

theorem quiets_sound (hty : TyOk P ty) (ht : Tails ops nF) (hsel : ∀ (j : Nat) (o : Oper) cs b, ops[j]? = some o → o.op ≠ .select cs b) {Fin : Array Bool → Act → List Res → Prop} {ar : List Nat} :
    ∀ (l : List Oper) (k : Nat) (listed : Array Bool) (a : Act) (S : Sl) (K : Sl → Prop), (∀ j, j < l.length → l[j]? = ops[k + j]?) → k + l.length = nF → opsOk n l = true → Fr n a S →
      quietsW P ty w0 X (fun j => (ops[j]?).bind (·.dst)) l S H K → lexOrd ops nF (((List.range' k l.length).filter (notA ops)) ++ ar) listed = true → Lst ops nF listed →
      (∀ j oj, ops[j]? = some oj → j < k → listed.getD j true = false → isA oj = true) →
      (∀ listed' a' S', Fr n a' S' → K S' → lexOrd ops nF ar listed' = true → Lst ops nF listed' → (∀ j oj, ops[j]? = some oj → j < nF → listed'.getD j true = false → isA oj = true) → gAny P ty w0 X H ops nF Fin ar.length listed' a' []) →
      gAny P ty w0 X H ops nF Fin (((List.range' k l.length).filter (notA ops)) ++ ar).length listed a []
  | [], k, listed, a, S, K, hl, hk, hok, hF, h, hlex, hL, hall, hK => by
    simp only [List.length_nil, List.range'_zero, List.filter_nil, List.nil_append] at *
    exact hK listed a S hF h hlex hL (by rw [← hk]; simpa using hall)
  | o :: r, k, listed, a, S, K, hl, hk, hok, hF, h, hlex, hL, hall, hK => by
    have h0 : ops[k]? = some o := by simpa using (hl 0 (by simp)).symm
    have hr : ∀ j, j < r.length → r[j]? = ops[k + 1 + j]? := fun j hj => by have := hl (j + 1) (by simp; omega); simpa [Nat.add_assoc, Nat.add_comm 1 j] using this
    have hk' : k + 1 + r.length = nF := by simp at hk; omega
    simp only [opsOk, List.all_cons, Bool.and_eq_true] at hok
    obtain ⟨hd, hok'⟩ := hok
    rw [List.length_cons, List.range'_succ] at hlex ⊢
    by_cases hA : isA o = true
    · have hn : notA ops k = false := by simp [notA, h0, hA]
      rw [List.filter_cons_of_neg (by simp [hn])] at hlex ⊢
      simp only [quietsW, hA] at h
      refine quiets_sound hty ht hsel r (k + 1) listed a S K hr hk' hok' hF h hlex hL (fun j oj hj hjk hun => ?_) hK
      rcases Nat.lt_or_ge j k with h1 | h1
      · exact hall j oj hj h1 hun
      · obtain rfl : j = k := by omega
        rw [h0] at hj
        obtain rfl : o = oj := by simpa using hj
        exact hA
    · have hn : notA ops k = true := by simp [notA, h0, hA]
      rw [List.filter_cons_of_pos hn] at hlex ⊢
      rw [List.cons_append, List.length_cons]
      rw [List.cons_append] at hlex
      obtain ⟨hkF, hrd, hfree, hlex'⟩ := lexOrd_cons hlex
      have hA' : isA o = false := by simpa using hA
      simp only [quietsW, hA'] at h
      have step : ∀ (v : Value) (S' : Sl), Fr n a S' → Yq P w0 X H ops o v a → (match o.dst with
          | some d => quietsW P ty w0 X (fun j => (ops[j]?).bind (·.dst)) r ((d, v) :: S') H K
          | none => quietsW P ty w0 X (fun j => (ops[j]?).bind (·.dst)) r S' H K) → gAny P ty w0 X H ops nF Fin ((((List.range' (k + 1) r.length).filter (notA ops)) ++ ar).length + 1) listed a [] := by
        intro v S' hF' hy hq
        refine firstQ ht h0 hkF hA hsel _ listed a [] hL.dc (Region.free_spec h0 hfree) hrd hy ?_
        have hall' : ∀ j oj, ops[j]? = some oj → j < k + 1 → (listed.setIfInBounds k true).getD j true = false → isA oj = true := fun j oj hj hjk hun => by
          by_cases e : k = j
          · subst e
            exfalso
            have hlt : k < listed.size := by rw [hL.size]; exact (Array.getElem?_eq_some_iff.1 h0).1
            simp [hlt] at hun
          · rw [getD_set_ne true e] at hun
            exact hall j oj hj (by omega) hun
        cases hdst : o.dst with
        | none =>
          rw [hdst] at hq
          exact quiets_sound hty ht hsel r (k + 1) _ a S' K hr hk' hok' hF' hq hlex' (hL.set hkF hrd) hall' hK
        | some d =>
          rw [hdst] at hq hd
          exact quiets_sound hty ht hsel r (k + 1) _ _ _ K hr hk' hok' (hF'.put hd v) hq hlex' (hL.set hkF hrd) hall' hK
      split at h
      · rename_i hg
        obtain ⟨v, hq, hv⟩ := quietW_q hty h
        exact step v S hF (.inl ⟨by simp [Region.wanted, hg], hv a hF.ag⟩) hq
      · rename_i j want hg
        split at h
        · rename_i t htt
          split at h
          · rename_i b hb
            have hy : yielded ops a.tmps j = some b := by
              unfold yielded
              rw [htt]
              simp [hF.ag t _ hb]
            by_cases hbw : b = want
            · have hF2 : Fr n a ((t, .bool want) :: S) := ⟨hF.ag.again (by rw [hb, hbw]), hF.sz, hF.df⟩
              obtain ⟨v, hq, hv⟩ := quietW_q hty (h.1 hbw)
              exact step v _ hF2 (.inl ⟨by simp [Region.wanted, hg, hy, hbw], hv a hF2.ag⟩) hq
            · have hbn : b = !want := by cases b <;> cases want <;> simp_all
              have hF2 : Fr n a ((t, .bool !want) :: S) := ⟨hF.ag.again (by rw [hb, hbn]), hF.sz, hF.df⟩
              exact step undef _ hF2 (.inr ⟨by simp [Region.wanted, hg, hy]; exact hbw, rfl⟩) (h.2 hbn)
          · rename_i hu
            have hy : yielded ops a.tmps j = none := by
              unfold yielded
              rw [htt]
              simp [hF.ag t _ hu]
            exact step undef S hF (.inr ⟨by simp [Region.wanted, hg, hy], rfl⟩) h
          · exact h.elim
        · exact h.elim

theorem allocs_sound (hty : TyOk P ty) (ht : Tails ops nF) {Fin : Array Bool → Act → List Res → Prop} (hFp : ∀ listed a B B', B.Perm B' → Fin listed a B → Fin listed a B') :
    ∀ (l : List Oper) (k : Nat) (listed : Array Bool) (a : Act) (S : Sl) (B : List Res) (K : Sl → List Res → Prop), (∀ j, j < l.length → l[j]? = ops[k + j]?) → k + l.length = nF → opsOk n l = true → Fr n a S →
      allocsW ty l S (B ++ H) K → lexOrd ops nF ((List.range' k l.length).filter (yesA ops)) listed = true → Lst ops nF listed →
      (∀ j oj, ops[j]? = some oj → j < nF → listed.getD j true = false → isA oj = true) →
      (∀ listed' a' S' B', Fr n a' S' → K S' (B' ++ H) → lexOrd ops nF [] listed' = true → Lst ops nF listed' → gAny P ty w0 X H ops nF Fin 0 listed' a' B') →
      gAny P ty w0 X H ops nF Fin ((List.range' k l.length).filter (yesA ops)).length listed a B
  | [], k, listed, a, S, B, K, hl, hk, hok, hF, h, hlex, hL, hall, hK => hK listed a S B hF h hlex hL
  | o :: r, k, listed, a, S, B, K, hl, hk, hok, hF, h, hlex, hL, hall, hK => by
    have h0 : ops[k]? = some o := by simpa using (hl 0 (by simp)).symm
    have hr : ∀ j, j < r.length → r[j]? = ops[k + 1 + j]? := fun j hj => by have := hl (j + 1) (by simp; omega); simpa [Nat.add_assoc, Nat.add_comm 1 j] using this
    have hk' : k + 1 + r.length = nF := by simp at hk; omega
    simp only [opsOk, List.all_cons, Bool.and_eq_true] at hok
    obtain ⟨hd, hok'⟩ := hok
    rw [List.length_cons, List.range'_succ] at hlex ⊢
    by_cases hA : isA o = true
    · have hn : yesA ops k = true := by simp [yesA, h0, hA]
      rw [List.filter_cons_of_pos hn] at hlex ⊢
      rw [List.length_cons]
      obtain ⟨hkF, hrd, hfree, hlex'⟩ := lexOrd_cons hlex
      simp only [allocsW, hA] at h
      have hall' : ∀ j oj, ops[j]? = some oj → j < nF → (listed.setIfInBounds k true).getD j true = false → isA oj = true := fun j oj hj hjk hun => by
        by_cases e : k = j
        · subst e
          rw [h0] at hj
          obtain rfl : o = oj := by simpa using hj
          exact hA
        · rw [getD_set_ne true e] at hun
          exact hall j oj hj hjk hun
      split at h
      · rename_i d e hdst hop
        split at h
        · rename_i i hi
          refine firstA hFp ht h0 hkF hA _ listed a B (fun b => .blk b i.zero e) hL.dc (Region.free_spec h0 hfree) hall hrd (by simp [aRes, hop, hi]) (fun b => ?_)
          rw [hdst] at hd ⊢
          exact allocs_sound hty ht hFp r (k + 1) _ _ _ (.blk b i.zero e :: B) K hr hk' hok' (hF.put hd _) (h b) hlex' (hL.set hkF hrd) hall' hK
        · exact h.elim
      · rename_i d e x hdst hop
        split at h
        · rename_i v hx
          refine firstA hFp ht h0 hkF hA _ listed a B (fun b => .blk b v.cells.toList e) hL.dc (Region.free_spec h0 hfree) hall hrd (by simp [aRes, hop, opd_eval hF.ag hx]) (fun b => ?_)
          rw [hdst] at hd ⊢
          exact allocs_sound hty ht hFp r (k + 1) _ _ _ (.blk b v.cells.toList e :: B) K hr hk' hok' (hF.put hd _) (h b) hlex' (hL.set hkF hrd) hall' hK
        · exact h.elim
      · exact h.elim
    · have hn : yesA ops k = false := by simp [yesA, h0, hA]
      have hA' : isA o = false := by simpa using hA
      rw [List.filter_cons_of_neg (by simp [hn])] at hlex ⊢
      simp only [allocsW, hA'] at h
      exact allocs_sound hty ht hFp r (k + 1) listed a S B K hr hk' hok' hF h hlex hL hall hK

/-- The last ones come one behind the other. -/
theorem tail_any (ht : Tails ops nF) (hon : ∀ j o, ops[j]? = some o → nF ≤ j → ∀ e ∈ o.after, Region.binds .any e = true → e.on < j) :
    ∀ (d k : Nat) (listed : Array Bool) (a : Act) (w : World), nF ≤ k → k + d = ops.size → listed.size = ops.size → (∀ j, j < k → listed.getD j false = true) → (∀ j, k ≤ j → j < ops.size → listed.getD j true = false) → DC ops listed →
      wpOps P ops Q (List.range' k d) a w → wpAny P .any ops Q d listed a w
  | 0, k, listed, a, w, hkF, hkd, hsz, h1, h2, hdc, h => by
    refine ⟨?_, by simpa [wpOps] using h⟩
    cases hr : Region.ready .any ops listed with
    | nil => rfl
    | cons i r =>
      exfalso
      have hi : i ∈ Region.ready .any ops listed := by rw [hr]; exact List.mem_cons_self
      obtain ⟨_, o, ho, _⟩ := mem_ready.1 hi
      have := (Array.getElem?_eq_some_iff.1 ho).1
      exact ready_unlisted hi (h1 i (by omega))
  | d + 1, k, listed, a, w, hkF, hkd, hsz, h1, h2, hdc, h => by
    have hk : k < ops.size := by omega
    have hkr : k ∈ Region.ready .any ops listed := by
      refine mem_ready.2 ⟨h2 k (Nat.le_refl _) hk, ops[k], by simp [hk], fun e he hb => ?_⟩
      exact h1 _ (hon k ops[k] (by simp [hk]) hkF e he hb)
    refine ⟨fun h0 => (by rw [h0] at hkr; cases hkr), fun i hi => ?_⟩
    have hik : i = k := by
      obtain ⟨_, o, ho, hall⟩ := mem_ready.1 hi
      rcases Nat.lt_trichotomy i k with h3 | h3 | h3
      · exact absurd (h1 i h3) (ready_unlisted hi)
      · exact h3
      · exfalso
        exact ready_unlisted hkr (reach_listed hdc (ht i o ho (by omega) k h3) o ho hall)
    subst hik
    rw [List.range'_succ, wpOps_cons] at h
    refine wpOp_mono (fun a' w' h' => tail_any ht hon d (i + 1) _ a' w' (by omega) (by omega) (by simp [hsz]) (fun j hj => ?_) (fun j hj hs => ?_) (hdc.set hkr) h') h
    · by_cases e : i = j
      · subst e
        simp [hsz, hk]
      · rw [getD_set_ne false e]; exact h1 j (by omega)
    · rw [getD_set_ne true (by omega)]; exact h2 j (by omega) hs

theorem drawW_sound (hty : TyOk P ty) (hm : P.follows .mixedOrders = true) {id : Nat} {a : Act} {w : World} {S : Sl} {K : Sl → List Res → Prop} (hok : opsOk n ops.toList = true) (hF : Fr n a S) (hS : St w0 X H w)
    (h : DrawW P ty w0 X ops S H K) (hK : ∀ a' w' S' H', Fr n a' S' → St w0 X H' w' → K S' H' → Q .normal a' w') : (Code.region id ops true).wp P Q a w := by
  obtain ⟨nF, hd, h⟩ := h
  simp only [drawOk, Bool.and_eq_true] at hd
  obtain ⟨⟨⟨⟨hns, hle⟩, hlen⟩, htl⟩, hlex⟩ := hd
  have hle : nF ≤ ops.size := by simpa using hle
  have hlen : (ordOf ops nF).length = nF := by simpa using hlen
  have hsel := Region.noSelect_spec hns
  have htl' : ∀ j, j < ops.size → nF ≤ j → (∀ i, i < j → Nat.testBit ((masks ops.toList).getD j 0) i = true) ∧ ((ops[j]?).map fun o => o.after.all fun e => !Region.binds .any e || Nat.blt e.on j).getD false = true := by
    intro j hj hge
    have := List.all_eq_true.1 htl j (by simpa using hj)
    simp only [Bool.or_eq_true, Bool.and_eq_true] at this
    rcases this with h1 | ⟨h1, h2⟩
    · simp at h1; omega
    · exact ⟨fun i hi => List.all_eq_true.1 h1 i (by simpa using hi), h2⟩
  have ht : Tails ops nF := by
    intro j o ho hge i hij
    have := (htl' j (Array.getElem?_eq_some_iff.1 ho).1 hge).1 i hij
    exact masks_ok ops ops.toList [] [] rfl (fun j => by simp) (fun j i h => by simp at h) j i this
  have hon : ∀ j o, ops[j]? = some o → nF ≤ j → ∀ e ∈ o.after, Region.binds .any e = true → e.on < j := by
    intro j o ho hge e he hb
    have := (htl' j (Array.getElem?_eq_some_iff.1 ho).1 hge).2
    rw [ho] at this
    simp only [Option.map_some, Option.getD_some, Array.all_eq_true'] at this
    have := this e he
    simp [hb] at this
    exact this
  let Fin : Array Bool → Act → List Res → Prop := fun listed a B => ∀ w, St w0 X (B ++ H) w → wpAny P .any ops Q (ops.size - nF) listed a w
  have hFp : ∀ listed a B B', B.Perm B' → Fin listed a B → Fin listed a B' := fun listed a B B' hp hf w hw => hf w (hw.perm (hp.append_right H))
  have hoks : opsOk n (ops.toList.take nF) = true ∧ opsOk n (ops.toList.drop nF) = true := by
    unfold opsOk at *
    have := hok
    rw [← List.take_append_drop nF ops.toList, List.all_append, Bool.and_eq_true] at this
    exact this
  have hlt : (ops.toList.take nF).length = nF := by simp; omega
  have hget : ∀ j, j < (ops.toList.take nF).length → (ops.toList.take nF)[j]? = ops[0 + j]? := fun j hj => by
    rw [hlt] at hj
    rw [List.getElem?_take, if_pos hj]
    simp
  have hord : ordOf ops nF = ((List.range' 0 (ops.toList.take nF).length).filter (notA ops)) ++ ((List.range' 0 (ops.toList.take nF).length).filter (yesA ops)) := by
    rw [hlt, ← List.range_eq_range']
    rfl
  have hL0 : Lst ops nF (Array.replicate ops.size false) := ⟨by simp, fun j _ hj => by simp [hj], fun j o ho hj => by
    have := (Array.getElem?_eq_some_iff.1 ho).1
    simp [this] at hj⟩
  have hG : gAny P ty w0 X H ops nF Fin (ordOf ops nF).length (Array.replicate ops.size false) a [] := by
    rw [hord] at hlex ⊢
    refine quiets_sound hty ht hsel (ops.toList.take nF) 0 _ a S _ hget (by omega) hoks.1 hF h hlex hL0 (fun j oj _ hj => by omega) ?_
    intro listed' a' S' hF' h' hlex' hL' hall'
    refine allocs_sound hty ht hFp (ops.toList.take nF) 0 listed' a' S' [] _ hget (by omega) hoks.1 hF' h' hlex' hL' hall' ?_
    intro listed'' a'' S'' B hF'' h'' hlex'' hL''
    have hdone : ∀ j, j < nF → listed''.getD j false = true := fun j hj => by
      simp only [lexOrd] at hlex''
      exact List.all_eq_true.1 hlex'' j (by simpa using hj)
    refine ⟨hdone, fun w hw => ?_⟩
    refine tail_any ht hon (ops.size - nF) nF listed'' a'' w (Nat.le_refl _) (by omega) hL''.size hdone hL''.tail hL''.dc ?_
    have := opsW_sound hty (n := n) (ops := ops) (Q := Q) (ops.toList.drop nF) nF a'' w S'' (B ++ H) K (fun j => by simp) hoks.2 hF'' hw h'' hK
    simpa using this
  refine wp_region_any hm ?_
  have := gAny_sound (m := ops.size - nF) (Q := Q) hty (Fin := Fin) (fun listed a B w hf hw => hf w hw) _ _ a [] { w with drawn := w.drawn + 1 } hG (hS.drew _)
  rw [hlen, show nF + (ops.size - nF) = ops.size by omega] at this
  exact this
end

/-- What the code's exits say, of slots and memory. -/
def Holds (n : Nat) (w0 : World) (X : List Nat) (Q : Ex → Sl → List Res → Prop) (e : Exit) (a : Act) (w : World) : Prop :=
  match e with
  | .normal => ∃ S H, Fr n a S ∧ St w0 X H w ∧ Q .normal S H
  | .exit i => ∃ S H, Fr n a S ∧ St w0 X H w ∧ Q (.exit i) S H
  | .ret => ∃ S H, Fr n a S ∧ St w0 X H w ∧ Q .ret S H
  | _ => False

theorem codeW_sound (hty : TyOk P ty) (hm : P.follows .mixedOrders = true) {n : Nat} : ∀ (c : Code) (Q : Ex → Sl → List Res → Prop) (a : Act) (w : World) (S : Sl) (H : List Res), codeOk n c = true → Fr n a S → St w0 X H w → codeW P ty w0 X c Q S H → c.wp P (Holds n w0 X Q) a w
  | .skip, Q, a, w, S, H, hok, hF, hS, h => wp_skip ⟨S, H, hF, hS, h⟩
  | .ret, Q, a, w, S, H, hok, hF, hS, h => wp_ret ⟨S, H, hF, hS, h⟩
  | .exit i, Q, a, w, S, H, hok, hF, hS, h => wp_exit ⟨S, H, hF, hS, h⟩
  | .seq x y, Q, a, w, S, H, hok, hF, hS, h => by
    simp only [codeOk, Bool.and_eq_true] at hok
    refine wp_seq (wp_mono (codeW_sound hty hm x _ a w S H hok.1 hF hS h) ?_)
    intro e a' w' he
    cases e with
    | normal =>
      obtain ⟨S', H', hF', hS', h'⟩ := he
      exact codeW_sound hty hm y Q a' w' S' H' hok.2 hF' hS' h'
    | exit i => exact he
    | ret => exact he
    | goto l => exact he.elim
    | panic ch => exact he.elim
    | outgrown => exact he.elim
  | .cond c x y, Q, a, w, S, H, hok, hF, hS, h => by
    simp only [codeOk, Bool.and_eq_true] at hok
    simp only [codeW] at h
    split at h
    · rename_i t
      split at h
      · rename_i b hb
        have hev : a.eval (.tmp t) = .bool b := opd_eval hF.ag (by simpa [opd] using hb)
        refine wp_cond_split hev (fun hbt => ?_) (fun hbf => ?_)
        · exact codeW_sound hty hm x Q a w _ H hok.1 ⟨hF.ag.again (by rw [hb, hbt]), hF.sz, hF.df⟩ hS (h.1 hbt)
        · exact codeW_sound hty hm y Q a w _ H hok.2 ⟨hF.ag.again (by rw [hb, hbf]), hF.sz, hF.df⟩ hS (h.2 hbf)
      · exact h.elim
    · exact h.elim
  | .block i c, Q, a, w, S, H, hok, hF, hS, h => by
    simp only [codeOk] at hok
    refine wp_block (wp_mono (codeW_sound hty hm c _ a w S H hok hF hS h) ?_)
    intro e a' w' he
    cases e with
    | normal => exact he
    | exit j =>
      obtain ⟨S', H', hF', hS', h'⟩ := he
      simp only [Exit.inBlock]
      by_cases e : j = i
      · subst e
        simp at h'
        rw [if_pos rfl]
        exact ⟨S', H', hF', hS', h'⟩
      · have : Nat.beq j i = false := by cases hb : Nat.beq j i <;> simp_all
        simp only [this] at h'
        rw [if_neg e]
        exact ⟨S', H', hF', hS', h'⟩
    | ret => exact he
    | goto l => exact he.elim
    | panic ch => exact he.elim
    | outgrown => exact he.elim
  | .loop c, Q, a, w, S, H, hok, hF, hS, h => by
    simp only [codeOk] at hok
    obtain ⟨σ, I, μ, s, S1, H1, hI, hs, hh, hround⟩ := h
    refine wp_loop_ghost (fun m a w => ∃ s S1 H1, μ s = m ∧ I s S1 H1 ∧ Fr n a S1 ∧ St w0 X H1 w) (μ s) ⟨s, S1, H1, rfl, hI, ⟨hF.ag.sub hs, hF.sz, hF.df⟩, hS.sub hh⟩ ?_
    rintro m a w ⟨s, S1, H1, rfl, hI, hF, hS⟩
    refine wp_mono (codeW_sound hty hm c _ a w S1 H1 hok hF hS (hround s S1 H1 hI)) ?_
    intro e a' w' he
    cases e with
    | normal =>
      obtain ⟨S', H', hF', hS', s', S2, H2, hlt, hI', hs2, hh2⟩ := he
      exact ⟨μ s', hlt, s', S2, H2, rfl, hI', ⟨hF'.ag.sub hs2, hF'.sz, hF'.df⟩, hS'.sub hh2⟩
    | exit i => exact he
    | ret => exact he
    | goto l => exact he.elim
    | panic ch => exact he.elim
    | outgrown => exact he.elim
  | .region id ops draw, Q, a, w, S, H, hok, hF, hS, h => by
    simp only [codeOk] at hok
    cases draw with
    | false =>
      refine wp_region ?_
      have := opsW_sound hty (n := n) (ops := ops) (Q := Holds n w0 X Q) ops.toList 0 a w S H _ (by simp) hok hF hS h (fun a' w' S' H' h1 h2 h3 => ⟨S', H', h1, h2, h3⟩)
      simpa [List.range_eq_range'] using this
    | true => exact drawW_sound hty hm (n := n) (Q := Holds n w0 X Q) hok hF hS h (fun a' w' S' H' h1 h2 h3 => ⟨S', H', h1, h2, h3⟩)
  | .rangeFunc _ _ _ _, _, _, _, _, _, _, _, _, h => h.elim
  | .scope _, _, _, _, _, _, _, _, _, h => h.elim
  | .label _, _, _, _, _, _, _, _, _, h => h.elim
  | .goto _, _, _, _, _, _, _, _, _, h => h.elim
  | .refuse _, _, _, _, _, _, _, _, _, h => h.elim
end
end Go.Proofs.Yticobcojmpakfaa.Am
