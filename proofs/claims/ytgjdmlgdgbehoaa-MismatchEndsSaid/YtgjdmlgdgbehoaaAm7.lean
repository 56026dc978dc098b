/- That the function of the code tells the truth: statements that draw their order. -/
import Derived.Test.YtgjdmlgdgbehoaaAm5
import Derived.Orders
set_option linter.unusedVariables false
set_option linter.unusedSimpArgs false
namespace Go.Proofs.Ytgjdmlgdgbehoaa.Am
open Go Go.RowKit

section
variable {P : Program} {ty : Nat → Option TD} {w0 : World} {X : List Nat} {Hc : List Res} {ops : Array Oper} {Q : Exit → Act → World → Prop} {bound : Nat → Prop} {E : Prop} {Fin : Act → List Res → Prop}

/-- One value in every world in which H is owned; nothing that was there turns. -/
def qAt (P : Program) (w0 : World) (X : List Nat) (H : List Res) (o : Oper) (a : Act) (v : Value) : Prop :=
  ∀ w, St w0 X H w → (execOp a.eval o).run P w = .ok (.value v) w ∨
    ∃ f args, (execOp a.eval o).run P w = .ok (.enter f args) w ∧ Calls P f args w fun e w' => e = .returned v ∧ Below w.heap.size w w'
/-- The block that an operation makes. -/
def aRes (ty : Nat → Option TD) (o : Oper) (a : Act) : Option (Nat → Res) :=
  match o.op with
  | .alloc e => (ty e).map fun i b => .blk b i.zero e
  | .box e x => some fun b => .blk b (a.eval x).cells.toList e
  | _ => none
theorem isA_guard {o : Oper} (h : isA o = true) : o.guard = none ∧ ∃ d, o.dst = some d := by
  unfold isA at h
  split at h
  · rename_i h1 h2 _; exact ⟨h1, _, h2⟩
  · rename_i h1 h2 _; exact ⟨h1, _, h2⟩
  · cases h

theorem aRes_run (hty : TyOk P ty) {o : Oper} (hA : isA o = true) {a : Act} {res : Nat → Res} (hr : aRes ty o a = some res) {H' : List Res} {w : World} (hw : St w0 X H' w) :
    ∃ w', (execOp a.eval o).run P w = .ok (.value (.pointer (some ⟨w.heap.size, 0, none⟩))) w' ∧ St w0 X (res w.heap.size :: H') w' := by
  unfold aRes at hr
  split at hr
  · rename_i e ho
    cases hi : ty e with
    | none => simp [hi] at hr
    | some i =>
      simp [hi] at hr
      subst hr
      obtain ⟨z, hz, hc, hl⟩ := run_zero hty hi w
      exact ⟨w.alloc (.cells ⟨i.zero⟩ e), by simp [execOp, ho, Instr.alloc, hz, newVar, newRow, hc], hw.alloc i.zero e⟩
  · rename_i e x ho
    simp at hr
    subst hr
    exact ⟨w.alloc (.cells (a.eval x).cells e), by simp [execOp, ho, Instr.box, newVar, newRow], hw.alloc (a.eval x).cells.toList e⟩
  · cases hr

theorem aRes_put {o : Oper} {a : Act} {d : Option Nat} {v : Value} (h : ∀ e, d = some e → e ∉ o.looksAt ops) : aRes ty o (a.put d v) = aRes ty o a := by
  unfold aRes
  split
  · rfl
  · rename_i e x ho
    have : (a.put d v).eval x = a.eval x := Act.eval_put fun e he hxe => h e he (by
      subst hxe
      simp [Oper.looksAt, ho, Op.operands])
    rw [this]
  · rfl

/-- What is listed has all that it waited for listed. -/
def DC (ops : Array Oper) (listed : Array Bool) : Prop := ∀ j o, ops[j]? = some o → listed.getD j false = true → ∀ e ∈ o.after, Region.binds .any e = true → listed.getD e.on false = true
theorem reach_listed {listed : Array Bool} (hd : DC ops listed) {j i : Nat} (h : Waits ops j i) : ∀ o, ops[j]? = some o → (∀ e ∈ o.after, Region.binds .any e = true → listed.getD e.on false = true) → listed.getD i false = true := by
  induction h with
  | one ho he hb =>
    intro o' ho' hall
    rw [ho] at ho'
    obtain rfl := Option.some.inj ho'
    exact hall _ he hb
  | @more j i o e ho he hb hr ih =>
    intro o' ho' hall
    rw [ho] at ho'
    obtain rfl := Option.some.inj ho'
    have h1 := hall _ he hb
    cases hoo : ops[e.on]? with
    | none => cases hr <;> simp_all
    | some o2 => exact ih o2 hoo (hd e.on o2 hoo h1)
theorem maskOf_bit {acc : List Nat} {i : Nat} : ∀ (es : List Edge) (s : Nat), Nat.testBit (es.foldl (fun s e => if Region.binds .any e then s ||| (2 ^ e.on ||| acc.getD e.on 0) else s) s) i = true →
    Nat.testBit s i = true ∨ ∃ e ∈ es, Region.binds .any e = true ∧ (e.on = i ∨ Nat.testBit (acc.getD e.on 0) i = true)
  | [], s, h => .inl h
  | e :: es, s, h => by
    simp only [List.foldl_cons] at h
    rcases maskOf_bit es _ h with h1 | ⟨e', he', h1⟩
    · by_cases hb : Region.binds .any e = true
      · rw [if_pos hb] at h1
        simp only [Nat.testBit_or, Bool.or_eq_true, Nat.testBit_two_pow, decide_eq_true_eq] at h1
        rcases h1 with h1 | h1 | h1
        · exact .inl h1
        · exact .inr ⟨e, List.mem_cons_self, hb, .inl h1⟩
        · exact .inr ⟨e, List.mem_cons_self, hb, .inr h1⟩
      · rw [if_neg hb] at h1
        exact .inl h1
    · exact .inr ⟨e', List.mem_cons_of_mem _ he', h1⟩
theorem masks_ok (ops : Array Oper) : ∀ (l pre : List Oper) (acc : List Nat), acc.length = pre.length → (∀ j : Nat, (pre ++ l)[j]? = ops[j]?) → (∀ j i, Nat.testBit (acc.getD j 0) i = true → Waits ops j i) →
    ∀ j i, Nat.testBit ((l.foldl (fun acc o => acc ++ [maskOf acc o.after.toList]) acc).getD j 0) i = true → Waits ops j i
  | [], pre, acc, hl, ho, ha, j, i, h => ha j i h
  | o :: l, pre, acc, hl, ho, ha, j, i, h => by
    refine masks_ok ops l (pre ++ [o]) (acc ++ [maskOf acc o.after.toList]) (by simp [hl]) (by simpa using ho) ?_ j i h
    intro j i h
    rcases Nat.lt_trichotomy j acc.length with h1 | h1 | h1
    · rw [List.getD_eq_getElem?_getD, List.getElem?_append_left h1, ← List.getD_eq_getElem?_getD] at h
      exact ha j i h
    · subst h1
      rw [List.getD_eq_getElem?_getD, List.getElem?_append_right (Nat.le_refl _)] at h
      simp only [Nat.sub_self, List.getElem?_cons_zero, Option.getD_some] at h
      have hoj : ops[acc.length]? = some o := by
        rw [← ho, hl]
        simp
      rcases maskOf_bit _ _ h with h2 | ⟨e, he, hb, h2⟩
      · simp at h2
      · rcases h2 with h2 | h2
        · subst h2; exact .one hoj (by simpa using he) hb
        · exact .more hoj (by simpa using he) hb (ha _ _ h2)
    · rw [List.getD_eq_getElem?_getD, List.getElem?_eq_none (by simp; omega)] at h
      simp at h
theorem DC.set {listed : Array Bool} (hd : DC ops listed) {i : Nat} (hi : i ∈ Region.ready .any ops listed) : DC ops (listed.setIfInBounds i true) := by
  intro j o ho hj e he hb
  obtain ⟨_, oi, hoi, hall⟩ := mem_ready.1 hi
  by_cases e1 : i = j
  · subst e1
    rw [hoi] at ho
    obtain rfl : oi = o := by simpa using ho
    exact getD_set_true (hall e he hb)
  · rw [getD_set_ne false e1] at hj
    exact getD_set_true (hd j o ho hj e he hb)
theorem ready_unlisted0 {j : Nat} {listed : Array Bool} (hj : j ∈ Region.ready .any ops listed) : ¬ listed.getD j false = true := by
  have h0 := (mem_ready.1 hj).1
  rcases Nat.lt_or_ge j listed.size with h' | h'
  · simp [h'] at h0 ⊢; exact h0
  · simp [Array.getElem?_eq_none h']
theorem ready_unlisted {j : Nat} {listed : Array Bool} (hj : j ∈ Region.ready .any ops listed) : ¬ listed.getD j false = true := by
  have h0 := (mem_ready.1 hj).1
  rcases Nat.lt_or_ge j listed.size with h' | h'
  · simp [h'] at h0 ⊢; exact h0
  · simp [Array.getElem?_eq_none h']


def gO (P : Program) (ty : Nat → Option TD) (w0 : World) (X : List Nat) (ops : Array Oper) (i : Nat) (K : Act → List Res → Prop) (a : Act) (H : List Res) : Prop :=
  match ops[i]? with
  | none => K a H
  | some o => if isA o = true then (∃ res, aRes ty o a = some res ∧ ∀ b, K (a.put o.dst (.pointer (some ⟨b, 0, none⟩))) (res b :: H))
    else if Region.wanted o (yielded ops a.tmps) then ∃ R : Value → List Res → Prop, (∀ w, St w0 X H w → runAt P w0 X o a w R) ∧ ∀ v H', R v H' → K (a.put o.dst v) H' else K (a.put o.dst undef) H
def Kp (Hc : List Res) (bound : Nat → Prop) (E : Prop) (listed : Array Bool) (H : List Res) : Prop := (E ∨ ∃ k, bound k ∧ listed.getD k false = true) ∨ SubL Hc H
def gT (P : Program) (ty : Nat → Option TD) (w0 : World) (X : List Nat) (Hc : List Res) (ops : Array Oper) (bound : Nat → Prop) (E : Prop) (Fin : Act → List Res → Prop) : Nat → Array Bool → Act → List Res → Prop
  | 0, listed, a, H => Kp Hc bound E listed H ∧ Region.ready .any ops listed = [] ∧ Fin a H
  | n + 1, listed, a, H => Kp Hc bound E listed H ∧ (∃ i, i ∈ Region.ready .any ops listed) ∧ ∀ i ∈ Region.ready .any ops listed, gO P ty w0 X ops i (gT P ty w0 X Hc ops bound E Fin n (listed.setIfInBounds i true)) a H

theorem gT_kp {n : Nat} {listed : Array Bool} {a : Act} {H : List Res} (h : gT P ty w0 X Hc ops bound E Fin n listed a H) : Kp Hc bound E listed H := by
  cases n <;> exact h.1
theorem gO_mono {i : Nat} {K K' : Act → List Res → Prop} {a : Act} {H : List Res} (h : ∀ a H, K a H → K' a H) (hh : gO P ty w0 X ops i K a H) : gO P ty w0 X ops i K' a H := by
  unfold gO at *
  split
  · rename_i ho; simp only [ho] at hh; exact h _ _ hh
  · rename_i o ho
    simp only [ho] at hh
    split
    · rename_i hA
      rw [if_pos hA] at hh
      obtain ⟨res, h1, h2⟩ := hh
      exact ⟨res, h1, fun b => h _ _ (h2 b)⟩
    · rename_i hA
      rw [if_neg hA] at hh
      split
      · rename_i hw
        rw [if_pos hw] at hh
        obtain ⟨R, h1, h2⟩ := hh
        exact ⟨R, h1, fun v H' hr => h _ _ (h2 v H' hr)⟩
      · rename_i hw
        rw [if_neg hw] at hh
        exact h _ _ hh

theorem gO_wp (hty : TyOk P ty) {i : Nat} {o : Oper} (ho : ops[i]? = some o) {K : Act → List Res → Prop} {K' : Act → World → Prop} {a : Act} {H : List Res} {w : World} (h3 : gO P ty w0 X ops i K a H) (hw : St w0 X H w) (hK : ∀ a' H' w', K a' H' → St w0 X H' w' → K' a' w') : wpOp P ops Q i K' a w := by
  unfold gO at h3
  unfold wpOp
  simp only [ho] at h3 ⊢
  by_cases hA : isA o = true
  · rw [if_pos hA] at h3
    obtain ⟨res, hr, h4⟩ := h3
    obtain ⟨w', h5, h6⟩ := aRes_run hty hA hr hw
    rw [if_pos (by simp [Region.wanted, (isA_guard hA).1])]
    exact .inl (wp_value h5 (hK _ _ w' (h4 w.heap.size) h6))
  · rw [if_neg hA] at h3
    by_cases hwt : Region.wanted o (yielded ops a.tmps) = true
    · rw [if_pos hwt] at h3 ⊢
      obtain ⟨R, hq, h4⟩ := h3
      exact .inl (runAt_wp (hq w hw) fun v H' w' h5 h6 => hK _ H' w' (h4 v H' h6) h5)
    · rw [if_neg hwt] at h3 ⊢
      exact hK _ H w h3 hw
/-- Whatever order is drawn. -/
theorem gT_sound (hty : TyOk P ty) (hF : ∀ a H w, Fin a H → St w0 X H w → Q .normal a w) :
    ∀ (n : Nat) (listed : Array Bool) (a : Act) (H : List Res) (w : World), gT P ty w0 X Hc ops bound E Fin n listed a H → St w0 X H w → wpAny P .any ops Q n listed a w
  | 0, listed, a, H, w, h, hw => ⟨h.2.1, hF a H w h.2.2 hw⟩
  | n + 1, listed, a, H, w, h, hw => by
    obtain ⟨_, ⟨i0, hi0⟩, h2⟩ := h
    refine ⟨fun h0 => (by rw [h0] at hi0; cases hi0), fun i hi => ?_⟩
    have h3 := h2 i hi
    have ih := gT_sound hty hF n (listed.setIfInBounds i true)
    unfold gO at h3
    unfold wpOp
    obtain ⟨_, o, ho, _⟩ := mem_ready.1 hi
    simp only [ho] at h3 ⊢
    by_cases hA : isA o = true
    · rw [if_pos hA] at h3
      obtain ⟨res, hr, h4⟩ := h3
      obtain ⟨w', h5, h6⟩ := aRes_run hty hA hr hw
      rw [if_pos (by simp [Region.wanted, (isA_guard hA).1])]
      exact .inl (wp_value h5 (ih _ _ w' (h4 w.heap.size) h6))
    · rw [if_neg hA] at h3
      by_cases hwt : Region.wanted o (yielded ops a.tmps) = true
      · rw [if_pos hwt] at h3 ⊢
        obtain ⟨R, hq, h4⟩ := h3
        exact .inl (runAt_wp (hq w hw) fun v H' w' h5 h6 => ih _ H' w' (h4 v H' h6) h5)
      · rw [if_neg hwt] at h3 ⊢
        exact ih _ H w h3 hw

theorem runAt_same {o : Oper} {a a' : Act} {w : World} {R : Value → List Res → Prop} (he : execOp a'.eval o = execOp a.eval o) (h : runAt P w0 X o a w R) : runAt P w0 X o a' w R := by
  unfold runAt at *
  rw [he]; exact h
/-- In which order blocks were made makes no difference. -/
theorem gT_perm (hF : ∀ a H H', H.Perm H' → Fin a H → Fin a H') :
    ∀ (n : Nat) (listed : Array Bool) (a : Act) (H H' : List Res), H.Perm H' → gT P ty w0 X Hc ops bound E Fin n listed a H → gT P ty w0 X Hc ops bound E Fin n listed a H' := by
  have kp : ∀ (listed : Array Bool) (H H' : List Res), H.Perm H' → Kp Hc bound E listed H → Kp Hc bound E listed H' := fun listed H H' hp h => h.imp id (fun h => h.perm hp)
  intro n
  induction n with
  | zero => exact fun listed a H H' hp h => ⟨kp _ _ _ hp h.1, h.2.1, hF _ _ _ hp h.2.2⟩
  | succ n ih =>
    intro listed a H H' hp h
    refine ⟨kp _ _ _ hp h.1, h.2.1, fun i hi => ?_⟩
    have h3 := h.2.2 i hi
    unfold gO at *
    split
    · rename_i ho; simp only [ho] at h3; exact ih _ _ _ _ hp h3
    · rename_i o ho
      simp only [ho] at h3
      split
      · rename_i hA
        rw [if_pos hA] at h3
        obtain ⟨res, h1, h2⟩ := h3
        exact ⟨res, h1, fun b => ih _ _ _ _ (hp.cons _) (h2 b)⟩
      · rename_i hA
        rw [if_neg hA] at h3
        split
        · rename_i hw
          rw [if_pos hw] at h3
          obtain ⟨R, h1, h2⟩ := h3
          exact ⟨R, fun w hw => h1 w (hw.perm hp), h2⟩
        · rename_i hw
          rw [if_neg hw] at h3
          exact ih _ _ _ _ hp h3

/-- An operation that only reads, of what Hi tells. -/
def Yq (P : Program) (w0 : World) (X : List Nat) (Hi : List Res) (ops : Array Oper) (o : Oper) (v : Value) (a : Act) : Prop :=
  (Region.wanted o (yielded ops a.tmps) = true ∧ qAt P w0 X Hi o a v) ∨ (Region.wanted o (yielded ops a.tmps) = false ∧ v = undef)
theorem sub_st {Hi H : List Res} {w : World} (h : SubL Hi H) (hw : St w0 X H w) : St w0 X Hi w := by
  obtain ⟨H1, hp, hs⟩ := h
  exact (hw.perm hp).sub hs
theorem Yq.gO {Hi H : List Res} {i : Nat} {o : Oper} {v : Value} {a : Act} (hi : ops[i]? = some o) (hA : ¬ isA o = true) (hs : SubL Hi H) (hy : Yq P w0 X Hi ops o v a) {K : Act → List Res → Prop} (h : K (a.put o.dst v) H) : gO P ty w0 X ops i K a H := by
  unfold Am.gO
  simp only [hi]
  rw [if_neg hA]
  rcases hy with ⟨hw, hv⟩ | ⟨hw, rfl⟩
  · rw [if_pos hw]
    refine ⟨fun v' H' => v' = v ∧ H' = H, fun w hwS => ?_, fun v' H' ⟨h1, h2⟩ => by rw [h1, h2]; exact h⟩
    rcases hv w (sub_st hs hwS) with h1 | ⟨f, args, h1, h2⟩
    · exact ra_value h1 ⟨H, ⟨rfl, rfl⟩, hwS⟩
    · exact .inr ⟨f, args, h1, h2.mono fun e w' ⟨h3, h4⟩ => ⟨v, H, h3, ⟨rfl, rfl⟩, hwS.grow h4⟩⟩
  · rw [if_neg (by simp [hw])]; exact h
theorem Yq.of_same {Hi : List Res} {o : Oper} {v : Value} {a a' : Act} (hy : Yq P w0 X Hi ops o v a) (he : execOp a'.eval o = execOp a.eval o)
    (hw : Region.wanted o (yielded ops a'.tmps) = Region.wanted o (yielded ops a.tmps)) : Yq P w0 X Hi ops o v a' := by
  unfold Yq qAt at *
  rw [he, hw]
  exact hy

/-- An operation apart from one that has its value. -/
theorem gO_put {Hi : List Res} {j : Nat} {oi oj : Oper} {v : Value} {H : List Res} (hj : ops[j]? = some oj) (hap : oi.apart ops oj = true)
    (hsi : ∀ cs b, oi.op ≠ .select cs b) (hsj : ∀ cs b, oj.op ≠ .select cs b) {K : Act → List Res → Prop} {a : Act}
    (hy : Yq P w0 X Hi ops oi v a) (h : gO P ty w0 X ops j K (a.put oi.dst v) H) :
    gO P ty w0 X ops j (fun a' H' => Yq P w0 X Hi ops oi v a' ∧ K (a'.put oi.dst v) H') a H := by
  obtain ⟨h1, h2, h3⟩ := Oper.apart_spec hap
  have keep : ∀ u, Yq P w0 X Hi ops oi v (a.put oj.dst u) := fun u => hy.of_same (execOp_put oi hsi a oj.dst u h3) (wanted_put oi a oj.dst u h3)
  unfold gO at *
  simp only [hj] at *
  rw [wanted_put oj a oi.dst v h1] at h
  split
  · rename_i hA
    rw [if_pos hA] at h
    obtain ⟨res, hr, hn⟩ := h
    rw [aRes_put h1] at hr
    exact ⟨res, hr, fun b => ⟨keep _, by rw [← Act.put_comm a v _ h2]; exact hn b⟩⟩
  · rename_i hA
    rw [if_neg hA] at h
    split
    · rename_i hw
      rw [if_pos hw] at h
      obtain ⟨R, hu, hn⟩ := h
      refine ⟨R, fun w hw' => runAt_same (execOp_put oj hsj a oi.dst v h1).symm (hu w hw'), fun u H' hr => ⟨keep u, ?_⟩⟩
      rw [← Act.put_comm a v u h2]; exact hn u H' hr
    · rename_i hw
      rw [if_neg hw] at h
      exact ⟨keep _, by rw [← Act.put_comm a v undef h2]; exact h⟩

theorem firstQ {Hi : List Res} {i : Nat} {oi : Oper} {v : Value} (hi : ops[i]? = some oi) (hnA : ¬ isA oi = true) (hsel : ∀ (j : Nat) (o : Oper) cs b, ops[j]? = some o → o.op ≠ .select cs b)
    (hJ : ∀ listed H, DC ops listed → ¬ listed.getD i false = true → Kp Hc bound E listed H → SubL Hi H) :
    ∀ (n : Nat) (listed : Array Bool) (a : Act) (H : List Res), DC ops listed →
      (∀ j oj, ops[j]? = some oj → j ≠ i → listed.getD j true = false → (∀ e ∈ oj.after, Region.binds .any e = true → e.on ≠ i) → oi.apart ops oj = true) →
      i ∈ Region.ready .any ops listed → Yq P w0 X Hi ops oi v a → Kp Hc bound E listed H → (¬ bound i ∨ E ∨ ∃ k, bound k ∧ listed.getD k false = true) →
      gT P ty w0 X Hc ops bound E Fin n (listed.setIfInBounds i true) (a.put oi.dst v) H → gT P ty w0 X Hc ops bound E Fin (n + 1) listed a H := by
  intro n
  induction n with
  | zero =>
    intro listed a H hdc _ hr hy hk _ hG
    refine ⟨hk, ⟨i, hr⟩, fun j hj => ?_⟩
    by_cases hji : j = i
    · subst hji; exact hy.gO hi hnA (hJ _ _ hdc (ready_unlisted hr) hk) hG
    · exfalso
      have := ready_mono hj hji
      rw [hG.2.1] at this
      cases this
  | succ n ih =>
    intro listed a H hdc hfree hr hy hk hb hG
    refine ⟨hk, ⟨i, hr⟩, fun j hj => ?_⟩
    by_cases hji : j = i
    · subst hji; exact hy.gO hi hnA (hJ _ _ hdc (ready_unlisted hr) hk) hG
    · have h1 := hG.2.2 j (ready_mono hj hji)
      obtain ⟨hjun, oj, hoj, hall⟩ := mem_ready.1 hj
      have hnot : ∀ e ∈ oj.after, Region.binds .any e = true → e.on ≠ i := fun e he hb heq => by
        have h1 := hall e he hb
        rw [heq] at h1
        exact ready_unlisted hr h1
      have h2 := gO_put hoj (hfree j oj hoj hji hjun hnot) (fun cs b => hsel i oi cs b hi) (fun cs b => hsel j oj cs b hoj) hy h1
      have hfree' : ∀ k ok, ops[k]? = some ok → k ≠ i → (listed.setIfInBounds j true).getD k true = false →
          (∀ e ∈ ok.after, Region.binds .any e = true → e.on ≠ i) → oi.apart ops ok = true := fun k ok hk hki hun hno => by
        refine hfree k ok hk hki ?_ hno
        by_cases hjk : j = k
        · subst hjk; exact hjun
        · rw [getD_set_ne true hjk] at hun; exact hun
      have hb' : ¬ bound i ∨ E ∨ ∃ k, bound k ∧ (listed.setIfInBounds j true).getD k false = true := by
        rcases hb with hb | hb | ⟨k, hk1, hk2⟩
        · exact .inl hb
        · exact .inr (.inl hb)
        · exact .inr (.inr ⟨k, hk1, getD_set_true hk2⟩)
      refine gO_mono (fun a' H' h3 => ?_) h2
      have hk1 := gT_kp h3.2
      have hk' : Kp Hc bound E (listed.setIfInBounds j true) H' := by
        rcases hk1 with (he | ⟨k, hbk, hl⟩) | hs
        · exact .inl (.inl he)
        · rw [Array.setIfInBounds_comm _ _ (Ne.symm hji)] at hl
          by_cases hik : i = k
          · subst hik
            rcases hb' with hb | hb | hb
            · exact absurd hbk hb
            · exact .inl (.inl hb)
            · exact .inl (.inr hb)
          · rw [getD_set_ne false hik] at hl
            exact .inl (.inr ⟨k, hbk, hl⟩)
        · exact .inr hs
      refine ih (listed.setIfInBounds j true) a' H' (hdc.set hj) hfree' (ready_mono hr (Ne.symm hji)) h3.1 hk' hb' ?_
      rw [Array.setIfInBounds_comm _ _ hji]
      exact h3.2

theorem firstA (hFp : ∀ a H H', H.Perm H' → Fin a H → Fin a H') {i : Nat} {oi : Oper} (hi : ops[i]? = some oi) (hA : isA oi = true) :
    ∀ (n : Nat) (listed : Array Bool) (a : Act) (H : List Res) (res : Nat → Res), DC ops listed →
      (∀ j oj, ops[j]? = some oj → j ≠ i → listed.getD j true = false → (∀ e ∈ oj.after, Region.binds .any e = true → e.on ≠ i) → oi.apart ops oj = true) →
      (∀ j oj, ops[j]? = some oj → j ≠ i → listed.getD j true = false → isA oj = true ∨ Waits ops j i) →
      i ∈ Region.ready .any ops listed → aRes ty oi a = some res → Kp Hc bound E listed H →
      (∀ b, gT P ty w0 X Hc ops bound E Fin n (listed.setIfInBounds i true) (a.put oi.dst (.pointer (some ⟨b, 0, none⟩))) (res b :: H)) → gT P ty w0 X Hc ops bound E Fin (n + 1) listed a H := by
  intro n
  have self : ∀ (n : Nat) (listed : Array Bool) (a : Act) (H : List Res) (res : Nat → Res), aRes ty oi a = some res → (∀ b, gT P ty w0 X Hc ops bound E Fin n (listed.setIfInBounds i true) (a.put oi.dst (.pointer (some ⟨b, 0, none⟩))) (res b :: H)) →
      gO P ty w0 X ops i (gT P ty w0 X Hc ops bound E Fin n (listed.setIfInBounds i true)) a H := by
    intro n listed a H res hr hG
    unfold gO
    simp only [hi]
    rw [if_pos hA]
    exact ⟨res, hr, hG⟩
  induction n with
  | zero =>
    intro listed a H res hdc _ _ hr hres hk hG
    refine ⟨hk, ⟨i, hr⟩, fun j hj => ?_⟩
    by_cases hji : j = i
    · subst hji; exact self 0 listed a H res hres hG
    · exfalso
      have := ready_mono hj hji
      rw [(hG 0).2.1] at this
      cases this
  | succ n ih =>
    intro listed a H res hdc hfree hall hr hres hk hG
    refine ⟨hk, ⟨i, hr⟩, fun j hj => ?_⟩
    by_cases hji : j = i
    · subst hji; exact self (n + 1) listed a H res hres hG
    · obtain ⟨hjun, oj, hoj, hal⟩ := mem_ready.1 hj
      have hnot : ∀ e ∈ oj.after, Region.binds .any e = true → e.on ≠ i := fun e he hb heq => by
        have h1 := hal e he hb
        rw [heq] at h1
        exact ready_unlisted hr h1
      have hap := hfree j oj hoj hji hjun hnot
      obtain ⟨h1, h2, h3⟩ := Oper.apart_spec hap
      have hjA : isA oj = true := by
        rcases hall j oj hoj hji hjun with h | h
        · exact h
        · exact absurd (reach_listed hdc h oj hoj hal) (ready_unlisted hr)
      have hfree' : ∀ k ok, ops[k]? = some ok → k ≠ i → (listed.setIfInBounds j true).getD k true = false →
          (∀ e ∈ ok.after, Region.binds .any e = true → e.on ≠ i) → oi.apart ops ok = true := fun k ok hk hki hun hno => by
        refine hfree k ok hk hki ?_ hno
        by_cases hjk : j = k
        · subst hjk; exact hjun
        · rw [getD_set_ne true hjk] at hun; exact hun
      have hall' : ∀ k ok, ops[k]? = some ok → k ≠ i → (listed.setIfInBounds j true).getD k true = false → isA ok = true ∨ Waits ops k i := fun k ok hk hki hun => by
        refine hall k ok hk hki ?_
        by_cases hjk : j = k
        · subst hjk; exact hjun
        · rw [getD_set_ne true hjk] at hun; exact hun
      have hj2 := (hG 0).2.2 j (ready_mono hj hji)
      unfold gO at hj2 ⊢
      simp only [hoj] at hj2 ⊢
      rw [if_pos hjA] at hj2 ⊢
      obtain ⟨resj, hrj, _⟩ := hj2
      rw [aRes_put h1] at hrj
      refine ⟨resj, hrj, fun b' => ?_⟩
      have hk' : Kp Hc bound E (listed.setIfInBounds j true) (resj b' :: H) := by
        rcases hk with (he | ⟨k, hbk, hl⟩) | hs
        · exact .inl (.inl he)
        · exact .inl (.inr ⟨k, hbk, getD_set_true hl⟩)
        · exact .inr (hs.cons _)
      refine ih (listed.setIfInBounds j true) (a.put oj.dst (.pointer (some ⟨b', 0, none⟩))) (resj b' :: H) res (hdc.set hj) hfree' hall' (ready_mono hr (Ne.symm hji)) (by rw [aRes_put h3]; exact hres) hk' (fun b => ?_)
      have hb := (hG b).2.2 j (ready_mono hj hji)
      unfold gO at hb
      simp only [hoj] at hb
      rw [if_pos hjA] at hb
      obtain ⟨res', hr', hb⟩ := hb
      rw [aRes_put h1, hrj] at hr'
      obtain rfl : resj = res' := by simpa using hr'
      have := hb b'
      rw [Act.put_comm a _ _ h2, Array.setIfInBounds_comm _ _ (Ne.symm hji)] at this
      exact gT_perm hFp n _ _ _ _ (List.Perm.swap _ _ _) this
end
end Go.Proofs.Ytgjdmlgdgbehoaa.Am
