/- That the function of the code tells the truth: statements that draw their order. -/
import Derived.Test.YticobcojmpakfaaAm5
import Derived.Orders
set_option linter.unusedVariables false
set_option linter.unusedSimpArgs false
namespace Go.Proofs.Yticobcojmpakfaa.Am
open Go Go.RowKit

section
variable {P : Program} {ty : Nat → Option TD} {w0 : World} {X : List Nat} {H : List Res} {ops : Array Oper} {Q : Exit → Act → World → Prop} {nF m : Nat}

/-- One value in every world in which H is owned; nothing that was there turns. -/
def qAt (P : Program) (w0 : World) (X : List Nat) (H : List Res) (o : Oper) (a : Act) (v : Value) : Prop :=
  ∀ w, St w0 X H w → (execOp a.eval o).run P w = .ok (.value v) w ∨
    ∃ f args, (execOp a.eval o).run P w = .ok (.enter f args) w ∧ Calls P f args w fun e w' => e = .returned v ∧ Below w.heap.size w w'
/-- The block that an operation makes. -/
def aRes (ty : Nat → Option TD) (o : Oper) (a : Act) : Option (Nat → Res) :=
  match o.op with
  | .alloc e => (ty e).map fun i b => .blk b i.zero e
  | .box e x => some fun b => .blk b (a.eval x).cells.toList e
  | _ => none
def gOp (P : Program) (ty : Nat → Option TD) (w0 : World) (X : List Nat) (H : List Res) (ops : Array Oper) (i : Nat) (K : Act → List Res → Prop) (a : Act) (B : List Res) : Prop :=
  match ops[i]? with
  | none => K a B
  | some o => if isA o = true then (∃ res, aRes ty o a = some res ∧ ∀ b, K (a.put o.dst (.pointer (some ⟨b, 0, none⟩))) (res b :: B))
    else if Region.wanted o (yielded ops a.tmps) then ∃ v, qAt P w0 X H o a v ∧ K (a.put o.dst v) B else K (a.put o.dst undef) B
def gAny (P : Program) (ty : Nat → Option TD) (w0 : World) (X : List Nat) (H : List Res) (ops : Array Oper) (nF : Nat) (Fin : Array Bool → Act → List Res → Prop) : Nat → Array Bool → Act → List Res → Prop
  | 0, listed, a, B => (∀ j, j < nF → listed.getD j false = true) ∧ Fin listed a B
  | n + 1, listed, a, B => (∃ i, i ∈ Region.ready .any ops listed) ∧ ∀ i ∈ Region.ready .any ops listed, gOp P ty w0 X H ops i (gAny P ty w0 X H ops nF Fin n (listed.setIfInBounds i true)) a B

theorem gOp_mono {i : Nat} {K K' : Act → List Res → Prop} {a : Act} {B : List Res} (h : ∀ a B, K a B → K' a B) (hh : gOp P ty w0 X H ops i K a B) : gOp P ty w0 X H ops i K' a B := by
  unfold gOp at *
  split
  · rename_i ho; simp only [ho] at hh; exact h _ _ hh
  · rename_i o ho
    simp only [ho] at hh
    split
    · rename_i hA
      rw [if_pos hA] at hh
      obtain ⟨res, h1, h2⟩ := hh
      exact ⟨res, h1, fun b => h _ _ (h2 b)⟩
    · rename_i hA
      rw [if_neg hA] at hh
      split
      · rename_i hw
        rw [if_pos hw] at hh
        obtain ⟨v, h1, h2⟩ := hh
        exact ⟨v, h1, h _ _ h2⟩
      · rename_i hw
        rw [if_neg hw] at hh
        exact h _ _ hh

theorem isA_guard {o : Oper} (h : isA o = true) : o.guard = none ∧ ∃ d, o.dst = some d := by
  unfold isA at h
  split at h
  · rename_i h1 h2 _; exact ⟨h1, _, h2⟩
  · rename_i h1 h2 _; exact ⟨h1, _, h2⟩
  · cases h

theorem aRes_run (hty : TyOk P ty) {o : Oper} (hA : isA o = true) {a : Act} {res : Nat → Res} (hr : aRes ty o a = some res) {H' : List Res} {w : World} (hw : St w0 X H' w) :
    ∃ w', (execOp a.eval o).run P w = .ok (.value (.pointer (some ⟨w.heap.size, 0, none⟩))) w' ∧ St w0 X (res w.heap.size :: H') w' := by
  unfold aRes at hr
  split at hr
  · rename_i e ho
    cases hi : ty e with
    | none => simp [hi] at hr
    | some i =>
      simp [hi] at hr
      subst hr
      obtain ⟨z, hz, hc, hl⟩ := run_zero hty hi w
      exact ⟨w.alloc (.cells ⟨i.zero⟩ e), by simp [execOp, ho, Instr.alloc, hz, newVar, newRow, hc], hw.alloc i.zero e⟩
  · rename_i e x ho
    simp at hr
    subst hr
    exact ⟨w.alloc (.cells (a.eval x).cells e), by simp [execOp, ho, Instr.box, newVar, newRow], hw.alloc (a.eval x).cells.toList e⟩
  · cases hr

/-- Whatever order is drawn. -/
theorem gAny_sound (hty : TyOk P ty) {Fin : Array Bool → Act → List Res → Prop} (hF : ∀ listed a B w, Fin listed a B → St w0 X (B ++ H) w → wpAny P .any ops Q m listed a w) :
    ∀ (n : Nat) (listed : Array Bool) (a : Act) (B : List Res) (w : World), gAny P ty w0 X H ops nF Fin n listed a B → St w0 X (B ++ H) w → wpAny P .any ops Q (n + m) listed a w
  | 0, listed, a, B, w, h, hw => by rw [Nat.zero_add]; exact hF listed a B w h.2 hw
  | n + 1, listed, a, B, w, h, hw => by
    rw [show n + 1 + m = (n + m) + 1 by omega]
    obtain ⟨⟨i0, hi0⟩, h2⟩ := h
    refine ⟨fun h0 => (by rw [h0] at hi0; cases hi0), fun i hi => ?_⟩
    have h3 := h2 i hi
    have ih := gAny_sound hty hF n (listed.setIfInBounds i true)
    unfold gOp at h3
    unfold wpOp
    obtain ⟨_, o, ho, _⟩ := mem_ready.1 hi
    simp only [ho] at h3 ⊢
    by_cases hA : isA o = true
    · rw [if_pos hA] at h3
      obtain ⟨res, hr, h4⟩ := h3
      obtain ⟨w', h5, h6⟩ := aRes_run hty hA hr hw
      rw [if_pos (by simp [Region.wanted, (isA_guard hA).1])]
      exact .inl (wp_value h5 (ih _ _ w' (h4 w.heap.size) h6))
    · rw [if_neg hA] at h3
      by_cases hwt : Region.wanted o (yielded ops a.tmps) = true
      · rw [if_pos hwt] at h3 ⊢
        obtain ⟨v, hq, h4⟩ := h3
        have hwH : St w0 X H w := hw.sub (List.sublist_append_right B H)
        rcases hq w hwH with h5 | ⟨f, args, h5, h6⟩
        · exact .inl (wp_value h5 (ih _ B w h4 hw))
        · refine .inl ?_
          unfold Oper.wp
          rw [h5, Oper.upon_enter]
          refine h6.mono ?_
          rintro e w' ⟨rfl, hb⟩
          exact ih _ B w' h4 (hw.grow hb)
      · rw [if_neg hwt] at h3 ⊢
        exact ih _ B w h3 hw

/-- In which order blocks were made makes no difference. -/
theorem gAny_perm {Fin : Array Bool → Act → List Res → Prop} (hF : ∀ listed a B B', B.Perm B' → Fin listed a B → Fin listed a B') :
    ∀ (n : Nat) (listed : Array Bool) (a : Act) (B B' : List Res), B.Perm B' → gAny P ty w0 X H ops nF Fin n listed a B → gAny P ty w0 X H ops nF Fin n listed a B'
  | 0, listed, a, B, B', hp, h => ⟨h.1, hF _ _ _ _ hp h.2⟩
  | n + 1, listed, a, B, B', hp, h => by
    refine ⟨h.1, fun i hi => ?_⟩
    have h3 := h.2 i hi
    unfold gOp at *
    split
    · rename_i ho; simp only [ho] at h3; exact gAny_perm hF n _ _ _ _ hp h3
    · rename_i o ho
      simp only [ho] at h3
      split
      · rename_i hA
        rw [if_pos hA] at h3
        obtain ⟨res, h1, h2⟩ := h3
        exact ⟨res, h1, fun b => gAny_perm hF n _ _ _ _ (hp.cons _) (h2 b)⟩
      · rename_i hA
        rw [if_neg hA] at h3
        split
        · rename_i hw
          rw [if_pos hw] at h3
          obtain ⟨v, h1, h2⟩ := h3
          exact ⟨v, h1, gAny_perm hF n _ _ _ _ hp h2⟩
        · rename_i hw
          rw [if_neg hw] at h3
          exact gAny_perm hF n _ _ _ _ hp h3

def Yq (P : Program) (w0 : World) (X : List Nat) (H : List Res) (ops : Array Oper) (o : Oper) (v : Value) (a : Act) : Prop :=
  (Region.wanted o (yielded ops a.tmps) = true ∧ qAt P w0 X H o a v) ∨ (Region.wanted o (yielded ops a.tmps) = false ∧ v = undef)
theorem Yq.gOp {i : Nat} {o : Oper} {v : Value} {a : Act} {B : List Res} (hi : ops[i]? = some o) (hA : ¬ isA o = true) (hy : Yq P w0 X H ops o v a) {K : Act → List Res → Prop} (h : K (a.put o.dst v) B) : gOp P ty w0 X H ops i K a B := by
  unfold Am.gOp
  simp only [hi]
  rw [if_neg hA]
  rcases hy with ⟨hw, hv⟩ | ⟨hw, rfl⟩
  · rw [if_pos hw]; exact ⟨v, hv, h⟩
  · rw [if_neg (by simp [hw])]; exact h
theorem Yq.of_same {o : Oper} {v : Value} {a a' : Act} (hy : Yq P w0 X H ops o v a) (he : execOp a'.eval o = execOp a.eval o)
    (hw : Region.wanted o (yielded ops a'.tmps) = Region.wanted o (yielded ops a.tmps)) : Yq P w0 X H ops o v a' := by
  unfold Yq qAt at *
  rw [he, hw]
  exact hy
theorem aRes_put {o : Oper} {a : Act} {d : Option Nat} {v : Value} (h : ∀ e, d = some e → e ∉ o.looksAt ops) : aRes ty o (a.put d v) = aRes ty o a := by
  unfold aRes
  split
  · rfl
  · rename_i e x ho
    have : (a.put d v).eval x = a.eval x := Act.eval_put fun e he hxe => h e he (by
      subst hxe
      simp [Oper.looksAt, ho, Op.operands])
    rw [this]
  · rfl

/-- An operation apart from one that has its value. -/
theorem gOp_put {j : Nat} {oi oj : Oper} {v : Value} {B : List Res} (hj : ops[j]? = some oj) (hap : oi.apart ops oj = true)
    (hsi : ∀ cs b, oi.op ≠ .select cs b) (hsj : ∀ cs b, oj.op ≠ .select cs b) {K : Act → List Res → Prop} {a : Act}
    (hy : Yq P w0 X H ops oi v a) (h : gOp P ty w0 X H ops j K (a.put oi.dst v) B) :
    gOp P ty w0 X H ops j (fun a' B' => Yq P w0 X H ops oi v a' ∧ K (a'.put oi.dst v) B') a B := by
  obtain ⟨h1, h2, h3⟩ := Oper.apart_spec hap
  have keep : ∀ u, Yq P w0 X H ops oi v (a.put oj.dst u) := fun u => hy.of_same (execOp_put oi hsi a oj.dst u h3) (wanted_put oi a oj.dst u h3)
  unfold gOp at *
  simp only [hj] at *
  rw [wanted_put oj a oi.dst v h1] at h
  split
  · rename_i hA
    rw [if_pos hA] at h
    obtain ⟨res, hr, hn⟩ := h
    rw [aRes_put h1] at hr
    exact ⟨res, hr, fun b => ⟨keep _, by rw [← Act.put_comm a v _ h2]; exact hn b⟩⟩
  · rename_i hA
    rw [if_neg hA] at h
    split
    · rename_i hw
      rw [if_pos hw] at h
      obtain ⟨u, hu, hn⟩ := h
      refine ⟨u, fun w hw' => ?_, keep u, by rw [← Act.put_comm a v u h2]; exact hn⟩
      have := hu w hw'
      rwa [execOp_put oj hsj a oi.dst v h1] at this
    · rename_i hw
      rw [if_neg hw] at h
      exact ⟨keep _, by rw [← Act.put_comm a v undef h2]; exact h⟩

/-- The last ones wait for all ahead of them. -/
def Tails (ops : Array Oper) (nF : Nat) : Prop := ∀ j o, ops[j]? = some o → nF ≤ j → ∀ i, i < j → Waits ops j i
/-- What is listed has all that it waited for listed. -/
def DC (ops : Array Oper) (listed : Array Bool) : Prop := ∀ j o, ops[j]? = some o → listed.getD j false = true → ∀ e ∈ o.after, Region.binds .any e = true → listed.getD e.on false = true
theorem reach_listed {listed : Array Bool} (hd : DC ops listed) {j i : Nat} (h : Waits ops j i) : ∀ o, ops[j]? = some o → (∀ e ∈ o.after, Region.binds .any e = true → listed.getD e.on false = true) → listed.getD i false = true := by
  induction h with
  | one ho he hb =>
    intro o' ho' hall
    rw [ho] at ho'
    obtain rfl := Option.some.inj ho'
    exact hall _ he hb
  | @more j i o e ho he hb hr ih =>
    intro o' ho' hall
    rw [ho] at ho'
    obtain rfl := Option.some.inj ho'
    have h1 := hall _ he hb
    cases hoo : ops[e.on]? with
    | none => cases hr <;> simp_all
    | some o2 => exact ih o2 hoo (hd e.on o2 hoo h1)
theorem maskOf_bit {acc : List Nat} {i : Nat} : ∀ (es : List Edge) (s : Nat), Nat.testBit (es.foldl (fun s e => if Region.binds .any e then s ||| (2 ^ e.on ||| acc.getD e.on 0) else s) s) i = true →
    Nat.testBit s i = true ∨ ∃ e ∈ es, Region.binds .any e = true ∧ (e.on = i ∨ Nat.testBit (acc.getD e.on 0) i = true)
  | [], s, h => .inl h
  | e :: es, s, h => by
    simp only [List.foldl_cons] at h
    rcases maskOf_bit es _ h with h1 | ⟨e', he', h1⟩
    · by_cases hb : Region.binds .any e = true
      · rw [if_pos hb] at h1
        simp only [Nat.testBit_or, Bool.or_eq_true, Nat.testBit_two_pow, decide_eq_true_eq] at h1
        rcases h1 with h1 | h1 | h1
        · exact .inl h1
        · exact .inr ⟨e, List.mem_cons_self, hb, .inl h1⟩
        · exact .inr ⟨e, List.mem_cons_self, hb, .inr h1⟩
      · rw [if_neg hb] at h1
        exact .inl h1
    · exact .inr ⟨e', List.mem_cons_of_mem _ he', h1⟩
theorem masks_ok (ops : Array Oper) : ∀ (l pre : List Oper) (acc : List Nat), acc.length = pre.length → (∀ j : Nat, (pre ++ l)[j]? = ops[j]?) → (∀ j i, Nat.testBit (acc.getD j 0) i = true → Waits ops j i) →
    ∀ j i, Nat.testBit ((l.foldl (fun acc o => acc ++ [maskOf acc o.after.toList]) acc).getD j 0) i = true → Waits ops j i
  | [], pre, acc, hl, ho, ha, j, i, h => ha j i h
  | o :: l, pre, acc, hl, ho, ha, j, i, h => by
    refine masks_ok ops l (pre ++ [o]) (acc ++ [maskOf acc o.after.toList]) (by simp [hl]) (by simpa using ho) ?_ j i h
    intro j i h
    rcases Nat.lt_trichotomy j acc.length with h1 | h1 | h1
    · rw [List.getD_eq_getElem?_getD, List.getElem?_append_left h1, ← List.getD_eq_getElem?_getD] at h
      exact ha j i h
    · subst h1
      rw [List.getD_eq_getElem?_getD, List.getElem?_append_right (Nat.le_refl _)] at h
      simp only [Nat.sub_self, List.getElem?_cons_zero, Option.getD_some] at h
      have hoj : ops[acc.length]? = some o := by
        rw [← ho, hl]
        simp
      rcases maskOf_bit _ _ h with h2 | ⟨e, he, hb, h2⟩
      · simp at h2
      · rcases h2 with h2 | h2
        · subst h2; exact .one hoj (by simpa using he) hb
        · exact .more hoj (by simpa using he) hb (ha _ _ h2)
    · rw [List.getD_eq_getElem?_getD, List.getElem?_eq_none (by simp; omega)] at h
      simp at h
theorem DC.set {listed : Array Bool} (hd : DC ops listed) {i : Nat} (hi : i ∈ Region.ready .any ops listed) : DC ops (listed.setIfInBounds i true) := by
  intro j o ho hj e he hb
  obtain ⟨_, oi, hoi, hall⟩ := mem_ready.1 hi
  by_cases e1 : i = j
  · subst e1
    rw [hoi] at ho
    obtain rfl : oi = o := by simpa using ho
    exact getD_set_true (hall e he hb)
  · rw [getD_set_ne false e1] at hj
    exact getD_set_true (hd j o ho hj e he hb)
theorem ready_unlisted0 {j : Nat} {listed : Array Bool} (hj : j ∈ Region.ready .any ops listed) : ¬ listed.getD j false = true := by
  have h0 := (mem_ready.1 hj).1
  rcases Nat.lt_or_ge j listed.size with h' | h'
  · simp [h'] at h0 ⊢; exact h0
  · simp [Array.getElem?_eq_none h']
theorem not_both {i j : Nat} {listed : Array Bool} (ht : Tails ops nF) (hd : DC ops listed) (hi : i ∈ Region.ready .any ops listed) (hiF : i < nF) (hj : j ∈ Region.ready .any ops listed) : j < nF := by
  rcases Nat.lt_or_ge j nF with h | h
  · exact h
  · exfalso
    obtain ⟨_, o, ho, hall⟩ := mem_ready.1 hj
    exact ready_unlisted0 hi (reach_listed hd (ht j o ho h i (by omega)) o ho hall)
theorem ready_unlisted {j : Nat} {listed : Array Bool} (hj : j ∈ Region.ready .any ops listed) : ¬ listed.getD j false = true := by
  have h0 := (mem_ready.1 hj).1
  rcases Nat.lt_or_ge j listed.size with h' | h'
  · simp [h'] at h0 ⊢; exact h0
  · simp [Array.getElem?_eq_none h']

theorem firstQ {Fin : Array Bool → Act → List Res → Prop} (ht : Tails ops nF) {i : Nat} {oi : Oper} {v : Value} (hi : ops[i]? = some oi) (hiF : i < nF) (hnA : ¬ isA oi = true) (hsel : ∀ (j : Nat) (o : Oper) cs b, ops[j]? = some o → o.op ≠ .select cs b) :
    ∀ (n : Nat) (listed : Array Bool) (a : Act) (B : List Res), DC ops listed →
      (∀ j oj, ops[j]? = some oj → j ≠ i → listed.getD j true = false → (∀ e ∈ oj.after, Region.binds .any e = true → e.on ≠ i) → oi.apart ops oj = true) →
      i ∈ Region.ready .any ops listed → Yq P w0 X H ops oi v a →
      gAny P ty w0 X H ops nF Fin n (listed.setIfInBounds i true) (a.put oi.dst v) B → gAny P ty w0 X H ops nF Fin (n + 1) listed a B := by
  intro n
  induction n with
  | zero =>
    intro listed a B hdc _ hr hy hG
    refine ⟨⟨i, hr⟩, fun j hj => ?_⟩
    by_cases hji : j = i
    · subst hji; exact hy.gOp hi hnA hG
    · exfalso
      have hjF := not_both ht hdc hr hiF hj
      have h1 := hG.1 j hjF
      rw [getD_set_ne false (Ne.symm hji)] at h1
      exact ready_unlisted hj h1
  | succ n ih =>
    intro listed a B hdc hfree hr hy hG
    refine ⟨⟨i, hr⟩, fun j hj => ?_⟩
    by_cases hji : j = i
    · subst hji; exact hy.gOp hi hnA hG
    · have h1 := hG.2 j (ready_mono hj hji)
      obtain ⟨hjun, oj, hoj, hall⟩ := mem_ready.1 hj
      have hnot : ∀ e ∈ oj.after, Region.binds .any e = true → e.on ≠ i := fun e he hb heq => by
        have h1 := hall e he hb
        rw [heq] at h1
        exact ready_unlisted hr h1
      have h2 := gOp_put hoj (hfree j oj hoj hji hjun hnot) (fun cs b => hsel i oi cs b hi) (fun cs b => hsel j oj cs b hoj) hy h1
      have hfree' : ∀ k ok, ops[k]? = some ok → k ≠ i → (listed.setIfInBounds j true).getD k true = false →
          (∀ e ∈ ok.after, Region.binds .any e = true → e.on ≠ i) → oi.apart ops ok = true := fun k ok hk hki hun hno => by
        refine hfree k ok hk hki ?_ hno
        by_cases hjk : j = k
        · subst hjk; exact hjun
        · rw [getD_set_ne true hjk] at hun; exact hun
      refine gOp_mono (fun a' B' h3 => ih (listed.setIfInBounds j true) a' B' (hdc.set hj) hfree' (ready_mono hr (Ne.symm hji)) h3.1 ?_) h2
      rw [Array.setIfInBounds_comm _ _ hji]
      exact h3.2

theorem firstA {Fin : Array Bool → Act → List Res → Prop} (hFp : ∀ listed a B B', B.Perm B' → Fin listed a B → Fin listed a B') (ht : Tails ops nF) {i : Nat} {oi : Oper} (hi : ops[i]? = some oi) (hiF : i < nF) (hA : isA oi = true) :
    ∀ (n : Nat) (listed : Array Bool) (a : Act) (B : List Res) (res : Nat → Res), DC ops listed →
      (∀ j oj, ops[j]? = some oj → j ≠ i → listed.getD j true = false → (∀ e ∈ oj.after, Region.binds .any e = true → e.on ≠ i) → oi.apart ops oj = true) →
      (∀ j oj, ops[j]? = some oj → j < nF → listed.getD j true = false → isA oj = true) →
      i ∈ Region.ready .any ops listed → aRes ty oi a = some res →
      (∀ b, gAny P ty w0 X H ops nF Fin n (listed.setIfInBounds i true) (a.put oi.dst (.pointer (some ⟨b, 0, none⟩))) (res b :: B)) → gAny P ty w0 X H ops nF Fin (n + 1) listed a B := by
  intro n
  have self : ∀ (n : Nat) (listed : Array Bool) (a : Act) (B : List Res) (res : Nat → Res), aRes ty oi a = some res → (∀ b, gAny P ty w0 X H ops nF Fin n (listed.setIfInBounds i true) (a.put oi.dst (.pointer (some ⟨b, 0, none⟩))) (res b :: B)) →
      gOp P ty w0 X H ops i (gAny P ty w0 X H ops nF Fin n (listed.setIfInBounds i true)) a B := by
    intro n listed a B res hr hG
    unfold gOp
    simp only [hi]
    rw [if_pos hA]
    exact ⟨res, hr, hG⟩
  induction n with
  | zero =>
    intro listed a B res hdc _ _ hr hres hG
    refine ⟨⟨i, hr⟩, fun j hj => ?_⟩
    by_cases hji : j = i
    · subst hji; exact self 0 listed a B res hres hG
    · exfalso
      have hjF := not_both ht hdc hr hiF hj
      have h1 := (hG 0).1 j hjF
      rw [getD_set_ne false (Ne.symm hji)] at h1
      exact ready_unlisted hj h1
  | succ n ih =>
    intro listed a B res hdc hfree hall hr hres hG
    refine ⟨⟨i, hr⟩, fun j hj => ?_⟩
    by_cases hji : j = i
    · subst hji; exact self (n + 1) listed a B res hres hG
    · obtain ⟨hjun, oj, hoj, hal⟩ := mem_ready.1 hj
      have hnot : ∀ e ∈ oj.after, Region.binds .any e = true → e.on ≠ i := fun e he hb heq => by
        have h1 := hal e he hb
        rw [heq] at h1
        exact ready_unlisted hr h1
      have hap := hfree j oj hoj hji hjun hnot
      obtain ⟨h1, h2, h3⟩ := Oper.apart_spec hap
      have hjA : isA oj = true := hall j oj hoj (not_both ht hdc hr hiF hj) hjun
      have hfree' : ∀ k ok, ops[k]? = some ok → k ≠ i → (listed.setIfInBounds j true).getD k true = false →
          (∀ e ∈ ok.after, Region.binds .any e = true → e.on ≠ i) → oi.apart ops ok = true := fun k ok hk hki hun hno => by
        refine hfree k ok hk hki ?_ hno
        by_cases hjk : j = k
        · subst hjk; exact hjun
        · rw [getD_set_ne true hjk] at hun; exact hun
      have hall' : ∀ k ok, ops[k]? = some ok → k < nF → (listed.setIfInBounds j true).getD k true = false → isA ok = true := fun k ok hk hkF hun => by
        refine hall k ok hk hkF ?_
        by_cases hjk : j = k
        · subst hjk; exact hjun
        · rw [getD_set_ne true hjk] at hun; exact hun
      have hj2 := (hG 0).2 j (ready_mono hj hji)
      unfold gOp at hj2 ⊢
      simp only [hoj] at hj2 ⊢
      rw [if_pos hjA] at hj2 ⊢
      obtain ⟨resj, hrj, _⟩ := hj2
      rw [aRes_put h1] at hrj
      refine ⟨resj, hrj, fun b' => ?_⟩
      refine ih (listed.setIfInBounds j true) (a.put oj.dst (.pointer (some ⟨b', 0, none⟩))) (resj b' :: B) res (hdc.set hj) hfree' hall' (ready_mono hr (Ne.symm hji)) (by rw [aRes_put h3]; exact hres) (fun b => ?_)
      have hb := (hG b).2 j (ready_mono hj hji)
      unfold gOp at hb
      simp only [hoj] at hb
      rw [if_pos hjA] at hb
      obtain ⟨res', hr', hb⟩ := hb
      rw [aRes_put h1, hrj] at hr'
      obtain rfl : resj = res' := by simpa using hr'
      have := hb b'
      rw [Act.put_comm a _ _ h2, Array.setIfInBounds_comm _ _ (Ne.symm hji)] at this
      exact gAny_perm hFp n _ _ _ _ (List.Perm.swap _ _ _) this
end
end Go.Proofs.Yticobcojmpakfaa.Am
