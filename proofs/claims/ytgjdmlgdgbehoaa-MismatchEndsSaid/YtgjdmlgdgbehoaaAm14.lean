/- Rows of elements: what is read of them, what is written, what came in. -/
import Derived.Test.YtgjdmlgdgbehoaaAm13
import Derived.Test.YtgjdmlgdgbehoaaAm11
set_option linter.unusedVariables false
set_option linter.unusedSimpArgs false
namespace Go.Proofs.Ytgjdmlgdgbehoaa.Am
open Go Go.RowKit
theorem getSelf {l : List (List Value)} {j : Nat} {x y : List Value} (h : l[j]? = some y) : (l.set j x)[j]? = some x := by
  have := (List.getElem?_eq_some_iff.1 h).1
  simp [this]
theorem getOther {l : List (List Value)} {i j : Nat} {x y : List Value} (hne : i ≠ j) (h : l[j]? = some y) : (l.set i x)[j]? = some y := by
  rw [List.getElem?_set_ne hne]; exact h
theorem setSame {l : List (List Value)} {j : Nat} {x : List Value} (h : l[j]? = some x) : l.set j x = l := by
  apply List.ext_getElem?
  intro i
  by_cases e : j = i
  · subst e; rw [getSelf h, h]
  · rw [List.getElem?_set_ne e]
theorem mapGet {α : Type} {enc : α → List Value} {l : List α} {j : Nat} (h : j < l.length) : (l.map enc)[j]? = some (enc (l[j]'h)) := by simp [h]
section
variable {P : Program} {ty : Nat → Option TD} {w0 : World} {X : List Nat} {H : List Res}
theorem loadArr {b n c E sz : Nat} {l : List (List Value)} {i : TD} {o j q : Nat} {x : List Value} {k : Value → Prop} (hm : Res.arr (.slice (some ⟨b, 0, none⟩) n c) E sz l ∈ H) (ho : o = 0 + j * sz + q) (hx : l[j]? = some x) (hk : subK False x q i.size fun vs => ofCells i.d vs k) : loadW w0 X H b o i k := by
  by_cases hq : q + i.size ≤ x.length
  · rw [subK_eq _ _ _ _ _ hq] at hk
    exact .inr ⟨_, by rw [ho]; exact Rd.arr hm hx (by simp), by simp; omega, hk⟩
  · rw [subK_dflt _ _ _ _ _ hq] at hk; exact hk.elim
/-- A slice that reads as elements. -/
structure SlAt (w : World) (A : Option Addr) (sz : Nat) (l : List (List Value)) : Prop where
  len : ∀ x ∈ l, x.length = sz
  at_ : 0 < l.length → ∃ b o, A = some ⟨b, o, none⟩ ∧ w.rangeAt b o l.flatten
theorem SlAt.nil (w : World) (A : Option Addr) (sz : Nat) : SlAt w A sz [] := ⟨by simp, by simp⟩
/-- Elements that lie somewhere, and stay. -/
structure Old (w0 : World) (X : List Nat) (b o sz : Nat) (l : List (List Value)) : Prop where
  len : ∀ x ∈ l, x.length = sz
  rd : ∀ H, Rd w0 X H b o l.flatten
theorem SlAt.old {b o sz : Nat} {l : List (List Value)} {w : World} (h : SlAt w (some ⟨b, o, none⟩) sz l) (hp : 0 < l.length) (hX : b ∉ X) : Old w X b o sz l := by
  obtain ⟨b', o', he, hr⟩ := h.at_ hp
  cases he
  exact ⟨h.len, fun H => Rd.old hr hX⟩
theorem Old.sl {b o sz : Nat} {l : List (List Value)} {w : World} (h : Old w0 X b o sz l) (hw : St w0 X H w) : SlAt w (some ⟨b, o, none⟩) sz l := ⟨h.len, fun _ => ⟨b, o, rfl, h.rd H w hw⟩⟩
theorem loadOld {b o0 sz : Nat} {l : List (List Value)} {i : TD} {o j q : Nat} {x : List Value} {k : Value → Prop} (hm : Old w0 X b o0 sz l) (ho : o = o0 + j * sz + q) (hx : l[j]? = some x) (hk : subK False x q i.size fun vs => ofCells i.d vs k) : loadW w0 X H b o i k := by
  by_cases hq : q + i.size ≤ x.length
  · rw [subK_eq _ _ _ _ _ hq] at hk
    refine .inr ⟨_, ?_, by simp; omega, hk⟩
    intro w hw u v hv
    have hv' := hv
    have hu : u < i.size := by have := (List.getElem?_eq_some_iff.1 hv).1; simp at this; omega
    rw [List.getElem?_take, if_pos hu, List.getElem?_drop] at hv'
    have hj : j < l.length := (List.getElem?_eq_some_iff.1 hx).1
    have hxl : x.length = sz := hm.len x (List.mem_of_getElem? hx)
    have h4 : l.flatten[j * sz + q + u]? = some v := by
      rw [flat_split hx, List.getElem?_append_right (by rw [take_len hm.len (by omega)]; omega), take_len hm.len (by omega), List.getElem?_append_left (by omega), show j * sz + q + u - j * sz = q + u by omega]
      exact hv'
    have := hm.rd H w hw _ _ h4
    rw [ho, show o0 + j * sz + q + u = o0 + (j * sz + q + u) by omega]
    exact this
  · rw [subK_dflt _ _ _ _ _ hq] at hk; exact hk.elim
/-- The places of elements without an offset. -/
theorem loadArr0 {b n c E sz : Nat} {l : List (List Value)} {i : TD} {o j : Nat} {x : List Value} {k : Value → Prop} (hm : Res.arr (.slice (some ⟨b, 0, none⟩) n c) E sz l ∈ H) (ho : o = 0 + j * sz) (hx : l[j]? = some x) (hk : subK False x 0 i.size fun vs => ofCells i.d vs k) : loadW w0 X H b o i k := loadArr hm (q := 0) ho hx hk
theorem loadArr1 {b n c E : Nat} {l : List (List Value)} {i : TD} {o j : Nat} {x : List Value} {k : Value → Prop} (hm : Res.arr (.slice (some ⟨b, 0, none⟩) n c) E 1 l ∈ H) (ho : o = 0 + j) (hx : l[j]? = some x) (hk : subK False x 0 i.size fun vs => ofCells i.d vs k) : loadW w0 X H b o i k := loadArr hm (j := j) (q := 0) (by omega) hx hk
theorem loadOld0 {b o0 sz : Nat} {l : List (List Value)} {i : TD} {o j : Nat} {x : List Value} {k : Value → Prop} (hm : Old w0 X b o0 sz l) (ho : o = o0 + j * sz) (hx : l[j]? = some x) (hk : subK False x 0 i.size fun vs => ofCells i.d vs k) : loadW w0 X H b o i k := loadOld hm (q := 0) ho hx hk
theorem loadOld1 {b o0 : Nat} {l : List (List Value)} {i : TD} {o j : Nat} {x : List Value} {k : Value → Prop} (hm : Old w0 X b o0 1 l) (ho : o = o0 + j) (hx : l[j]? = some x) (hk : subK False x 0 i.size fun vs => ofCells i.d vs k) : loadW w0 X H b o i k := loadOld hm (j := j) (q := 0) (by omega) hx hk
theorem storeArr {b o sz' n c E sz : Nat} {v : Value} {k : List Res → Prop} {l : List (List Value)} {f : Res → List Res} (hole : Hole H (.arr (.slice (some ⟨b, 0, none⟩) n c) E sz l) f) {j q : Nat} {x : List Value} (ho : o = 0 + j * sz + q) (hx : l[j]? = some x) (hlen : v.cells.toList.length = sz') (one : v.cells.toList.all (·.oneCell') = true)
      (hk : putK False x q v.cells.toList fun x' => k (f (.arr (.slice (some ⟨b, 0, none⟩) n c) E sz (l.set j x')))) : StX H b o sz' v k := .arr _ _ _ _ _ _ hole _ _ _ hx ho hlen one hk
theorem storeArr0 {b o sz' n c E sz : Nat} {v : Value} {k : List Res → Prop} {l : List (List Value)} {f : Res → List Res} (hole : Hole H (.arr (.slice (some ⟨b, 0, none⟩) n c) E sz l) f) {j : Nat} {x : List Value} (ho : o = 0 + j * sz) (hx : l[j]? = some x) (hlen : v.cells.toList.length = sz') (one : v.cells.toList.all (·.oneCell') = true)
      (hk : putK False x 0 v.cells.toList fun x' => k (f (.arr (.slice (some ⟨b, 0, none⟩) n c) E sz (l.set j x')))) : StX H b o sz' v k := .arr _ _ _ _ _ _ hole j 0 _ hx ho hlen one hk
theorem storeArr1 {b o sz' n c E : Nat} {v : Value} {k : List Res → Prop} {l : List (List Value)} {f : Res → List Res} (hole : Hole H (.arr (.slice (some ⟨b, 0, none⟩) n c) E 1 l) f) {j : Nat} {x : List Value} (ho : o = 0 + j) (hx : l[j]? = some x) (hlen : v.cells.toList.length = sz') (one : v.cells.toList.all (·.oneCell') = true)
      (hk : putK False x 0 v.cells.toList fun x' => k (f (.arr (.slice (some ⟨b, 0, none⟩) n c) E 1 (l.set j x')))) : StX H b o sz' v k := .arr _ _ _ _ _ _ hole j 0 _ hx (by omega) hlen one hk
/-- What is owned, to a callee that reads it. -/
theorem St.arrSl {w : World} (hw : St w0 X H w) {A : Option Addr} {n c E sz : Nat} {l : List (List Value)} (h : Res.arr (.slice A n c) E sz l ∈ H) : SlAt w A sz l := by
  obtain ⟨⟨h1, h2⟩, h3⟩ := hw.ok _ h
  refine ⟨h3, fun hp => ?_⟩
  rcases h2 with ⟨h2, h4⟩ | ⟨g, cap, cur, he, _, hg, _, _, _, ht⟩
  · omega
  · cases he
    refine ⟨g, 0, rfl, fun j u hu => ?_⟩
    rw [cell_of_row w g _ cur E (0, 0) hg]
    rw [← ht, List.getElem?_take] at hu
    split at hu
    · rw [Nat.zero_add]; simpa using hu
    · cases hu
/-- One element, to a callee that reads it by a pointer. -/
theorem St.elem {w : World} (hw : St w0 X H w) {b n c E sz : Nat} {l : List (List Value)} (h : Res.arr (.slice (some ⟨b, 0, none⟩) n c) E sz l ∈ H) {j : Nat} {x : List Value} (hx : l[j]? = some x) : w.rangeAt b (0 + j * sz) x :=
  Rd.arr (q := 0) h hx (by simp) w hw
theorem loadRg {b o' o q : Nat} {cs : List Value} {i : TD} {k : Value → Prop} (hm : ∀ H, Rd w0 X H b o cs) (ho : o' = o + q) (hk : subK False cs q i.size fun vs => ofCells i.d vs k) : loadW w0 X H b o' i k := by
  by_cases hq : q + i.size ≤ cs.length
  · rw [subK_eq _ _ _ _ _ hq] at hk
    refine .inr ⟨_, ?_, by simp; omega, hk⟩
    intro w hw u v hv
    have hu : u < i.size := by have := (List.getElem?_eq_some_iff.1 hv).1; simp at this; omega
    rw [List.getElem?_take, if_pos hu, List.getElem?_drop] at hv
    have := hm H w hw _ _ hv
    rw [ho, Nat.add_assoc]
    exact this
  · rw [subK_dflt _ _ _ _ _ hq] at hk; exact hk.elim
theorem loadRg0 {b o : Nat} {cs : List Value} {i : TD} {k : Value → Prop} (hm : ∀ H, Rd w0 X H b o cs) (hk : subK False cs 0 i.size fun vs => ofCells i.d vs k) : loadW w0 X H b o i k := loadRg hm (q := 0) rfl hk
theorem rg_old {b o : Nat} {cs : List Value} {w : World} (h : w.rangeAt b o cs) (hX : b ∉ X) : ∀ H, Rd w X H b o cs := fun H => Rd.old h hX
/-- A call that is handed H, and hands back val s, with res s. -/
structure FnX (P : Program) (f : FuncId) (args : List Value) (H : List Res) {σ : Type} (side : σ → Prop) (val : σ → Value) (res : σ → List Res) (w : World) : Prop where
  out : Calls P f ⟨args⟩ w fun e w' => ∃ s, side s ∧ e = .returned (val s) ∧ St w (feet H) (res s) w'
theorem callX {f : FuncId} {args : List Value} {H0 G : List Res} {σ : Type} {side : σ → Prop} {val : σ → Value} {res : σ → List Res} {K : Value → List Res → Prop} (ht : Take H0 H G) (he : ∃ fn, P.funcs[f]? = some fn ∧ (fn.name == "runtime.NumGoroutine") = false ∧ fn.body.isNone = false)
    (hc : ∀ w, St w0 X H0 w → FnX P f args H side val res w) (hk : ∀ s, side s → K (val s) (res s ++ G)) : CallW P w0 X f args H0 K := .call
  ⟨fun v H1 => ∃ s, side s ∧ v = val s ∧ H1 = res s ++ G, ⟨he, fun w hw => (hc w hw).out.mono fun e w' ⟨s, h1, h2, h3⟩ => ⟨val s, res s ++ G, h2, ⟨s, h1, rfl, rfl⟩, (hw.perm ht.perm).call h3⟩⟩, fun v H1 ⟨s, h1, h2, h3⟩ => by rw [h2, h3]; exact hk s h1⟩
inductive EndX (w0 : World) (X : List Nat) {σ : Type} (side : σ → Prop) (val : σ → Value) (res : σ → List Res) (v : Value) (H' : List Res) : Prop
  | mk (s : σ) (h1 : side s) (h2 : v = val s) (h3 : Ent w0 X H' (res s)) : EndX w0 X side val res v H'
theorem funcR_x (hty : TyOk P ty) (hm : P.follows .mixedOrders = true) {f : FuncId} {fn : Func} (hf : P.funcs[f]? = some fn) (hok : (match fn.body with | some c => codeOk fn.ntmps c | none => false) = true)
    {args : List Value} (hn : args.length ≤ fn.ntmps) {σ : Type} {side : σ → Prop} {val : σ → Value} {res : σ → List Res} {w : World} (hS : St w (feet H) H w) (h : funcR P ty w (feet H) fn args H fun v H' => EndX w (feet H) side val res v H') :
    FnX P f args H side val res w :=
  ⟨(funcR_new hty hm hf hok hn hS h).out.mono fun e w' ⟨v, H', h1, ⟨s, h2, h3, h4⟩, h5⟩ => ⟨s, h2, by rw [h1, h3], h4 _ h5⟩⟩
/-- An append of nothing. -/
theorem appNil {o : Oper} {S : Sl} {K : Value → List Res → Prop} {c : Call} {x y : Operand} {t t' e : TypeId} {A A' : Option Addr} {n q q' : Nat} (ho : o.op = .call c) (hc : c.callee = .builtin .append) (hargs : c.args = #[x, y]) (hat : c.argTypes = #[t, t'])
    (hu : P.underlying t = some (.slice e)) (hu' : P.underlying t' = some (.slice e)) (hi : (P.info? e).isSome = true) (hx : opd S x = some (.slice A n q)) (hy : opd S y = some (.slice A' 0 q')) (hn : n ≤ q) (hk : K (.slice A n q) H) : EscW P w0 X o S H K := by
  refine ⟨fun v H' => v = .slice A n q ∧ H' = H, fun a w hA hS => ?_, fun v H' ⟨h1, h2⟩ => by rw [h1, h2]; exact hk⟩
  refine ⟨.slice A n q, w, H, .inl ?_, ⟨rfl, rfl⟩, hS⟩
  obtain ⟨inf, hinf⟩ := Option.isSome_iff_exists.1 hi
  have hf : (Builtin.firstCells inf.size 0 (.slice A' 0 q')).run P w = .ok #[] w := by
    cases A' <;> simp [Builtin.firstCells, loadCells, loadCellsFrom]
  simp [execOp, ho, resolve, hc, hargs, hat, opd_eval hA hx, opd_eval hA hy, invoke, builtin, Builtin.append_, run_underlying hu, run_underlying hu', sizeOf, typeInfo, hinf, Builtin.lenOf, hn, hf]
  cases A <;> simp [storeCells]
theorem blkArr0 {g E sz : Nat} {G : List Res} : Ent w0 X (.blk g [] E :: G) (.arr (.slice (some ⟨g, 0, none⟩) 0 0) E sz [] :: G) := fun w hw => by
  refine hw.upd .here rfl rfl rfl (Nat.le_refl _) (fun _ _ _ => rfl) ?_ (fun b hb => .inl (by simpa [Res.foot, Value.ownBlock] using hb))
  have h1 : w.heap[g]? = some (.cells ⟨[]⟩ E (0, 0)) := hw.ok _ List.mem_cons_self
  exact ⟨⟨by simp, .inr ⟨g, 0, ⟨[]⟩, rfl, Nat.zero_le _, h1, Nat.le_refl _, by simp, by simp, by simp⟩⟩, by simp⟩
theorem nilArr {E sz : Nat} {G : List Res} : Ent w0 X G (.arr (.slice none 0 0) E sz [] :: G) := fun w hw => by
  refine hw.add (Below.refl _ _) ⟨⟨by simp, .inl ⟨rfl, rfl⟩⟩, by simp⟩ (fun b hb => by simp [Res.foot, Value.ownBlock] at hb)
theorem AppW.rowS {e b m : Nat} {ei : TD} {v : Value} {K : Value → List Res → Prop} {cs : List Value} {T : Nat} (hm : Res.blk b cs T ∈ H) (pos : 0 < ei.size) (hl : cs.length = m * ei.size) (one : cs.all (·.oneCell') = true) {n : Nat} {xs : List Value} {f : Res → List Res} (hf : Hole H (.row v e ei.size n xs) f) (h1 : n + m ≤ 1048576) (h2 : 1048576 * ei.bytes ≤ 140737488355328)
    (hk : ∀ A q, IsRow (.slice A (n + m) q) (n + m) → K (.slice A (n + m) q) (f (.row (.slice A (n + m) q) e ei.size (n + m) (xs ++ cs)))) : AppW w0 X H e ei b 0 m v K := .row cs pos hl (Rd.blk hm (by simp)) one n xs f hf (by unfold maxLen; omega) (Nat.le_trans (Nat.mul_le_mul_right _ h1) h2) hk
theorem AppW.arrS {e b m : Nat} {ei : TD} {v : Value} {K : Value → List Res → Prop} {cs : List Value} {T : Nat} (hm : Res.blk b cs T ∈ H) (pos : 0 < ei.size) (hm1 : m = 1) (hl : cs.length = ei.size) (one : cs.all (·.oneCell') = true) {xs : List (List Value)} {f : Res → List Res} (hf : Hole H (.arr v e ei.size xs) f) (h1 : xs.length + m ≤ 1048576) (h2 : 1048576 * ei.bytes ≤ 140737488355328)
    (hk : ∀ A q, IsRow (.slice A (xs.length + m) q) (xs.length + m) → K (.slice A (xs.length + m) q) (f (.arr (.slice A (xs.length + m) q) e ei.size (xs ++ [cs])))) : AppW w0 X H e ei b 0 m v K :=
  .arr [cs] pos (by simp [hm1]) (by simpa using hl) (Rd.blk hm (by simp)) (by simpa using one) xs f hf (by unfold maxLen; omega) (Nat.le_trans (Nat.mul_le_mul_right _ h1) h2) hk
theorem AppW.noneS {e b m : Nat} {ei : TD} {v : Value} {K : Value → List Res → Prop} {cs : List Value} {T : Nat} (hm : Res.blk b cs T ∈ H) (pos : 0 < ei.size) (hm1 : m = 1) (hl : cs.length = ei.size) (one : cs.all (·.oneCell') = true) (hv : v = .slice Option.none 0 0) (h2 : 1048576 * ei.bytes ≤ 140737488355328)
    (hk : ∀ A q, IsRow (.slice A m q) m → K (.slice A m q) (.arr (.slice A m q) e ei.size [cs] :: H)) : AppW w0 X H e ei b 0 m v K :=
  .noneA [cs] pos (by simp [hm1]) (by simpa using hl) (Rd.blk hm (by simp)) (by simpa using one) hv (by subst hm1; unfold maxLen; omega) (by subst hm1; omega) hk
/-- An append of all of an old slice to a new empty one. -/
theorem AppW.cloneS {e b o : Nat} {ei : TD} {v : Value} {K : Value → List Res → Prop} {l : List (List Value)} (hm : Old w0 X b o ei.size l) (pos : 0 < ei.size) (one : l.flatten.all (·.oneCell') = true) {g : Nat} {f : Res → List Res} (hf : Hole H (.blk g [] e) f) (hv : v = .slice (some ⟨g, 0, Option.none⟩) 0 0) {m : Nat} (hn : l.length = m) (h1 : m ≤ 1048576) (h2 : 1048576 * ei.bytes ≤ 140737488355328)
    (hk : ∀ A q, IsRow (.slice A m q) m → K (.slice A m q) (f (.arr (.slice A m q) e ei.size l))) : AppW w0 X H e ei b o m v K :=
  .blkA l pos hn hm.len (hm.rd H) one g f hf hv (by unfold maxLen; omega) (Nat.le_trans (Nat.mul_le_mul_right _ h1) h2) hk
theorem flatMap_flatten {α : Type} (enc : α → List Value) (l : List α) : (l.map enc).flatten = l.flatMap enc := rfl
/-- A row that was appended to, as elements. -/
theorem St.rowArr {w : World} {G G' : List Res} {v : Value} {E sz n : Nat} {xs : List Value} {l : List (List Value)} (hw : St w0 X H w) (hu : Upd H (.row v E sz n xs) (.arr v E sz l) G) (hl : xs = l.flatten) (hn : l.length = n) (hs : ∀ x ∈ l, x.length = sz) : St w0 X G w := by
  refine hw.upd hu rfl rfl rfl (Nat.le_refl _) (fun _ _ _ => rfl) ?_ (fun b hb => .inl hb)
  have := hw.ok _ hu.mem
  exact ⟨by rw [hn, ← hl]; exact this, hs⟩
end
end Go.Proofs.Ytgjdmlgdgbehoaa.Am
