/- Code that defers calls. -/
import Derived.Test.YtgjdmlgdgbehoaaAm19
import Derived.Defers
set_option linter.unusedVariables false
set_option linter.unusedSimpArgs false
namespace Go.Proofs.Ytgjdmlgdgbehoaa.Am
open Go Go.RowKit
/-- Where code ends, with the calls that are deferred. -/
def HD (n : Nat) (w0 : World) (X : List Nat) (Q : List Deferred → Ex → Sl → List Res → Prop) (e : Exit) (a : Act) (w : World) : Prop :=
  match e with
  | .normal => ∃ D S H, Fr D n a S ∧ St w0 X H w ∧ Q D .normal S H
  | .exit i => ∃ D S H, Fr D n a S ∧ St w0 X H w ∧ Q D (.exit i) S H
  | .ret => ∃ D S H, Fr D n a S ∧ St w0 X H w ∧ Q D .ret S H
  | _ => False
/-- What code does, where D is deferred. -/
structure CodeD (P : Program) (n : Nat) (w0 : World) (X : List Nat) (c : Code) (Q : List Deferred → Ex → Sl → List Res → Prop) (D : List Deferred) (S : Sl) (H : List Res) : Prop where
  out : ∀ a w, Fr D n a S → St w0 X H w → c.wp P (HD n w0 X Q) a w
section
variable {P : Program} {ty : Nat → Option TD} {w0 : World} {X : List Nat} {n : Nat} {Q : List Deferred → Ex → Sl → List Res → Prop} {D : List Deferred} {S : Sl} {H : List Res}
theorem CodeD.plain {c : Code} (hty : TyOk P ty) (hm : P.follows .mixedOrders = true) (hok : codeOk n c = true) (h : codeR P ty w0 X c (fun e S' H' => Q D e S' H') S H) : CodeD P n w0 X c Q D S H := ⟨fun a w hF hS => by
  rw [codeR_eq] at h
  refine wp_mono (codeW_sound hty hm c _ a w S H hok hF hS h) ?_
  intro e a' w' he
  cases e with
  | normal => obtain ⟨S', H', h1, h2, h3⟩ := he; exact ⟨D, S', H', h1, h2, h3⟩
  | exit i => obtain ⟨S', H', h1, h2, h3⟩ := he; exact ⟨D, S', H', h1, h2, h3⟩
  | ret => obtain ⟨S', H', h1, h2, h3⟩ := he; exact ⟨D, S', H', h1, h2, h3⟩
  | goto l => exact he.elim
  | panic ch => exact he.elim
  | outgrown => exact he.elim⟩
theorem CodeD.seq {x y : Code} (h : CodeD P n w0 X x (fun D e S H => match e with | .normal => CodeD P n w0 X y Q D S H | e => Q D e S H) D S H) : CodeD P n w0 X (.seq x y) Q D S H := ⟨fun a w hF hS => by
  refine wp_seq (wp_mono (h.out a w hF hS) ?_)
  intro e a' w' he
  cases e with
  | normal => obtain ⟨D', S', H', h1, h2, h3⟩ := he; exact h3.out a' w' h1 h2
  | exit i => exact he
  | ret => exact he
  | goto l => exact he.elim
  | panic ch => exact he.elim
  | outgrown => exact he.elim⟩
theorem CodeD.cond {t : Nat} {x y : Code} {b : Bool} (hb : look S t = some (.bool b)) (h1 : b = true → CodeD P n w0 X x Q D S H) (h2 : b = false → CodeD P n w0 X y Q D S H) : CodeD P n w0 X (.cond (.tmp t) x y) Q D S H := ⟨fun a w hF hS => by
  have hev : a.eval (.tmp t) = .bool b := opd_eval hF.ag (by simpa [opd] using hb)
  exact wp_cond_split hev (fun h => (h1 h).out a w hF hS) (fun h => (h2 h).out a w hF hS)⟩
/-- A region whose last operation defers a call. -/
theorem CodeD.defer {id : Nat} {pre : List Oper} {o : Oper} {c : Call} (hty : TyOk P ty) (hok : opsOk n pre = true) (ho : o.op = .defer c) (hd : o.dst = none) (hg : o.guard = none)
    (h : opsR P ty w0 X (fun j => (((pre ++ [o]).toArray)[j]?).bind (·.dst)) pre S H (fun S' H' => ∃ x f first caps args, c.callee = .value x ∧ opd S' x = some (.func f first caps) ∧ opds S' c.args.toList = some args ∧ Q ({ target := .fn f caps, args := ⟨first.toList ++ args⟩ } :: D) .normal S' H')) :
    CodeD P n w0 X (.region id (pre ++ [o]).toArray false) Q D S H := ⟨fun a w hF hS => by
  refine wp_region ?_
  have hr : List.range (pre ++ [o]).toArray.size = List.range' 0 pre.length ++ [pre.length] := by simp [List.range_eq_range', List.range'_concat]
  rw [hr]
  rw [opsR_eq] at h
  refine opsW_soundJ (J := [pre.length]) hty pre 0 a w S H _ (fun j hj => by simp [List.getElem?_append_left hj]) hok hF hS h ?_
  rintro a' w' S' H' hF' hS' ⟨x, f, first, caps, args, hc, hx, ha, hq⟩
  rw [wpOps_cons]
  unfold wpOp
  have h0 : ((pre ++ [o]).toArray)[pre.length]? = some o := by simp
  simp only [h0]
  rw [if_pos (by simp [Region.wanted, hg])]
  refine .inl ?_
  have e1 : c.args.map a'.eval = ⟨args⟩ := by apply Array.ext'; simpa using opds_eval hF'.ag ha
  have e2 : first ++ (⟨args⟩ : Array Value) = ⟨first.toList ++ args⟩ := by apply Array.ext'; simp
  have : (execOp a'.eval o).run P w' = .ok (.defer { target := .fn f caps, args := ⟨first.toList ++ args⟩ }) w' := by
    simp [execOp, ho, resolve, hc, opd_eval hF'.ag hx, Deferred.ofValue, e1, e2, Result.andThen]
  unfold Oper.wp
  rw [this, Oper.upon_defer, hd]
  exact ⟨_, S', H', ⟨hF'.ag, hF'.sz, by show _ :: a'.defers = _; rw [hF'.df]⟩, hS', hq⟩⟩
theorem CodeD.defer' {id : Nat} {ops : Array Oper} {o : Oper} {c : Call} (h0 : ops.toList.getLast? = some o) (hty : TyOk P ty) (hok : opsOk n ops.toList.dropLast = true) (ho : o.op = .defer c) (hd : o.dst = none) (hg : o.guard = none)
    (h : opsR P ty w0 X (fun j => (ops[j]?).bind (·.dst)) ops.toList.dropLast S H (fun S' H' => ∃ x f first caps args, c.callee = .value x ∧ opd S' x = some (.func f first caps) ∧ opds S' c.args.toList = some args ∧ Q ({ target := .fn f caps, args := ⟨first.toList ++ args⟩ } :: D) .normal S' H')) :
    CodeD P n w0 X (.region id ops false) Q D S H := by
  have hne : ops.toList ≠ [] := fun e => by rw [e] at h0; cases h0
  have hl : ops.toList.getLast hne = o := by rw [List.getLast?_eq_some_getLast hne] at h0; exact Option.some.inj h0
  have he : ops = (ops.toList.dropLast ++ [o]).toArray := by
    apply Array.ext'
    rw [← hl, List.dropLast_concat_getLast]
  generalize ops.toList.dropLast = pre at *
  subst he
  exact CodeD.defer hty hok ho hd hg h
/-- The deferred calls, at the door. -/
def LeaveD (P : Program) (ty : Nat → Option TD) (w0 : World) (X : List Nat) (rs : List ResultVar) (S : Sl) (R : Value → List Res → Prop) : List Deferred → List Res → Prop
  | [], H => retR ty w0 X rs R .ret S H
  | d :: ds, H => ∃ fv cap f args, d.target = .fn fv cap ∧ (∀ w, (invoke d.target d.args).run P w = .ok (.enter f ⟨args⟩) w) ∧ ∃ R' : List Res → Prop, (∀ w, St w0 X H w → ∀ u, CallsD P f ⟨args⟩ u w fun e u' w' => u' = u ∧ ∃ v H', e = .returned v ∧ R' H' ∧ St w0 X H' w') ∧ ∀ H', R' H' → LeaveD P ty w0 X rs S R ds H'
structure LeaveP (P : Program) (ty : Nat → Option TD) (w0 : World) (X : List Nat) (rs : List ResultVar) (S : Sl) (R : Value → List Res → Prop) (ds : List Deferred) (H : List Res) : Prop where
  out : LeaveD P ty w0 X rs S R ds H
theorem leaveD_sound (hty : TyOk P ty) {fn : Func} {R : Value → List Res → Prop} {a : Act} (hA : Agree a S) : ∀ (ds : List Deferred) (H : List Res) (w : World), St w0 X H w → LeaveD P ty w0 X fn.results.toList S R ds H → Leaves P fn a.tmps (fun e w' => ∃ v H', e = .returned v ∧ R v H' ∧ St w0 X H' w') ds .returning w
  | [], H, w, hS, h => by
    have hF : Fr [] a.tmps.size { a with defers := [] } S := ⟨hA, rfl, rfl⟩
    have h' : retW ty w0 X fn R .ret S H := by simpa only [LeaveD, retR_eq] using h
    obtain ⟨_, v, h1, v', H', e, h2, h3⟩ := ret_sound hty (a := { a with defers := [] }) hF hS h'
    cases e
    exact ⟨_, h1, _, H', rfl, h2, h3⟩
  | d :: ds, H, w, hS, h => by
    obtain ⟨fv, cap, f, args, h1, h2, R', h3, h4⟩ := h
    refine ⟨by simp, fv, cap, f, ⟨args⟩, h1, h2 w, (h3 w hS .returning).mono ?_⟩
    rintro e u' w' ⟨rfl, v, H', rfl, h5, h6⟩
    exact leaveD_sound hty hA ds H' w' h6 (h4 H' h5)
theorem func_defers (hty : TyOk P ty) {f : FuncId} {fn : Func} {c : Code} (hf : P.funcs[f]? = some fn) (hb : fn.body = some c)
    {args : List Value} (hn : args.length ≤ fn.ntmps) {R : Value → List Res → Prop} {w : World} (h : CodeD P fn.ntmps w0 X c (fun D e S H => match e with | .exit _ => False | _ => LeaveP P ty w0 X fn.results.toList S R D H) [] (argS 0 args) H) (hw : St w0 X H w) :
    Calls P f ⟨args⟩ w fun e w' => ∃ v H', e = .returned v ∧ R v H' ∧ St w0 X H' w' := by
  refine calls_of_wp_defers hf hb ?_
  have hF : Fr [] fn.ntmps { tmps := (⟨args⟩ : Array Value) ++ Array.replicate (fn.ntmps - (⟨args⟩ : Array Value).size) undef, defers := [] } (argS 0 args) := by
    refine ⟨fun t v hv => ?_, by simp; omega, rfl⟩
    obtain ⟨_, h2⟩ := argS_look args 0 t v hv
    simp only [Nat.sub_zero] at h2
    have hlt : t < args.length := (List.getElem?_eq_some_iff.1 h2).1
    rw [Array.getElem?_append_left (by simpa using hlt)]
    simpa using h2
  refine wp_mono (h.out _ w hF hw) ?_
  intro e a' w' he
  cases e with
  | normal => obtain ⟨D, S', H', hF', hS', h'⟩ := he; show Leaves _ _ _ _ a'.defers _ _; rw [hF'.df]; exact leaveD_sound hty hF'.ag D H' w' hS' h'.out
  | ret => obtain ⟨D, S', H', hF', hS', h'⟩ := he; show Leaves _ _ _ _ a'.defers _ _; rw [hF'.df]; exact leaveD_sound hty hF'.ag D H' w' hS' h'.out
  | exit i => obtain ⟨D, S', H', hF', hS', h'⟩ := he; exact h'.elim
  | goto l => exact he.elim
  | panic ch => exact he.elim
  | outgrown => exact he.elim
theorem funcD_x (hty : TyOk P ty) {f : FuncId} {fn : Func} {c : Code} (hf : P.funcs[f]? = some fn) (hb : fn.body = some c)
    {args : List Value} (hn : args.length ≤ fn.ntmps) {σ : Type} {side : σ → Prop} {val : σ → Value} {res : σ → List Res} {w : World} (hS : St w (feet H) H w) (h : CodeD P fn.ntmps w (feet H) c (fun D e S H' => match e with | .exit _ => False | _ => LeaveP P ty w (feet H) fn.results.toList S (fun v H' => EndX w (feet H) side val res v H') D H') [] (argS 0 args) H) :
    FnX P f args H side val res w :=
  ⟨(func_defers hty hf hb hn h hS).mono fun e w' ⟨v, H', h1, ⟨s, h2, h3, h4⟩, h5⟩ => ⟨s, h2, by rw [h1, h3], h4 _ h5⟩⟩
/-- A call that is deferred, of what is handed H. -/
structure FnD (P : Program) (f : FuncId) (args : List Value) (H : List Res) {σ : Type} (side : σ → Prop) (val : σ → Value) (res : σ → List Res) (w : World) : Prop where
  out : ∀ u, CallsD P f ⟨args⟩ u w fun e u' w' => u' = u ∧ ∃ s, side s ∧ e = .returned (val s) ∧ St w (feet H) (res s) w'
theorem funcR_d (hty : TyOk P ty) (hm : P.follows .mixedOrders = true) {f : FuncId} {fn : Func} (hf : P.funcs[f]? = some fn) (hok : (match fn.body with | some c => codeOk fn.ntmps c | none => false) = true)
    {args : List Value} (hn : args.length ≤ fn.ntmps) {σ : Type} {side : σ → Prop} {val : σ → Value} {res : σ → List Res} {w : World} (hS : St w (feet H) H w) (h : funcR P ty w (feet H) fn args H fun v H' => EndX w (feet H) side val res v H') :
    FnD P f args H side val res w := ⟨fun u => by
  rw [funcR_eq] at h
  cases hb : fn.body with
  | none => simp [funcW, hb] at h
  | some c =>
    simp only [funcW, hb] at h hok
    refine (callsD_of_wp (R := fun e w' => ∃ v H', e = .returned v ∧ EndX w (feet H) side val res v H' ∧ St w (feet H) H' w') hf hb ?_).mono fun e u' w' ⟨h1, v, H', h2, ⟨s, h3, h4, h5⟩, h6⟩ => ⟨h1, s, h3, by rw [h2, h4], h5 _ h6⟩
    have hF : Fr [] fn.ntmps { tmps := (⟨args⟩ : Array Value) ++ Array.replicate (fn.ntmps - (⟨args⟩ : Array Value).size) undef, defers := [] } (argS 0 args) := by
      refine ⟨fun t v hv => ?_, by simp; omega, rfl⟩
      obtain ⟨_, h2⟩ := argS_look args 0 t v hv
      simp only [Nat.sub_zero] at h2
      have hlt : t < args.length := (List.getElem?_eq_some_iff.1 h2).1
      rw [Array.getElem?_append_left (by simpa using hlt)]
      simpa using h2
    refine wp_mono (codeW_sound hty hm c _ _ w _ H hok hF hS h) ?_
    intro e a' w' he
    cases e with
    | normal =>
      obtain ⟨S', H', hF', hS', h'⟩ := he
      exact ret_sound hty hF' hS' h'
    | ret =>
      obtain ⟨S', H', hF', hS', h'⟩ := he
      exact ret_sound hty hF' hS' h'
    | exit i =>
      obtain ⟨S', H', hF', hS', h'⟩ := he
      exact h'.elim
    | goto l => exact he.elim
    | panic ch => exact he.elim
    | outgrown => exact he.elim⟩
theorem Take.refl : ∀ (H : List Res), Take H H []
  | [] => .nil
  | _ :: t => .cons .here (Take.refl t)
/-- The next deferred call, by its contract. -/
theorem LeaveP.next {rs : List ResultVar} {R : Value → List Res → Prop} {ds : List Deferred} {f : FuncId} {cap : Array Value} {dargs : Array Value} {args : List Value} {H0 G : List Res} {σ : Type} {side : σ → Prop} {val : σ → Value} {res : σ → List Res} (ht : Take H H0 G) (he : ∃ fn, P.funcs[f]? = some fn ∧ (fn.name == "runtime.NumGoroutine") = false ∧ fn.body.isNone = false) (hargs : dargs ++ cap = ⟨args⟩)
    (hc : ∀ w, St w0 X H w → FnD P f args H0 side val res w) (hk : ∀ s, side s → LeaveP P ty w0 X rs S R ds (res s ++ G)) : LeaveP P ty w0 X rs S R ({ target := .fn (.func f) cap, args := dargs } :: ds) H := by
  obtain ⟨fn, h1, h2, h3⟩ := he
  refine ⟨⟨.func f, cap, f, args, rfl, fun w => ?_, fun H' => ∃ s, side s ∧ H' = res s ++ G, fun w hw u => ((hc w hw).out u).mono ?_, fun H' ⟨s, h4, h5⟩ => by rw [h5]; exact (hk s h4).out⟩⟩
  · simp only [invoke, hargs]; exact call_run h1 h2 h3 w
  · rintro e u' w' ⟨rfl, s, h4, h5, h6⟩
    exact ⟨rfl, val s, _, h5, ⟨s, h4, rfl⟩, (hw.perm ht.perm).call h6⟩
theorem LeaveP.end {rs : List ResultVar} {R : Value → List Res → Prop} (h : retR ty w0 X rs R .ret S H) : LeaveP P ty w0 X rs S R [] H := ⟨h⟩
end
end Go.Proofs.Ytgjdmlgdgbehoaa.Am
