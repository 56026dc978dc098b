/- A function's contract out of the function of its code. -/
import Derived.Test.YtgjdmlgdgbehoaaAm8
set_option linter.unusedVariables false
set_option linter.unusedSimpArgs false
namespace Go.Proofs.Ytgjdmlgdgbehoaa.Am
open Go Go.RowKit

section
variable (P : Program) (ty : Nat → Option TD) (w0 : World) (X : List Nat)
def resW (S : Sl) (H : List Res) : List ResultVar → (List Value → Prop) → Prop
  | [], K => K []
  | .tmp t :: r, K => match look S t with
    | some v => resW S H r fun l => K (v :: l)
    | none => False
  | .cell a t :: r, K => match look S a, ty t with
    | some (.pointer (some ⟨b, o, none⟩)), some i => loadW w0 X H b o i fun v => resW S H r fun l => K (v :: l)
    | _, _ => False
def oneOf : List Value → Value
  | [v] => v
  | l => .tuple ⟨l⟩
def retW (fn : Func) (R : Value → List Res → Prop) : Ex → Sl → List Res → Prop
  | .exit _, _, _ => False
  | _, S, H => resW ty w0 X S H fn.results.toList fun l => match l with
    | [v] => R v H
    | l => R (.tuple ⟨l⟩) H
def argS : Nat → List Value → Sl
  | _, [] => []
  | k, v :: r => (k, v) :: argS (k + 1) r
/-- What the whole function does. -/
def funcW (fn : Func) (args : List Value) (H : List Res) (R : Value → List Res → Prop) : Prop :=
  match fn.body with
  | some c => codeW P ty w0 X c (retW ty w0 X fn R) (argS 0 args) H
  | none => False
end

section
variable {P : Program} {ty : Nat → Option TD} {w0 : World} {X : List Nat}
theorem resW_run (hty : TyOk P ty) {a : Act} {S : Sl} (hA : Agree a S) {H : List Res} : ∀ (rs : List ResultVar) (K : List Value → Prop), resW ty w0 X S H rs K →
    ∃ vs, K vs ∧ ∀ w, St w0 X H w → ∀ f : ResultVar → Sem Value, (∀ u, f (.tmp u) = pure (a.tmps.getD u undef)) → (∀ p t, f (.cell p t) = (do loadVar t (← asAddr (a.tmps.getD p undef)))) → (rs.mapM f).run P w = .ok vs w
  | [], K, h => ⟨[], h, fun w hw f _ _ => by simp⟩
  | .tmp t :: r, K, h => by
    simp only [resW] at h
    split at h
    · rename_i v hv
      obtain ⟨vs, h1, h2⟩ := resW_run hty hA r _ h
      refine ⟨v :: vs, h1, fun w hw f hf hc => ?_⟩
      have : a.tmps.getD t undef = v := by simp [Array.getD_eq_getD_getElem?, hA t v hv]
      simp [List.mapM_cons, hf, this, h2 w hw f hf hc]
    · exact h.elim
  | .cell p t :: r, K, h => by
    simp only [resW] at h
    split at h
    · rename_i b o i hv hi
      obtain ⟨v, h3, h4⟩ := loadW_run hty hi h
      obtain ⟨vs, h1, h2⟩ := resW_run hty hA r _ h3
      refine ⟨v :: vs, h1, fun w hw f hf hc => ?_⟩
      have : a.tmps.getD p undef = .pointer (some ⟨b, o, none⟩) := by simp [Array.getD_eq_getD_getElem?, hA p _ hv]
      simp [List.mapM_cons, hc, this, asAddr, h4 w hw, h2 w hw f hf hc]
    · exact h.elim

theorem ret_sound (hty : TyOk P ty) {fn : Func} {R : Value → List Res → Prop} {n : Nat} {a : Act} {w : World} {S : Sl} {H : List Res} (hF : Fr [] n a S) (hS : St w0 X H w)
    (h : resW ty w0 X S H fn.results.toList fun l => match l with | [v] => R v H | l => R (.tuple ⟨l⟩) H) :
    a.defers = [] ∧ ∃ v, (results fn a.tmps).run P w = .ok v w ∧ ∃ v' H', Ending.returned v = .returned v' ∧ R v' H' ∧ St w0 X H' w := by
  obtain ⟨vs, h1, h2⟩ := resW_run hty hF.ag _ _ h
  refine ⟨hF.df, ?_⟩
  have hres : fn.results = fn.results.toList.toArray := by simp
  have hrr : (results fn a.tmps).run P w = .ok (if h : vs.toArray.size = 1 then vs.toArray[0] else .tuple vs.toArray) w := by
    unfold results
    rw [hres, List.mapM_toArray]
    simp only [Sem.run_bind, Sem.run_map]
    rw [h2 w hS _ (fun _ => rfl) (fun _ _ => rfl)]
    rfl
  split at h1
  · rename_i v
    exact ⟨v, by simpa using hrr, v, H, rfl, h1, hS⟩
  · rename_i hne
    have : ¬ vs.toArray.size = 1 := by
      intro e
      rcases vs with _ | ⟨v, _ | ⟨u, r⟩⟩
      · simp at e
      · exact hne v rfl
      · simp at e
    rw [dif_neg this] at hrr
    exact ⟨_, hrr, _, H, rfl, h1, hS⟩

theorem argS_look : ∀ (args : List Value) (k t : Nat) (v : Value), look (argS k args) t = some v → k ≤ t ∧ args[t - k]? = some v
  | [], k, t, v, h => by simp [argS, look] at h
  | u :: r, k, t, v, h => by
    simp only [argS, look] at h
    split at h
    · rename_i e
      have e : k = t := by simpa using e
      subst e
      exact ⟨Nat.le_refl _, by simpa using h⟩
    · obtain ⟨h1, h2⟩ := argS_look r (k + 1) t v h
      refine ⟨by omega, ?_⟩
      rw [show t - k = (t - (k + 1)) + 1 by omega]
      simpa using h2

/-- **A function's contract.** -/
theorem func_calls (hty : TyOk P ty) (hm : P.follows .mixedOrders = true) {f : FuncId} {fn : Func} (hf : P.funcs[f]? = some fn) (hok : (match fn.body with | some c => codeOk fn.ntmps c | none => false) = true)
    {args : List Value} (hn : args.length ≤ fn.ntmps) {H : List Res} {R : Value → List Res → Prop} (h : funcW P ty w0 X fn args H R) {w : World} (hw : St w0 X H w) :
    Calls P f ⟨args⟩ w fun e w' => ∃ v H', e = .returned v ∧ R v H' ∧ St w0 X H' w' := by
  cases hb : fn.body with
  | none => simp [funcW, hb] at h
  | some c =>
    simp only [funcW, hb] at h hok
    refine calls_of_wp hf hb ?_
    have hF : Fr [] fn.ntmps { tmps := (⟨args⟩ : Array Value) ++ Array.replicate (fn.ntmps - (⟨args⟩ : Array Value).size) undef, defers := [] } (argS 0 args) := by
      refine ⟨fun t v hv => ?_, by simp; omega, rfl⟩
      obtain ⟨_, h2⟩ := argS_look args 0 t v hv
      simp only [Nat.sub_zero] at h2
      have hlt : t < args.length := (List.getElem?_eq_some_iff.1 h2).1
      rw [Array.getElem?_append_left (by simpa using hlt)]
      simpa using h2
    refine wp_mono (codeW_sound hty hm c _ _ w _ H hok hF hw h) ?_
    intro e a' w' he
    cases e with
    | normal =>
      obtain ⟨S', H', hF', hS', h'⟩ := he
      exact ret_sound hty hF' hS' h'
    | ret =>
      obtain ⟨S', H', hF', hS', h'⟩ := he
      exact ret_sound hty hF' hS' h'
    | exit i =>
      obtain ⟨S', H', hF', hS', h'⟩ := he
      exact h'.elim
    | goto l => exact he.elim
    | panic ch => exact he.elim
    | outgrown => exact he.elim

/-- A call that hands back v, and writes nothing that was there. -/
structure PuAt (P : Program) (f : FuncId) (args : List Value) (v : Value) (w : World) : Prop where
  out : Calls P f ⟨args⟩ w fun e w' => e = .returned v ∧ Below w.heap.size w w'
/-- A function that writes nothing that was there, of any world. -/
theorem func_pure (hty : TyOk P ty) (hm : P.follows .mixedOrders = true) {f : FuncId} {fn : Func} (hf : P.funcs[f]? = some fn) (hok : (match fn.body with | some c => codeOk fn.ntmps c | none => false) = true)
    {args : List Value} (hn : args.length ≤ fn.ntmps) {r : Value} {w : World} (h : funcW P ty w [] fn args [] fun v _ => v = r) :
    PuAt P f args r w :=
  ⟨(func_calls hty hm hf hok hn h (St.start0 w)).mono fun e w' ⟨v, H', he, hv, hS⟩ => ⟨by rw [he, hv], ⟨hS.os, hS.tape, hS.output, hS.size, fun k hk => hS.frame k hk (by simp)⟩⟩⟩

end
end Go.Proofs.Ytgjdmlgdgbehoaa.Am
