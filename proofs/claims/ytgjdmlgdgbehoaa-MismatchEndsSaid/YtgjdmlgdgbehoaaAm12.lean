/- Callees that write what is owned, or hand back new rows. -/
import Derived.Test.YtgjdmlgdgbehoaaAm10
set_option linter.unusedVariables false
namespace Go.Proofs.Ytgjdmlgdgbehoaa.Am
open Go Go.RowKit
/-- The blocks of things. -/
def feet (H : List Res) : List Nat := H.filterMap Res.foot
theorem mem_feet {H : List Res} {b : Nat} : b ∈ feet H ↔ ∃ r ∈ H, r.foot = some b := by simp [feet, List.mem_filterMap]
/-- One thing taken out of a list. -/
inductive Pick : List Res → Res → List Res → Prop
  | here {r : Res} {t : List Res} : Pick (r :: t) r t
  | there {x r : Res} {t u : List Res} : Pick t r u → Pick (x :: t) r (x :: u)
/-- Things taken out of a list, and the rest. -/
inductive Take : List Res → List Res → List Res → Prop
  | nil {G : List Res} : Take G [] G
  | cons {H0 H1 H G : List Res} {r : Res} : Pick H0 r H1 → Take H1 H G → Take H0 (r :: H) G
theorem Pick.perm {H H1 : List Res} {r : Res} (h : Pick H r H1) : (r :: H1).Perm H := by
  induction h with
  | here => exact List.Perm.refl _
  | there _ ih => exact (List.Perm.swap _ _ _).trans (ih.cons _)
theorem Take.perm {H0 H G : List Res} (h : Take H0 H G) : (H ++ G).Perm H0 := by
  induction h with
  | nil => exact List.Perm.refl _
  | cons hp _ ih => exact (ih.cons _).trans hp.perm
section
variable {P : Program} {w0 : World} {X : List Nat} {H H0 G : List Res}
/-- What is owned, as a call's own start. -/
theorem St.own0 {w : World} (h : St w0 X H w) : St w (feet H) H w :=
  ⟨rfl, rfl, rfl, Nat.le_refl _, fun _ _ _ => rfl, h.ok, fun r hr b hb => .inl (mem_feet.2 ⟨r, hr, hb⟩), h.sep⟩
/-- Behind a call that was handed H, and left H'. -/
theorem St.call {w w' : World} {H' : List Res} (h : St w0 X (H ++ G) w) (h' : St w (feet H) H' w') : St w0 X (H' ++ G) w' := by
  have hG : ∀ s ∈ G, ∀ b, s.foot = some b → b < w.heap.size ∧ b ∉ feet H := fun s hs b hb => by
    refine ⟨Res.ok_lt (h.ok s (List.mem_append_right _ hs)) hb, fun hm => ?_⟩
    obtain ⟨r, hr, hrb⟩ := mem_feet.1 hm
    exact (List.pairwise_append.1 h.sep).2.2 r hr s hs b hrb hb
  refine ⟨h'.os.trans h.os, h'.tape.trans h.tape, h'.output.trans h.output, Nat.le_trans h.size h'.size, fun k hk hx => ?_, ?_, ?_, ?_⟩
  · refine (h'.frame k (Nat.lt_of_lt_of_le hk h.size) (fun hm => ?_)).trans (h.frame k hk hx)
    obtain ⟨r, hr, hb⟩ := mem_feet.1 hm
    rcases h.own r (List.mem_append_left _ hr) k hb with h1 | h1
    · exact hx h1
    · omega
  · intro r hr
    rcases List.mem_append.1 hr with hr | hr
    · exact h'.ok r hr
    · exact Res.ok_move (h.ok r (List.mem_append_right _ hr)) fun b hb => h'.frame b (hG r hr b hb).1 (hG r hr b hb).2
  · intro r hr b hb
    rcases List.mem_append.1 hr with hr | hr
    · rcases h'.own r hr b hb with h1 | h1
      · obtain ⟨s, hs, hsb⟩ := mem_feet.1 h1
        exact h.own s (List.mem_append_left _ hs) b hsb
      · exact .inr (Nat.le_trans h.size h1)
    · exact h.own r (List.mem_append_right _ hr) b hb
  · refine List.pairwise_append.2 ⟨h'.sep, (List.pairwise_append.1 h.sep).2.1, fun r hr s hs b hb hsb => ?_⟩
    obtain ⟨h1, h2⟩ := hG s hs b hsb
    rcases h'.own r hr b hb with h3 | h3
    · exact h2 h3
    · omega
/-- A call that is handed H, and hands back v, with H' as R says. -/
structure FnAt (P : Program) (f : FuncId) (args : List Value) (H : List Res) (R : Value → List Res → Prop) (w : World) : Prop where
  out : Calls P f ⟨args⟩ w fun e w' => ∃ v H', e = .returned v ∧ R v H' ∧ St w (feet H) H' w'
/-- A call that writes one block. -/
structure OneAt (P : Program) (f : FuncId) (args : List Value) (b : Nat) (cs : List Value) (T : TypeId) (v : Value) (cs' : List Value) (w : World) : Prop where
  out : Calls P f ⟨args⟩ w fun e w' => e = .returned v ∧ St w [b] [.blk b cs' T] w'
theorem callNew {f : FuncId} {args : List Value} {R : Value → List Res → Prop} {K : Value → List Res → Prop} (ht : Take H0 H G) (he : ∃ fn, P.funcs[f]? = some fn ∧ (fn.name == "runtime.NumGoroutine") = false ∧ fn.body.isNone = false)
    (hc : ∀ w, St w0 X H0 w → FnAt P f args H R w) (hk : ∀ v H', R v H' → K v (H' ++ G)) : CallW P w0 X f args H0 K := .call
  ⟨fun v H1 => ∃ H', R v H' ∧ H1 = H' ++ G, ⟨he, fun w hw => (hc w hw).out.mono fun e w' ⟨v, H', h1, h2, h3⟩ => ⟨v, H' ++ G, h1, ⟨H', h2, rfl⟩, (hw.perm ht.perm).call h3⟩⟩, fun v H1 ⟨H', h1, h2⟩ => by rw [h2]; exact hk v H' h1⟩
theorem callOne {f : FuncId} {args : List Value} {b : Nat} {cs : List Value} {T : TypeId} {v : Value} {cs' : List Value} {fH : Res → List Res} {K : Value → List Res → Prop} (hh : Hole H (.blk b cs T) fH) (he : ∃ fn, P.funcs[f]? = some fn ∧ (fn.name == "runtime.NumGoroutine") = false ∧ fn.body.isNone = false)
    (hc : ∀ w, St w0 X H w → OneAt P f args b cs T v cs' w) (hk : K v (fH (.blk b cs' T))) : CallW P w0 X f args H K := .call
  ⟨fun v' H' => v' = v ∧ H' = fH (.blk b cs' T), ⟨he, fun w hw => (hc w hw).out.mono fun e w' ⟨h1, h2⟩ => ⟨v, _, h1, ⟨rfl, rfl⟩, hw.upd (hh.upd _) h2.os h2.tape h2.output h2.size
      (fun k hk hne => h2.frame k hk (fun hm => hne (by simp at hm; rw [hm]; rfl))) (h2.ok _ List.mem_cons_self) (fun b hb => .inl hb)⟩⟩, fun _ _ ⟨h1, h2⟩ => by rw [h1, h2]; exact hk⟩
/-- A block that is owned, as a callee's start. -/
theorem St.one {w : World} (h : St w0 X H w) {b : Nat} {cs : List Value} {T : TypeId} (hm : Res.blk b cs T ∈ H) : St w [b] [.blk b cs T] w :=
  ⟨rfl, rfl, rfl, Nat.le_refl _, fun _ _ _ => rfl, fun r hr => by simp at hr; subst hr; exact h.ok _ hm, fun r hr c hc => by simp at hr; subst hr; simp [Res.foot] at hc; subst hc; exact .inl (by simp), by simp⟩
theorem St.blk0 {w : World} {b : Nat} {cs : List Value} {T : TypeId} (hb : w.heap[b]? = some (.cells ⟨cs⟩ T (0, 0))) : St w [b] [.blk b cs T] w :=
  ⟨rfl, rfl, rfl, Nat.le_refl _, fun _ _ _ => rfl, fun r hr => by simp at hr; subst hr; exact hb, fun r hr c hc => by simp at hr; subst hr; simp [Res.foot] at hc; subst hc; exact .inl (by simp), by simp⟩
variable {ty : Nat → Option TD}
theorem func_one (hty : TyOk P ty) (hm : P.follows .mixedOrders = true) {f : FuncId} {fn : Func} (hf : P.funcs[f]? = some fn) (hok : (match fn.body with | some c => codeOk fn.ntmps c | none => false) = true)
    {args : List Value} (hn : args.length ≤ fn.ntmps) {v : Value} {w : World} {b : Nat} {cs cs' : List Value} {T : TypeId} (hb : w.heap[b]? = some (.cells ⟨cs⟩ T (0, 0))) (h : funcW P ty w [b] fn args [.blk b cs T] fun r H => r = v ∧ List.Sublist [Res.blk b cs' T] H) :
    OneAt P f args b cs T v cs' w :=
  ⟨(func_calls hty hm hf hok hn h (St.blk0 hb)).mono fun e w' ⟨r, H', he, ⟨hv, hp⟩, hS⟩ => ⟨by rw [he, hv], hS.sub hp⟩⟩
theorem func_new (hty : TyOk P ty) (hm : P.follows .mixedOrders = true) {f : FuncId} {fn : Func} (hf : P.funcs[f]? = some fn) (hok : (match fn.body with | some c => codeOk fn.ntmps c | none => false) = true)
    {args : List Value} (hn : args.length ≤ fn.ntmps) {R : Value → List Res → Prop} {w : World} (hS : St w (feet H) H w) (h : funcW P ty w (feet H) fn args H R) :
    FnAt P f args H R w :=
  ⟨func_calls hty hm hf hok hn h hS⟩
end
end Go.Proofs.Ytgjdmlgdgbehoaa.Am
