/- Maps that are owned: made, asked, written. -/
import Derived.Test.YtgjdmlgdgbehoaaAm15
import Derived.Test.YtgjdmlgdgbehoaaAm11
import Derived.MapKept
set_option linter.unusedVariables false
set_option linter.unusedSimpArgs false
namespace Go.Proofs.Ytgjdmlgdgbehoaa.Am
open Go Go.RowKit
/-- What is asked of a map's keys. -/
structure KeyT (P : Program) (k : TypeId) (good : Value → Prop) : Prop where
  chk : ∀ e v w, good v → (Instr.checkKey e 10000 k v).run P w = .ok () w
  find : ∀ v (l : List MapEntry) w, good v → (∀ x ∈ l, good x.key) → ((Instr.findKey k v l).run P w = .ok none w ∧ ∀ x ∈ l, x.key ≠ v) ∨ ∃ i e, (Instr.findKey k v l).run P w = .ok (some (i, e.val)) w ∧ l[i]? = some e ∧ e.key = v
  same : ∀ v w, good v → (Instr.keyThatStays v v).run P w = .ok v w
theorem KeyT.int {P : Program} {k : TypeId} {kd : IntKind} (hk : P.underlying k = some (.int kd)) : KeyT P k (fun v => ∃ n, v = .int kd n) where
  chk := fun e v w ⟨n, hn⟩ => MapKept.run_checkKey hk (by subst hn; exact rfl) e 9999
  find := fun v l w ⟨n, hn⟩ hl => by
    have h1 : MapKept.IsKey (.int kd) v := by subst hn; exact rfl
    have h2 : ∀ x ∈ l, MapKept.IsKey (.int kd) x.key := fun x hx => by obtain ⟨m, hm⟩ := hl x hx; rw [hm]; exact rfl
    rcases MapKept.findNow_spec h1 l 0 h2 with ⟨g1, g2⟩ | ⟨j, e, g1, g2, g3⟩
    · exact .inl ⟨MapKept.run_findKey hk g1, g2⟩
    · rw [Nat.zero_add] at g1
      exact .inr ⟨j, e, MapKept.run_findKey hk g1, g2, g3⟩
  same := fun v w ⟨n, hn⟩ => MapKept.run_keyThatStays (d := .int kd) (by subst hn; exact rfl)
theorem mapOk_nil : MapOk [] [] 0 := ⟨rfl, by simp, .nil⟩
theorem mapOk_len {es : List (Value × Value)} {l : List MapEntry} {c : Nat} (h : MapOk es l c) : l.length = es.length := by rw [← h.1, List.length_map]
theorem mapOk_push {es : List (Value × Value)} {l : List MapEntry} {c : Nat} (h : MapOk es l c) (k v : Value) : MapOk (es ++ [(k, v)]) (l ++ [⟨k, v, c⟩]) (c + 1) := by
  obtain ⟨h1, h2, h3⟩ := h
  refine ⟨by rw [List.map_append, h1]; rfl, fun e he => ?_, ?_⟩
  · rcases List.mem_append.1 he with he | he
    · have := h2 e he; omega
    · simp at he; subst he; exact Nat.lt_succ_self _
  · refine List.pairwise_append.2 ⟨h3, by simp, fun a ha b hb => ?_⟩
    simp at hb; subst hb; exact h2 a ha
theorem mapOk_set {es : List (Value × Value)} {l : List MapEntry} {c i : Nat} {e : MapEntry} (h : MapOk es l c) (he : l[i]? = some e) (k v : Value) : MapOk (es.set i (k, v)) (l.set i ⟨k, v, e.born⟩) c := by
  obtain ⟨h1, h2, h3⟩ := h
  have hb : (l.set i ⟨k, v, e.born⟩).map (·.born) = l.map (·.born) := by
    rw [List.map_set]
    apply List.ext_getElem?
    intro j
    by_cases hj : i = j
    · subst hj
      have := (List.getElem?_eq_some_iff.1 he).1
      rw [List.getElem?_set_self (by simpa using this), List.getElem?_map, he]; rfl
    · rw [List.getElem?_set_ne hj]
  refine ⟨by rw [List.map_set, h1], fun x hx => ?_, ?_⟩
  · have : x.born ∈ l.map (·.born) := hb ▸ List.mem_map_of_mem hx
    obtain ⟨y, hy, hyx⟩ := List.mem_map.1 this
    have := h2 y hy
    omega
  · have h4 : (l.map (·.born)).Pairwise (· < ·) := List.pairwise_map.2 h3
    rw [← hb] at h4
    exact List.pairwise_map.1 h4
theorem mapOk_erase {es : List (Value × Value)} {l : List MapEntry} {c : Nat} (h : MapOk es l c) (i : Nat) : MapOk (es.eraseIdx i) (l.eraseIdx i) c := by
  obtain ⟨h1, h2, h3⟩ := h
  refine ⟨?_, fun x hx => h2 x ((List.eraseIdx_sublist l i).subset hx), h3.sublist (List.eraseIdx_sublist l i)⟩
  rw [← h1]
  apply List.ext_getElem?
  intro j
  simp only [List.getElem?_map, List.getElem?_eraseIdx]
  split <;> rfl
section
variable {P : Program} {w0 : World} {X : List Nat} {H : List Res}
theorem mapMake {o : Oper} {S : Sl} {K : Value → List Res → Prop} {t : TypeId} (ho : o.op = .makeMap t none) (hk : ∀ m, K (.map (some m)) (.map m [] :: H)) : EscW P w0 X o S H K := by
  refine ⟨fun v H' => ∃ m, v = .map (some m) ∧ H' = .map m [] :: H, fun a w hA hS => ?_, fun v H' ⟨m, h1, h2⟩ => by rw [h1, h2]; exact hk m⟩
  refine ⟨_, w.alloc (.map #[] 0), _, .inl ?_, ⟨w.heap.size, rfl, rfl⟩, hS.add ((Below.refl _ _).alloc (Nat.le_refl _) _) ⟨#[], 0, heap_alloc_new w _, mapOk_nil⟩ (fun b hb => by simp [Res.foot] at hb; omega)⟩
  have hr : (Instr.makeMap t none).run P w = .ok (.map (some w.heap.size)) (w.alloc (.map #[] 0)) := rfl
  simp [execOp, ho, hr]
/-- What a map says of a key. -/
def MAns (es : List (Value × Value)) (key z r : Value) (ok : Bool) : Prop := (∀ v, (key, v) ∈ es → r = v ∧ ok = true) ∧ ((∀ v, (key, v) ∉ es) → r = z ∧ ok = false)
theorem mapFound {w : World} {es : List (Value × Value)} {l : List MapEntry} {c i : Nat} {e : MapEntry} (h : MapOk es l c) (he : l[i]? = some e) : es[i]? = some (e.key, e.val) := by rw [← h.1, List.getElem?_map, he]; rfl
theorem mapAbsent {es : List (Value × Value)} {l : List MapEntry} {c : Nat} {key : Value} (h : MapOk es l c) (hn : ∀ x ∈ l, x.key ≠ key) : ∀ v, (key, v) ∉ es := by
  intro v hv
  rw [← h.1] at hv
  obtain ⟨x, hx, e⟩ := List.mem_map.1 hv
  simp only [Prod.mk.injEq] at e
  exact hn x hx e.1
theorem mapGood {es : List (Value × Value)} {l : List MapEntry} {c : Nat} {good : Value → Prop} (h : MapOk es l c) (hg : ∀ p ∈ es, good p.1) : ∀ x ∈ l, good x.key := by
  intro x hx
  have : (x.key, x.val) ∈ es := by rw [← h.1]; exact List.mem_map.2 ⟨x, hx, rfl⟩
  exact hg _ this
theorem mapLook {o : Oper} {S : Sl} {K : Value → Prop} {t k e : TypeId} {x j : Operand} {ok : Bool} {good : Value → Prop} {m : Nat} {es : List (Value × Value)} {key z r : Value} {b : Bool} (hm : Res.map m es ∈ H) (ho : o.op = .lookup t x j ok) (ht : P.underlying t = some (.map k e)) (hK : KeyT P k good) (hz : (P.info? e).bind (·.zero) = some z)
    (hx : opd S x = some (.map (some m))) (hj : opd S j = some key) (hg : good key) (hgs : ∀ p ∈ es, good p.1) (hr : MAns es key z r b) (hk : K (if ok then .tuple ⟨[r, .bool b]⟩ else r)) : EscQ P w0 X o S H K := by
  refine ⟨_, fun a w hA hS => ?_, hk⟩
  obtain ⟨l, c, h1, h2⟩ := hS.ok _ hm
  obtain ⟨inf, i1, i2⟩ := Option.bind_eq_some_iff.1 hz
  have hzr : (zeroValue e).run P w = .ok z w := by simp [zeroValue, typeInfo, i1, i2]
  rcases hK.find key l.toList w hg (mapGood h2 hgs) with ⟨g1, g2⟩ | ⟨i, en, g1, g2, g3⟩
  · obtain ⟨rfl, rfl⟩ := hr.2 (mapAbsent h2 g2)
    cases ok <;> simp [execOp, ho, opd_eval hA hx, opd_eval hA hj, Instr.lookup, run_underlying ht, MapKept.run_getObj_map h1, hK.chk, hg, g1, hzr, Result.andThen]
  · have := List.mem_of_getElem? (mapFound (w := w) h2 g2)
    rw [g3] at this
    obtain ⟨rfl, rfl⟩ := hr.1 _ this
    cases ok <;> simp [execOp, ho, opd_eval hA hx, opd_eval hA hj, Instr.lookup, run_underlying ht, MapKept.run_getObj_map h1, hK.chk, hg, g1, Result.andThen]
/-- .. as written. -/
def MPut (es : List (Value × Value)) (key v : Value) (es' : List (Value × Value)) : Prop := (∀ i u, es[i]? = some (key, u) → es' = es.set i (key, v)) ∧ ((∀ u, (key, u) ∉ es) → es' = es ++ [(key, v)])
theorem mapPut {o : Oper} {S : Sl} {K : Value → List Res → Prop} {t k e : TypeId} {x j y : Operand} {good : Value → Prop} {m : Nat} {es es' : List (Value × Value)} {key v : Value} {f : Res → List Res} (hm : Hole H (.map m es) f) (ho : o.op = .mapUpdate t x j y) (ht : P.underlying t = some (.map k e)) (hK : KeyT P k good)
    (hx : opd S x = some (.map (some m))) (hj : opd S j = some key) (hy : opd S y = some v) (hg : good key) (hgs : ∀ p ∈ es, good p.1) (hr : MPut es key v es') (hk : K undef (f (.map m es'))) : EscW P w0 X o S H K := by
  refine ⟨fun u H' => u = undef ∧ H' = f (.map m es'), fun a w hA hS => ?_, fun u H' ⟨h1, h2⟩ => by rw [h1, h2]; exact hk⟩
  have hu := hm.upd (.map m es')
  obtain ⟨l, c, h1, h2⟩ := hS.ok _ hu.mem
  rcases hK.find key l.toList w hg (mapGood h2 hgs) with ⟨g1, g2⟩ | ⟨i, en, g1, g2, g3⟩
  · have he := hr.2 (mapAbsent h2 g2)
    subst he
    refine ⟨undef, { w with heap := w.heap.setIfInBounds m (.map (l.push ⟨key, v, c⟩) (c + 1)) }, _, .inr ⟨rfl, ?_⟩, ⟨rfl, rfl⟩, hS.upd hu rfl rfl rfl (by simp) (fun q hq hne => (MapKept.heap_set h1).2 q (fun e => hne (by rw [e]; rfl))) ⟨_, _, (MapKept.heap_set h1).1, ?_⟩ (fun b hb => .inl hb)⟩
    · simp [execOp, ho, opd_eval hA hx, opd_eval hA hj, opd_eval hA hy, Instr.mapUpdate, run_underlying ht, MapKept.run_getObj_map h1, hK.chk, hg, g1, MapKept.run_setObj_map _ h1, Result.andThen]
    · rw [Array.toList_push]; exact mapOk_push h2 key v
  · have hf := mapFound (w := w) h2 g2
    rw [g3] at hf
    have he := hr.1 i _ hf
    subst he
    have hi : l[i]? = some en := by simpa using g2
    refine ⟨undef, { w with heap := w.heap.setIfInBounds m (.map (l.modify i fun e => { e with key := key, val := v }) c) }, _, .inr ⟨rfl, ?_⟩, ⟨rfl, rfl⟩, hS.upd hu rfl rfl rfl (by simp) (fun q hq hne => (MapKept.heap_set h1).2 q (fun e => hne (by rw [e]; rfl))) ⟨_, _, (MapKept.heap_set h1).1, ?_⟩ (fun b hb => .inl hb)⟩
    · simp [execOp, ho, opd_eval hA hx, opd_eval hA hj, opd_eval hA hy, Instr.mapUpdate, run_underlying ht, MapKept.run_getObj_map h1, hK.chk, hg, g1, hi, g3, hK.same, MapKept.run_setObj_map _ h1, Result.andThen]
    · have hm2 : (l.modify i fun e => { e with key := key, val := v }).toList = l.toList.set i ⟨key, v, en.born⟩ := by
        apply List.ext_getElem?
        intro q
        rw [Array.getElem?_toList, Array.getElem?_modify]
        by_cases hq : i = q
        · subst hq
          rw [if_pos rfl, hi, List.getElem?_set_self (List.getElem?_eq_some_iff.1 g2).1]; rfl
        · rw [if_neg hq, List.getElem?_set_ne hq, Array.getElem?_toList]
      rw [hm2]; exact mapOk_set h2 g2 key v
/-- .. without a key. -/
def MDel (es : List (Value × Value)) (key : Value) (es' : List (Value × Value)) : Prop := (∀ i u, es[i]? = some (key, u) → es' = es.eraseIdx i) ∧ ((∀ u, (key, u) ∉ es) → es' = es)
theorem mapDel {o : Oper} {S : Sl} {K : Value → List Res → Prop} {c0 : Call} {t k e : TypeId} {x j : Operand} {ats : Array TypeId} {good : Value → Prop} {m : Nat} {es es' : List (Value × Value)} {key : Value} {f : Res → List Res} (hm : Hole H (.map m es) f) (ho : o.op = .call c0) (hc : c0.callee = .builtin .delete) (hargs : c0.args = #[x, j]) (hat : c0.argTypes = ats) (h0 : ats[0]? = some t) (ht : P.underlying t = some (.map k e)) (hK : KeyT P k good)
    (hx : opd S x = some (.map (some m))) (hj : opd S j = some key) (hg : good key) (hgs : ∀ p ∈ es, good p.1) (hr : MDel es key es') (hk : K (.tuple #[]) (f (.map m es'))) : EscW P w0 X o S H K := by
  refine ⟨fun u H' => u = .tuple #[] ∧ H' = f (.map m es'), fun a w hA hS => ?_, fun u H' ⟨h1, h2⟩ => by rw [h1, h2]; exact hk⟩
  have hu := hm.upd (.map m es')
  obtain ⟨l, c, h1, h2⟩ := hS.ok _ hu.mem
  rcases hK.find key l.toList w hg (mapGood h2 hgs) with ⟨g1, g2⟩ | ⟨i, en, g1, g2, g3⟩
  · have he := hr.2 (mapAbsent h2 g2)
    subst he
    refine ⟨_, { w with heap := w.heap.setIfInBounds m (.map l c) }, _, .inl ?_, ⟨rfl, rfl⟩, hS.upd hu rfl rfl rfl (by simp) (fun q hq hne => (MapKept.heap_set h1).2 q (fun e => hne (by rw [e]; rfl))) ⟨_, _, (MapKept.heap_set h1).1, h2⟩ (fun b hb => .inl hb)⟩
    simp [execOp, ho, resolve, hc, hargs, hat, opd_eval hA hx, opd_eval hA hj, invoke, builtin, Builtin.delete_, h0, run_underlying ht, MapKept.run_getObj_map h1, hK.chk, hg, g1, MapKept.run_setObj_map _ h1, Result.andThen]
  · have hf := mapFound (w := w) h2 g2
    rw [g3] at hf
    have he := hr.1 i _ hf
    subst he
    refine ⟨_, { w with heap := w.heap.setIfInBounds m (.map (l.eraseIdxIfInBounds i) c) }, _, .inl ?_, ⟨rfl, rfl⟩, hS.upd hu rfl rfl rfl (by simp) (fun q hq hne => (MapKept.heap_set h1).2 q (fun e => hne (by rw [e]; rfl))) ⟨_, _, (MapKept.heap_set h1).1, ?_⟩ (fun b hb => .inl hb)⟩
    · simp [execOp, ho, resolve, hc, hargs, hat, opd_eval hA hx, opd_eval hA hj, invoke, builtin, Builtin.delete_, h0, run_underlying ht, MapKept.run_getObj_map h1, hK.chk, hg, g1, MapKept.run_setObj_map _ h1, Result.andThen]
    · have hm2 : (l.eraseIdxIfInBounds i).toList = l.toList.eraseIdx i := by
        have := (List.getElem?_eq_some_iff.1 g2).1
        simp [Array.eraseIdxIfInBounds, show i < l.size by simpa using this]
      rw [hm2]; exact mapOk_erase h2 i
theorem mapLen {o : Oper} {S : Sl} {K : Value → Prop} {c0 : Call} {t k e : TypeId} {x : Operand} {m : Nat} {es : List (Value × Value)} (hm : Res.map m es ∈ H) (ho : o.op = .call c0) (hc : c0.callee = .builtin .len) (hargs : c0.args = #[x]) (hat : c0.argTypes = #[t]) (ht : P.underlying t = some (.map k e))
    (hx : opd S x = some (.map (some m))) (hk : K (.int .i64 es.length)) : EscQ P w0 X o S H K := by
  refine ⟨_, fun a w hA hS => ?_, hk⟩
  obtain ⟨l, c, h1, h2⟩ := hS.ok _ hm
  have hl := mapOk_len h2
  simp at hl
  simp [execOp, ho, resolve, hc, hargs, hat, opd_eval hA hx, invoke, builtin, Builtin.len_, run_underlying ht, MapKept.run_getObj_map h1, goInt, hl]
end
/-! A set of numbers. -/
def setE (kd : IntKind) (l : List Int) : List (Value × Value) := l.map fun n => (.int kd n, .bool true)
theorem setE_ans (kd : IntKind) (l : List Int) (n : Int) : MAns (setE kd l) (.int kd n) (.bool false) (.bool (decide (n ∈ l))) (decide (n ∈ l)) := by
  refine ⟨fun v hv => ?_, fun hn => ?_⟩
  · obtain ⟨m, hm, e⟩ := List.mem_map.1 hv
    simp only [Prod.mk.injEq, Value.int.injEq, true_and] at e
    obtain ⟨rfl, rfl⟩ := e
    simp [hm]
  · have : n ∉ l := fun h => hn (.bool true) (List.mem_map.2 ⟨n, h, rfl⟩)
    simp [this]
theorem setE_good (kd : IntKind) (l : List Int) : ∀ p ∈ setE kd l, ∃ n, p.1 = .int kd n := by
  intro p hp
  obtain ⟨m, _, rfl⟩ := List.mem_map.1 hp
  exact ⟨m, rfl⟩
theorem setE_put (kd : IntKind) (l : List Int) (n : Int) (h : n ∉ l) : MPut (setE kd l) (.int kd n) (.bool true) (setE kd (l ++ [n])) := by
  refine ⟨fun i u hi => ?_, fun _ => by simp [setE]⟩
  obtain ⟨m, hm, e⟩ := List.mem_map.1 (List.mem_of_getElem? hi)
  simp only [Prod.mk.injEq, Value.int.injEq, true_and] at e
  exact absurd (e.1 ▸ hm) h
end Go.Proofs.Ytgjdmlgdgbehoaa.Am
