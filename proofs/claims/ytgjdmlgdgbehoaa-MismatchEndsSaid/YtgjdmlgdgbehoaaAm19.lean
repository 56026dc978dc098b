/- Calls of functions without a body: atomics, marks; ranges over maps. -/
import Derived.Test.YtgjdmlgdgbehoaaAm18
import Derived.Test.YtgjdmlgdgbehoaaAm16
import Derived.Laws.LoneSync
import Derived.Maps.RangeRun
import Derived.Laws.Small
set_option linter.unusedVariables false
set_option linter.unusedSimpArgs false
namespace Go.Proofs.Ytgjdmlgdgbehoaa.Am
open Go Go.RowKit
/-- A function without a body, and what it runs. -/
structure Ext (P : Program) (f : FuncId) (e : Array Value → Sem Value) : Prop where
  ex : ∃ fn, P.funcs[f]? = some fn ∧ (fn.name == "runtime.NumGoroutine") = false ∧ fn.body.isNone = true ∧ Extern.findNext fn = none ∧ Extern.find fn = some e
section
variable {P : Program} {w0 : World} {X : List Nat} {H : List Res}
theorem blk_cell? {w : World} {b o : Nat} {cs : List Value} {T : TypeId} {v : Value} (h : w.heap[b]? = some (.cells ⟨cs⟩ T (0, 0))) (hv : cs[o]? = some v) : w.cell? ⟨b, o, none⟩ = some v := by simp [World.cell?, h, hv]
theorem blk_frozen {w : World} {b o : Nat} {cs : List Value} {T : TypeId} (h : w.heap[b]? = some (.cells ⟨cs⟩ T (0, 0))) : w.frozen? ⟨b, o, none⟩ = false := by simp [World.frozen?, h]
theorem St.setCell {w : World} {b o : Nat} {cs : List Value} {T : TypeId} {v : Value} {f : Res → List Res} (hw : St w0 X H w) (hole : Hole H (.blk b cs T) f) : St w0 X (f (.blk b (cs.set o v) T)) (w.setCell ⟨b, o, none⟩ v) := by
  have hb : w.heap[b]? = some (.cells ⟨cs⟩ T (0, 0)) := hw.ok _ (hole.upd (.blk b cs T)).mem
  have hlt : b < w.heap.size := (Array.getElem?_eq_some_iff.1 hb).1
  refine hw.upd (hole.upd _) rfl rfl rfl (by simp [World.setCell]) ?_ ?_ (fun b' hb' => .inl (by simpa [Res.foot] using hb'))
  · intro k hk1 hk2
    have : b ≠ k := fun e => hk2 (by simp [Res.foot, e])
    simp [World.setCell, Array.getElem?_modify, this]
  · show (w.setCell ⟨b, o, none⟩ v).heap[b]? = _
    simp [World.setCell, Array.getElem?_modify, hb]
theorem atomLoad {f : FuncId} {k : IntKind} {b i : Nat} {cs : List Value} {T : TypeId} {n : Int} {K : Value → List Res → Prop} (hE : Ext P f (Extern.Atomic.loadT (.int k))) (hm : Has H (.blk b cs T)) (hv : cs[i]? = some (.int k n)) (hk : K (.int k n) H) : CallW P w0 X f [.pointer (some ⟨b, i, none⟩)] H K := by
  obtain ⟨fn, h1, h2, h3, h4, h5⟩ := hE
  exact .ext _ H (fun w hw => ⟨w, run_call_load h1 h2 h3 h4 k h5 (blk_cell? (hw.ok _ (memHas hm)) hv), hw⟩) hk
theorem atomLoadR {f : FuncId} {k : IntKind} {b i : Nat} {n : Int} {K : Value → List Res → Prop} (hE : Ext P f (Extern.Atomic.loadT (.int k))) (hm : ∀ H, Rd w0 X H b i [.int k n]) (hk : K (.int k n) H) : CallW P w0 X f [.pointer (some ⟨b, i, none⟩)] H K := by
  obtain ⟨fn, h1, h2, h3, h4, h5⟩ := hE
  exact .ext _ H (fun w hw => ⟨w, run_call_load h1 h2 h3 h4 k h5 (by simpa using hm H w hw 0 _ rfl), hw⟩) hk
/-- One cell of a block whose cells are not written out. -/
theorem loadAt {b o : Nat} {cs : List Value} {T : TypeId} {v : Value} {i : TD} {k : Value → Prop} (hm : Has H (.blk b cs T)) (hv : cs[o]? = some v) (h1 : 1 = i.size) (hk : ofCells i.d [v] k) : loadW w0 X H b o i k := by
  refine .inr ⟨[v], Rd.blk (memHas hm) ?_, h1, hk⟩
  obtain ⟨h2, h3⟩ := List.getElem?_eq_some_iff.1 hv
  rw [List.drop_eq_getElem_cons h2, h3]; rfl
theorem getSet {cs : List Value} {i : Nat} {u v : Value} (h : cs[i]? = some u) : (cs.set i v)[i]? = some v := List.getElem?_set_self (List.getElem?_eq_some_iff.1 h).1
theorem getSetNe {cs : List Value} {i j : Nat} {u v : Value} (h : cs[i]? = some u) (hne : j ≠ i) : (cs.set j v)[i]? = some u := by rw [List.getElem?_set_ne hne]; exact h
theorem atomStore {f : FuncId} {k : IntKind} {b i : Nat} {cs : List Value} {T : TypeId} {n : Int} {u : Value} {g : Res → List Res} {K : Value → List Res → Prop} (hE : Ext P f Extern.Atomic.storeT) (hm : Hole H (.blk b cs T) g) (hv : cs[i]? = some u) (hk : K (.tuple #[]) (g (.blk b (cs.set i (.int k n)) T))) : CallW P w0 X f [.pointer (some ⟨b, i, none⟩), .int k n] H K := by
  obtain ⟨fn, h1, h2, h3, h4, h5⟩ := hE
  refine .ext _ _ (fun w hw => ?_) hk
  have hb := hw.ok _ (hm.upd (.blk b cs T)).mem
  exact ⟨_, run_call_store h1 h2 h3 h4 h5 (blk_cell? hb hv) (blk_frozen hb), hw.setCell hm⟩
theorem atomAdd {f : FuncId} {k : IntKind} {b i : Nat} {cs : List Value} {T : TypeId} {n y s : Int} {g : Res → List Res} {K : Value → List Res → Prop} (hE : Ext P f (Extern.Atomic.update (Op.intArith .add) k true)) (hm : Hole H (.blk b cs T) g) (hv : cs[i]? = some (.int k n)) (hs : ∀ w, (Op.intArith .add k n y).run P w = .ok (.int k s) w) (hk : K (.int k s) (g (.blk b (cs.set i (.int k s)) T))) : CallW P w0 X f [.pointer (some ⟨b, i, none⟩), .int k y] H K := by
  obtain ⟨fn, h1, h2, h3, h4, h5⟩ := hE
  refine .ext _ _ (fun w hw => ?_) hk
  have hb := hw.ok _ (hm.upd (.blk b cs T)).mem
  exact ⟨_, run_call_add h1 h2 h3 h4 k h5 (blk_cell? hb hv) (blk_frozen hb) (hs w), hw.setCell hm⟩
theorem atomCas {f : FuncId} {k : IntKind} {b i : Nat} {cs : List Value} {T : TypeId} {n y : Int} {g : Res → List Res} {K : Value → List Res → Prop} (hE : Ext P f (Extern.Atomic.casT (.int k))) (hm : Hole H (.blk b cs T) g) (hv : cs[i]? = some (.int k n)) (hk : K (.bool true) (g (.blk b (cs.set i (.int k y)) T))) : CallW P w0 X f [.pointer (some ⟨b, i, none⟩), .int k n, .int k y] H K := by
  obtain ⟨fn, h1, h2, h3, h4, h5⟩ := hE
  refine .ext _ _ (fun w hw => ?_) hk
  have hb := hw.ok _ (hm.upd (.blk b cs T)).mem
  exact ⟨_, run_call_cas_hit h1 h2 h3 h4 k h5 (blk_cell? hb hv) (blk_frozen hb), hw.setCell hm⟩
theorem mark0 {f : FuncId} {m : Mark} {K : Value → List Res → Prop} (hE : Ext P f (fun _ => do mark m; pure Extern.Race.none_)) (hk : K (.tuple #[]) H) : CallW P w0 X f [] H K := by
  obtain ⟨fn, h1, h2, h3, h4, h5⟩ := hE
  exact .ext _ H (fun w hw => ⟨w, run_call_mark0 h1 h2 h3 h4 m h5 w, hw⟩) hk
theorem mark1 {f : FuncId} {m : Addr → Mark} {a : Addr} {K : Value → List Res → Prop} (hE : Ext P f (Extern.Race.marked m)) (hk : K (.tuple #[]) H) : CallW P w0 X f [.pointer (some a)] H K := by
  obtain ⟨fn, h1, h2, h3, h4, h5⟩ := hE
  exact .ext _ H (fun w hw => ⟨w, run_call_marked h1 h2 h3 h4 m h5 a w, hw⟩) hk
theorem unsafeQ {o : Oper} {S : Sl} {K : Value → List Res → Prop} {src dst t : TypeId} {x : Operand} {b i : Nat} {cs : List Value} {T : TypeId} {v : Value} (hm : Has H (.blk b cs T)) (ho : o.op = .convert src dst x) (hs : P.underlying src = some (.pointer t)) (hd : P.underlying dst = some .unsafePointer) (hsz : (P.info? t).map (fun i => decide (i.size = 0)) = some false) (hx : opd S x = some (.pointer (some ⟨b, i, none⟩))) (hv : cs[i]? = some v) (hk : K (.pointer (some ⟨b, i, none⟩)) H) : EscW P w0 X o S H K := by
  refine ⟨fun v H' => v = .pointer (some ⟨b, i, none⟩) ∧ H' = H, fun a w hA hS => ?_, fun v H' ⟨h1, h2⟩ => by rw [h1, h2]; exact hk⟩
  have := run_convert_to_unsafe hs hd hsz (blk_cell? (hS.ok _ (memHas hm)) hv)
  exact ⟨_, w, H, .inl (by simp [execOp, ho, opd_eval hA hx, this, Result.andThen]), ⟨rfl, rfl⟩, hS⟩
theorem St.at1 {w : World} (hw : St w0 X H w) {b o : Nat} {cs : List Value} {T : TypeId} {v : Value} (hm : Has H (.blk b cs T)) (hv : cs[o]? = some v) : w.rangeAt b o [v] := by
  refine Rd.blk (memHas hm) ?_ w hw
  obtain ⟨h2, h3⟩ := List.getElem?_eq_some_iff.1 hv
  show (cs.drop o).take 1 = [v]
  rw [List.drop_eq_getElem_cons h2, h3]; rfl
theorem maxQ {o : Oper} {S : Sl} {K : Value → Prop} {c : Call} {x y : Operand} {m n : Int} (ho : o.op = .call c) (hc : c.callee = .builtin .max) (hargs : c.args = #[x, y]) (hx : opd S x = some (.int .i64 m)) (hy : opd S y = some (.int .i64 n)) (hk : K (.int .i64 (if n > m then n else m))) : EscQ P w0 X o S H K := by
  refine ⟨_, fun a w hA hS => ?_, hk⟩
  have := run_max_int2 (P := P) (w := w) c.argTypes o.type .i64 .i64 m n
  simp [execOp, ho, resolve, hc, hargs, opd_eval hA hx, opd_eval hA hy, invoke, builtin, this, Result.andThen]
/-- How far a range over a map has come: what it has handed out. -/
structure RunM (l : List MapEntry) (done : List MapEntry) : Prop where
  nd : (l.map (·.born)).Nodup
  dn : (done.map (·.born)).Nodup
  sub : ∀ e ∈ done, e ∈ l
theorem runM_ok {es : List (Value × Value)} {l : List MapEntry} {c : Nat} (h : MapOk es l c) : RunM l [] := ⟨by
  have := List.pairwise_map.2 h.2.2
  exact this.imp (fun h => Nat.ne_of_lt h), by simp, by simp⟩
theorem RunM.left {l done : List MapEntry} (h : RunM l done) {e : MapEntry} (he : e ∈ (leftOf ⟨l⟩ (done.map (·.born)).toArray).toList) : RunM l (done ++ [e]) ∧ e ∈ l ∧ e ∉ done := by
  obtain ⟨h1, h2⟩ := mem_left he
  have h3 : e.born ∉ done.map (·.born) := by simpa using h2
  have h4 : e ∉ done := fun hm => h3 (List.mem_map_of_mem hm)
  refine ⟨⟨h.nd, ?_, fun x hx => ?_⟩, h1, h4⟩
  · rw [List.map_append]
    refine List.nodup_append.2 ⟨h.dn, by simp, fun a ha b hb => ?_⟩
    simp at hb
    intro hab
    rw [hab, hb] at ha
    exact h3 ha
  · rcases List.mem_append.1 hx with hx | hx
    · exact h.sub x hx
    · simp at hx; rw [hx]; exact h1
theorem RunM.all {l done : List MapEntry} (h : RunM l done) (h0 : (leftOf ⟨l⟩ (done.map (·.born)).toArray).size = 0) : done.Perm l := by
  have n1 : done.Nodup := (List.pairwise_map.1 h.dn).imp fun hne e => hne (by rw [e])
  have n2 : l.Nodup := (List.pairwise_map.1 h.nd).imp fun hne e => hne (by rw [e])
  refine (List.perm_ext_iff_of_nodup n1 n2).2 fun e => ⟨h.sub e, fun he => ?_⟩
  have := all_seen ⟨l⟩ _ h0 e he
  have : e.born ∈ done.map (·.born) := by simpa using this
  obtain ⟨x, hx, hb⟩ := List.mem_map.1 this
  rw [← born_inj h.nd (h.sub x hx) he hb]
  exact hx
/-- The iterator of a range. -/
def iterO (m : Nat) (clock : Nat) (done : List MapEntry) : Obj := .mapIter (some m) clock (done.map (·.born)).toArray clock
theorem rangeMap {o : Oper} {S : Sl} {K : Value → List Res → Prop} {t k e : TypeId} {x : Operand} {m : Nat} {es : List (Value × Value)} {f : Res → List Res} (hm : Hole H (.map m es) f) (ho : o.op = .range t x) (ht : P.underlying t = some (.map k e)) (hx : opd S x = some (.map (some m)))
    (hk : ∀ r l clock, MapOk es l clock → K (.pointer (some ⟨r, 0, none⟩)) (.obj r (iterO m clock []) :: f (.obj m (.map ⟨l⟩ clock)))) : EscW P w0 X o S H K := by
  refine ⟨fun v H' => ∃ r l clock, MapOk es l clock ∧ v = .pointer (some ⟨r, 0, none⟩) ∧ H' = .obj r (iterO m clock []) :: f (.obj m (.map ⟨l⟩ clock)), fun a w hA hS => ?_, fun v H' ⟨r, l, c, h0, h1, h2⟩ => by rw [h1, h2]; exact hk r l c h0⟩
  obtain ⟨l, c, h1, h2⟩ := hS.ok _ (hm.upd (.map m es)).mem
  have hr := run_range_map (P := P) w t k e m l c ht h1
  refine ⟨_, w.alloc (.mapIter (some m) c #[] c), _, .inl (by simp [execOp, ho, opd_eval hA hx, hr, Result.andThen]), ⟨w.heap.size, l.toList, c, h2, rfl, rfl⟩, ?_⟩
  refine St.add (hS.upd (hm.upd (.obj m (.map ⟨l.toList⟩ c))) rfl rfl rfl (Nat.le_refl _) (fun _ _ _ => rfl) h1 (fun b hb => .inl hb)) ((Below.refl _ _).alloc (Nat.le_refl _) _) (heap_alloc_new w _) (fun b hb => by simp [Res.foot] at hb; omega)
theorem nextMap {o : Oper} {S : Sl} {K : Value → List Res → Prop} {x : Operand} {m r clock : Nat} {l done : List MapEntry} {f : Res → List Res} (hr : Hole H (.obj r (iterO m clock done)) f) (hm : Has H (.obj m (.map ⟨l⟩ clock))) (ho : o.op = .next x false) (hx : opd S x = some (.pointer (some ⟨r, 0, none⟩))) (hold : ∀ e ∈ l, e.born < clock) (hR : RunM l done)
    (h0 : done.Perm l → K (.tuple #[.bool false]) H) (h1 : ∀ e, e ∈ l → e ∉ done → RunM l (done ++ [e]) → K (.tuple #[.bool true, e.key, e.val]) (f (.obj r (iterO m clock (done ++ [e]))))) : EscW P w0 X o S H K := by
  refine ⟨fun v H' => (done.Perm l ∧ v = .tuple #[.bool false] ∧ H' = H) ∨ ∃ e, (e ∈ l ∧ e ∉ done ∧ RunM l (done ++ [e])) ∧ v = .tuple #[.bool true, e.key, e.val] ∧ H' = f (.obj r (iterO m clock (done ++ [e]))), fun a w hA hS => ?_, fun v H' h => ?_⟩
  · have hi : w.heap[r]? = some (iterO m clock done) := hS.ok _ (hr.upd (.obj r (iterO m clock done))).mem
    have hb : w.heap[m]? = some (.map ⟨l⟩ clock) := hS.ok _ (memHas hm)
    rcases run_next_at (P := P) w o.type r m clock clock _ ⟨l⟩ clock hi hb hold (Nat.le_refl _) with ⟨g1, g2⟩ | ⟨e, he, w1, hw1, g2⟩
    · exact ⟨_, w, H, .inl (by simp [execOp, ho, opd_eval hA hx, g2, Result.andThen]), .inl ⟨hR.all g1, rfl, rfl⟩, hS⟩
    · obtain ⟨q1, q2, q3⟩ := hR.left he
      refine ⟨_, ChangeMaps.setBlock w1 r (.mapIter (some m) clock ((done.map (·.born)).toArray.push e.born) clock), _, .inl (by simp [execOp, ho, opd_eval hA hx, g2, Result.andThen]), .inr ⟨e, ⟨q2, q3, q1⟩, rfl, rfl⟩, ?_⟩
      have hS1 : St w0 X H w1 := by rcases hw1 with rfl | rfl; exact hS; exact hS.drew _
      have hi1 : w1.heap[r]? = some (iterO m clock done) := by rcases hw1 with rfl | rfl <;> exact hi
      have he : Obj.mapIter (some m) clock ((done.map (·.born)).toArray.push e.born) clock = iterO m clock (done ++ [e]) := by simp [iterO]
      rw [he]
      refine hS1.upd (hr.upd _) rfl rfl rfl (by simp [ChangeMaps.setBlock]) (fun k _ hne => ?_) ?_ (fun b hb => .inl hb)
      · have : r ≠ k := fun e => hne (by simp [Res.foot, e])
        simp [ChangeMaps.setBlock, Array.getElem?_setIfInBounds, this]
      · have hlt := (Array.getElem?_eq_some_iff.1 hi1).1
        show (ChangeMaps.setBlock w1 r _).heap[r]? = _
        simp [ChangeMaps.setBlock, Array.getElem?_setIfInBounds, hlt]
  · rcases h with ⟨h2, h3, h4⟩ | ⟨e, ⟨h2, h3, h4⟩, h5, h6⟩
    · rw [h3, h4]; exact h0 h2
    · rw [h5, h6]; exact h1 e h2 h3 h4
theorem entryMap {o : Oper} {S : Sl} {K : Value → Prop} {x : Operand} {m r clock : Nat} {l done : List MapEntry} {e : MapEntry} (hr : Has H (.obj r (iterO m clock (done ++ [e])))) (hm : Has H (.obj m (.map ⟨l⟩ clock))) (ho : o.op = .entry x) (hx : opd S x = some (.pointer (some ⟨r, 0, none⟩))) (hR : RunM l (done ++ [e]))
    (hk : K (.tuple #[e.key, e.val])) : EscQ P w0 X o S H K := by
  refine ⟨_, fun a w hA hS => ?_, hk⟩
  have hi : w.heap[r]? = some (.mapIter (some m) clock ((done.map (·.born)).toArray.push e.born) clock) := by
    have := hS.ok _ (memHas hr)
    have he : Obj.mapIter (some m) clock ((done.map (·.born)).toArray.push e.born) clock = iterO m clock (done ++ [e]) := by simp [iterO]
    rw [he]; exact this
  have := run_entry_at (P := P) w r m clock (done.map (·.born)).toArray ⟨l⟩ clock e hi (hS.ok _ (memHas hm)) (hR.sub e (by simp)) hR.nd
  simp [execOp, ho, opd_eval hA hx, this, Result.andThen]
theorem EscW.ofQ {o : Oper} {S : Sl} {K : Value → List Res → Prop} (h : EscQ P w0 X o S H (fun v => K v H)) : EscW P w0 X o S H K := by
  obtain ⟨v, h1, h2⟩ := h
  exact ⟨fun u H' => u = v ∧ H' = H, fun a w hA hS => ⟨v, w, H, .inl (h1 a w hA hS), ⟨rfl, rfl⟩, hS⟩, fun u H' ⟨h3, h4⟩ => by rw [h3, h4]; exact h2⟩
/-- A map again, behind its range. -/
theorem mapBack {m clock : Nat} {es : List (Value × Value)} {l : List MapEntry} {f : Res → List Res} (h : MapOk es l clock) (hm : Hole H (.obj m (.map ⟨l⟩ clock)) f) : Ent w0 X H (f (.map m es)) := fun w hw =>
  hw.upd (hm.upd _) rfl rfl rfl (Nat.le_refl _) (fun _ _ _ => rfl) ⟨⟨l⟩, clock, hw.ok _ (hm.upd (.map m es)).mem, h⟩ (fun b hb => .inl hb)
end
end Go.Proofs.Ytgjdmlgdgbehoaa.Am
