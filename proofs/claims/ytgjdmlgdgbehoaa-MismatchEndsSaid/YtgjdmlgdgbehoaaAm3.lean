/- That the function of the code tells the truth: each operation's run. -/
import Derived.Test.YtgjdmlgdgbehoaaAm2
set_option linter.unusedVariables false
set_option linter.unusedSimpArgs false
namespace Go.Proofs.Ytgjdmlgdgbehoaa.Am
open Go Go.RowKit

theorem Agree.put {a : Act} {S : Sl} (h : Agree a S) {d : Nat} (hd : d < a.tmps.size) (v : Value) : Agree (a.put (some d) v) ((d, v) :: S) := by
  intro t u hu
  simp only [look] at hu
  by_cases e : d = t
  · subst e
    simp at hu
    subst hu
    simp [Act.put, hd]
  · have : Nat.beq d t = false := by cases hb : Nat.beq d t <;> simp_all
    rw [this] at hu
    simp only [Act.put, Array.getElem?_setIfInBounds]
    rw [if_neg e]
    exact h t u hu
theorem Agree.again {a : Act} {S : Sl} (h : Agree a S) {t : Nat} {v : Value} (hv : look S t = some v) : Agree a ((t, v) :: S) := by
  intro s u hu
  simp only [look] at hu
  split at hu
  · rename_i e
    have e : t = s := by simpa using e
    subst e
    exact h _ _ (hv.trans hu)
  · exact h s u hu
theorem look_sub {S' S : Sl} (h : SubS S' S) : ∀ t v, look S' t = some v → look S t = some v := by
  induction S' with
  | nil => intro t v hv; simp [look] at hv
  | cons p r ih =>
    intro t v hv
    obtain ⟨k, u⟩ := p
    obtain ⟨h1, h2⟩ := h
    simp only [look] at hv
    split at hv
    · rename_i e
      have e : k = t := by simpa using e
      subst e
      rw [← hv]; exact h1
    · exact ih h2 t v hv
theorem Agree.sub {a : Act} {S' S : Sl} (h : Agree a S) (hs : SubS S' S) : Agree a S' := fun t v hv => h t v (look_sub hs t v hv)

theorem opd_eval {a : Act} {S : Sl} (h : Agree a S) {x : Operand} {v : Value} (hx : opd S x = some v) : a.eval x = v := by
  cases x with
  | tmp t => simp only [opd] at hx; simp [Act.eval, Array.getD_eq_getD_getElem?, h t v hx]
  | const u => simpa [opd, Act.eval] using hx
  | global g => simp [opd] at hx
  | func f => simpa [opd, Act.eval] using hx
theorem opds_eval {a : Act} {S : Sl} (h : Agree a S) : ∀ {xs : List Operand} {vs : List Value}, opds S xs = some vs → xs.map a.eval = vs
  | [], vs, hx => by simpa [opds] using hx
  | x :: r, vs, hx => by
    simp only [opds] at hx
    cases h1 : opd S x with
    | none => simp [h1] at hx
    | some v =>
      cases h2 : opds S r with
      | none => simp [h1, h2] at hx
      | some l =>
        simp [h1, h2] at hx
        subst hx
        simp [opd_eval h h1, opds_eval h h2]

section
variable {P : Program} {ty : Nat → Option TD} {w0 : World} {X : List Nat}

theorem St.alloc {H : List Res} {w : World} (h : St w0 X H w) (cs : List Value) (T : Nat) : St w0 X (.blk w.heap.size cs T :: H) (w.alloc (.cells ⟨cs⟩ T)) :=
  h.add ((Below.refl _ _).alloc (Nat.le_refl _) _) (heap_alloc_new w _) (fun b hb => by simp [Res.foot] at hb; omega)

theorem ty_u (hty : TyOk P ty) {t : Nat} {i : TD} (h : ty t = some i) : P.underlying t = some i.d := (hty t i h).1
theorem run_size (hty : TyOk P ty) {t : Nat} {i : TD} (h : ty t = some i) (w : World) : (sizeOf t).run P w = .ok i.size w := by
  obtain ⟨_, inf, z, hi, hs, _⟩ := hty t i h
  simp [sizeOf, typeInfo, hi, hs]
theorem ty_info (hty : TyOk P ty) {t : Nat} {i : TD} (h : ty t = some i) : (P.info? t).map (·.size) = some i.size := by
  obtain ⟨_, inf, z, hi, hs, _⟩ := hty t i h
  simp [hi, hs]
theorem run_zero (hty : TyOk P ty) {t : Nat} {i : TD} (h : ty t = some i) (w : World) : ∃ z, (zeroValue t).run P w = .ok z w ∧ z.cells = ⟨i.zero⟩ ∧ i.zero.length = i.size := by
  obtain ⟨_, inf, z, hi, hs, _, hz, hc, hl, _⟩ := hty t i h
  exact ⟨z, by simp [zeroValue, typeInfo, hi, hz], hc, hl⟩

theorem Rd.blk {H : List Res} {b o : Nat} {cs vs : List Value} {T : Nat} (h : Res.blk b cs T ∈ H) (hv : (cs.drop o).take vs.length = vs) : Rd w0 X H b o vs := by
  intro w hw j u hu
  have hb := hw.ok _ h
  have hj : j < vs.length := (List.getElem?_eq_some_iff.1 hu).1
  have := cell_of_row w b (o + j) ⟨cs⟩ T (0, 0) hb
  rw [this, ← hu]
  conv => rhs; rw [← hv]
  rw [List.getElem?_take, if_pos hj, List.getElem?_drop]
  simp

theorem ofCells_val {d : TypeDesc} {vs : List Value} {k : Value → Prop} (h : ofCells d vs k) : ∃ v, k v ∧ ((d.isRow = true ∧ v = .agg ⟨vs⟩) ∨ (d.isRow = false ∧ vs = [v])) := by
  unfold ofCells at h
  cases d <;> simp only [TypeDesc.isRow] at * <;> first
    | exact ⟨_, h, .inl ⟨trivial, rfl⟩⟩
    | (split at h
       · exact ⟨_, h, .inr ⟨by simp, rfl⟩⟩
       · exact h.elim)
theorem run_isAgg {t : Nat} {d : TypeDesc} (hu : P.underlying t = some d) (w : World) : (isAgg t).run P w = .ok d.isRow w := by
  unfold isAgg
  rw [Sem.run_bind, run_underlying hu w]
  cases d <;> simp [TypeDesc.isRow]

theorem loadVar_run (hty : TyOk P ty) {t : Nat} {i : TD} (h : ty t = some i) {b o : Nat} {vs : List Value} (hl : vs.length = i.size) {k : Value → Prop} (hk : ofCells i.d vs k) :
    ∃ v, k v ∧ ∀ w : World, w.rangeAt b o vs → (loadVar t ⟨b, o, none⟩).run P w = .ok v w := by
  have hu := ty_u hty h
  have hsz := ty_info hty h
  obtain ⟨v, hkv, hv⟩ := ofCells_val hk
  refine ⟨v, hkv, fun w hr => ?_⟩
  rcases hv with ⟨hd, rfl⟩ | ⟨hd, rfl⟩
  · exact run_loadVar_mid w b o t vs i.d hr hu hd (by rw [hsz, hl])
  · have hc := hr 0 v rfl
    simp only [Nat.add_zero] at hc
    simp [loadVar, Sem.run_bind, run_isAgg hu, hd, hc]

theorem loadW_run (hty : TyOk P ty) {t : Nat} {i : TD} (h : ty t = some i) {H : List Res} {b o : Nat} {k : Value → Prop} (hl : loadW w0 X H b o i k) :
    ∃ v, k v ∧ ∀ w, St w0 X H w → (loadVar t ⟨b, o, none⟩).run P w = .ok v w := by
  rcases hl with ⟨cs, T, hm, hk⟩ | ⟨vs, hr, hlen, hk⟩
  · by_cases ho : o + i.size ≤ cs.length
    · rw [subK_eq _ _ _ _ _ ho] at hk
      have hlen : ((cs.drop o).take i.size).length = i.size := by simp; omega
      obtain ⟨v, h1, h2⟩ := loadVar_run (b := b) (o := o) hty h hlen hk
      refine ⟨v, h1, fun w hw => h2 w (Rd.blk hm ?_ w hw)⟩
      rw [hlen]
    · rw [subK_dflt _ _ _ _ _ ho] at hk; exact hk.elim
  · obtain ⟨v, h1, h2⟩ := loadVar_run (b := b) (o := o) hty h hlen hk
    exact ⟨v, h1, fun w hw => h2 w (hr w hw)⟩

theorem part_run (hty : TyOk P ty) {t : Nat} {i : TD} (h : ty t = some i) {cs : List Value} {o : Nat} {k : Value → Prop} (hk : subK False cs o i.size fun vs => ofCells i.d vs k) :
    ∃ v, k v ∧ ∀ w : World, (part t ⟨cs⟩ o).run P w = .ok v w := by
  have hu := ty_u hty h
  by_cases ho : o + i.size ≤ cs.length
  · rw [subK_eq _ _ _ _ _ ho] at hk
    obtain ⟨v, hkv, hv⟩ := ofCells_val hk
    refine ⟨v, hkv, fun w => ?_⟩
    have hs := run_size hty h w
    rcases hv with ⟨hd, rfl⟩ | ⟨hd, hv⟩
    · have hx : (⟨cs⟩ : Array Value).extract o (o + i.size) = ⟨(cs.drop o).take i.size⟩ := by
        apply Array.ext'
        simp [List.extract_eq_take_drop]
      simp [part, Sem.run_bind, run_isAgg hu, hd, hs, hx]
    · have hu0 : cs[o]? = some v := by
        have h3 : ((cs.drop o).take i.size)[0]? = some v := by rw [hv]; rfl
        rw [List.getElem?_take] at h3
        split at h3
        · simpa [List.getElem?_drop] using h3
        · cases h3
      simp [part, Sem.run_bind, run_isAgg hu, hd, hu0]
  · rw [subK_dflt _ _ _ _ _ ho] at hk; exact hk.elim

theorem flat_len {sz : Nat} : ∀ {l : List (List Value)}, (∀ x ∈ l, x.length = sz) → l.flatten.length = l.length * sz
  | [], _ => by simp
  | x :: l, h => by
    rw [List.flatten_cons, List.length_append, flat_len (fun y hy => h y (List.mem_cons_of_mem _ hy)), h x List.mem_cons_self, List.length_cons, Nat.add_mul]
    omega
theorem flat_split {l : List (List Value)} {j : Nat} {x : List Value} (hx : l[j]? = some x) : l.flatten = (l.take j).flatten ++ (x ++ (l.drop (j + 1)).flatten) := by
  obtain ⟨hj, rfl⟩ := List.getElem?_eq_some_iff.1 hx
  conv => lhs; rw [← List.take_append_drop j l]
  rw [List.flatten_append, List.drop_eq_getElem_cons hj, List.flatten_cons]
theorem flat_set {l : List (List Value)} {j : Nat} {x x' : List Value} (hx : l[j]? = some x) : (l.set j x').flatten = (l.take j).flatten ++ (x' ++ (l.drop (j + 1)).flatten) := by
  obtain ⟨hj, rfl⟩ := List.getElem?_eq_some_iff.1 hx
  have h1 : (l.set j x')[j]? = some x' := by simp [hj]
  rw [flat_split h1, List.take_set_of_le (Nat.le_refl _), List.drop_set_of_lt (by omega)]
theorem take_len {sz : Nat} {l : List (List Value)} (h : ∀ x ∈ l, x.length = sz) {j : Nat} (hj : j ≤ l.length) : (l.take j).flatten.length = j * sz := by
  rw [flat_len (fun x hx => h x (List.mem_of_mem_take hx)), List.length_take]
  congr 1; omega
theorem Rd.arr {H : List Res} {b n c E sz : Nat} {l : List (List Value)} (h : Res.arr (.slice (some ⟨b, 0, none⟩) n c) E sz l ∈ H) {j q : Nat} {x vs : List Value} (hx : l[j]? = some x) (hv : (x.drop q).take vs.length = vs) : Rd w0 X H b (0 + j * sz + q) vs := by
  intro w hw i u hu
  obtain ⟨⟨h1, h2⟩, h3⟩ := hw.ok _ h
  rcases h2 with ⟨h2, _⟩ | ⟨g, cap, cur, he, _, hg, _, _, _, ht⟩
  · cases h2
  · cases he
    have hi : i < vs.length := (List.getElem?_eq_some_iff.1 hu).1
    rw [cell_of_row w b _ cur E (0, 0) hg]
    have hj : j < l.length := (List.getElem?_eq_some_iff.1 hx).1
    have hxl : x.length = sz := h3 x (List.mem_of_getElem? hx)
    have hlen : vs.length ≤ x.length - q := by
      have := congrArg List.length hv
      simp only [List.length_take, List.length_drop] at this
      omega
    have h4 : l.flatten[j * sz + q + i]? = some u := by
      rw [flat_split hx, List.getElem?_append_right (by rw [take_len h3 (by omega)]; omega), take_len h3 (by omega), List.getElem?_append_left (by omega)]
      rw [show j * sz + q + i - j * sz = q + i by omega]
      have h5 : ((x.drop q).take vs.length)[i]? = some u := by rw [hv]; exact hu
      rw [List.getElem?_take, if_pos hi, List.getElem?_drop] at h5
      exact h5
    rw [← ht, List.getElem?_take] at h4
    split at h4
    · rw [Nat.zero_add]; simpa using h4
    · cases h4
theorem arr_store {w : World} {b n c E sz : Nat} {l : List (List Value)} (h : Res.ok w (.arr (.slice (some ⟨b, 0, none⟩) n c) E sz l)) {j q : Nat} {x vs : List Value} (hx : l[j]? = some x) (hq : q + vs.length ≤ x.length) :
    ∃ cur : Array Value, w.heap[b]? = some (.cells cur E (0, 0)) ∧ 0 + j * sz + q + vs.length ≤ cur.size ∧
      Res.ok (w.setRow b (cur.toList.take (0 + j * sz + q) ++ vs ++ cur.toList.drop (0 + j * sz + q + vs.length)).toArray) (.arr (.slice (some ⟨b, 0, none⟩) n c) E sz (l.set j (x.take q ++ vs ++ x.drop (q + vs.length)))) := by
  obtain ⟨⟨h1, h2⟩, h3⟩ := h
  rcases h2 with ⟨h2, _⟩ | ⟨g, cap, cur, he, h4, hg, h5, h6, h7, ht⟩
  · cases h2
  · cases he
    have hj : j < l.length := (List.getElem?_eq_some_iff.1 hx).1
    have hxl : x.length = sz := h3 x (List.mem_of_getElem? hx)
    have hmul : (j + 1) * sz ≤ l.length * sz := Nat.mul_le_mul_right _ hj
    have hmul2 : l.length * sz ≤ c * sz := Nat.mul_le_mul_right _ h5
    rw [Nat.add_mul, Nat.one_mul] at hmul
    have hfit : 0 + j * sz + q + vs.length ≤ cur.size := by rw [h7]; omega
    refine ⟨cur, hg, hfit, ⟨?_, ?_⟩, ?_⟩
    · rw [flat_len (sz := sz)]
      intro y hy
      rcases List.mem_or_eq_of_mem_set hy with hy | hy
      · exact h3 y hy
      · subst hy; simp; omega
    · refine .inr ⟨b, c, _, by simp, h4, setRow_heap w b cur _ E (0, 0) hg, by simpa using h5, h6, ?_, ?_⟩
      · simp
        simp at hfit
        omega
      · rw [flat_set hx, List.length_set]
        have hsp := flat_split hx
        have htl := take_len h3 (Nat.le_of_lt hj)
        have hdl : (l.drop (j + 1)).flatten.length = (l.length - (j + 1)) * sz := by rw [flat_len (fun y hy => h3 y (List.mem_of_mem_drop hy)), List.length_drop]
        have hsum : l.length * sz = j * sz + (sz + (l.length - (j + 1)) * sz) := by
          have e : l.length = j + (1 + (l.length - (j + 1))) := by omega
          conv => lhs; rw [e]
          rw [Nat.add_mul, Nat.add_mul, Nat.one_mul]
        have hcur : cur.toList = l.flatten ++ cur.toList.drop (l.length * sz) := by rw [← ht, List.take_append_drop]
        have hcs : cur.toList.length = cur.size := by simp
        -- both told by their places
        apply List.ext_getElem?
        intro i
        simp only [List.toList_toArray]
        rw [List.getElem?_take]
        by_cases hi : i < l.length * sz
        · rw [if_pos hi]
          have hci : ∀ i, i < l.length * sz → cur.toList[i]? = l.flatten[i]? := fun i hi => by rw [hcur, List.getElem?_append_left (by rw [flat_len h3]; exact hi)]
          by_cases a1 : i < j * sz
          · rw [List.getElem?_append_left (by simp; omega), List.getElem?_append_left (by simp; omega), List.getElem?_take, if_pos (by omega), hci i hi, hsp, List.getElem?_append_left (by omega), List.getElem?_append_left (by omega)]
          · rw [List.getElem?_append_right (l₁ := (l.take j).flatten) (by omega), htl]
            by_cases a2 : i < j * sz + q
            · rw [List.getElem?_append_left (by simp; omega), List.getElem?_append_left (by simp; omega), List.getElem?_take, if_pos (by omega), hci i hi, hsp, List.getElem?_append_right (by omega), htl, List.getElem?_append_left (by omega), List.getElem?_append_left (by simp; omega), List.getElem?_append_left (by simp; omega), List.getElem?_append_left (by simp; omega), List.getElem?_take, if_pos (by omega)]
            · by_cases a3 : i < j * sz + q + vs.length
              · have e1 : (cur.toList.take (0 + j * sz + q)).length = j * sz + q := by simp; omega
                rw [List.getElem?_append_left (by rw [List.length_append, e1]; omega), List.getElem?_append_right (by rw [e1]; omega), e1]
                have e2 : (x.take q).length = q := by simp; omega
                rw [List.getElem?_append_left (by rw [List.length_append, List.length_append, e2, List.length_drop]; omega), List.getElem?_append_left (by rw [List.length_append, e2]; omega), List.getElem?_append_right (by rw [e2]; omega), e2]
                congr 1; omega
              · have e1 : (cur.toList.take (0 + j * sz + q)).length = j * sz + q := by simp; omega
                rw [List.getElem?_append_right (by rw [List.length_append, e1]; omega), List.length_append, e1, List.getElem?_drop, hci _ (by omega), hsp, List.getElem?_append_right (by omega), htl]
                have e2 : (x.take q).length = q := by simp; omega
                have e3 : (x.take q ++ vs ++ x.drop (q + vs.length)).length = sz := by simp; omega
                by_cases a4 : i < j * sz + sz
                · rw [List.getElem?_append_left (by omega), List.getElem?_append_left (by omega), List.getElem?_append_right (by rw [List.length_append, e2]; omega), List.length_append, e2, List.getElem?_drop]
                  congr 1; omega
                · rw [List.getElem?_append_right (by omega), List.getElem?_append_right (by omega), e3, hxl]
                  congr 1; omega
        · rw [if_neg hi, List.getElem?_eq_none]
          rw [List.length_append, htl, List.length_append, hdl]
          simp; omega
    · intro y hy
      rcases List.mem_or_eq_of_mem_set hy with hy | hy
      · exact h3 y hy
      · subst hy; simp; omega

/-- A store into a block that is known. -/
theorem storeW_run (hty : TyOk P ty) {t : Nat} {i : TD} (h : ty t = some i) {H : List Res} {w : World} (hw : St w0 X H w) {b o : Nat} {v : Value} {k : List Res → Prop} (hl : storeW H b o i v k) :
    ∃ w' H', (storeVar t ⟨b, o, none⟩ v).run P w = .ok () w' ∧ St w0 X H' w' ∧ k H' := by
  have hs := run_size hty h w
  unfold storeW at hl
  split at hl
  · rename_i h0
    obtain ⟨hz, hk⟩ := hl
    have hv : v.cells.toList = [] := List.eq_nil_of_length_eq_zero hz
    refine ⟨w, H, ?_, hw, hk⟩
    simp only [storeVar, Sem.run_bind, hs, Result.andThen_ok]
    rw [if_neg (by simp [← Array.length_toList, hv, h0])]
    simp [hv, storeCells]
  · rename_i n h0
    rcases hl with ⟨cs, T, f, hf, hlen, hone, hk⟩ | hl
    rotate_left
    · cases hl with
      | arr m c E sz l f hf j q x hx ho hlen hone hk =>
        have hok := hw.ok _ (hf.upd (.blk b [] 0)).mem
        have hc1 : ∀ u ∈ v.cells.toList, u.oneCell' = true := List.all_eq_true.1 hone
        by_cases hq : q + v.cells.toList.length ≤ x.length
        · rw [putK_eq _ _ _ _ _ hq] at hk
          obtain ⟨cur, hb, hfit, hok'⟩ := arr_store hok hx hq
          have hst := run_storeCells_at P b o E v.cells.toList 0 cur w hb (by rw [ho]; simpa using hfit) hc1
          rw [← ho] at hok'
          refine ⟨w.setRow b (cur.toList.take o ++ v.cells.toList ++ cur.toList.drop (o + v.cells.toList.length)).toArray, _, ?_, ?_, hk⟩
          · simp only [storeVar, Sem.run_bind, hs, Result.andThen_ok]
            rw [if_neg (by rw [← Array.length_toList, hlen, h0]; simp)]
            simpa using hst
          refine hw.upd (hf.upd _) rfl rfl rfl (by simp) ?_ hok' (fun b' hb' => .inl (by simpa [Res.foot] using hb'))
          intro k hk1 hk2
          exact setRow_other w b k _ (fun e => hk2 (by simp [Res.foot, Value.ownBlock, e]))
        · rw [putK_dflt _ _ _ _ _ hq] at hk; exact hk.elim
    have hb : w.heap[b]? = some (.cells ⟨cs⟩ T (0, 0)) := hw.ok _ (hf.upd (.blk b cs T)).mem
    have hc1 : ∀ u ∈ v.cells.toList, u.oneCell' = true := List.all_eq_true.1 hone
    by_cases ho : o + v.cells.toList.length ≤ cs.length
    · rw [putK_eq _ _ _ _ _ ho] at hk
      have hst := run_storeCells_at P b o T v.cells.toList 0 ⟨cs⟩ w hb (by simpa using ho) hc1
      refine ⟨w.setRow b (cs.take o ++ v.cells.toList ++ cs.drop (o + v.cells.toList.length)).toArray, _, ?_, ?_, hk⟩
      · simp only [storeVar, Sem.run_bind, hs, Result.andThen_ok]
        rw [if_neg (by rw [← Array.length_toList, hlen, h0]; simp)]
        simpa using hst
      refine hw.upd (hf.upd _) rfl rfl rfl (by simp) ?_ ?_ (fun b' hb' => .inl (by simpa [Res.foot] using hb'))
      · intro k hk1 hk2
        exact setRow_other w b k _ (fun e => hk2 (by simp [Res.foot, e]))
      · exact setRow_heap w b ⟨cs⟩ _ T (0, 0) hb
    · rw [putK_dflt _ _ _ _ _ ho] at hk; exact hk.elim
end
end Go.Proofs.Ytgjdmlgdgbehoaa.Am
