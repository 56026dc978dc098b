/- slices.Sort of numbers: the shelf's contract, told over what is owned. -/
import Derived.Test.YtgjdmlgdgbehoaaMism4
import Derived.Shelf.Sort.Plain
import Derived.Test.YtgjdmlgdgbehoaaLay
set_option linter.unusedVariables false
set_option linter.unusedSimpArgs false
set_option maxRecDepth 100000
set_option maxHeartbeats 4000000
namespace Go.Proofs.Ytgjdmlgdgbehoaa.Am
open Go Go.RowKit
theorem ints_flat (l : List Int) : (ints l).flatten = l.map (Value.int .i64) := by
  induction l with
  | nil => rfl
  | cons x l ih => unfold ints at ih ⊢; rw [List.map_cons, List.flatten_cons, ih]; rfl
theorem arrHolds {w : World} {g n c E : Nat} {l : List Int} (h : (Res.arr (.slice (some ⟨g, 0, none⟩) n c) E 1 (ints l)).ok w) : Go.Sort.Holds (Value.int .i64) w g 0 l.toArray ∧ g < w.heap.size ∧ l.length = n ∧ l.length ≤ maxLen := by
  obtain ⟨⟨h1, h2⟩, h3⟩ := h
  rcases h2 with ⟨h2, _⟩ | ⟨g', cap, cur, h2, _, h4, h5, h6, h7, h8⟩
  · cases h2
  · simp only [Value.slice.injEq, Option.some.injEq, Addr.mk.injEq, true_and] at h2
    obtain ⟨⟨rfl, _⟩, rfl, rfl⟩ := h2
    have hlen : (ints l).length = l.length := ints_len l
    rw [hlen] at h5 h8 ⊢
    refine ⟨fun j hj => ⟨?_, by simp [World.frozen?, h4]⟩, (Array.getElem?_eq_some_iff.1 h4).1, rfl, by omega⟩
    have hj' : j < l.length := by simpa using hj
    have : cur.toList[j]? = some (.int .i64 l[j]) := by
      have e : (cur.toList.take (l.length * 1))[j]? = some (.int .i64 l[j]) := by rw [h8, ints_flat, List.getElem?_map, List.getElem?_eq_getElem hj']; rfl
      rwa [List.getElem?_take_of_lt (by omega)] at e
    have e2 : cur[j]? = some (.int .i64 l[j]) := by simpa using this
    simp [World.cell?, h4, e2, getElem!_pos l.toArray j hj]
theorem putCells_take (l : List Int) (cur : Array Value) (h : l.length ≤ cur.size) : (Go.Sort.putCells (Value.int .i64) 0 l.toArray cur).toList.take (l.length * 1) = (ints l).flatten := by
  rw [ints_flat, Nat.mul_one]
  apply List.ext_getElem?
  intro j
  by_cases hj : j < l.length
  · rw [List.getElem?_take_of_lt hj]
    have hc : j < cur.size := by omega
    simp [Go.Sort.putCells, hj, Array.getElem?_mapIdx, Array.getElem?_eq_getElem hc]
  · rw [List.getElem?_take_eq_none (by omega), List.getElem?_eq_none (by simp; omega)]
theorem St.putRow {w0 w : World} {X : List Nat} {H H' : List Res} {g n c E k : Nat} {l l' : List Int} {os : Array Obj} (hw : St w0 X H w) (hu : Upd H (.arr (.slice (some ⟨g, 0, none⟩) n c) E 1 (ints l)) (.arr (.slice (some ⟨g, 0, none⟩) n c) E 1 (ints l')) H') (hl : l'.length = l.length) :
    St w0 X H' (Go.Sort.grow (Go.Sort.putRow (Value.int .i64) (Go.Sort.ahead w k) g 0 l'.toArray) os) := by
  obtain ⟨⟨h1, h2⟩, h3⟩ := hw.ok _ hu.mem
  rcases h2 with ⟨h2, _⟩ | ⟨g', cap, cur, h2, hb, h4, h5, h6, h7, h8⟩
  · cases h2
  · simp only [Value.slice.injEq, Option.some.injEq, Addr.mk.injEq, true_and] at h2
    obtain ⟨⟨rfl, _⟩, rfl, rfl⟩ := h2
    have hg := (Array.getElem?_eq_some_iff.1 h4).1
    refine hw.upd hu rfl rfl rfl (by simp [Go.Sort.grow, Go.Sort.putRow, Go.Sort.mapBlock, Go.Sort.ahead]) (fun q hq hne => ?_) ?_ (fun b hb => .inl hb)
    · have hne' : g ≠ q := fun e => hne (by rw [e]; rfl)
      have hsz : q < (Go.Sort.putRow (Value.int .i64) (Go.Sort.ahead w k) g 0 l'.toArray).heap.size := by simpa [Go.Sort.putRow, Go.Sort.mapBlock, Go.Sort.ahead] using hq
      rw [Go.Sort.heap_grow_old _ _ hsz]
      show (w.heap.modify g _)[q]? = _
      rw [Array.getElem?_modify, if_neg hne']
    · refine ⟨⟨?_, .inr ⟨g, c, Go.Sort.putCells (Value.int .i64) 0 l'.toArray cur, ?_, Nat.zero_le _, ?_, ?_, h6, ?_, ?_⟩⟩, fun x hx => ?_⟩
      · rw [ints_flat, ints_len]; simp
      · rw [ints_len, ints_len, hl]
      · have hsz : g < (Go.Sort.putRow (Value.int .i64) (Go.Sort.ahead w k) g 0 l'.toArray).heap.size := by simpa [Go.Sort.putRow, Go.Sort.mapBlock, Go.Sort.ahead] using hg
        rw [Go.Sort.heap_grow_old _ _ hsz]
        show (w.heap.modify g _)[g]? = _
        rw [Array.getElem?_modify, if_pos rfl, h4]; rfl
      · rw [ints_len] at h5 ⊢; omega
      · simp [Go.Sort.putCells]; simpa using h7
      · rw [ints_len] at h5 ⊢
        exact putCells_take l' cur (by rw [h7]; omega)
      · unfold ints at hx
        obtain ⟨y, _, rfl⟩ := List.mem_map.1 hx
        rfl
/-- The rows of numbers, sorted. -/
def sortI (l : List Int) : List Int := l.mergeSort fun x y => decide (x ≤ y)
theorem sortI_len (l : List Int) : (sortI l).length = l.length := by simp [sortI]
theorem iSort_of {ρ : Go.Shelf.Ren} (Ly : Lays.n189 Try.prog ρ) (l : List Int) (hl5 : l.length ≤ 5000) (g n c : Nat) (w : World) (hw : St w (feet [.arr (.slice (some ⟨g, 0, none⟩) n c) 3 1 (ints l)]) [.arr (.slice (some ⟨g, 0, none⟩) n c) 3 1 (ints l)] w) :
    FnX Try.prog (ρ.f 189) [.slice (some ⟨g, 0, none⟩) n c] [.arr (.slice (some ⟨g, 0, none⟩) n c) 3 1 (ints l)] (fun _ : Unit => True) (fun _ => .tuple ⟨[]⟩) (fun _ => [.arr (.slice (some ⟨g, 0, none⟩) n c) 3 1 (ints (sortI l))]) w := by
  obtain ⟨h1, h2, rfl, h3⟩ := arrHolds (hw.ok _ List.mem_cons_self)
  refine ⟨(Any.slices_Sort_int Ly g 0 c l w h1 h2 (by omega)).mono ?_⟩
  rintro e w' ⟨rfl, k, os, rfl⟩
  exact ⟨(), trivial, rfl, hw.putRow .here (sortI_len l)⟩
theorem ok_iSort : (match Try.f83.body with | some c => codeOk Try.f83.ntmps c | none => false) = true := by kernel_rfl
theorem en_iSort : ∃ fn, Try.prog.funcs[83]? = some fn ∧ (fn.name == "runtime.NumGoroutine") = false ∧ fn.body.isNone = false := ⟨_, Try.func83, by kernel_rfl, by kernel_rfl⟩
theorem iSort_w (l : List Int) (hl5 : l.length ≤ 5000) (g n c : Nat) (w : World) (hw : St w (feet [.arr (.slice (some ⟨g, 0, none⟩) n c) 3 1 (ints l)]) [.arr (.slice (some ⟨g, 0, none⟩) n c) 3 1 (ints l)] w) :
    FnX Try.prog 83 [.slice (some ⟨g, 0, none⟩) n c] [.arr (.slice (some ⟨g, 0, none⟩) n c) 3 1 (ints l)] (fun _ : Unit => True) (fun _ => .tuple ⟨[]⟩) (fun _ => [.arr (.slice (some ⟨g, 0, none⟩) n c) 3 1 (ints (sortI l))]) w := iSort_of lays189 l hl5 g n c w hw
theorem ok_bLen64 : (match Try.f138.body with | some c => codeOk Try.f138.ntmps c | none => false) = true := by kernel_rfl
theorem en_bLen64 : ∃ fn, Try.prog.funcs[138]? = some fn ∧ (fn.name == "runtime.NumGoroutine") = false ∧ fn.body.isNone = false := ⟨_, Try.func138, by kernel_rfl, by kernel_rfl⟩
theorem bLen64_0 (w : World) : PuAt Try.prog 138 [.int .u64 0] (.int .i64 0) w := by
  refine funcR_pure tyOk wide Try.func138 ok_bLen64 (Nat.le_of_ble_eq_true rfl) ?_
  repeat' first
    | (conv => whnf
       first
       | intro _
       | (first | refine selSplit (fun h => ?_) (fun h => ?_) | refine condSplit (fun h => ?_) (fun h => ?_)) <;> first | exact (clash (by assumption) h).elim | exact (clash h (by assumption)).elim | (simp only [decide_eq_true_eq, decide_eq_false_iff_not, Bool.not_eq_true', Bool.not_eq_false', Bool.not_true, Bool.not_false, Bool.or_eq_true, Bool.and_eq_true, Bool.or_eq_false_iff, Bool.and_eq_false_iff, beq_iff_eq, beq_eq_false_iff_ne, ne_eq] at h; first | (exfalso; omega) | skip) | skip
       | refine SeqP.go ?_
       | refine cdM ?_
       | exact IsV.mk
       | apply GuardP.mk
       | refine Or.inl ⟨_, _, hasM, ?_⟩
       | refine Or.inl ⟨_, _, _, holeM, rfl, rfl, ?_⟩
       | refine lA ?_
       | refine lA0 ?_
       | refine lA1 ?_
       | refine lO ?_
       | refine lO0 ?_
       | refine lO1 ?_
       | refine lR ?_
       | refine lG ?_
       | refine lG0 ?_
       | refine tA ?_
       | refine tA0 ?_
       | refine tA1 ?_
       | refine BytW.ofBlk hasM rfl rfl ?_
       | refine AppW.noneB hasM leM rfl rfl rfl leM leM ?_
       | refine AppW.rowB hasM leM rfl rfl holeM leM leM ?_
       | refine AppW.blkB hasM leM rfl rfl holeM rfl rfl leM leM ?_
       | refine AppW.rowS hasM leM rfl rfl holeM (by omega) leM ?_
       | refine AppW.arrS hasM leM rfl rfl rfl holeM (by first | omega | (simp; omega)) leM ?_
       | refine ⟨sideM, ?_⟩
       | fail)
  all_goals (try conv => whnf)
  all_goals kernel_rfl
theorem ok_bLen : (match Try.f107.body with | some c => codeOk Try.f107.ntmps c | none => false) = true := by kernel_rfl
theorem en_bLen : ∃ fn, Try.prog.funcs[107]? = some fn ∧ (fn.name == "runtime.NumGoroutine") = false ∧ fn.body.isNone = false := ⟨_, Try.func107, by kernel_rfl, by kernel_rfl⟩
theorem bLen_0 (w : World) : PuAt Try.prog 107 [.int .u64 0] (.int .i64 0) w := by
  refine funcR_pure tyOk wide Try.func107 ok_bLen (Nat.le_of_ble_eq_true rfl) ?_
  repeat' first
    | (conv => whnf
       first
       | intro _
       | (first | refine selSplit (fun h => ?_) (fun h => ?_) | refine condSplit (fun h => ?_) (fun h => ?_)) <;> first | exact (clash (by assumption) h).elim | exact (clash h (by assumption)).elim | (simp only [decide_eq_true_eq, decide_eq_false_iff_not, Bool.not_eq_true', Bool.not_eq_false', Bool.not_true, Bool.not_false, Bool.or_eq_true, Bool.and_eq_true, Bool.or_eq_false_iff, Bool.and_eq_false_iff, beq_iff_eq, beq_eq_false_iff_ne, ne_eq] at h; first | (exfalso; omega) | skip) | skip
       | refine SeqP.go ?_
       | refine cdM ?_
       | exact IsV.mk
       | apply GuardP.mk
       | ((first | apply callPure' en_bLen64 | apply callQuiet' en_bLen64); · exact fun w _ => bLen64_0 w)
       | refine Or.inl ⟨_, _, hasM, ?_⟩
       | refine Or.inl ⟨_, _, _, holeM, rfl, rfl, ?_⟩
       | refine lA ?_
       | refine lA0 ?_
       | refine lA1 ?_
       | refine lO ?_
       | refine lO0 ?_
       | refine lO1 ?_
       | refine lR ?_
       | refine lG ?_
       | refine lG0 ?_
       | refine tA ?_
       | refine tA0 ?_
       | refine tA1 ?_
       | refine BytW.ofBlk hasM rfl rfl ?_
       | refine AppW.noneB hasM leM rfl rfl rfl leM leM ?_
       | refine AppW.rowB hasM leM rfl rfl holeM leM leM ?_
       | refine AppW.blkB hasM leM rfl rfl holeM rfl rfl leM leM ?_
       | refine AppW.rowS hasM leM rfl rfl holeM (by omega) leM ?_
       | refine AppW.arrS hasM leM rfl rfl rfl holeM (by first | omega | (simp; omega)) leM ?_
       | refine ⟨sideM, ?_⟩
       | fail)
  all_goals (try conv => whnf)
  all_goals rfl
theorem ok_insI : (match Try.f128.body with | some c => codeOk Try.f128.ntmps c | none => false) = true := by kernel_rfl
theorem en_insI : ∃ fn, Try.prog.funcs[128]? = some fn ∧ (fn.name == "runtime.NumGoroutine") = false ∧ fn.body.isNone = false := ⟨_, Try.func128, by kernel_rfl, by kernel_rfl⟩
theorem insI_0 (w : World) : PuAt Try.prog 128 [.slice none 0 0, .int .i64 0, .int .i64 0] (.tuple ⟨[]⟩) w := by
  refine funcR_pure tyOk wide Try.func128 ok_insI (Nat.le_of_ble_eq_true rfl) ?_
  repeat' first
    | (conv => whnf
       first
       | intro _
       | (first | refine selSplit (fun h => ?_) (fun h => ?_) | refine condSplit (fun h => ?_) (fun h => ?_)) <;> first | exact (clash (by assumption) h).elim | exact (clash h (by assumption)).elim | (simp only [decide_eq_true_eq, decide_eq_false_iff_not, Bool.not_eq_true', Bool.not_eq_false', Bool.not_true, Bool.not_false, Bool.or_eq_true, Bool.and_eq_true, Bool.or_eq_false_iff, Bool.and_eq_false_iff, beq_iff_eq, beq_eq_false_iff_ne, ne_eq] at h; first | (exfalso; omega) | skip) | skip
       | (first | refine drC (.quiet 0 (.quiet 1 (.quiet 2 (.quiet 3 (.quiet 4 (.quiet 5 (.quiet 6 (.quiet 7 (.quiet 8 (.quiet 9 (.quiet 10 (.quiet 11 (.quiet 12 (.quiet 13 (.quiet 14 .done))))))))))))))) (SubL.refl _) ?_ | refine drM (.quiet 0 (.quiet 1 (.quiet 2 (.quiet 3 (.quiet 4 (.quiet 5 (.quiet 6 (.quiet 7 (.quiet 8 (.quiet 9 (.quiet 10 (.quiet 11 (.quiet 12 (.quiet 13 (.quiet 14 (.last 15 true (.last 16 false (.last 17 false .done)))))))))))))))))) (SubL.of (List.Sublist.cons _ (List.Sublist.refl _))) ?_)
       | refine AltP.mk ?_ ?_
       | refine kpM ?_
       | refine SeqP.go ?_
       | refine cdM ?_
       | exact IsV.mk
       | apply GuardP.mk
       | refine Or.inl ⟨_, _, hasM, ?_⟩
       | refine Or.inl ⟨_, _, _, holeM, rfl, rfl, ?_⟩
       | refine lA ?_
       | refine lA0 ?_
       | refine lA1 ?_
       | refine lO ?_
       | refine lO0 ?_
       | refine lO1 ?_
       | refine lR ?_
       | refine lG ?_
       | refine lG0 ?_
       | refine tA ?_
       | refine tA0 ?_
       | refine tA1 ?_
       | refine BytW.ofBlk hasM rfl rfl ?_
       | refine AppW.noneB hasM leM rfl rfl rfl leM leM ?_
       | refine AppW.rowB hasM leM rfl rfl holeM leM leM ?_
       | refine AppW.blkB hasM leM rfl rfl holeM rfl rfl leM leM ?_
       | refine AppW.rowS hasM leM rfl rfl holeM (by omega) leM ?_
       | refine AppW.arrS hasM leM rfl rfl rfl holeM (by first | omega | (simp; omega)) leM ?_
       | refine ⟨sideM, ?_⟩
       | fail)
  all_goals (try conv => whnf)
  refine .mk Unit (fun _ S H => S = [(6, .int .i64 1), (2, .int .i64 0), (1, .int .i64 0), (0, .slice none 0 0)] ∧ H = []) (fun _ => 0) () _ _ ⟨rfl, rfl⟩ subM entM ?_
  rintro _ S1 H1 ⟨rfl, rfl⟩
  repeat' first
    | (conv => whnf
       first
       | intro _
       | (first | refine selSplit (fun h => ?_) (fun h => ?_) | refine condSplit (fun h => ?_) (fun h => ?_)) <;> first | exact (clash (by assumption) h).elim | exact (clash h (by assumption)).elim | (simp only [decide_eq_true_eq, decide_eq_false_iff_not, Bool.not_eq_true', Bool.not_eq_false', Bool.not_true, Bool.not_false, Bool.or_eq_true, Bool.and_eq_true, Bool.or_eq_false_iff, Bool.and_eq_false_iff, beq_iff_eq, beq_eq_false_iff_ne, ne_eq] at h; first | (exfalso; omega) | skip) | skip
       | (first | refine drC (.quiet 0 (.quiet 1 (.quiet 2 (.quiet 3 (.quiet 4 (.quiet 5 (.quiet 6 (.quiet 7 (.quiet 8 (.quiet 9 (.quiet 10 (.quiet 11 (.quiet 12 (.quiet 13 (.quiet 14 .done))))))))))))))) (SubL.refl _) ?_ | refine drM (.quiet 0 (.quiet 1 (.quiet 2 (.quiet 3 (.quiet 4 (.quiet 5 (.quiet 6 (.quiet 7 (.quiet 8 (.quiet 9 (.quiet 10 (.quiet 11 (.quiet 12 (.quiet 13 (.quiet 14 (.last 15 true (.last 16 false (.last 17 false .done)))))))))))))))))) (SubL.of (List.Sublist.cons _ (List.Sublist.refl _))) ?_)
       | refine AltP.mk ?_ ?_
       | refine kpM ?_
       | refine SeqP.go ?_
       | refine cdM ?_
       | exact IsV.mk
       | apply GuardP.mk
       | refine Or.inl ⟨_, _, hasM, ?_⟩
       | refine Or.inl ⟨_, _, _, holeM, rfl, rfl, ?_⟩
       | refine lA ?_
       | refine lA0 ?_
       | refine lA1 ?_
       | refine lO ?_
       | refine lO0 ?_
       | refine lO1 ?_
       | refine lR ?_
       | refine lG ?_
       | refine lG0 ?_
       | refine tA ?_
       | refine tA0 ?_
       | refine tA1 ?_
       | refine BytW.ofBlk hasM rfl rfl ?_
       | refine AppW.noneB hasM leM rfl rfl rfl leM leM ?_
       | refine AppW.rowB hasM leM rfl rfl holeM leM leM ?_
       | refine AppW.blkB hasM leM rfl rfl holeM rfl rfl leM leM ?_
       | refine AppW.rowS hasM leM rfl rfl holeM (by omega) leM ?_
       | refine AppW.arrS hasM leM rfl rfl rfl holeM (by first | omega | (simp; omega)) leM ?_
       | refine ⟨sideM, ?_⟩
       | fail)
  all_goals (try conv => whnf)
  all_goals rfl
theorem ok_pdqI : (match Try.f106.body with | some c => codeOk Try.f106.ntmps c | none => false) = true := by kernel_rfl
theorem en_pdqI : ∃ fn, Try.prog.funcs[106]? = some fn ∧ (fn.name == "runtime.NumGoroutine") = false ∧ fn.body.isNone = false := ⟨_, Try.func106, by kernel_rfl, by kernel_rfl⟩
theorem pdqI_0 (w : World) : PuAt Try.prog 106 [.slice none 0 0, .int .i64 0, .int .i64 0, .int .i64 0] (.tuple ⟨[]⟩) w := by
  refine funcR_pure tyOk wide Try.func106 ok_pdqI (Nat.le_of_ble_eq_true rfl) ?_
  repeat' first
    | (conv => whnf
       first
       | intro _
       | (first | refine selSplit (fun h => ?_) (fun h => ?_) | refine condSplit (fun h => ?_) (fun h => ?_)) <;> first | exact (clash (by assumption) h).elim | exact (clash h (by assumption)).elim | (simp only [decide_eq_true_eq, decide_eq_false_iff_not, Bool.not_eq_true', Bool.not_eq_false', Bool.not_true, Bool.not_false, Bool.or_eq_true, Bool.and_eq_true, Bool.or_eq_false_iff, Bool.and_eq_false_iff, beq_iff_eq, beq_eq_false_iff_ne, ne_eq] at h; first | (exfalso; omega) | skip) | skip
       | (first | refine drC (.quiet 0 (.quiet 1 (.quiet 2 (.quiet 3 (.quiet 4 (.quiet 5 (.quiet 6 (.quiet 7 (.quiet 8 (.quiet 9 (.quiet 10 (.quiet 11 (.quiet 12 (.quiet 13 (.quiet 14 .done))))))))))))))) (SubL.refl _) ?_)
       | refine AltP.mk ?_ ?_
       | refine kpM ?_
       | refine SeqP.go ?_
       | refine cdM ?_
       | exact IsV.mk
       | apply GuardP.mk
       | ((first | apply callPure' en_insI | apply callQuiet' en_insI); · exact fun w _ => insI_0 w)
       | refine Or.inl ⟨_, _, hasM, ?_⟩
       | refine Or.inl ⟨_, _, _, holeM, rfl, rfl, ?_⟩
       | refine lA ?_
       | refine lA0 ?_
       | refine lA1 ?_
       | refine lO ?_
       | refine lO0 ?_
       | refine lO1 ?_
       | refine lR ?_
       | refine lG ?_
       | refine lG0 ?_
       | refine tA ?_
       | refine tA0 ?_
       | refine tA1 ?_
       | refine BytW.ofBlk hasM rfl rfl ?_
       | refine AppW.noneB hasM leM rfl rfl rfl leM leM ?_
       | refine AppW.rowB hasM leM rfl rfl holeM leM leM ?_
       | refine AppW.blkB hasM leM rfl rfl holeM rfl rfl leM leM ?_
       | refine AppW.rowS hasM leM rfl rfl holeM (by omega) leM ?_
       | refine AppW.arrS hasM leM rfl rfl rfl holeM (by first | omega | (simp; omega)) leM ?_
       | refine ⟨sideM, ?_⟩
       | fail)
  all_goals (try conv => whnf)
  refine .mk Unit (fun _ S H => S = [(9, .bool true), (8, .bool true), (3, .int .i64 0), (2, .int .i64 0), (1, .int .i64 0), (0, .slice none 0 0)] ∧ H = []) (fun _ => 0) () _ _ ⟨rfl, rfl⟩ subM entM ?_
  rintro _ S1 H1 ⟨rfl, rfl⟩
  repeat' first
    | (conv => whnf
       first
       | intro _
       | (first | refine selSplit (fun h => ?_) (fun h => ?_) | refine condSplit (fun h => ?_) (fun h => ?_)) <;> first | exact (clash (by assumption) h).elim | exact (clash h (by assumption)).elim | (simp only [decide_eq_true_eq, decide_eq_false_iff_not, Bool.not_eq_true', Bool.not_eq_false', Bool.not_true, Bool.not_false, Bool.or_eq_true, Bool.and_eq_true, Bool.or_eq_false_iff, Bool.and_eq_false_iff, beq_iff_eq, beq_eq_false_iff_ne, ne_eq] at h; first | (exfalso; omega) | skip) | skip
       | (first | refine drC (.quiet 0 (.quiet 1 (.quiet 2 (.quiet 3 (.quiet 4 (.quiet 5 (.quiet 6 (.quiet 7 (.quiet 8 (.quiet 9 (.quiet 10 (.quiet 11 (.quiet 12 (.quiet 13 (.quiet 14 .done))))))))))))))) (SubL.refl _) ?_)
       | refine AltP.mk ?_ ?_
       | refine kpM ?_
       | refine SeqP.go ?_
       | refine cdM ?_
       | exact IsV.mk
       | apply GuardP.mk
       | ((first | apply callPure' en_insI | apply callQuiet' en_insI); · exact fun w _ => insI_0 w)
       | refine Or.inl ⟨_, _, hasM, ?_⟩
       | refine Or.inl ⟨_, _, _, holeM, rfl, rfl, ?_⟩
       | refine lA ?_
       | refine lA0 ?_
       | refine lA1 ?_
       | refine lO ?_
       | refine lO0 ?_
       | refine lO1 ?_
       | refine lR ?_
       | refine lG ?_
       | refine lG0 ?_
       | refine tA ?_
       | refine tA0 ?_
       | refine tA1 ?_
       | refine BytW.ofBlk hasM rfl rfl ?_
       | refine AppW.noneB hasM leM rfl rfl rfl leM leM ?_
       | refine AppW.rowB hasM leM rfl rfl holeM leM leM ?_
       | refine AppW.blkB hasM leM rfl rfl holeM rfl rfl leM leM ?_
       | refine AppW.rowS hasM leM rfl rfl holeM (by omega) leM ?_
       | refine AppW.arrS hasM leM rfl rfl rfl holeM (by first | omega | (simp; omega)) leM ?_
       | refine ⟨sideM, ?_⟩
       | fail)
  all_goals (try conv => whnf)
  all_goals rfl
theorem iSort_nil (w : World) : PuAt Try.prog 83 [.slice none 0 0] (.tuple ⟨[]⟩) w := by
  refine funcR_pure tyOk wide Try.func83 ok_iSort (Nat.le_of_ble_eq_true rfl) ?_
  repeat' first
    | (conv => whnf
       first
       | intro _
       | (first | refine selSplit (fun h => ?_) (fun h => ?_) | refine condSplit (fun h => ?_) (fun h => ?_)) <;> first | exact (clash (by assumption) h).elim | exact (clash h (by assumption)).elim | (simp only [decide_eq_true_eq, decide_eq_false_iff_not, Bool.not_eq_true', Bool.not_eq_false', Bool.not_true, Bool.not_false, Bool.or_eq_true, Bool.and_eq_true, Bool.or_eq_false_iff, Bool.and_eq_false_iff, beq_iff_eq, beq_eq_false_iff_ne, ne_eq] at h; first | (exfalso; omega) | skip) | skip
       | refine SeqP.go ?_
       | refine cdM ?_
       | exact IsV.mk
       | apply GuardP.mk
       | ((first | apply callPure' en_bLen | apply callQuiet' en_bLen); · exact fun w _ => bLen_0 w)
       | ((first | apply callPure' en_pdqI | apply callQuiet' en_pdqI); · exact fun w _ => pdqI_0 w)
       | refine Or.inl ⟨_, _, hasM, ?_⟩
       | refine Or.inl ⟨_, _, _, holeM, rfl, rfl, ?_⟩
       | refine lA ?_
       | refine lA0 ?_
       | refine lA1 ?_
       | refine lO ?_
       | refine lO0 ?_
       | refine lO1 ?_
       | refine lR ?_
       | refine lG ?_
       | refine lG0 ?_
       | refine tA ?_
       | refine tA0 ?_
       | refine tA1 ?_
       | refine BytW.ofBlk hasM rfl rfl ?_
       | refine AppW.noneB hasM leM rfl rfl rfl leM leM ?_
       | refine AppW.rowB hasM leM rfl rfl holeM leM leM ?_
       | refine AppW.blkB hasM leM rfl rfl holeM rfl rfl leM leM ?_
       | refine AppW.rowS hasM leM rfl rfl holeM (by omega) leM ?_
       | refine AppW.arrS hasM leM rfl rfl rfl holeM (by first | omega | (simp; omega)) leM ?_
       | refine ⟨sideM, ?_⟩
       | fail)
  all_goals (try conv => whnf)
  all_goals rfl
end Go.Proofs.Ytgjdmlgdgbehoaa.Am
