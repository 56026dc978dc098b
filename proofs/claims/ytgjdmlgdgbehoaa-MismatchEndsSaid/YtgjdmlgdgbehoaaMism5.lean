/- A guard's list. -/
import Derived.Test.YtgjdmlgdgbehoaaSortI
set_option linter.unusedVariables false
set_option linter.unusedSimpArgs false
set_option maxRecDepth 100000
set_option maxHeartbeats 4000000
namespace Go.Proofs.Ytgjdmlgdgbehoaa.Am
open Go Go.RowKit
/-- The keys whose time is not over. -/
def liveK (now : Int) (M : List (Int × Int)) : List Int := (M.filter fun p => decide (now < p.2)).map (·.1)
theorem liveK_snoc (now : Int) (M : List (Int × Int)) (p : Int × Int) : liveK now (M ++ [p]) = if now < p.2 then liveK now M ++ [p.1] else liveK now M := by
  unfold liveK
  rw [List.filter_append, List.map_append]
  by_cases h : now < p.2
  · rw [if_pos h]; simp [h]
  · rw [if_neg h]; simp [h]
theorem nodup_le : ∀ (a b : List Nat), a.Nodup → (∀ x ∈ a, x ∈ b) → a.length ≤ b.length
  | [], b, _, _ => by simp
  | x :: a, b, h, hs => by
    obtain ⟨h1, h2⟩ := List.nodup_cons.1 h
    have hx := hs x List.mem_cons_self
    have := nodup_le a (b.erase x) h2 (fun y hy => (List.mem_erase_of_ne (fun e : y = x => h1 (e ▸ hy))).2 (hs y (List.mem_cons_of_mem _ hy)))
    rw [List.length_erase_of_mem hx] at this
    have := List.length_pos_of_mem hx
    simp only [List.length_cons]
    omega
theorem runM_len {l done : List MapEntry} (h : RunM l done) : done.length ≤ l.length := by
  have := nodup_le _ (l.map (·.born)) h.dn (fun x hx => by obtain ⟨e, he, rfl⟩ := List.mem_map.1 hx; exact List.mem_map_of_mem (h.sub e he))
  simpa using this
theorem ints_snoc (l : List Int) (x : Int) : ints (l ++ [x]) = ints l ++ [[.int .i64 x]] := by simp [ints]
theorem sortI_perm {l l' : List Int} (h : l.Perm l') : sortI l = sortI l' := by
  have tr : ∀ a b c : Int, decide (a ≤ b) = true → decide (b ≤ c) = true → decide (a ≤ c) = true := fun a b c h1 h2 => by simp at *; omega
  have tt : ∀ a b : Int, (decide (a ≤ b) || decide (b ≤ a)) = true := fun a b => by simp; omega
  refine List.Perm.eq_of_pairwise (le := fun a b => decide (a ≤ b) = true) ?_ (List.pairwise_mergeSort tr tt l) (List.pairwise_mergeSort tr tt l') (((List.mergeSort_perm l _).trans h).trans (List.mergeSort_perm l' _).symm)
  intro a b _ _ h1 h2
  simp at h1 h2
  omega
theorem liveK_perm (now : Int) {M N : List (Int × Int)} (h : M.Perm N) : (liveK now M).Perm (liveK now N) := (h.filter _).map _
theorem mapE_inj {M N : List (Int × Int)} (h : (mapE M).Perm (mapE N)) : M.Perm N := by
  have := h.map fun p : Value × Value => ((match p.1 with | .int _ k => k | _ => 0), (match p.2 with | .int _ k => k | _ => 0))
  have e : ∀ M : List (Int × Int), ((mapE M).map fun p : Value × Value => ((match p.1 with | .int _ k => k | _ => 0), (match p.2 with | .int _ k => k | _ => 0))) = M := fun M => by
    induction M with
    | nil => rfl
    | cons p M ih => unfold mapE at ih ⊢; rw [List.map_cons, List.map_cons, ih]
  rwa [e, e] at this
theorem ok_gList : (match Try.f46.body with | some c => codeOk Try.f46.ntmps c | none => false) = true := by kernel_rfl
theorem en_gList : ∃ fn, Try.prog.funcs[46]? = some fn ∧ (fn.name == "runtime.NumGoroutine") = false ∧ fn.body.isNone = false := ⟨_, Try.func46, by kernel_rfl, by kernel_rfl⟩
theorem gList_w (g : GuardV) (b : Nat) (l : List Int) (M : List (Int × Int)) (now : Int) (w : World) (hS : St w (feet (g.res b l M)) (g.res b l M) w) (ht : timeB now = true) (hM : M.length ≤ 5000) :
    FnX Try.prog 46 [.pointer (some ⟨b, 0, none⟩), .int .i64 now] (g.res b l M) (fun s : Option Addr × Nat => IsRow (.slice s.1 (sortI (liveK (g.at now).now M)).length s.2) (sortI (liveK (g.at now).now M)).length) (fun s => .slice s.1 (sortI (liveK (g.at now).now M)).length s.2) (fun s => (g.at now).res b l M ++ [.arr (.slice s.1 (sortI (liveK (g.at now).now M)).length s.2) 3 1 (ints (sortI (liveK (g.at now).now M)))]) w := by
  refine funcR_x tyOk wide Try.func46 ok_gList (Nat.le_of_ble_eq_true rfl) hS ?_
  have cG := fun w hw => gGoes_w g b 159 now w hw
  rw [ht] at cG
  obtain ⟨N, hN⟩ : ∃ N, g.at now = { g with now := N } := ⟨if now > g.now then now else g.now, by unfold GuardV.at; rw [if_pos ht]⟩
  rw [hN] at cG ⊢
  obtain ⟨gt, gn, gA, gm, gc, hold, gnow, mp, heard, done, st, sema, recv, telld⟩ := g
  clear hN
  repeat' first
    | (conv => whnf
       first
       | intro _
       | (first | refine selSplit (fun h => ?_) (fun h => ?_) | refine condSplit (fun h => ?_) (fun h => ?_)) <;> first | exact (clash (by assumption) h).elim | exact (clash h (by assumption)).elim | (simp only [decide_eq_true_eq, decide_eq_false_iff_not, Bool.not_eq_true', Bool.not_eq_false', Bool.not_true, Bool.not_false, Bool.or_eq_true, Bool.and_eq_true, Bool.or_eq_false_iff, Bool.and_eq_false_iff, beq_iff_eq, beq_eq_false_iff_ne, ne_eq] at h; first | (exfalso; omega) | skip) | skip
       | refine SeqP.go ?_
       | refine cdM ?_
       | exact IsV.mk
       | apply GuardP.mk
       | (refine callOne holeM en_gGoes (fun w hw => cG w (hw.ok (.blk b _ _) (memHas (by repeat first | exact .here | apply Has.there)))) ?_)
       | (refine rangeMap holeM rfl Try.underlying142 rfl (fun r es clock hok => ?_))
       | refine Or.inl ⟨_, _, hasM, ?_⟩
       | refine Or.inl ⟨_, _, _, holeM, rfl, rfl, ?_⟩
       | refine lA ?_
       | refine lA0 ?_
       | refine lA1 ?_
       | refine lO ?_
       | refine lO0 ?_
       | refine lO1 ?_
       | refine lR ?_
       | refine lG ?_
       | refine lG0 ?_
       | refine tA ?_
       | refine tA0 ?_
       | refine tA1 ?_
       | refine BytW.ofBlk hasM rfl rfl ?_
       | refine AppW.noneB hasM leM rfl rfl rfl leM leM ?_
       | refine AppW.rowB hasM leM rfl rfl holeM leM leM ?_
       | refine AppW.blkB hasM leM rfl rfl holeM rfl rfl leM leM ?_
       | refine AppW.rowS hasM leM rfl rfl holeM (by omega) leM ?_
       | refine AppW.arrS hasM leM rfl rfl rfl holeM (by first | omega | (simp; omega)) leM ?_
       | refine ⟨sideM, ?_⟩
       | fail)
  all_goals (try conv => whnf)
  refine .mk (List MapEntry × List (Int × Int) × Option Addr × Nat) (fun ⟨dn, ps, A, c⟩ S H => (RunM es dn ∧ dn.map (fun e => (e.key, e.val)) = mapE ps ∧ IsRow (.slice A (liveK N ps).length c) (liveK N ps).length) ∧ S = [(16, .pointer (some ⟨r, 0, none⟩)), (5, .slice A (liveK N ps).length c), (0, .pointer (some ⟨b, 0, none⟩))] ∧ H = [.arr (.slice A (liveK N ps).length c) 3 1 (ints (liveK N ps)), .obj r (iterO mp clock dn), .blk b (GuardV.enc ⟨gt, gn, gA, gm, gc, hold, N, mp, heard, done, st, sema, recv, telld⟩) 159, .obj mp (.map ⟨es⟩ clock), .arr (.slice gA gm gc) 3 1 (ints l)]) (fun ⟨dn, ps, A, c⟩ => es.length - dn.length) ([], [], none, 0) _ _ ⟨⟨runM_ok hok, rfl, .inl ⟨rfl, rfl⟩⟩, rfl, rfl⟩ subM ((Ent.of keepM).trans nilArr) ?_
  rintro ⟨dn, ps, A, c⟩ S1 H1 ⟨⟨hR, hd, hrow⟩, rfl, rfl⟩
  have hold' : ∀ e ∈ es, e.born < clock := hok.2.1
  have hsort : dn.Perm es → sortI (liveK N ps) = sortI (liveK N M) := fun hp => sortI_perm (liveK_perm N (mapE_inj (by rw [← hd, ← hok.1]; exact hp.map _)))
  have hen : ∀ e ∈ es, ∃ p : Int × Int, e.key = .int .i64 p.1 ∧ e.val = .int .i64 p.2 := fun e he => by
    have : (e.key, e.val) ∈ mapE M := by rw [← hok.1]; exact List.mem_map.2 ⟨e, he, rfl⟩
    obtain ⟨p, _, h⟩ := List.mem_map.1 this
    simp only [Prod.mk.injEq] at h
    exact ⟨p, h.1.symm, h.2.symm⟩
  have hle : (liveK N ps).length ≤ 5000 := by
    have h1 : ps.length = dn.length := by have := congrArg List.length hd; simpa [mapE] using this.symm
    have h2 : M.length = es.length := by have := congrArg List.length hok.1; simpa [mapE] using this.symm
    have h3 := runM_len hR
    have h4 : (liveK N ps).length ≤ ps.length := by unfold liveK; rw [List.length_map]; exact List.length_filter_le _ _
    omega
  rcases hrow with ⟨hv, hn⟩ | ⟨gq, cap, hv, hn⟩
  · obtain ⟨rfl, -, rfl⟩ : A = none ∧ _ ∧ c = 0 := by simpa using hv
    have hl0 : liveK N ps = [] := List.eq_nil_of_length_eq_zero hn
    rw [hl0]
    repeat' first
      | (conv => whnf
         first
         | intro _
         | (first | refine selSplit (fun h => ?_) (fun h => ?_) | refine condSplit (fun h => ?_) (fun h => ?_)) <;> first | exact (clash (by assumption) h).elim | exact (clash h (by assumption)).elim | (simp only [decide_eq_true_eq, decide_eq_false_iff_not, Bool.not_eq_true', Bool.not_eq_false', Bool.not_true, Bool.not_false, Bool.or_eq_true, Bool.and_eq_true, Bool.or_eq_false_iff, Bool.and_eq_false_iff, beq_iff_eq, beq_eq_false_iff_ne, ne_eq] at h; first | (exfalso; omega) | skip) | skip
         | refine SeqP.go ?_
         | refine cdM ?_
         | exact IsV.mk
         | apply GuardP.mk
         | (refine nextMap holeM (by repeat first | exact .here | apply Has.there) rfl rfl hold' hR (fun hp => ?_) (fun e he hne hR' => ?_))
         | ((first | apply callPure' en_iSort | apply callQuiet' en_iSort); · exact fun w _ => iSort_nil w)
         | refine Or.inl ⟨_, _, hasM, ?_⟩
         | refine Or.inl ⟨_, _, _, holeM, rfl, rfl, ?_⟩
         | refine lA ?_
         | refine lA0 ?_
         | refine lA1 ?_
         | refine lO ?_
         | refine lO0 ?_
         | refine lO1 ?_
         | refine lR ?_
         | refine lG ?_
         | refine lG0 ?_
         | refine tA ?_
         | refine tA0 ?_
         | refine tA1 ?_
         | refine BytW.ofBlk hasM rfl rfl ?_
         | refine AppW.noneS hasM leM rfl rfl rfl rfl leM ?_
         | refine AppW.noneB hasM leM rfl rfl rfl leM leM ?_
         | refine AppW.rowB hasM leM rfl rfl holeM leM leM ?_
         | refine AppW.blkB hasM leM rfl rfl holeM rfl rfl leM leM ?_
         | refine AppW.rowS hasM leM rfl rfl holeM (by omega) leM ?_
         | refine AppW.arrS hasM leM rfl rfl rfl holeM (by first | omega | (simp; omega)) leM ?_
         | refine ⟨sideM, ?_⟩
         | fail)
    all_goals (try conv => whnf)
    · have hq : sortI (liveK N M) = [] := by rw [← hsort hp, hl0]; simp [sortI]
      exact EndX.mk (none, 0) (by rw [hq]; exact .inl ⟨rfl, rfl⟩) (by rw [hq]; rfl) (by rw [hq]; exact (Ent.take (H' := [.blk b _ _, .obj mp _, .arr (.slice gA gm gc) 3 1 (ints l), .arr (.slice none 0 0) 3 1 []]) takeM).trans (mapBack hok (.there .here)))
    · obtain ⟨p, h1, h2⟩ := hen e he
      obtain ⟨ek, ev, eb⟩ := e
      simp only at h1 h2
      subst h1 h2
      have hlt : es.length - (dn ++ [({ key := .int .i64 p.1, val := .int .i64 p.2, born := eb } : MapEntry)]).length < es.length - dn.length := by have := runM_len hR'; rw [List.length_append] at this ⊢; simp at this ⊢; omega
      have hds : (dn ++ [({ key := .int .i64 p.1, val := .int .i64 p.2, born := eb } : MapEntry)]).map (fun e => (e.key, e.val)) = mapE (ps ++ [p]) := by rw [List.map_append, hd]; simp [mapE]
      repeat' first
        | (conv => whnf
           first
           | intro _
           | (first | refine selSplit (fun h => ?_) (fun h => ?_) | refine condSplit (fun h => ?_) (fun h => ?_)) <;> first | exact (clash (by assumption) h).elim | exact (clash h (by assumption)).elim | (simp only [decide_eq_true_eq, decide_eq_false_iff_not, Bool.not_eq_true', Bool.not_eq_false', Bool.not_true, Bool.not_false, Bool.or_eq_true, Bool.and_eq_true, Bool.or_eq_false_iff, Bool.and_eq_false_iff, beq_iff_eq, beq_eq_false_iff_ne, ne_eq] at h; first | (exfalso; omega) | skip) | skip
           | refine SeqP.go ?_
           | refine cdM ?_
           | exact IsV.mk
           | apply GuardP.mk
           | (refine EscW.ofQ (entryMap (by repeat first | exact .here | apply Has.there) (by repeat first | exact .here | apply Has.there) rfl rfl hR' ?_))
           | refine Or.inl ⟨_, _, hasM, ?_⟩
           | refine Or.inl ⟨_, _, _, holeM, rfl, rfl, ?_⟩
           | refine lA ?_
           | refine lA0 ?_
           | refine lA1 ?_
           | refine lO ?_
           | refine lO0 ?_
           | refine lO1 ?_
           | refine lR ?_
           | refine lG ?_
           | refine lG0 ?_
           | refine tA ?_
           | refine tA0 ?_
           | refine tA1 ?_
           | refine BytW.ofBlk hasM rfl rfl ?_
           | refine AppW.noneS hasM leM rfl rfl rfl rfl leM ?_
           | refine AppW.noneB hasM leM rfl rfl rfl leM leM ?_
           | refine AppW.rowB hasM leM rfl rfl holeM leM leM ?_
           | refine AppW.blkB hasM leM rfl rfl holeM rfl rfl leM leM ?_
           | refine AppW.rowS hasM leM rfl rfl holeM (by omega) leM ?_
           | refine AppW.arrS hasM leM rfl rfl rfl holeM (by first | omega | (simp; omega)) leM ?_
           | refine ⟨sideM, ?_⟩
           | fail)
      all_goals (try conv => whnf)
      · rename_i A1 q1 hr1
        have hlk : liveK N (ps ++ [p]) = [p.1] := by rw [liveK_snoc, if_pos h, hl0]; rfl
        exact .mk (_, ps ++ [p], A1, q1) _ _ hlt ⟨⟨hR', hds, by rw [hlk]; exact hr1⟩, rfl, rfl⟩ (by rw [hlk]; exact subM) (by rw [hlk]; exact entM)
      · have hlk : liveK N (ps ++ [p]) = [] := by rw [liveK_snoc, if_neg h, hl0]
        exact .mk (_, ps ++ [p], none, 0) _ _ hlt ⟨⟨hR', hds, by rw [hlk]; exact .inl ⟨rfl, rfl⟩⟩, rfl, rfl⟩ (by rw [hlk]; exact subM) (by rw [hlk]; exact entM)
  · obtain ⟨rfl, hcc⟩ : A = some ⟨gq, 0, none⟩ ∧ c = cap := by simpa using hv
    subst hcc
    repeat' first
      | (conv => whnf
         first
         | intro _
         | (first | refine selSplit (fun h => ?_) (fun h => ?_) | refine condSplit (fun h => ?_) (fun h => ?_)) <;> first | exact (clash (by assumption) h).elim | exact (clash h (by assumption)).elim | (simp only [decide_eq_true_eq, decide_eq_false_iff_not, Bool.not_eq_true', Bool.not_eq_false', Bool.not_true, Bool.not_false, Bool.or_eq_true, Bool.and_eq_true, Bool.or_eq_false_iff, Bool.and_eq_false_iff, beq_iff_eq, beq_eq_false_iff_ne, ne_eq] at h; first | (exfalso; omega) | skip) | skip
         | refine SeqP.go ?_
         | refine cdM ?_
         | exact IsV.mk
         | apply GuardP.mk
         | (refine nextMap holeM (by repeat first | exact .here | apply Has.there) rfl rfl hold' hR (fun hp => ?_) (fun e he hne hR' => ?_))
         | (refine callX takeM en_iSort (fun w hw => iSort_w _ hle _ _ _ w (hw.sub2 takeM)) ?_)
         | refine Or.inl ⟨_, _, hasM, ?_⟩
         | refine Or.inl ⟨_, _, _, holeM, rfl, rfl, ?_⟩
         | refine lA ?_
         | refine lA0 ?_
         | refine lA1 ?_
         | refine lO ?_
         | refine lO0 ?_
         | refine lO1 ?_
         | refine lR ?_
         | refine lG ?_
         | refine lG0 ?_
         | refine tA ?_
         | refine tA0 ?_
         | refine tA1 ?_
         | refine BytW.ofBlk hasM rfl rfl ?_
         | refine AppW.noneS hasM leM rfl rfl rfl rfl leM ?_
         | refine AppW.noneB hasM leM rfl rfl rfl leM leM ?_
         | refine AppW.rowB hasM leM rfl rfl holeM leM leM ?_
         | refine AppW.blkB hasM leM rfl rfl holeM rfl rfl leM leM ?_
         | refine AppW.rowS hasM leM rfl rfl holeM (by omega) leM ?_
         | refine AppW.arrS hasM leM rfl rfl rfl holeM (by first | omega | (simp; omega)) leM ?_
         | refine ⟨sideM, ?_⟩
         | fail)
    all_goals (try conv => whnf)
    · have hq := hsort hp
      exact EndX.mk (some ⟨gq, 0, none⟩, c) (by rw [← hq, sortI_len]; exact .inr ⟨gq, c, rfl, hn⟩) (by rw [← hq, sortI_len]; rfl) (by rw [← hq, sortI_len]; exact (Ent.take (H' := [.blk b _ _, .obj mp _, .arr (.slice gA gm gc) 3 1 (ints l), .arr (.slice (some ⟨gq, 0, none⟩) _ c) 3 1 _]) takeM).trans (mapBack hok (.there .here)))
    · obtain ⟨p, h1, h2⟩ := hen e he
      obtain ⟨ek, ev, eb⟩ := e
      simp only at h1 h2
      subst h1 h2
      have hlt : es.length - (dn ++ [({ key := .int .i64 p.1, val := .int .i64 p.2, born := eb } : MapEntry)]).length < es.length - dn.length := by have := runM_len hR'; rw [List.length_append] at this ⊢; simp at this ⊢; omega
      have hds : (dn ++ [({ key := .int .i64 p.1, val := .int .i64 p.2, born := eb } : MapEntry)]).map (fun e => (e.key, e.val)) = mapE (ps ++ [p]) := by rw [List.map_append, hd]; simp [mapE]
      repeat' first
        | (conv => whnf
           first
           | intro _
           | (first | refine selSplit (fun h => ?_) (fun h => ?_) | refine condSplit (fun h => ?_) (fun h => ?_)) <;> first | exact (clash (by assumption) h).elim | exact (clash h (by assumption)).elim | (simp only [decide_eq_true_eq, decide_eq_false_iff_not, Bool.not_eq_true', Bool.not_eq_false', Bool.not_true, Bool.not_false, Bool.or_eq_true, Bool.and_eq_true, Bool.or_eq_false_iff, Bool.and_eq_false_iff, beq_iff_eq, beq_eq_false_iff_ne, ne_eq] at h; first | (exfalso; omega) | skip) | skip
           | refine SeqP.go ?_
           | refine cdM ?_
           | exact IsV.mk
           | apply GuardP.mk
           | (refine AppW.arrK hasM leM rfl rfl rfl holeM (ints_len _) (by omega) leM (fun A2 q2 hr2 => ?_))
           | (refine EscW.ofQ (entryMap (by repeat first | exact .here | apply Has.there) (by repeat first | exact .here | apply Has.there) rfl rfl hR' ?_))
           | refine Or.inl ⟨_, _, hasM, ?_⟩
           | refine Or.inl ⟨_, _, _, holeM, rfl, rfl, ?_⟩
           | refine lA ?_
           | refine lA0 ?_
           | refine lA1 ?_
           | refine lO ?_
           | refine lO0 ?_
           | refine lO1 ?_
           | refine lR ?_
           | refine lG ?_
           | refine lG0 ?_
           | refine tA ?_
           | refine tA0 ?_
           | refine tA1 ?_
           | refine BytW.ofBlk hasM rfl rfl ?_
           | refine AppW.noneB hasM leM rfl rfl rfl leM leM ?_
           | refine AppW.rowB hasM leM rfl rfl holeM leM leM ?_
           | refine AppW.blkB hasM leM rfl rfl holeM rfl rfl leM leM ?_
           | refine AppW.rowS hasM leM rfl rfl holeM (by omega) leM ?_
           | refine AppW.arrS hasM leM rfl rfl rfl holeM (by first | omega | (simp; omega)) leM ?_
           | refine ⟨sideM, ?_⟩
           | fail)
      all_goals (try conv => whnf)
      · have hlk : liveK N (ps ++ [p]) = liveK N ps ++ [p.1] := by rw [liveK_snoc, if_pos h]
        exact .mk (_, ps ++ [p], _, _) _ _ hlt ⟨⟨hR', hds, by rw [hlk, List.length_append]; exact hr2⟩, rfl, rfl⟩ (by rw [hlk, List.length_append]; exact subM) (by rw [hlk, List.length_append, ints_snoc]; exact entM)
      · have hlk : liveK N (ps ++ [p]) = liveK N ps := by rw [liveK_snoc, if_neg h]
        exact .mk (_, ps ++ [p], _, c) _ _ hlt ⟨⟨hR', hds, by rw [hlk]; exact .inr ⟨gq, c, rfl, hn⟩⟩, rfl, rfl⟩ (by rw [hlk]; exact subM) (by rw [hlk]; exact entM)
theorem gList_no (g : GuardV) (b : Nat) (T : TypeId) (now : Int) (w : World) (ht : timeB now = false) (hb : w.heap[b]? = some (.cells ⟨g.enc⟩ T (0, 0))) :
    OneAt Try.prog 46 [.pointer (some ⟨b, 0, none⟩), .int .i64 now] b g.enc T (.slice none 0 0) g.enc w := by
  refine funcR_one tyOk wide Try.func46 ok_gList (Nat.le_of_ble_eq_true rfl) hb ?_
  have cG := fun w hw => gGoes_w g b T now w hw
  have ha : g.at now = g := by unfold GuardV.at; rw [if_neg (by rw [ht]; decide)]
  rw [ht, ha] at cG
  repeat' first
    | (conv => whnf
       first
       | intro _
       | (first | refine selSplit (fun h => ?_) (fun h => ?_) | refine condSplit (fun h => ?_) (fun h => ?_)) <;> first | exact (clash (by assumption) h).elim | exact (clash h (by assumption)).elim | (simp only [decide_eq_true_eq, decide_eq_false_iff_not, Bool.not_eq_true', Bool.not_eq_false', Bool.not_true, Bool.not_false, Bool.or_eq_true, Bool.and_eq_true, Bool.or_eq_false_iff, Bool.and_eq_false_iff, beq_iff_eq, beq_eq_false_iff_ne, ne_eq] at h; first | (exfalso; omega) | skip) | skip
       | refine SeqP.go ?_
       | refine cdM ?_
       | exact IsV.mk
       | apply GuardP.mk
       | (refine callOne holeM en_gGoes (fun w hw => cG w (hw.ok (.blk b _ _) List.mem_cons_self)) ?_)
       | refine Or.inl ⟨_, _, hasM, ?_⟩
       | refine Or.inl ⟨_, _, _, holeM, rfl, rfl, ?_⟩
       | refine lA ?_
       | refine lA0 ?_
       | refine lA1 ?_
       | refine lO ?_
       | refine lO0 ?_
       | refine lO1 ?_
       | refine lR ?_
       | refine lG ?_
       | refine lG0 ?_
       | refine tA ?_
       | refine tA0 ?_
       | refine tA1 ?_
       | refine BytW.ofBlk hasM rfl rfl ?_
       | refine AppW.noneB hasM leM rfl rfl rfl leM leM ?_
       | refine AppW.rowB hasM leM rfl rfl holeM leM leM ?_
       | refine AppW.blkB hasM leM rfl rfl holeM rfl rfl leM leM ?_
       | refine AppW.rowS hasM leM rfl rfl holeM (by omega) leM ?_
       | refine AppW.arrS hasM leM rfl rfl rfl holeM (by first | omega | (simp; omega)) leM ?_
       | refine ⟨sideM, ?_⟩
       | fail)
  all_goals (try conv => whnf)
  all_goals exact keepM
end Go.Proofs.Ytgjdmlgdgbehoaa.Am
