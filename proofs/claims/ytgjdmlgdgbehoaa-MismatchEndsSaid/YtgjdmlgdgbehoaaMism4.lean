/- A guard that hears: told. -/
import Derived.Test.YtgjdmlgdgbehoaaMism3
set_option linter.unusedVariables false
set_option linter.unusedSimpArgs false
set_option maxRecDepth 100000
set_option maxHeartbeats 4000000
namespace Go.Proofs.Ytgjdmlgdgbehoaa.Am
open Go Go.RowKit
theorem gHear_same (gn : Int) (gA : Option Addr) (gm gc : Nat) (hold gnow : Int) (mp : Nat) (heard done st sema recv telld : Int) (b : Nat) (l : List Int) (M : List (Int × Int)) (r now N : Int) (w : World) (hS : St w (feet [.blk b [.bool true, .int .i64 gn, .slice gA gm gc, .int .i64 hold, .int .i64 gnow, .map (some mp), .int .i64 heard, .int .u32 done, .int .i32 st, .int .u32 sema, .int .i64 recv, .int .i64 telld] 159, .map mp (mapE M), .arr (.slice gA gm gc) 3 1 (ints l)]) [.blk b [.bool true, .int .i64 gn, .slice gA gm gc, .int .i64 hold, .int .i64 gnow, .map (some mp), .int .i64 heard, .int .u32 done, .int .i32 st, .int .u32 sema, .int .i64 recv, .int .i64 telld] 159, .map mp (mapE M), .arr (.slice gA gm gc) 3 1 (ints l)] w) (hm : l.length = gm) (hl : l.length ≤ 1000) (hn : vlanB r = true ∧ timeB now = true) (hh : vHasB true gn l r = true) (hN : (if now > gnow then now else gnow) = N) :
    FnX Try.prog 42 [.pointer (some ⟨b, 0, none⟩), .int .i64 r, .int .i64 r, .int .i64 now] [.blk b [.bool true, .int .i64 gn, .slice gA gm gc, .int .i64 hold, .int .i64 gnow, .map (some mp), .int .i64 heard, .int .u32 done, .int .i32 st, .int .u32 sema, .int .i64 recv, .int .i64 telld] 159, .map mp (mapE M), .arr (.slice gA gm gc) 3 1 (ints l)] (fun _ : Unit => True) (fun _ => .int .i64 0) (fun _ => [.blk b [.bool true, .int .i64 gn, .slice gA gm gc, .int .i64 hold, .int .i64 N, .map (some mp), .int .i64 heard, .int .u32 done, .int .i32 st, .int .u32 sema, .int .i64 recv, .int .i64 telld] 159, .map mp (mapE M), .arr (.slice gA gm gc) 3 1 (ints l)]) w := by
  refine funcR_x tyOk wide Try.func42 ok_gHear (Nat.le_of_ble_eq_true rfl) hS ?_
  obtain ⟨h1, h3⟩ := hn
  have cG := fun w hw => gGoes_w ⟨true, gn, gA, gm, gc, hold, gnow, mp, heard, done, st, sema, recv, telld⟩ b 159 now w hw
  rw [h3, show GuardV.at ⟨true, gn, gA, gm, gc, hold, gnow, mp, heard, done, st, sema, recv, telld⟩ now = ⟨true, gn, gA, gm, gc, hold, N, mp, heard, done, st, sema, recv, telld⟩ by unfold GuardV.at; rw [if_pos h3]; simp only; rw [hN]] at cG
  simp only [timeB, Bool.and_eq_true, decide_eq_true_eq] at h3
  have c1 := gVlan_w r
  rw [h1] at c1
  have cH := fun w hw => vHas_w true gn l r gA gc w hw hl
  rw [hh, hm] at cH
  clear hN
  repeat' first
    | (conv => whnf
       first
       | intro _
       | (first | refine selSplit (fun h => ?_) (fun h => ?_) | refine condSplit (fun h => ?_) (fun h => ?_)) <;> first | exact (clash (by assumption) h).elim | exact (clash h (by assumption)).elim | (simp only [decide_eq_true_eq, decide_eq_false_iff_not, Bool.not_eq_true', Bool.not_eq_false', Bool.not_true, Bool.not_false, Bool.or_eq_true, Bool.and_eq_true, Bool.or_eq_false_iff, Bool.and_eq_false_iff, beq_iff_eq, beq_eq_false_iff_ne, ne_eq] at h; first | (exfalso; omega) | skip) | skip
       | (first | refine drM (.quiet 0 (.quiet 1 (.quiet 2 (.quiet 3 (.quiet 4 (.quiet 5 (.quiet 6 (.quiet 7 .done)))))))) (SubL.refl _) ?_ | refine drM (.quiet 0 (.quiet 1 (.quiet 2 (.quiet 3 (.quiet 4 (.quiet 5 (.quiet 6 (.quiet 7 (.quiet 8 (.quiet 9 (.quiet 10 (.quiet 11 (.quiet 12 (.quiet 13 (.last 14 false .done))))))))))))))) (SubL.refl _) ?_)
       | refine AltP.mk ?_ ?_
       | refine kpM ?_
       | refine SeqP.go ?_
       | refine cdM ?_
       | exact IsV.mk
       | apply GuardP.mk
       | ((first | apply callPure' en_gVlan | apply callQuiet' en_gVlan); · exact fun w _ => c1 w)
       | ((first | apply callPure' en_vHas | apply callQuiet' en_vHas); · exact fun w hw => cH w (hw.arrSl hasM))
       | (refine callOne holeM en_gGoes (fun w hw => cG w (hw.ok (.blk b _ _) (List.mem_cons_of_mem _ (List.mem_cons_of_mem _ (List.mem_cons_of_mem _ List.mem_cons_self))))) ?_)
       | refine Or.inl ⟨_, _, hasM, ?_⟩
       | refine Or.inl ⟨_, _, _, holeM, rfl, rfl, ?_⟩
       | refine lA ?_
       | refine lA0 ?_
       | refine lA1 ?_
       | refine lO ?_
       | refine lO0 ?_
       | refine lO1 ?_
       | refine lR ?_
       | refine lG ?_
       | refine lG0 ?_
       | refine tA ?_
       | refine tA0 ?_
       | refine tA1 ?_
       | refine BytW.ofBlk hasM rfl rfl ?_
       | refine AppW.noneB hasM leM rfl rfl rfl leM leM ?_
       | refine AppW.rowB hasM leM rfl rfl holeM leM leM ?_
       | refine AppW.blkB hasM leM rfl rfl holeM rfl rfl leM leM ?_
       | refine AppW.rowS hasM leM rfl rfl holeM (by omega) leM ?_
       | refine AppW.arrS hasM leM rfl rfl rfl holeM (by first | omega | (simp; omega)) leM ?_
       | refine ⟨sideM, ?_⟩
       | fail)
  all_goals (try conv => whnf)
  all_goals first | exact EndX.mk () trivial rfl (Ent.of keepM) | exact absurd rfl h | exact absurd trivial h | (exfalso; first | omega | (simp at h; done) | (simp at h; omega))
theorem putL_snoc (t : Bool) (n : Int) (l : List Int) (u v : Int) : ∀ (vs : List Int) (M : List (Int × Int)), putL t n l u (vs ++ [v]) M = if vHasB t n l v then putM (putL t n l u vs M) v u else putL t n l u vs M
  | [], M => rfl
  | x :: r, M => putL_snoc t n l u v r _
theorem gHear_put (gt : Bool) (gn : Int) (gA : Option Addr) (gm gc : Nat) (hold gnow : Int) (mp : Nat) (heard done sema recv telld : Int) (b : Nat) (l : List Int) (M : List (Int × Int)) (r t now N U : Int) (vs : List Int) (d2 r2 t2 : Int) (w : World) (hS : St w (feet [.blk b [.bool gt, .int .i64 gn, .slice gA gm gc, .int .i64 hold, .int .i64 gnow, .map (some mp), .int .i64 heard, .int .u32 done, .int .i32 0, .int .u32 sema, .int .i64 recv, .int .i64 telld] 159, .map mp (mapE M), .arr (.slice gA gm gc) 3 1 (ints l)]) [.blk b [.bool gt, .int .i64 gn, .slice gA gm gc, .int .i64 hold, .int .i64 gnow, .map (some mp), .int .i64 heard, .int .u32 done, .int .i32 0, .int .u32 sema, .int .i64 recv, .int .i64 telld] 159, .map mp (mapE M), .arr (.slice gA gm gc) 3 1 (ints l)] w) (hm : l.length = gm) (hl : l.length ≤ 1000) (hM : (M.map (·.1)).Nodup) (hn : vlanB r = true ∧ vlanB t = true ∧ timeB now = true) (hh : vHasB gt gn l r = true) (hv : (gt = true ∧ vs = [r, t] ∧ r ≠ t) ∨ gt = false ∧ vs = [gn]) (hN : (if now > gnow then now else gnow) = N) (hU : IntKind.i64.wrap (N + hold) = U) (hw1 : IntKind.i64.wrap (heard + 1) = heard + 1) (hd : (done = 0 ∧ d2 = 1 ∧ r2 = r ∧ t2 = t) ∨ done = 1 ∧ d2 = 1 ∧ r2 = recv ∧ t2 = telld) :
    FnX Try.prog 42 [.pointer (some ⟨b, 0, none⟩), .int .i64 r, .int .i64 t, .int .i64 now] [.blk b [.bool gt, .int .i64 gn, .slice gA gm gc, .int .i64 hold, .int .i64 gnow, .map (some mp), .int .i64 heard, .int .u32 done, .int .i32 0, .int .u32 sema, .int .i64 recv, .int .i64 telld] 159, .map mp (mapE M), .arr (.slice gA gm gc) 3 1 (ints l)] (fun _ : Unit => True) (fun _ => .int .i64 0) (fun _ => [.blk b [.bool gt, .int .i64 gn, .slice gA gm gc, .int .i64 hold, .int .i64 N, .map (some mp), .int .i64 (heard + 1), .int .u32 d2, .int .i32 0, .int .u32 sema, .int .i64 r2, .int .i64 t2] 159, .map mp (mapE (putL gt gn l U vs M)), .arr (.slice gA gm gc) 3 1 (ints l)]) w := by
  refine funcR_x tyOk wide Try.func42 ok_gHear (Nat.le_of_ble_eq_true rfl) hS ?_
  obtain ⟨h1, h2, h3⟩ := hn
  have cG := fun w hw => gGoes_w ⟨gt, gn, gA, gm, gc, hold, gnow, mp, heard, done, 0, sema, recv, telld⟩ b 159 now w hw
  rw [h3, show GuardV.at ⟨gt, gn, gA, gm, gc, hold, gnow, mp, heard, done, 0, sema, recv, telld⟩ now = ⟨gt, gn, gA, gm, gc, hold, N, mp, heard, done, 0, sema, recv, telld⟩ by unfold GuardV.at; rw [if_pos h3]; simp only; rw [hN]] at cG
  simp only [timeB, Bool.and_eq_true, decide_eq_true_eq] at h3
  have c1 := gVlan_w r
  rw [h1] at c1
  have c2 := gVlan_w t
  rw [h2] at c2
  have cV := fun v w hw => vHas_w gt gn l v gA gc w hw hl
  rw [hm] at cV
  have cH := cV r
  rw [hh] at cH
  clear hN
  rcases hv with ⟨rfl, rfl, hr⟩ | ⟨rfl, rfl⟩
  · skip
    repeat' first
      | (conv => whnf
         first
         | intro _
         | (first | refine selSplit (fun h => ?_) (fun h => ?_) | refine condSplit (fun h => ?_) (fun h => ?_)) <;> first | exact (clash (by assumption) h).elim | exact (clash h (by assumption)).elim | (simp only [decide_eq_true_eq, decide_eq_false_iff_not, Bool.not_eq_true', Bool.not_eq_false', Bool.not_true, Bool.not_false, Bool.or_eq_true, Bool.and_eq_true, Bool.or_eq_false_iff, Bool.and_eq_false_iff, beq_iff_eq, beq_eq_false_iff_ne, ne_eq] at h; first | (exfalso; omega) | skip) | skip
         | (first | refine drM (.quiet 0 (.quiet 1 (.quiet 2 (.quiet 3 (.quiet 4 (.quiet 5 (.quiet 6 (.quiet 7 .done)))))))) (SubL.refl _) ?_ | refine drM (.quiet 0 (.quiet 1 (.quiet 2 (.quiet 3 (.quiet 4 (.quiet 5 (.quiet 6 (.quiet 7 (.quiet 8 (.quiet 9 (.quiet 10 (.quiet 11 (.quiet 12 (.quiet 13 (.last 14 false .done))))))))))))))) (SubL.refl _) ?_)
         | refine AltP.mk ?_ ?_
         | refine kpM ?_
         | refine SeqP.go ?_
         | refine cdM ?_
         | exact IsV.mk
         | apply GuardP.mk
         | ((first | apply callPure' en_gVlan | apply callQuiet' en_gVlan); · exact fun w _ => c1 w)
         | ((first | apply callPure' en_gVlan | apply callQuiet' en_gVlan); · exact fun w _ => c2 w)
         | ((first | apply callPure' en_vHas | apply callQuiet' en_vHas); · exact fun w hw => cH w (hw.arrSl hasM))
         | (refine callOne holeM en_gGoes (fun w hw => cG w (hw.ok (.blk b _ _) (List.mem_cons_of_mem _ (List.mem_cons_of_mem _ (List.mem_cons_of_mem _ List.mem_cons_self))))) ?_)
         | refine Or.inl ⟨_, _, hasM, ?_⟩
         | refine Or.inl ⟨_, _, _, holeM, rfl, rfl, ?_⟩
         | refine lA ?_
         | refine lA0 ?_
         | refine lA1 ?_
         | refine lO ?_
         | refine lO0 ?_
         | refine lO1 ?_
         | refine lR ?_
         | refine lG ?_
         | refine lG0 ?_
         | refine tA ?_
         | refine tA0 ?_
         | refine tA1 ?_
         | refine BytW.ofBlk hasM rfl rfl ?_
         | refine AppW.noneB hasM leM rfl rfl rfl leM leM ?_
         | refine AppW.rowB hasM leM rfl rfl holeM leM leM ?_
         | refine AppW.blkB hasM leM rfl rfl holeM rfl rfl leM leM ?_
         | refine AppW.rowS hasM leM rfl rfl holeM (by omega) leM ?_
         | refine AppW.arrS hasM leM rfl rfl rfl holeM (by first | omega | (simp; omega)) leM ?_
         | refine ⟨sideM, ?_⟩
         | fail)
    all_goals (try conv => whnf)
    all_goals first | (exfalso; first | omega | (simp at h; done) | (simp at h; omega)) | skip
    rename_i bg br bt _ q
    refine .mk Nat (fun k S H => k ≤ 2 ∧ S = [(63, .int .i64 k), (62, .int .i64 2), (61, .slice (some ⟨q, 0, none⟩) 2 2), (6, .pointer (some ⟨bt, 0, none⟩)), (5, .pointer (some ⟨br, 0, none⟩)), (4, .pointer (some ⟨bg, 0, none⟩))] ∧ H = [.blk q [.int .i64 r, .int .i64 t] 3, .blk bt [.int .i64 t] 3, .blk br [.int .i64 r] 3, .blk bg [.pointer (some ⟨b, 0, none⟩)] 80, .blk b (GuardV.enc ⟨true, gn, gA, gm, gc, hold, N, mp, heard, done, 0, sema, recv, telld⟩) 159, .map mp (mapE (putL true gn l U ([r, t].take k) M)), .arr (.slice gA gm gc) 3 1 (ints l)]) (fun k => 2 - k) 0 _ _ ⟨by omega, rfl, rfl⟩ subM entM ?_
    rintro k S1 H1 ⟨hk, rfl, rfl⟩
    by_cases hk2 : k < 2
    · rcases (by omega : k = 0 ∨ k = 1) with rfl | rfl
      · skip
        have cX := cV r
        have hP : MPut (mapE (putL true gn l U ([r, t].take 0) M)) (.int .i64 r) (.int .i64 (IntKind.i64.wrap (N + hold))) (mapE (putM (putL true gn l U ([r, t].take 0) M) r U)) := by rw [hU]; exact putM_put _ (putL_nodup _ _ _ _ _ _ hM) _ _
        repeat' first
          | (conv => whnf
             first
             | intro _
             | (first | refine selSplit (fun h => ?_) (fun h => ?_) | refine condSplit (fun h => ?_) (fun h => ?_)) <;> first | exact (clash (by assumption) h).elim | exact (clash h (by assumption)).elim | (simp only [decide_eq_true_eq, decide_eq_false_iff_not, Bool.not_eq_true', Bool.not_eq_false', Bool.not_true, Bool.not_false, Bool.or_eq_true, Bool.and_eq_true, Bool.or_eq_false_iff, Bool.and_eq_false_iff, beq_iff_eq, beq_eq_false_iff_ne, ne_eq] at h; first | (exfalso; omega) | skip) | skip
             | (first | refine drM (.quiet 0 (.quiet 1 (.quiet 2 (.quiet 3 (.quiet 4 (.quiet 5 (.quiet 6 (.quiet 7 .done)))))))) (SubL.refl _) ?_ | refine drM (.quiet 0 (.quiet 1 (.quiet 2 (.quiet 3 (.quiet 4 (.quiet 5 (.quiet 6 (.quiet 7 (.quiet 8 (.quiet 9 (.quiet 10 (.quiet 11 (.quiet 12 (.quiet 13 (.last 14 false .done))))))))))))))) (SubL.refl _) ?_)
             | refine AltP.mk ?_ ?_
             | refine kpM ?_
             | refine SeqP.go ?_
             | refine cdM ?_
             | exact IsV.mk
             | apply GuardP.mk
             | ((first | apply callPure' en_vHas | apply callQuiet' en_vHas); · exact fun w hw => cX w (hw.arrSl hasM))
             | (refine mapPut holeM rfl Try.underlying142 (KeyT.int Try.underlying3) rfl rfl rfl ⟨_, rfl⟩ (mapE_good _) hP ?_)
             | refine Or.inl ⟨_, _, hasM, ?_⟩
             | refine Or.inl ⟨_, _, _, holeM, rfl, rfl, ?_⟩
             | refine lA ?_
             | refine lA0 ?_
             | refine lA1 ?_
             | refine lO ?_
             | refine lO0 ?_
             | refine lO1 ?_
             | refine lR ?_
             | refine lG ?_
             | refine lG0 ?_
             | refine tA ?_
             | refine tA0 ?_
             | refine tA1 ?_
             | refine BytW.ofBlk hasM rfl rfl ?_
             | refine AppW.noneB hasM leM rfl rfl rfl leM leM ?_
             | refine AppW.rowB hasM leM rfl rfl holeM leM leM ?_
             | refine AppW.blkB hasM leM rfl rfl holeM rfl rfl leM leM ?_
             | refine AppW.rowS hasM leM rfl rfl holeM (by omega) leM ?_
             | refine AppW.arrS hasM leM rfl rfl rfl holeM (by first | omega | (simp; omega)) leM ?_
             | refine ⟨sideM, ?_⟩
             | fail)
        all_goals (try conv => whnf)
        all_goals first
          | (have hput : putL true gn l U ([r, t].take 1) M = putM (putL true gn l U ([r, t].take 0) M) r U := by show putL _ _ _ _ [r] _ = _; simp only [List.take, putL, h, if_true, if_false, Bool.false_eq_true]
             exact .mk 1 _ _ (by omega) ⟨by omega, rfl, rfl⟩ subM (by rw [hput]; exact entM))
          | (have hput : putL true gn l U ([r, t].take 1) M = (putL true gn l U ([r, t].take 0) M) := by show putL _ _ _ _ [r] _ = _; simp only [List.take, putL, h, if_true, if_false, Bool.false_eq_true]
             exact .mk 1 _ _ (by omega) ⟨by omega, rfl, rfl⟩ subM (by rw [hput]; exact entM))
      · skip
        have cX := cV t
        have hP : MPut (mapE (putL true gn l U ([r, t].take 1) M)) (.int .i64 t) (.int .i64 (IntKind.i64.wrap (N + hold))) (mapE (putM (putL true gn l U ([r, t].take 1) M) t U)) := by rw [hU]; exact putM_put _ (putL_nodup _ _ _ _ _ _ hM) _ _
        repeat' first
          | (conv => whnf
             first
             | intro _
             | (first | refine selSplit (fun h => ?_) (fun h => ?_) | refine condSplit (fun h => ?_) (fun h => ?_)) <;> first | exact (clash (by assumption) h).elim | exact (clash h (by assumption)).elim | (simp only [decide_eq_true_eq, decide_eq_false_iff_not, Bool.not_eq_true', Bool.not_eq_false', Bool.not_true, Bool.not_false, Bool.or_eq_true, Bool.and_eq_true, Bool.or_eq_false_iff, Bool.and_eq_false_iff, beq_iff_eq, beq_eq_false_iff_ne, ne_eq] at h; first | (exfalso; omega) | skip) | skip
             | (first | refine drM (.quiet 0 (.quiet 1 (.quiet 2 (.quiet 3 (.quiet 4 (.quiet 5 (.quiet 6 (.quiet 7 .done)))))))) (SubL.refl _) ?_ | refine drM (.quiet 0 (.quiet 1 (.quiet 2 (.quiet 3 (.quiet 4 (.quiet 5 (.quiet 6 (.quiet 7 (.quiet 8 (.quiet 9 (.quiet 10 (.quiet 11 (.quiet 12 (.quiet 13 (.last 14 false .done))))))))))))))) (SubL.refl _) ?_)
             | refine AltP.mk ?_ ?_
             | refine kpM ?_
             | refine SeqP.go ?_
             | refine cdM ?_
             | exact IsV.mk
             | apply GuardP.mk
             | ((first | apply callPure' en_vHas | apply callQuiet' en_vHas); · exact fun w hw => cX w (hw.arrSl hasM))
             | (refine mapPut holeM rfl Try.underlying142 (KeyT.int Try.underlying3) rfl rfl rfl ⟨_, rfl⟩ (mapE_good _) hP ?_)
             | refine Or.inl ⟨_, _, hasM, ?_⟩
             | refine Or.inl ⟨_, _, _, holeM, rfl, rfl, ?_⟩
             | refine lA ?_
             | refine lA0 ?_
             | refine lA1 ?_
             | refine lO ?_
             | refine lO0 ?_
             | refine lO1 ?_
             | refine lR ?_
             | refine lG ?_
             | refine lG0 ?_
             | refine tA ?_
             | refine tA0 ?_
             | refine tA1 ?_
             | refine BytW.ofBlk hasM rfl rfl ?_
             | refine AppW.noneB hasM leM rfl rfl rfl leM leM ?_
             | refine AppW.rowB hasM leM rfl rfl holeM leM leM ?_
             | refine AppW.blkB hasM leM rfl rfl holeM rfl rfl leM leM ?_
             | refine AppW.rowS hasM leM rfl rfl holeM (by omega) leM ?_
             | refine AppW.arrS hasM leM rfl rfl rfl holeM (by first | omega | (simp; omega)) leM ?_
             | refine ⟨sideM, ?_⟩
             | fail)
        all_goals (try conv => whnf)
        all_goals first
          | (have hput : putL true gn l U ([r, t].take 2) M = putM (putL true gn l U ([r, t].take 1) M) t U := by show putL _ _ _ _ [r, t] _ = _; simp only [List.take, putL, h, if_true, if_false, Bool.false_eq_true]
             exact .mk 2 _ _ (by omega) ⟨by omega, rfl, rfl⟩ subM (by rw [hput]; exact entM))
          | (have hput : putL true gn l U ([r, t].take 2) M = (putL true gn l U ([r, t].take 1) M) := by show putL _ _ _ _ [r, t] _ = _; simp only [List.take, putL, h, if_true, if_false, Bool.false_eq_true]
             exact .mk 2 _ _ (by omega) ⟨by omega, rfl, rfl⟩ subM (by rw [hput]; exact entM))
    · obtain rfl : k = 2 := by omega
      have cA := fun w hw => aAdd64_w b 6 (GuardV.enc ⟨true, gn, gA, gm, gc, hold, N, mp, heard, done, 0, sema, recv, telld⟩) 159 heard 1 (heard + 1) w hw rfl hw1
      rcases hd with ⟨rfl, rfl, e3, e4⟩ | ⟨rfl, rfl, e3, e4⟩ <;> subst r2 <;> subst t2
      · skip
        repeat' first
          | (conv => whnf
             first
             | intro _
             | (first | refine selSplit (fun h => ?_) (fun h => ?_) | refine condSplit (fun h => ?_) (fun h => ?_)) <;> first | exact (clash (by assumption) h).elim | exact (clash h (by assumption)).elim | (simp only [decide_eq_true_eq, decide_eq_false_iff_not, Bool.not_eq_true', Bool.not_eq_false', Bool.not_true, Bool.not_false, Bool.or_eq_true, Bool.and_eq_true, Bool.or_eq_false_iff, Bool.and_eq_false_iff, beq_iff_eq, beq_eq_false_iff_ne, ne_eq] at h; first | (exfalso; omega) | skip) | skip
             | (first | refine drM (.quiet 0 (.quiet 1 (.quiet 2 (.quiet 3 (.quiet 4 (.quiet 5 (.quiet 6 (.quiet 7 .done)))))))) (SubL.refl _) ?_ | refine drM (.quiet 0 (.quiet 1 (.quiet 2 (.quiet 3 (.quiet 4 (.quiet 5 (.quiet 6 (.quiet 7 (.quiet 8 (.quiet 9 (.quiet 10 (.quiet 11 (.quiet 12 (.quiet 13 (.last 14 false .done))))))))))))))) (SubL.refl _) ?_)
             | refine AltP.mk ?_ ?_
             | refine kpM ?_
             | refine SeqP.go ?_
             | refine cdM ?_
             | exact IsV.mk
             | apply GuardP.mk
             | (refine callOne holeM en_aAdd64 (fun w hw => cA w (hw.ok (.blk b _ _) (memHas (by repeat first | exact .here | apply Has.there)))) ?_)
             | (refine callX takeM en_onceDo (fun w hw => onceFirst_w b 7 (GuardV.enc ⟨true, gn, gA, gm, gc, hold, N, mp, heard + 1, 0, 0, sema, recv, telld⟩) (GuardV.enc ⟨true, gn, gA, gm, gc, hold, N, mp, heard + 1, 0, 1, sema, r, t⟩) 159 [.blk br [.int .i64 r] 3, .blk bt [.int .i64 t] 3, .blk bg [.pointer (some ⟨b, 0, none⟩)] 80] [.blk br [.int .i64 r] 3, .blk bt [.int .i64 t] 3, .blk bg [.pointer (some ⟨b, 0, none⟩)] 80] 82 [.pointer (some ⟨br, 0, none⟩), .pointer (some ⟨bt, 0, none⟩), .pointer (some ⟨bg, 0, none⟩)] w (hw.sub2 takeM) rfl rfl rfl rfl en_gOnce (fun w hw => gOnce_w ⟨true, gn, gA, gm, gc, hold, N, mp, heard + 1, 0, 1, sema, recv, telld⟩ b br bt bg _ _ _ _ r t w hw)) ?_)
             | refine Or.inl ⟨_, _, hasM, ?_⟩
             | refine Or.inl ⟨_, _, _, holeM, rfl, rfl, ?_⟩
             | refine lA ?_
             | refine lA0 ?_
             | refine lA1 ?_
             | refine lO ?_
             | refine lO0 ?_
             | refine lO1 ?_
             | refine lR ?_
             | refine lG ?_
             | refine lG0 ?_
             | refine tA ?_
             | refine tA0 ?_
             | refine tA1 ?_
             | refine BytW.ofBlk hasM rfl rfl ?_
             | refine AppW.noneB hasM leM rfl rfl rfl leM leM ?_
             | refine AppW.rowB hasM leM rfl rfl holeM leM leM ?_
             | refine AppW.blkB hasM leM rfl rfl holeM rfl rfl leM leM ?_
             | refine AppW.rowS hasM leM rfl rfl holeM (by omega) leM ?_
             | refine AppW.arrS hasM leM rfl rfl rfl holeM (by first | omega | (simp; omega)) leM ?_
             | refine ⟨sideM, ?_⟩
             | fail)
        all_goals (try conv => whnf)
        all_goals first | exact EndX.mk () trivial rfl entM | skip
      · skip
        repeat' first
          | (conv => whnf
             first
             | intro _
             | (first | refine selSplit (fun h => ?_) (fun h => ?_) | refine condSplit (fun h => ?_) (fun h => ?_)) <;> first | exact (clash (by assumption) h).elim | exact (clash h (by assumption)).elim | (simp only [decide_eq_true_eq, decide_eq_false_iff_not, Bool.not_eq_true', Bool.not_eq_false', Bool.not_true, Bool.not_false, Bool.or_eq_true, Bool.and_eq_true, Bool.or_eq_false_iff, Bool.and_eq_false_iff, beq_iff_eq, beq_eq_false_iff_ne, ne_eq] at h; first | (exfalso; omega) | skip) | skip
             | (first | refine drM (.quiet 0 (.quiet 1 (.quiet 2 (.quiet 3 (.quiet 4 (.quiet 5 (.quiet 6 (.quiet 7 .done)))))))) (SubL.refl _) ?_ | refine drM (.quiet 0 (.quiet 1 (.quiet 2 (.quiet 3 (.quiet 4 (.quiet 5 (.quiet 6 (.quiet 7 (.quiet 8 (.quiet 9 (.quiet 10 (.quiet 11 (.quiet 12 (.quiet 13 (.last 14 false .done))))))))))))))) (SubL.refl _) ?_)
             | refine AltP.mk ?_ ?_
             | refine kpM ?_
             | refine SeqP.go ?_
             | refine cdM ?_
             | exact IsV.mk
             | apply GuardP.mk
             | (refine callOne holeM en_aAdd64 (fun w hw => cA w (hw.ok (.blk b _ _) (memHas (by repeat first | exact .here | apply Has.there)))) ?_)
             | ((first | apply callPure' en_onceDo | apply callQuiet' en_onceDo); · exact fun w hw => onceDone_w b 7 _ w (hw.at1 (by repeat first | exact .here | apply Has.there) rfl))
             | refine Or.inl ⟨_, _, hasM, ?_⟩
             | refine Or.inl ⟨_, _, _, holeM, rfl, rfl, ?_⟩
             | refine lA ?_
             | refine lA0 ?_
             | refine lA1 ?_
             | refine lO ?_
             | refine lO0 ?_
             | refine lO1 ?_
             | refine lR ?_
             | refine lG ?_
             | refine lG0 ?_
             | refine tA ?_
             | refine tA0 ?_
             | refine tA1 ?_
             | refine BytW.ofBlk hasM rfl rfl ?_
             | refine AppW.noneB hasM leM rfl rfl rfl leM leM ?_
             | refine AppW.rowB hasM leM rfl rfl holeM leM leM ?_
             | refine AppW.blkB hasM leM rfl rfl holeM rfl rfl leM leM ?_
             | refine AppW.rowS hasM leM rfl rfl holeM (by omega) leM ?_
             | refine AppW.arrS hasM leM rfl rfl rfl holeM (by first | omega | (simp; omega)) leM ?_
             | refine ⟨sideM, ?_⟩
             | fail)
        all_goals (try conv => whnf)
        all_goals first | exact EndX.mk () trivial rfl entM | skip
  · skip
    repeat' first
      | (conv => whnf
         first
         | intro _
         | (first | refine selSplit (fun h => ?_) (fun h => ?_) | refine condSplit (fun h => ?_) (fun h => ?_)) <;> first | exact (clash (by assumption) h).elim | exact (clash h (by assumption)).elim | (simp only [decide_eq_true_eq, decide_eq_false_iff_not, Bool.not_eq_true', Bool.not_eq_false', Bool.not_true, Bool.not_false, Bool.or_eq_true, Bool.and_eq_true, Bool.or_eq_false_iff, Bool.and_eq_false_iff, beq_iff_eq, beq_eq_false_iff_ne, ne_eq] at h; first | (exfalso; omega) | skip) | skip
         | (first | refine drM (.quiet 0 (.quiet 1 (.quiet 2 (.quiet 3 (.quiet 4 (.quiet 5 (.quiet 6 (.quiet 7 .done)))))))) (SubL.refl _) ?_ | refine drM (.quiet 0 (.quiet 1 (.quiet 2 (.quiet 3 (.quiet 4 (.quiet 5 (.quiet 6 (.quiet 7 (.quiet 8 (.quiet 9 (.quiet 10 (.quiet 11 (.quiet 12 (.quiet 13 (.last 14 false .done))))))))))))))) (SubL.refl _) ?_)
         | refine AltP.mk ?_ ?_
         | refine kpM ?_
         | refine SeqP.go ?_
         | refine cdM ?_
         | exact IsV.mk
         | apply GuardP.mk
         | ((first | apply callPure' en_gVlan | apply callQuiet' en_gVlan); · exact fun w _ => c1 w)
         | ((first | apply callPure' en_gVlan | apply callQuiet' en_gVlan); · exact fun w _ => c2 w)
         | ((first | apply callPure' en_vHas | apply callQuiet' en_vHas); · exact fun w hw => cH w (hw.arrSl hasM))
         | (refine callOne holeM en_gGoes (fun w hw => cG w (hw.ok (.blk b _ _) (List.mem_cons_of_mem _ (List.mem_cons_of_mem _ (List.mem_cons_of_mem _ List.mem_cons_self))))) ?_)
         | refine Or.inl ⟨_, _, hasM, ?_⟩
         | refine Or.inl ⟨_, _, _, holeM, rfl, rfl, ?_⟩
         | refine lA ?_
         | refine lA0 ?_
         | refine lA1 ?_
         | refine lO ?_
         | refine lO0 ?_
         | refine lO1 ?_
         | refine lR ?_
         | refine lG ?_
         | refine lG0 ?_
         | refine tA ?_
         | refine tA0 ?_
         | refine tA1 ?_
         | refine BytW.ofBlk hasM rfl rfl ?_
         | refine AppW.noneB hasM leM rfl rfl rfl leM leM ?_
         | refine AppW.rowB hasM leM rfl rfl holeM leM leM ?_
         | refine AppW.blkB hasM leM rfl rfl holeM rfl rfl leM leM ?_
         | refine AppW.rowS hasM leM rfl rfl holeM (by omega) leM ?_
         | refine AppW.arrS hasM leM rfl rfl rfl holeM (by first | omega | (simp; omega)) leM ?_
         | refine ⟨sideM, ?_⟩
         | fail)
    all_goals (try conv => whnf)
    all_goals first | (exfalso; first | omega | (simp at h; done) | (simp at h; omega)) | skip
    rename_i bg br bt q1 q
    refine .mk Nat (fun k S H => k ≤ 1 ∧ S = [(63, .int .i64 k), (62, .int .i64 1), (61, .slice (some ⟨q, 0, none⟩) 1 1), (6, .pointer (some ⟨bt, 0, none⟩)), (5, .pointer (some ⟨br, 0, none⟩)), (4, .pointer (some ⟨bg, 0, none⟩))] ∧ H = [.blk q [.int .i64 gn] 3, .blk bt [.int .i64 t] 3, .blk br [.int .i64 r] 3, .blk bg [.pointer (some ⟨b, 0, none⟩)] 80, .blk b (GuardV.enc ⟨false, gn, gA, gm, gc, hold, N, mp, heard, done, 0, sema, recv, telld⟩) 159, .map mp (mapE (putL false gn l U ([gn].take k) M)), .arr (.slice gA gm gc) 3 1 (ints l)]) (fun k => 1 - k) 0 _ _ ⟨by omega, rfl, rfl⟩ subM entM ?_
    rintro k S1 H1 ⟨hk, rfl, rfl⟩
    by_cases hk2 : k < 1
    · obtain rfl : k = 0 := by omega
      have cX := cV gn
      have hP : MPut (mapE (putL false gn l U ([gn].take 0) M)) (.int .i64 gn) (.int .i64 (IntKind.i64.wrap (N + hold))) (mapE (putM (putL false gn l U ([gn].take 0) M) gn U)) := by rw [hU]; exact putM_put _ (putL_nodup _ _ _ _ _ _ hM) _ _
      repeat' first
        | (conv => whnf
           first
           | intro _
           | (first | refine selSplit (fun h => ?_) (fun h => ?_) | refine condSplit (fun h => ?_) (fun h => ?_)) <;> first | exact (clash (by assumption) h).elim | exact (clash h (by assumption)).elim | (simp only [decide_eq_true_eq, decide_eq_false_iff_not, Bool.not_eq_true', Bool.not_eq_false', Bool.not_true, Bool.not_false, Bool.or_eq_true, Bool.and_eq_true, Bool.or_eq_false_iff, Bool.and_eq_false_iff, beq_iff_eq, beq_eq_false_iff_ne, ne_eq] at h; first | (exfalso; omega) | skip) | skip
           | (first | refine drM (.quiet 0 (.quiet 1 (.quiet 2 (.quiet 3 (.quiet 4 (.quiet 5 (.quiet 6 (.quiet 7 .done)))))))) (SubL.refl _) ?_ | refine drM (.quiet 0 (.quiet 1 (.quiet 2 (.quiet 3 (.quiet 4 (.quiet 5 (.quiet 6 (.quiet 7 (.quiet 8 (.quiet 9 (.quiet 10 (.quiet 11 (.quiet 12 (.quiet 13 (.last 14 false .done))))))))))))))) (SubL.refl _) ?_)
           | refine AltP.mk ?_ ?_
           | refine kpM ?_
           | refine SeqP.go ?_
           | refine cdM ?_
           | exact IsV.mk
           | apply GuardP.mk
           | ((first | apply callPure' en_vHas | apply callQuiet' en_vHas); · exact fun w hw => cX w (hw.arrSl hasM))
           | (refine mapPut holeM rfl Try.underlying142 (KeyT.int Try.underlying3) rfl rfl rfl ⟨_, rfl⟩ (mapE_good _) hP ?_)
           | refine Or.inl ⟨_, _, hasM, ?_⟩
           | refine Or.inl ⟨_, _, _, holeM, rfl, rfl, ?_⟩
           | refine lA ?_
           | refine lA0 ?_
           | refine lA1 ?_
           | refine lO ?_
           | refine lO0 ?_
           | refine lO1 ?_
           | refine lR ?_
           | refine lG ?_
           | refine lG0 ?_
           | refine tA ?_
           | refine tA0 ?_
           | refine tA1 ?_
           | refine BytW.ofBlk hasM rfl rfl ?_
           | refine AppW.noneB hasM leM rfl rfl rfl leM leM ?_
           | refine AppW.rowB hasM leM rfl rfl holeM leM leM ?_
           | refine AppW.blkB hasM leM rfl rfl holeM rfl rfl leM leM ?_
           | refine AppW.rowS hasM leM rfl rfl holeM (by omega) leM ?_
           | refine AppW.arrS hasM leM rfl rfl rfl holeM (by first | omega | (simp; omega)) leM ?_
           | refine ⟨sideM, ?_⟩
           | fail)
      all_goals (try conv => whnf)
      all_goals first
        | (have hput : putL false gn l U ([gn].take 1) M = putM (putL false gn l U ([gn].take 0) M) gn U := by show putL _ _ _ _ [gn] _ = _; simp only [List.take, putL, h, if_true, if_false, Bool.false_eq_true]
           exact .mk 1 _ _ (by omega) ⟨by omega, rfl, rfl⟩ subM (by rw [hput]; exact entM))
        | (have hput : putL false gn l U ([gn].take 1) M = (putL false gn l U ([gn].take 0) M) := by show putL _ _ _ _ [gn] _ = _; simp only [List.take, putL, h, if_true, if_false, Bool.false_eq_true]
           exact .mk 1 _ _ (by omega) ⟨by omega, rfl, rfl⟩ subM (by rw [hput]; exact entM))
    · obtain rfl : k = 1 := by omega
      have cA := fun w hw => aAdd64_w b 6 (GuardV.enc ⟨false, gn, gA, gm, gc, hold, N, mp, heard, done, 0, sema, recv, telld⟩) 159 heard 1 (heard + 1) w hw rfl hw1
      rcases hd with ⟨rfl, rfl, e3, e4⟩ | ⟨rfl, rfl, e3, e4⟩ <;> subst r2 <;> subst t2
      · skip
        repeat' first
          | (conv => whnf
             first
             | intro _
             | (first | refine selSplit (fun h => ?_) (fun h => ?_) | refine condSplit (fun h => ?_) (fun h => ?_)) <;> first | exact (clash (by assumption) h).elim | exact (clash h (by assumption)).elim | (simp only [decide_eq_true_eq, decide_eq_false_iff_not, Bool.not_eq_true', Bool.not_eq_false', Bool.not_true, Bool.not_false, Bool.or_eq_true, Bool.and_eq_true, Bool.or_eq_false_iff, Bool.and_eq_false_iff, beq_iff_eq, beq_eq_false_iff_ne, ne_eq] at h; first | (exfalso; omega) | skip) | skip
             | (first | refine drM (.quiet 0 (.quiet 1 (.quiet 2 (.quiet 3 (.quiet 4 (.quiet 5 (.quiet 6 (.quiet 7 .done)))))))) (SubL.refl _) ?_ | refine drM (.quiet 0 (.quiet 1 (.quiet 2 (.quiet 3 (.quiet 4 (.quiet 5 (.quiet 6 (.quiet 7 (.quiet 8 (.quiet 9 (.quiet 10 (.quiet 11 (.quiet 12 (.quiet 13 (.last 14 false .done))))))))))))))) (SubL.refl _) ?_)
             | refine AltP.mk ?_ ?_
             | refine kpM ?_
             | refine SeqP.go ?_
             | refine cdM ?_
             | exact IsV.mk
             | apply GuardP.mk
             | (refine callOne holeM en_aAdd64 (fun w hw => cA w (hw.ok (.blk b _ _) (memHas (by repeat first | exact .here | apply Has.there)))) ?_)
             | (refine callX takeM en_onceDo (fun w hw => onceFirst_w b 7 (GuardV.enc ⟨false, gn, gA, gm, gc, hold, N, mp, heard + 1, 0, 0, sema, recv, telld⟩) (GuardV.enc ⟨false, gn, gA, gm, gc, hold, N, mp, heard + 1, 0, 1, sema, r, t⟩) 159 [.blk br [.int .i64 r] 3, .blk bt [.int .i64 t] 3, .blk bg [.pointer (some ⟨b, 0, none⟩)] 80] [.blk br [.int .i64 r] 3, .blk bt [.int .i64 t] 3, .blk bg [.pointer (some ⟨b, 0, none⟩)] 80] 82 [.pointer (some ⟨br, 0, none⟩), .pointer (some ⟨bt, 0, none⟩), .pointer (some ⟨bg, 0, none⟩)] w (hw.sub2 takeM) rfl rfl rfl rfl en_gOnce (fun w hw => gOnce_w ⟨false, gn, gA, gm, gc, hold, N, mp, heard + 1, 0, 1, sema, recv, telld⟩ b br bt bg _ _ _ _ r t w hw)) ?_)
             | refine Or.inl ⟨_, _, hasM, ?_⟩
             | refine Or.inl ⟨_, _, _, holeM, rfl, rfl, ?_⟩
             | refine lA ?_
             | refine lA0 ?_
             | refine lA1 ?_
             | refine lO ?_
             | refine lO0 ?_
             | refine lO1 ?_
             | refine lR ?_
             | refine lG ?_
             | refine lG0 ?_
             | refine tA ?_
             | refine tA0 ?_
             | refine tA1 ?_
             | refine BytW.ofBlk hasM rfl rfl ?_
             | refine AppW.noneB hasM leM rfl rfl rfl leM leM ?_
             | refine AppW.rowB hasM leM rfl rfl holeM leM leM ?_
             | refine AppW.blkB hasM leM rfl rfl holeM rfl rfl leM leM ?_
             | refine AppW.rowS hasM leM rfl rfl holeM (by omega) leM ?_
             | refine AppW.arrS hasM leM rfl rfl rfl holeM (by first | omega | (simp; omega)) leM ?_
             | refine ⟨sideM, ?_⟩
             | fail)
        all_goals (try conv => whnf)
        all_goals first | exact EndX.mk () trivial rfl entM | skip
      · skip
        repeat' first
          | (conv => whnf
             first
             | intro _
             | (first | refine selSplit (fun h => ?_) (fun h => ?_) | refine condSplit (fun h => ?_) (fun h => ?_)) <;> first | exact (clash (by assumption) h).elim | exact (clash h (by assumption)).elim | (simp only [decide_eq_true_eq, decide_eq_false_iff_not, Bool.not_eq_true', Bool.not_eq_false', Bool.not_true, Bool.not_false, Bool.or_eq_true, Bool.and_eq_true, Bool.or_eq_false_iff, Bool.and_eq_false_iff, beq_iff_eq, beq_eq_false_iff_ne, ne_eq] at h; first | (exfalso; omega) | skip) | skip
             | (first | refine drM (.quiet 0 (.quiet 1 (.quiet 2 (.quiet 3 (.quiet 4 (.quiet 5 (.quiet 6 (.quiet 7 .done)))))))) (SubL.refl _) ?_ | refine drM (.quiet 0 (.quiet 1 (.quiet 2 (.quiet 3 (.quiet 4 (.quiet 5 (.quiet 6 (.quiet 7 (.quiet 8 (.quiet 9 (.quiet 10 (.quiet 11 (.quiet 12 (.quiet 13 (.last 14 false .done))))))))))))))) (SubL.refl _) ?_)
             | refine AltP.mk ?_ ?_
             | refine kpM ?_
             | refine SeqP.go ?_
             | refine cdM ?_
             | exact IsV.mk
             | apply GuardP.mk
             | (refine callOne holeM en_aAdd64 (fun w hw => cA w (hw.ok (.blk b _ _) (memHas (by repeat first | exact .here | apply Has.there)))) ?_)
             | ((first | apply callPure' en_onceDo | apply callQuiet' en_onceDo); · exact fun w hw => onceDone_w b 7 _ w (hw.at1 (by repeat first | exact .here | apply Has.there) rfl))
             | refine Or.inl ⟨_, _, hasM, ?_⟩
             | refine Or.inl ⟨_, _, _, holeM, rfl, rfl, ?_⟩
             | refine lA ?_
             | refine lA0 ?_
             | refine lA1 ?_
             | refine lO ?_
             | refine lO0 ?_
             | refine lO1 ?_
             | refine lR ?_
             | refine lG ?_
             | refine lG0 ?_
             | refine tA ?_
             | refine tA0 ?_
             | refine tA1 ?_
             | refine BytW.ofBlk hasM rfl rfl ?_
             | refine AppW.noneB hasM leM rfl rfl rfl leM leM ?_
             | refine AppW.rowB hasM leM rfl rfl holeM leM leM ?_
             | refine AppW.blkB hasM leM rfl rfl holeM rfl rfl leM leM ?_
             | refine AppW.rowS hasM leM rfl rfl holeM (by omega) leM ?_
             | refine AppW.arrS hasM leM rfl rfl rfl holeM (by first | omega | (simp; omega)) leM ?_
             | refine ⟨sideM, ?_⟩
             | fail)
        all_goals (try conv => whnf)
        all_goals first | exact EndX.mk () trivial rfl entM | skip
/-- What hearing does. -/
def hearG (g : GuardV) (l : List Int) (M : List (Int × Int)) (r t now : Int) : Int × GuardV × List (Int × Int) :=
  if ¬ (vlanB r = true ∧ vlanB t = true ∧ timeB now = true) then (1, g, M)
  else if vHasB g.t g.n l r = false then (5, g, M)
  else if g.t = true ∧ r = t then (0, g.at now, M)
  else (0, { g.at now with heard := g.heard + 1, done := 1, recv := if g.done = 0 then r else g.recv, telld := if g.done = 0 then t else g.telld }, putL g.t g.n l ((g.at now).now + g.hold) (if g.t = true then [r, t] else [g.n]) M)
/-- A guard that is in order. -/
structure GuardOk (g : GuardV) (l : List Int) (M : List (Int × Int)) : Prop where
  m : l.length = g.m
  len : l.length ≤ 1000
  nd : (M.map (·.1)).Nodup
  st : g.st = 0
  done : g.done = 0 ∨ g.done = 1
  now : 0 ≤ g.now ∧ g.now ≤ 1099511627776
  hold : 0 ≤ g.hold ∧ g.hold ≤ 30
  heard : 0 ≤ g.heard ∧ g.heard ≤ 1099511627776
theorem gHear_w (g : GuardV) (b : Nat) (l : List Int) (M : List (Int × Int)) (r t now : Int) (w : World) (ok : GuardOk g l M) (hS : St w (feet (g.res b l M)) (g.res b l M) w) :
    FnX Try.prog 42 [.pointer (some ⟨b, 0, none⟩), .int .i64 r, .int .i64 t, .int .i64 now] (g.res b l M) (fun _ : Unit => True) (fun _ => .int .i64 (hearG g l M r t now).1) (fun _ => (hearG g l M r t now).2.1.res b l (hearG g l M r t now).2.2) w := by
  unfold hearG
  by_cases h1 : vlanB r = true ∧ vlanB t = true ∧ timeB now = true
  · rw [if_neg (not_not_intro h1)]
    cases h2 : vHasB g.t g.n l r with
    | false => rw [if_pos rfl]; exact gHear_none g b l M r t now w hS ok.m ok.len h1 h2
    | true =>
      rw [if_neg (by decide)]
      have ha : g.at now = { g with now := if now > g.now then now else g.now } := by unfold GuardV.at; rw [if_pos h1.2.2]
      have hb := h1.2.2
      simp only [timeB, Bool.and_eq_true, decide_eq_true_eq] at hb
      obtain ⟨gt, gn, gA, gm, gc, hold, gnow, mp, heard, done, st, sema, recv, telld⟩ := g
      obtain ⟨om, ol, on, os, od, ow, oh, oe⟩ := ok
      simp only at om os od ow oh oe h2
      subst os
      by_cases h3 : gt = true ∧ r = t
      · obtain ⟨rfl, rfl⟩ := h3
        rw [if_pos ⟨rfl, rfl⟩, ha]
        exact gHear_same gn gA gm gc hold gnow mp heard done 0 sema recv telld b l M r now _ w hS om ol ⟨h1.1, h1.2.2⟩ h2 rfl
      · rw [if_neg h3, ha]
        refine gHear_put gt gn gA gm gc hold gnow mp heard done sema recv telld b l M r t now _ _ _ 1 _ _ w hS om ol on h1 h2 ?_ rfl (w64 ?_ ?_) (w64 (by omega) (by omega)) ?_
        · cases gt with
          | true => exact .inl ⟨rfl, rfl, fun e => h3 ⟨rfl, e⟩⟩
          | false => exact .inr ⟨rfl, rfl⟩
        · show -9223372036854775808 ≤ (if now > gnow then now else gnow) + hold
          split <;> omega
        · show (if now > gnow then now else gnow) + hold < 9223372036854775808
          split <;> omega
        · rcases od with rfl | rfl
          · exact .inl ⟨rfl, rfl, rfl, rfl⟩
          · exact .inr ⟨rfl, rfl, rfl, rfl⟩
  · rw [if_pos h1]
    exact gHear_range g b l M r t now w hS h1
end Go.Proofs.Ytgjdmlgdgbehoaa.Am
