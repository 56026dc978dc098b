/- The laws of layer 9. -/
import Derived.Test.YtgjdmlgdgbehoaaMism8
import Derived.Test.YtgjdmlgdgbehoaaOpb
import Derived.Test.YtgjdmlgdgbehoaaAm21
set_option linter.unusedVariables false
set_option linter.unusedSimpArgs false
set_option maxRecDepth 100000
set_option maxHeartbeats 4000000
namespace Go.Proofs.Ytgjdmlgdgbehoaa.Am
open Go Go.RowKit
theorem ok_awake09 : (match Try.f39.body with | some c => codeOk Try.f39.ntmps c | none => false) = true := by kernel_rfl
theorem en_awake09 : ∃ fn, Try.prog.funcs[39]? = some fn ∧ (fn.name == "runtime.NumGoroutine") = false ∧ fn.body.isNone = false := ⟨_, Try.func39, by kernel_rfl, by kernel_rfl⟩
def aG (mp : Nat) (A : Option Addr) (c : Nat) (now heard done recv telld : Int) : GuardV := ⟨true, 1, A, 3, c, 6, now, mp, heard, done, 0, 0, recv, telld⟩
theorem aOk (mp : Nat) (A : Option Addr) (c : Nat) (now heard done recv telld : Int) (M : List (Int × Int)) (h : (M.map (·.1)).Nodup) (hd : done = 0 ∨ done = 1) (hn : 0 ≤ now ∧ now ≤ 20) (hh : 0 ≤ heard ∧ heard ≤ 20) : GuardOk (aG mp A c now heard done recv telld) [1, 2, 3] M :=
  ⟨rfl, by decide, h, rfl, hd, ⟨hn.1, show now ≤ _ by omega⟩, ⟨show (0 : Int) ≤ 6 by decide, show (6 : Int) ≤ 30 by decide⟩, ⟨hh.1, show heard ≤ _ by omega⟩⟩
theorem aw1 (mp : Nat) (A : Option Addr) (c b : Nat) (w : World) (hS : St w (feet ((aG mp A c 0 0 0 0 0).res b [1, 2, 3] [])) ((aG mp A c 0 0 0 0 0).res b [1, 2, 3] []) w) :
    FnX Try.prog 42 [.pointer (some ⟨b, 0, none⟩), .int .i64 1, .int .i64 1, .int .i64 9] ((aG mp A c 0 0 0 0 0).res b [1, 2, 3] []) (fun _ : Unit => True) (fun _ => .int .i64 0) (fun _ => (aG mp A c 9 0 0 0 0).res b [1, 2, 3] []) w := by
  have h := gHear_w (aG mp A c 0 0 0 0 0) b [1, 2, 3] [] 1 1 9 w (aOk mp A c 0 0 0 0 0 [] (by simp) (.inl rfl) (by decide) (by decide)) hS
  rw [show hearG (aG mp A c 0 0 0 0 0) [1, 2, 3] [] 1 1 9 = (0, aG mp A c 9 0 0 0 0, []) by rfl] at h
  exact h
theorem aw2 (mp : Nat) (A : Option Addr) (c b : Nat) (w : World) (hS : St w (feet ((aG mp A c 9 0 0 0 0).res b [1, 2, 3] [])) ((aG mp A c 9 0 0 0 0).res b [1, 2, 3] []) w) :
    FnX Try.prog 42 [.pointer (some ⟨b, 0, none⟩), .int .i64 1, .int .i64 2, .int .i64 10] ((aG mp A c 9 0 0 0 0).res b [1, 2, 3] []) (fun _ : Unit => True) (fun _ => .int .i64 0) (fun _ => (aG mp A c 10 1 1 1 2).res b [1, 2, 3] [(1, 16), (2, 16)]) w := by
  have h := gHear_w (aG mp A c 9 0 0 0 0) b [1, 2, 3] [] 1 2 10 w (aOk mp A c 9 0 0 0 0 [] (by simp) (.inl rfl) (by decide) (by decide)) hS
  rw [show hearG (aG mp A c 9 0 0 0 0) [1, 2, 3] [] 1 2 10 = (0, aG mp A c 10 1 1 1 2, [(1, 16), (2, 16)]) by rfl] at h
  exact h
theorem aw3 (mp : Nat) (A : Option Addr) (c b : Nat) (w : World) (hS : St w (feet ((aG mp A c 10 1 1 1 2).res b [1, 2, 3] [(1, 16), (2, 16)])) ((aG mp A c 10 1 1 1 2).res b [1, 2, 3] [(1, 16), (2, 16)]) w) :
    FnX Try.prog 42 [.pointer (some ⟨b, 0, none⟩), .int .i64 9, .int .i64 1, .int .i64 10] ((aG mp A c 10 1 1 1 2).res b [1, 2, 3] [(1, 16), (2, 16)]) (fun _ : Unit => True) (fun _ => .int .i64 5) (fun _ => (aG mp A c 10 1 1 1 2).res b [1, 2, 3] [(1, 16), (2, 16)]) w := by
  have h := gHear_w (aG mp A c 10 1 1 1 2) b [1, 2, 3] [(1, 16), (2, 16)] 9 1 10 w (aOk mp A c 10 1 1 1 2 _ (by decide) (.inr rfl) (by decide) (by decide)) hS
  rw [show hearG (aG mp A c 10 1 1 1 2) [1, 2, 3] [(1, 16), (2, 16)] 9 1 10 = (5, aG mp A c 10 1 1 1 2, [(1, 16), (2, 16)]) by rfl] at h
  exact h
theorem aw4 (mp : Nat) (A : Option Addr) (c b : Nat) (w : World) (hS : St w (feet ((aG mp A c 10 1 1 1 2).res b [1, 2, 3] [(1, 16), (2, 16)])) ((aG mp A c 10 1 1 1 2).res b [1, 2, 3] [(1, 16), (2, 16)]) w) :
    FnX Try.prog 46 [.pointer (some ⟨b, 0, none⟩), .int .i64 15] ((aG mp A c 10 1 1 1 2).res b [1, 2, 3] [(1, 16), (2, 16)]) (fun s : Nat × Nat => 2 ≤ s.2) (fun s => .slice (some ⟨s.1, 0, none⟩) 2 s.2) (fun s => (aG mp A c 15 1 1 1 2).res b [1, 2, 3] [(1, 16), (2, 16)] ++ [.arr (.slice (some ⟨s.1, 0, none⟩) 2 s.2) 3 1 (ints [1, 2])]) w := by
  have h := gList_w (aG mp A c 10 1 1 1 2) b [1, 2, 3] [(1, 16), (2, 16)] 15 w hS rfl (by decide)
  rw [show (aG mp A c 10 1 1 1 2).at 15 = aG mp A c 15 1 1 1 2 by rfl, show sortI (liveK (aG mp A c 15 1 1 1 2).now [(1, 16), (2, 16)]) = [1, 2] from (show sortI (liveK 15 [(1, 16), (2, 16)]) = [1, 2] from List.mergeSort_of_pairwise (by decide))] at h
  refine h.map fun s hs => ?_
  obtain ⟨A', q⟩ := s
  obtain ⟨g, rfl, hn⟩ := IsRow.at_ hs (by decide)
  exact ⟨(g, q), hn, rfl, Ent.refl⟩
theorem awB (mp : Nat) (A : Option Addr) (c b : Nat) (v now : Int) (o : Bool) (N : Int) (w : World) (hS : St w (feet [.blk b (aG mp A c 15 1 1 1 2).enc 159, .map mp (mapE [(1, 16), (2, 16)])]) [.blk b (aG mp A c 15 1 1 1 2).enc 159, .map mp (mapE [(1, 16), (2, 16)])] w)
    (hc : (timeB now && (getM [(1, 16), (2, 16)] v).isSome && decide (N < (getM [(1, 16), (2, 16)] v).getD 0)) = o) (hN : ∀ mp A c, (aG mp A c 15 1 1 1 2).at now = aG mp A c N 1 1 1 2) :
    FnX Try.prog 44 [.pointer (some ⟨b, 0, none⟩), .int .i64 v, .int .i64 now] [.blk b (aG mp A c 15 1 1 1 2).enc 159, .map mp (mapE [(1, 16), (2, 16)])] (fun _ : Unit => True) (fun _ => .bool o) (fun _ => [.blk b (aG mp A c N 1 1 1 2).enc 159, .map mp (mapE [(1, 16), (2, 16)])]) w := by
  have h := gBlocked_w (aG mp A c 15 1 1 1 2) b 159 v now _ _ [(1, 16), (2, 16)] w hS (getM_ans _ (by decide) v)
  rw [hN, show (aG mp A c N 1 1 1 2).now = N from rfl, hc] at h
  exact h
theorem ints3 : ∀ x ∈ ints [1, 2, 3], x.length = 1 := by decide
theorem awake09_w (w : World) : PuAt Try.prog 39 [] (.bool true) w := by
  refine funcR_pure tyOk wide Try.func39 ok_awake09 (Nat.le_of_ble_eq_true rfl) ?_
  have n1 := fun A w hs => gNew_w true 1 [1, 2, 3] A 3 2 w hs (by decide) (by rfl) (by decide)
  have n2 := fun w => gNew_no false 0 [] none 0 2 w ⟨by simp [ints], by simp [ints]⟩ (by decide) (.inl (by rfl))
  have n3 := fun w => gNew_no false 1 [] none 0 0 w ⟨by simp [ints], by simp [ints]⟩ (by decide) (.inr (by decide))
  rw [show vRightB false 0 [] = false by rfl, if_pos rfl] at n2
  rw [show vRightB false 1 [] = true by rfl, if_neg (by decide)] at n3
  repeat' first
    | (conv => whnf
       first
       | intro _
       | (first | refine selSplit (fun h => ?_) (fun h => ?_) | refine condSplit (fun h => ?_) (fun h => ?_)) <;> first | exact (clash (by assumption) h).elim | exact (clash h (by assumption)).elim | (simp only [decide_eq_true_eq, decide_eq_false_iff_not, Bool.not_eq_true', Bool.not_eq_false', Bool.not_true, Bool.not_false, Bool.or_eq_true, Bool.and_eq_true, Bool.or_eq_false_iff, Bool.and_eq_false_iff, beq_iff_eq, beq_eq_false_iff_ne, ne_eq] at h; first | (exfalso; omega) | skip) | skip
       | refine SeqP.go ?_
       | refine CondR.split ?_
       | exact IsV.mk
       | apply GuardP.mk
       | (refine ptrEqNil rfl Try.underlying80 rfl rfl ?_)
       | (refine loadArr1 hasM rfl (by rfl) ?_)
       | ((first | apply callPure' en_gHeard | apply callQuiet' en_gHeard); · exact fun w hw => gHeard_w (aG _ _ _ _ _ _ _ _) _ w (hw.blkRg hasM))
       | (refine callX takeM en_gBlocked (fun w hw => awB _ _ _ _ 2 15 true 15 w (hw.sub2 takeM) (by rfl) (fun _ _ _ => by rfl)) ?_)
       | (refine callX takeM en_gBlocked (fun w hw => awB _ _ _ _ 3 15 false 15 w (hw.sub2 takeM) (by rfl) (fun _ _ _ => by rfl)) ?_)
       | (refine callX takeM en_gBlocked (fun w hw => awB _ _ _ _ 2 16 false 16 w (hw.sub2 takeM) (by rfl) (fun _ _ _ => by rfl)) ?_)
       | (refine callX takeM en_gNew (fun w hw => n1 _ w (hw.blkSl hasM rfl ints3)) ?_)
       | ((first | apply callPure' en_gNew | apply callQuiet' en_gNew); · exact fun w hw => n2 w)
       | ((first | apply callPure' en_gNew | apply callQuiet' en_gNew); · exact fun w hw => n3 w)
       | (refine callX takeM en_gHear (fun w hw => aw1 _ _ _ _ w (hw.sub2 takeM)) ?_)
       | (refine callX takeM en_gHear (fun w hw => aw2 _ _ _ _ w (hw.sub2 takeM)) ?_)
       | (refine callX takeM en_gHear (fun w hw => aw3 _ _ _ _ w (hw.sub2 takeM)) ?_)
       | (refine callX takeM en_gList (fun w hw => aw4 _ _ _ _ w (hw.sub2 takeM)) ?_)
       | ((first | apply callPure' en_gFirst | apply callQuiet' en_gFirst); · exact fun w hw => gFirst_w (aG _ _ _ _ _ _ _ _) _ w (hw.blkRg hasM))
       | refine Or.inl ⟨_, _, hasM, ?_⟩
       | refine Or.inl ⟨_, _, _, holeM, rfl, rfl, ?_⟩
       | refine lA ?_
       | refine lA0 ?_
       | refine lA1 ?_
       | refine lO ?_
       | refine lO0 ?_
       | refine lO1 ?_
       | refine lR ?_
       | refine lG ?_
       | refine lG0 ?_
       | refine tA ?_
       | refine tA0 ?_
       | refine tA1 ?_
       | refine BytW.ofBlk hasM rfl rfl ?_
       | refine AppW.noneB hasM leM rfl rfl rfl leM leM ?_
       | refine AppW.rowB hasM leM rfl rfl holeM leM leM ?_
       | refine AppW.blkB hasM leM rfl rfl holeM rfl rfl leM leM ?_
       | refine AppW.rowS hasM leM rfl rfl holeM (by omega) leM ?_
       | refine AppW.arrS hasM leM rfl rfl rfl holeM (by first | omega | (simp; omega)) leM ?_
       | refine ⟨sideM, ?_⟩
       | fail)
  all_goals (try conv => whnf)
  all_goals rfl
structure L9 where
  k : Nat
  g : GuardV
  M : List (Int × Int)
  s : S9
  LA : Option Addr
  Lc : Nat
theorem rel0 (t : Bool) (n : Int) (l : List Int) (hello : Int) (gA : Option Addr) (gc mp : Nat) : Rel9 t n l hello ⟨t, n, gA, l.length, gc, 3 * hello, 0, mp, 0, 0, 0, 0, 0, 0⟩ [] ⟨0, [], 0, 0, 0⟩ :=
  ⟨rfl, rfl, rfl, rfl, rfl, rfl, rfl, rfl, rfl, .inl ⟨rfl, rfl, rfl⟩, rfl, .nil, (fun p hp => by cases hp), (fun p hp => by cases hp), ⟨Int.le_refl _, show (0 : Int) ≤ _ by decide⟩⟩
theorem nilArr2 {w0 : World} {X : List Nat} {E sz : Nat} (r : Res) {G : List Res} : Ent w0 X (r :: G) (r :: .arr (.slice none 0 0) E sz [] :: G) := fun w hw => (nilArr w hw).perm (List.Perm.swap _ _ _)
theorem Rel9.ok {t : Bool} {n : Int} {l : List Int} {hello : Int} {g : GuardV} {M : List (Int × Int)} {s : S9} (h : Rel9 t n l hello g M s) (hl : l.length ≤ 1000) (hh : 1 ≤ hello ∧ hello ≤ 10) (hm : s.many ≤ 1000) : GuardOk g l M :=
  ⟨h.m, hl, by rw [h.M]; exact foldM_nodup _, h.st, h.done.imp (·.1) (·.1), by rw [h.now]; exact h.pos, by rw [h.hold]; omega, by rw [h.heard]; rcases h.done with q | q <;> omega⟩
theorem rel_any {t : Bool} {n : Int} {l : List Int} {hello : Int} {g : GuardV} {M : List (Int × Int)} {s : S9} (h : Rel9 t n l hello g M s) : decide (0 < s.first) = decide (0 < s.many) := by
  rcases h.done with q | q
  · rw [q.2.1, q.2.2]
  · rw [decide_eq_true (by omega), decide_eq_true (by omega)]
theorem at_idem (g : GuardV) (now : Int) : (g.at now).at now = g.at now := by
  unfold GuardV.at
  by_cases h : timeB now = true
  · simp only [if_pos h]
    congr 1
    by_cases h2 : now > g.now
    · rw [if_pos h2]; exact if_neg (by omega)
    · rw [if_neg h2, if_neg h2]
  · simp only [if_neg h]
theorem foldM_keys {LL : List (Int × Int)} (h : ∀ p ∈ LL, 1 ≤ p.1 ∧ p.1 ≤ 4094) : ∀ p ∈ foldM LL, 1 ≤ p.1 ∧ p.1 ≤ 4094 := by
  have : ∀ LL : List (Int × Int), ∀ x ∈ (foldM LL).map (·.1), x ∈ LL.map (·.1) := snocInd (by simp [foldM]) fun l q ih x hx => by
    rw [foldM_snoc] at hx
    rcases (putM_keys _ _ _ x).1 hx with h | h
    · rw [h]; simp
    · rw [List.map_append]; exact List.mem_append_left _ (ih x h)
  intro p hp
  obtain ⟨q, hq, e⟩ := List.mem_map.1 (this LL p.1 (List.mem_map_of_mem hp))
  have := h q hq
  omega
theorem keys_nat {M : List (Int × Int)} (h : (M.map (·.1)).Nodup) (hk : ∀ p ∈ M, 1 ≤ p.1 ∧ p.1 ≤ 4094) : (M.map fun p => p.1.toNat).Nodup := by
  refine List.pairwise_map.2 (((List.pairwise_map.1 h).imp_of_mem fun {a b} ha hb hne => ?_))
  have := hk a ha
  have := hk b hb
  omega
theorem at_mp (g : GuardV) (now : Int) : (g.at now).mp = g.mp := by unfold GuardV.at; split <;> rfl
theorem Rel9.few {t : Bool} {n : Int} {l : List Int} {hello : Int} {g : GuardV} {M : List (Int × Int)} {s : S9} (R : Rel9 t n l hello g M s) : M.length ≤ 5000 := by
  have h1 := nodup_le (M.map fun p => p.1.toNat) (List.range 4095) (by rw [R.M]; exact keys_nat (foldM_nodup _) (foldM_keys R.keys)) (by
    intro x hx
    rw [R.M] at hx
    obtain ⟨p, hp, rfl⟩ := List.mem_map.1 hx
    have := foldM_keys R.keys p hp
    exact List.mem_range.2 (by omega))
  simp at h1; omega
theorem ask_blocked {t : Bool} {n : Int} {l : List Int} {hello : Int} {g : GuardV} {M : List (Int × Int)} {s : S9} (R : Rel9 t n l hello g M s) (b : Nat) (v now : Int) (w : World) (hS : St w (feet [.blk b g.enc 159, .map g.mp (mapE M)]) [.blk b g.enc 159, .map g.mp (mapE M)] w) :
    FnX Try.prog 44 [.pointer (some ⟨b, 0, none⟩), .int .i64 v, .int .i64 now] [.blk b g.enc 159, .map g.mp (mapE M)] (fun _ : Unit => True) (fun _ => .bool (timeB now && blkB (s.at now).now s.LL v)) (fun _ => [.blk b (g.at now).enc 159, .map (g.at now).mp (mapE M)]) w := by
  have h := gBlocked_w g b 159 v now _ _ M w hS (getM_ans M (by rw [R.M]; exact foldM_nodup _) v)
  have e : (timeB now && (getM M v).isSome && decide ((g.at now).now < (getM M v).getD 0)) = (timeB now && blkB (s.at now).now s.LL v) := by
    rw [Bool.and_assoc, R.M, blk_is R.rises, (R.at now).now]
  rw [e] at h
  rw [at_mp]
  exact h
theorem ask_list {t : Bool} {n : Int} {l : List Int} {hello : Int} {g : GuardV} {M : List (Int × Int)} {s : S9} (R : Rel9 t n l hello g M s) (b : Nat) (now : Int) (w : World) (hS : St w (feet ((g.at now).res b l M)) ((g.at now).res b l M) w) (ht : timeB now = true) :
    FnX Try.prog 46 [.pointer (some ⟨b, 0, none⟩), .int .i64 now] ((g.at now).res b l M) (fun q : Option Addr × Nat => IsRow (.slice q.1 (upTo (s.at now).now s.LL 4094).length q.2) (upTo (s.at now).now s.LL 4094).length) (fun q => .slice q.1 (upTo (s.at now).now s.LL 4094).length q.2) (fun q => (g.at now).res b l M ++ [.arr (.slice q.1 (upTo (s.at now).now s.LL 4094).length q.2) 3 1 (ints (upTo (s.at now).now s.LL 4094))]) w := by
  have h := gList_w (g.at now) b l M now w hS ht R.few
  have e : sortI (liveK (g.at now).now M) = upTo (s.at now).now s.LL 4094 := by rw [R.M, list_is R.rises R.keys, (R.at now).now]
  rw [at_idem, e] at h
  exact h
structure Act9 where
  Ask : Bool
  Received : Int
  Told : Int
  Now : Int
def Act9.enc (p : Act9) : List Value := [.bool p.Ask, .int .i64 p.Received, .int .i64 p.Told, .int .i64 p.Now]
theorem Act9.len (p : Act9) : p.enc.length = 4 := rfl
def Act9.zero : Act9 := ⟨false, 0, 0, 0⟩
theorem Act9.eqEnc (p q : Act9) : allEq p.enc q.enc = true ↔ p = q := by
  cases p; cases q; simp [Act9.enc, Am.allEq, cellEq]
end Go.Proofs.Ytgjdmlgdgbehoaa.Am
