/- Package treebridgeref08: what may be ports; ways. -/
import Derived.Test.YtmgoahmbdpoikaaRoles2
import Derived.Test.YtmgoahmbdpoikaaRef05
set_option linter.unusedVariables false
set_option linter.unusedSimpArgs false
set_option maxRecDepth 100000
set_option maxHeartbeats 4000000
namespace Go.Proofs.Ytmgoahmbdpoikaa.Am
open Go Go.RowKit
theorem xor64u {x y : Int} (hx : 0 ≤ x ∧ x < 18446744073709551616) (hy : 0 ≤ y ∧ y < 18446744073709551616) : bits .xor .u64 x y = ((x.toNat ^^^ y.toNat : Nat) : Int) := by
  show IntKind.u64.wrap ((BitVec.ofInt 64 x ^^^ BitVec.ofInt 64 y).toNat : Int) = _
  rw [BitVec.toNat_xor, BitVec.toNat_ofInt, BitVec.toNat_ofInt]
  have e1 : (x % ((2 ^ 64 : Nat) : Int)).toNat = x.toNat := by omega
  have e2 : (y % ((2 ^ 64 : Nat) : Int)).toNat = y.toNat := by omega
  have h : x.toNat ^^^ y.toNat < 2 ^ 64 := Nat.xor_lt_two_pow (by omega) (by omega)
  rw [e1, e2, wu64 (by omega) (by omega)]
theorem xor_mod {a b : Nat} : (a ^^^ b) % 281474976710656 = 0 ↔ a % 281474976710656 = b % 281474976710656 := by
  have e : (a ^^^ b) % 2 ^ 48 = a % 2 ^ 48 ^^^ b % 2 ^ 48 := Nat.xor_mod_two_pow
  have e2 : (2 : Nat) ^ 48 = 281474976710656 := by decide
  rw [e2] at e
  rw [e]
  constructor
  · intro h
    have h2 := congrArg (· ^^^ (b % 281474976710656)) h
    simpa [Nat.xor_assoc] using h2
  · intro h
    rw [h]; exact Nat.xor_self _
theorem ownV_mod {v : V4} {bridge : Int} (hv : u64N v.2.2.1) (hb : u64N bridge) : ownV v bridge = decide (v.2.2.1 % 281474976710656 = bridge % 281474976710656) := by
  unfold ownV
  rw [xor64u hv hb]
  have h : v.2.2.1.toNat ^^^ bridge.toNat < 2 ^ 64 := Nat.xor_lt_two_pow (by unfold u64N at hv; omega) (by unfold u64N at hb; omega)
  rw [and48 ⟨by omega, by omega⟩, decide_eq_decide]
  have hx := @xor_mod v.2.2.1.toNat bridge.toNat
  unfold u64N at hv hb
  omega
/-- A port's numbers. -/
def okI8 (p : InfoV) : Prop := u64N p.Id ∧ u64N p.Cost ∧ u64N p.Vector_Root ∧ u64N p.Vector_Cost ∧ u64N p.Vector_Bridge ∧ u64N p.Vector_Port
def wayV (bridge : Int) (p : InfoV) : Option V4 := if p.Source = 3 ∧ ownV p.v4 bridge = false then some (raiseV p.v4 p.Cost) else none
theorem fields_ok {seen : List Int} {p : InfoV} (hp : okI8 p) : okI seen p = (!(decide (p.Id < 1) || decide (65535 < p.Id) || decide (4294967295 < p.Cost) || decide (p.Source < 0) || decide (3 < p.Source) || decide (4294967295 < p.Vector_Cost)) && !(decide (p.Source < 3) && (!decide (p.Vector_Root = 0) || !decide (p.Vector_Cost = 0) || !decide (p.Vector_Bridge = 0) || !decide (p.Vector_Port = 0))) && !decide (p.Id ∈ seen)) := by
  unfold okI
  have e : allEq (encV p.v4) (encV (0, 0, 0, 0)) = (decide (p.Vector_Root = 0) && (decide (p.Vector_Cost = 0) && (decide (p.Vector_Bridge = 0) && (decide (p.Vector_Port = 0) && true)))) := rfl
  rw [e]
  grind
theorem ok_Right8 : (match Try.f39.body with | some c => codeOk Try.f39.ntmps c | none => false) = true := by kernel_rfl
theorem en_Right8 : ∃ fn, Try.prog.funcs[39]? = some fn ∧ (fn.name == "runtime.NumGoroutine") = false ∧ fn.body.isNone = false := ⟨_, Try.func39, by kernel_rfl, by kernel_rfl⟩
theorem Right8_w (ps : List InfoV) (n : Nat) (hn : ps.length = n) (A : Option Addr) (c : Nat) (w : World) (hs : SlAt w A 7 (ps.map InfoV.enc)) (hl : n ≤ 1000) (hok : ∀ p ∈ ps, okI8 p) : PuAt Try.prog 39 [.slice A n c] (.bool (rightI ps)) w := by
  subst hn
  refine funcR_pure tyOk wide Try.func39 ok_Right8 (Nat.le_of_ble_eq_true rfl) ?_
  repeat' first
    | (conv => whnf
       first
       | intro _
       | (first | refine selSplit (fun h => ?_) (fun h => ?_) | refine condSplit (fun h => ?_) (fun h => ?_)) <;> first | exact (clash (by assumption) h).elim | exact (clash h (by assumption)).elim | (simp only [decide_eq_true_eq, decide_eq_false_iff_not, Bool.not_eq_true', Bool.not_eq_false', Bool.not_true, Bool.not_false, Bool.or_eq_true, Bool.and_eq_true, Bool.or_eq_false_iff, Bool.and_eq_false_iff, beq_iff_eq, beq_eq_false_iff_ne, ne_eq] at h; first | (exfalso; omega) | skip) | skip
       | (first | refine drM (.quiet 0 (.quiet 1 (.quiet 2 (.quiet 3 (.quiet 4 (.quiet 5 (.quiet 6 (.quiet 7 .done)))))))) (SubL.refl _) ?_)
       | refine AltP.mk ?_ ?_
       | refine kpM ?_
       | refine SeqP.go ?_
       | refine cdM ?_
       | exact IsV.mk
       | apply GuardP.mk
       | (first | refine eqlW eqS24 rfl rfl rfl fitM fitM ?_ | refine neqW eqS24 rfl rfl rfl fitM fitM ?_)
       | refine Or.inl ⟨_, _, hasM, ?_⟩
       | refine Or.inl ⟨_, _, _, holeM, rfl, rfl, ?_⟩
       | refine lA ?_
       | refine lA0 ?_
       | refine lA1 ?_
       | refine lO ?_
       | refine lO0 ?_
       | refine lO1 ?_
       | refine lR ?_
       | refine lG ?_
       | refine lG0 ?_
       | refine tA ?_
       | refine tA0 ?_
       | refine tA1 ?_
       | refine BytW.ofBlk hasM rfl rfl ?_
       | refine AppW.noneB hasM leM rfl rfl rfl leM leM ?_
       | refine AppW.rowB hasM leM rfl rfl holeM leM leM ?_
       | refine AppW.blkB hasM leM rfl rfl holeM rfl rfl leM leM ?_
       | refine AppW.rowS hasM leM rfl rfl holeM (by omega) leM ?_
       | refine AppW.arrS hasM leM rfl rfl rfl holeM (by first | omega | (simp; omega)) leM ?_
       | refine ⟨sideM, ?_⟩
       | fail)
  all_goals (try conv => whnf)
  · refine v_bool ?_
    unfold rightI
    rw [decide_eq_false (by omega), Bool.and_false]
  · have h16 : ps.length ≤ 16 := by omega
    refine .mk Nat (fun k S H => (k ≤ ps.length ∧ rightAll [] ps = rightAll ((ps.take k).map InfoV.Id) (ps.drop k)) ∧ S = [(3, .int .i64 k), (0, .slice A ps.length c)] ∧ H = []) (fun k => ps.length - k) 0 _ _ ⟨⟨by omega, rfl⟩, rfl, rfl⟩ subM entM ?_
    rintro k S1 H1 ⟨⟨hk, he⟩, rfl, rfl⟩
    by_cases hk2 : k < ps.length
    · obtain ⟨b, o, e, _⟩ := hs.at_ (by simp; omega)
      subst e
      have o1 := hs.old (X := []) (by simp; omega) (by simp)
      obtain ⟨x, hx⟩ : ∃ x, ps[k] = x := ⟨_, rfl⟩
      have g1 : (ps.map InfoV.enc)[k]? = some x.enc := by rw [← hx]; exact mapGet hk2
      have hd := rightAll_drop ps k hk2
      have hf := fields_ok (seen := (ps.take k).map InfoV.Id) (p := x) (hok x (by rw [← hx]; exact List.getElem_mem hk2))
      rw [hx] at hd
      repeat' first
        | (conv => whnf
           first
           | intro _
           | (first | refine selSplit (fun h => ?_) (fun h => ?_) | refine condSplit (fun h => ?_) (fun h => ?_)) <;> first | exact (clash (by assumption) h).elim | exact (clash h (by assumption)).elim | (simp only [decide_eq_true_eq, decide_eq_false_iff_not, Bool.not_eq_true', Bool.not_eq_false', Bool.not_true, Bool.not_false, Bool.or_eq_true, Bool.and_eq_true, Bool.or_eq_false_iff, Bool.and_eq_false_iff, beq_iff_eq, beq_eq_false_iff_ne, ne_eq] at h; first | (exfalso; omega) | skip) | skip
           | (first | refine drM (.quiet 0 (.quiet 1 (.quiet 2 (.quiet 3 (.quiet 4 (.quiet 5 (.quiet 6 (.quiet 7 .done)))))))) (SubL.refl _) ?_)
           | refine AltP.mk ?_ ?_
           | refine kpM ?_
           | refine SeqP.go ?_
           | refine cdM ?_
           | exact IsV.mk
           | apply GuardP.mk
           | (first | refine eqlW eqS24 rfl rfl rfl fitM fitM ?_ | refine neqW eqS24 rfl rfl rfl fitM fitM ?_)
           | refine Or.inl ⟨_, _, hasM, ?_⟩
           | refine Or.inl ⟨_, _, _, holeM, rfl, rfl, ?_⟩
           | refine lA ?_
           | refine lA0 ?_
           | refine lA1 ?_
           | refine lO ?_
           | refine lO0 ?_
           | refine lO1 ?_
           | refine lR ?_
           | refine lG ?_
           | refine lG0 ?_
           | refine tA ?_
           | refine tA0 ?_
           | refine tA1 ?_
           | refine BytW.ofBlk hasM rfl rfl ?_
           | refine AppW.noneB hasM leM rfl rfl rfl leM leM ?_
           | refine AppW.rowB hasM leM rfl rfl holeM leM leM ?_
           | refine AppW.blkB hasM leM rfl rfl holeM rfl rfl leM leM ?_
           | refine AppW.rowS hasM leM rfl rfl holeM (by omega) leM ?_
           | refine AppW.arrS hasM leM rfl rfl rfl holeM (by first | omega | (simp; omega)) leM ?_
           | refine ⟨sideM, ?_⟩
           | fail)
      all_goals (try conv => whnf)
      · have ho : okI ((ps.take k).map InfoV.Id) x = false := by rw [hf]; grind
        refine v_bool ?_
        unfold rightI
        rw [he, hd, ho]; rfl
      · have ho : okI ((ps.take k).map InfoV.Id) x = false := by rw [hf]; grind
        refine v_bool ?_
        unfold rightI
        rw [he, hd, ho]; rfl
      · rename_i b4 hflds
        refine .mk Nat (fun j S H => (j ≤ k ∧ x.Id ∉ (ps.take j).map InfoV.Id) ∧ S = [(5, .int .i64 j), (4, .pointer (some ⟨b4, 0, none⟩)), (3, .int .i64 k), (0, .slice (some ⟨b, o, none⟩) ps.length c)] ∧ H = [.blk b4 x.enc 109]) (fun j => k - j) 0 _ _ ⟨⟨by omega, by simp⟩, rfl, rfl⟩ subM entM ?_
        rintro j S1 H1 ⟨⟨hj, hnot⟩, rfl, rfl⟩
        by_cases hj2 : j < k
        · obtain ⟨y, hy⟩ : ∃ y, ps[j]'(by omega) = y := ⟨_, rfl⟩
          have g2 : (ps.map InfoV.enc)[j]? = some y.enc := by rw [← hy]; exact mapGet (by omega)
          have hj3 : j < ps.length := by omega
          have hmem : y ∈ ps.take k := by
            have h1 : (ps.take k)[j]? = some y := by rw [List.getElem?_take, if_pos hj2, List.getElem?_eq_getElem hj3, hy]
            exact List.mem_of_getElem? h1
          repeat' first
            | (conv => whnf
               first
               | intro _
               | (first | refine selSplit (fun h => ?_) (fun h => ?_) | refine condSplit (fun h => ?_) (fun h => ?_)) <;> first | exact (clash (by assumption) h).elim | exact (clash h (by assumption)).elim | (simp only [decide_eq_true_eq, decide_eq_false_iff_not, Bool.not_eq_true', Bool.not_eq_false', Bool.not_true, Bool.not_false, Bool.or_eq_true, Bool.and_eq_true, Bool.or_eq_false_iff, Bool.and_eq_false_iff, beq_iff_eq, beq_eq_false_iff_ne, ne_eq] at h; first | (exfalso; omega) | skip) | skip
               | (first | refine drM (.quiet 0 (.quiet 1 (.quiet 2 (.quiet 3 (.quiet 4 (.quiet 5 (.quiet 6 (.quiet 7 .done)))))))) (SubL.refl _) ?_)
               | refine AltP.mk ?_ ?_
               | refine kpM ?_
               | refine SeqP.go ?_
               | refine cdM ?_
               | exact IsV.mk
               | apply GuardP.mk
               | (first | refine eqlW eqS24 rfl rfl rfl fitM fitM ?_ | refine neqW eqS24 rfl rfl rfl fitM fitM ?_)
               | refine Or.inl ⟨_, _, hasM, ?_⟩
               | refine Or.inl ⟨_, _, _, holeM, rfl, rfl, ?_⟩
               | refine lA ?_
               | refine lA0 ?_
               | refine lA1 ?_
               | refine lO ?_
               | refine lO0 ?_
               | refine lO1 ?_
               | refine lR ?_
               | refine lG ?_
               | refine lG0 ?_
               | refine tA ?_
               | refine tA0 ?_
               | refine tA1 ?_
               | refine BytW.ofBlk hasM rfl rfl ?_
               | refine AppW.noneB hasM leM rfl rfl rfl leM leM ?_
               | refine AppW.rowB hasM leM rfl rfl holeM leM leM ?_
               | refine AppW.blkB hasM leM rfl rfl holeM rfl rfl leM leM ?_
               | refine AppW.rowS hasM leM rfl rfl holeM (by omega) leM ?_
               | refine AppW.arrS hasM leM rfl rfl rfl holeM (by first | omega | (simp; omega)) leM ?_
               | refine ⟨sideM, ?_⟩
               | fail)
          all_goals (try conv => whnf)
          all_goals first
            | (exfalso; omega)
            | (have hin : x.Id ∈ (ps.take k).map InfoV.Id := List.mem_map.2 ⟨y, hmem, h⟩
               have ho : okI ((ps.take k).map InfoV.Id) x = false := by rw [hf, decide_eq_true hin, Bool.not_true, Bool.and_false]
               refine v_bool ?_
               unfold rightI
               rw [he, hd, ho]; rfl)
            | exact .mk (j + 1) _ _ (by omega) ⟨⟨by omega, by
                rw [List.take_succ_eq_append_getElem hj3, List.map_append, hy]
                simp only [List.map_cons, List.map_nil, List.mem_append, List.mem_singleton, not_or]
                exact ⟨hnot, fun q => h q.symm⟩⟩, rfl, rfl⟩ subM entM
        · obtain rfl : j = k := by omega
          repeat' first
            | (conv => whnf
               first
               | intro _
               | (first | refine selSplit (fun h => ?_) (fun h => ?_) | refine condSplit (fun h => ?_) (fun h => ?_)) <;> first | exact (clash (by assumption) h).elim | exact (clash h (by assumption)).elim | (simp only [decide_eq_true_eq, decide_eq_false_iff_not, Bool.not_eq_true', Bool.not_eq_false', Bool.not_true, Bool.not_false, Bool.or_eq_true, Bool.and_eq_true, Bool.or_eq_false_iff, Bool.and_eq_false_iff, beq_iff_eq, beq_eq_false_iff_ne, ne_eq] at h; first | (exfalso; omega) | skip) | skip
               | (first | refine drM (.quiet 0 (.quiet 1 (.quiet 2 (.quiet 3 (.quiet 4 (.quiet 5 (.quiet 6 (.quiet 7 .done)))))))) (SubL.refl _) ?_)
               | refine AltP.mk ?_ ?_
               | refine kpM ?_
               | refine SeqP.go ?_
               | refine cdM ?_
               | exact IsV.mk
               | apply GuardP.mk
               | (first | refine eqlW eqS24 rfl rfl rfl fitM fitM ?_ | refine neqW eqS24 rfl rfl rfl fitM fitM ?_)
               | refine Or.inl ⟨_, _, hasM, ?_⟩
               | refine Or.inl ⟨_, _, _, holeM, rfl, rfl, ?_⟩
               | refine lA ?_
               | refine lA0 ?_
               | refine lA1 ?_
               | refine lO ?_
               | refine lO0 ?_
               | refine lO1 ?_
               | refine lR ?_
               | refine lG ?_
               | refine lG0 ?_
               | refine tA ?_
               | refine tA0 ?_
               | refine tA1 ?_
               | refine BytW.ofBlk hasM rfl rfl ?_
               | refine AppW.noneB hasM leM rfl rfl rfl leM leM ?_
               | refine AppW.rowB hasM leM rfl rfl holeM leM leM ?_
               | refine AppW.blkB hasM leM rfl rfl holeM rfl rfl leM leM ?_
               | refine AppW.rowS hasM leM rfl rfl holeM (by omega) leM ?_
               | refine AppW.arrS hasM leM rfl rfl rfl holeM (by first | omega | (simp; omega)) leM ?_
               | refine ⟨sideM, ?_⟩
               | fail)
          all_goals (try conv => whnf)
          all_goals first
            | (exfalso; omega)
            | (have ho : okI ((ps.take j).map InfoV.Id) x = true := by rw [hf]; grind
               rw [ho, Bool.true_and] at hd
               exact .mk (j + 1) _ _ (by omega) ⟨⟨hk2, by rw [he, hd]⟩, rfl, rfl⟩ subM entM)
    · skip
      repeat' first
        | (conv => whnf
           first
           | intro _
           | (first | refine selSplit (fun h => ?_) (fun h => ?_) | refine condSplit (fun h => ?_) (fun h => ?_)) <;> first | exact (clash (by assumption) h).elim | exact (clash h (by assumption)).elim | (simp only [decide_eq_true_eq, decide_eq_false_iff_not, Bool.not_eq_true', Bool.not_eq_false', Bool.not_true, Bool.not_false, Bool.or_eq_true, Bool.and_eq_true, Bool.or_eq_false_iff, Bool.and_eq_false_iff, beq_iff_eq, beq_eq_false_iff_ne, ne_eq] at h; first | (exfalso; omega) | skip) | skip
           | (first | refine drM (.quiet 0 (.quiet 1 (.quiet 2 (.quiet 3 (.quiet 4 (.quiet 5 (.quiet 6 (.quiet 7 .done)))))))) (SubL.refl _) ?_)
           | refine AltP.mk ?_ ?_
           | refine kpM ?_
           | refine SeqP.go ?_
           | refine cdM ?_
           | exact IsV.mk
           | apply GuardP.mk
           | (first | refine eqlW eqS24 rfl rfl rfl fitM fitM ?_ | refine neqW eqS24 rfl rfl rfl fitM fitM ?_)
           | refine Or.inl ⟨_, _, hasM, ?_⟩
           | refine Or.inl ⟨_, _, _, holeM, rfl, rfl, ?_⟩
           | refine lA ?_
           | refine lA0 ?_
           | refine lA1 ?_
           | refine lO ?_
           | refine lO0 ?_
           | refine lO1 ?_
           | refine lR ?_
           | refine lG ?_
           | refine lG0 ?_
           | refine tA ?_
           | refine tA0 ?_
           | refine tA1 ?_
           | refine BytW.ofBlk hasM rfl rfl ?_
           | refine AppW.noneB hasM leM rfl rfl rfl leM leM ?_
           | refine AppW.rowB hasM leM rfl rfl holeM leM leM ?_
           | refine AppW.blkB hasM leM rfl rfl holeM rfl rfl leM leM ?_
           | refine AppW.rowS hasM leM rfl rfl holeM (by omega) leM ?_
           | refine AppW.arrS hasM leM rfl rfl rfl holeM (by first | omega | (simp; omega)) leM ?_
           | refine ⟨sideM, ?_⟩
           | fail)
      all_goals (try conv => whnf)
      all_goals first
        | (exfalso; omega)
        | (refine v_bool ?_
           unfold rightI
           rw [he, List.drop_of_length_le (by omega), decide_eq_true h16]
           rfl)
end Go.Proofs.Ytmgoahmbdpoikaa.Am
