/- An index into an array that is a value. -/
import Derived.Test.YticobcojmpakfaaHB
import Derived.Laws.Entries
import Derived.ChangeKeysEq
set_option linter.unusedVariables false
set_option linter.unusedSimpArgs false
namespace Go.Proofs.Yticobcojmpakfaa.P
open Go.RowKit
theorem run_index_arr {P : Program} {w : World} (t e : TypeId) (n : Nat) (cs : Array Value) (k : IntKind) (i : Nat) (v : Value) (d : TypeDesc) (h : P.underlying t = some (.array n e)) (hs : (P.info? e).map (·.size) = some 1) (he : P.underlying e = some d) (ha : (match d with | .struct _ | .array _ _ => true | _ => false) = false) (h1 : i < n) (hv : cs[i]? = some v) :
    (Instr.index t (.agg cs) (.int k i)).run P w = .ok v w := by
  have hn : P.arrayLen t = n := by unfold Program.arrayLen; rw [h]
  have he' : P.elem t = e := by unfold Program.elem; rw [h]
  obtain ⟨inf, hi, hz⟩ := Option.map_eq_some_iff.mp hs
  have hsz : (sizeOf e).run P w = .ok 1 w := by
    rw [run_sizeOf _ hi]
    congr 1
    unfold Program.cellsOf
    rw [hi]
    exact hz
  have hag : (isAgg e).run P w = .ok false w := by
    unfold isAgg
    cases d <;> first | (simp [run_underlying he]; done) | (simp at ha)
  simp [Instr.index, part, run_underlying h, asIntOf, h1, hsz, hag, hv]
theorem run_index_eq {P : Program} {w : World} (t e : TypeId) (n : Nat) (cs : Array Value) (k : IntKind) (i : Nat) (j : Int) (v : Value) (d : TypeDesc) (h : P.underlying t = some (.array n e)) (hs : (P.info? e).map (·.size) = some 1) (he : P.underlying e = some d) (ha : (match d with | .struct _ | .array _ _ => true | _ => false) = false) (h1 : i < n) (hv : cs[i]? = some v) (hj : (j == (i : Int)) = true) :
    (Instr.index t (.agg cs) (.int k j)).run P w = .ok v w := by
  obtain rfl := beq_iff_eq.mp hj
  exact run_index_arr t e n cs k i v d h hs he ha h1 hv
theorem run_indexAt_eq {P : Program} {w : World} (t e : TypeId) (n : Nat) (g : Nat) (k : IntKind) (i : Nat) (j : Int) (h : P.underlying t = some (.array n e)) (hs : (P.info? e).map (·.size) = some 1) (h1 : i < n) (hj : (j == (i : Int)) = true) :
    (Instr.indexAt t (.pointer (some ⟨g, 0, none⟩)) (.int k j)).run P w = .ok (.pointer (some ⟨g, i, none⟩)) w := by
  obtain rfl := beq_iff_eq.mp hj
  have hn : P.arrayLen t = n := by unfold Program.arrayLen; rw [h]
  have he' : P.elem t = e := by unfold Program.elem; rw [h]
  obtain ⟨inf, hi, hz⟩ := Option.map_eq_some_iff.mp hs
  have hsz : (sizeOf e).run P w = .ok 1 w := by
    rw [run_sizeOf _ hi]
    congr 1
    unfold Program.cellsOf
    rw [hi]
    exact hz
  rw [run_indexAt_array w t _ k _ (by rw [hn, he', h]), hn, he', if_pos ⟨by omega, by omega⟩, hsz]
  simp [Addr.add]
  exact fun e => e.symm
end Go.Proofs.Yticobcojmpakfaa.P
