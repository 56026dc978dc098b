/- A guard's map, as a list of pairs. -/
import Derived.Test.YtgjdmlgdgbehoaaMism
set_option linter.unusedVariables false
set_option linter.unusedSimpArgs false
namespace Go.Proofs.Ytgjdmlgdgbehoaa.Am
open Go Go.RowKit
def putM : List (Int × Int) → Int → Int → List (Int × Int)
  | [], v, u => [(v, u)]
  | p :: r, v, u => if p.1 = v then (v, u) :: r else p :: putM r v u
def getM : List (Int × Int) → Int → Option Int
  | [], _ => none
  | p :: r, v => if p.1 = v then some p.2 else getM r v
theorem getM_ans (M : List (Int × Int)) (h : (M.map (·.1)).Nodup) (v : Int) : MAns (mapE M) (.int .i64 v) (.int .i64 0) (.int .i64 ((getM M v).getD 0)) (getM M v).isSome := by
  induction M with
  | nil => exact ⟨fun u hu => by simp [mapE] at hu, fun _ => ⟨rfl, rfl⟩⟩
  | cons p r ih =>
    obtain ⟨h1, h2⟩ := List.nodup_cons.1 h
    obtain ⟨i1, i2⟩ := ih h2
    by_cases hp : p.1 = v
    · simp only [getM, if_pos hp]
      refine ⟨fun u hu => ?_, fun hn => (hn (.int .i64 p.2) (by simp [mapE, hp])).elim⟩
      obtain ⟨q, hq, e⟩ := List.mem_map.1 hu
      simp only [Prod.mk.injEq, Value.int.injEq, true_and] at e
      rcases List.mem_cons.1 hq with rfl | hq
      · rw [← e.2]; exact ⟨rfl, rfl⟩
      · exact (h1 (List.mem_map.2 ⟨q, hq, e.1.trans hp.symm⟩)).elim
    · simp only [getM, if_neg hp]
      refine ⟨fun u hu => ?_, fun hn => i2 fun u hu => hn u (by simp only [mapE, List.map_cons]; exact List.mem_cons_of_mem _ hu)⟩
      refine i1 u ?_
      simp only [mapE, List.map_cons] at hu
      rcases List.mem_cons.1 hu with hu | hu
      · simp only [Prod.mk.injEq, Value.int.injEq, true_and] at hu; exact (hp hu.1.symm).elim
      · exact hu
theorem putM_put (M : List (Int × Int)) (h : (M.map (·.1)).Nodup) (v u : Int) : MPut (mapE M) (.int .i64 v) (.int .i64 u) (mapE (putM M v u)) := by
  induction M with
  | nil => exact ⟨fun i x hx => by simp [mapE] at hx, fun _ => rfl⟩
  | cons p r ih =>
    obtain ⟨h1, h2⟩ := List.nodup_cons.1 h
    obtain ⟨i1, i2⟩ := ih h2
    by_cases hp : p.1 = v
    · simp only [putM, if_pos hp]
      refine ⟨fun i x hx => ?_, fun hn => (hn (.int .i64 p.2) (by simp [mapE, hp])).elim⟩
      cases i with
      | zero => rfl
      | succ i =>
        simp only [mapE, List.map_cons, List.getElem?_cons_succ] at hx
        obtain ⟨q, hq, e⟩ := List.mem_map.1 (List.mem_of_getElem? hx)
        simp only [Prod.mk.injEq, Value.int.injEq, true_and] at e
        exact (h1 (List.mem_map.2 ⟨q, hq, e.1.trans hp.symm⟩)).elim
    · simp only [putM, if_neg hp]
      refine ⟨fun i x hx => ?_, fun hn => ?_⟩
      · cases i with
        | zero => simp only [mapE, List.map_cons, List.getElem?_cons_zero, Option.some.injEq, Prod.mk.injEq, Value.int.injEq, true_and] at hx; exact (hp hx.1).elim
        | succ i =>
          have := i1 i x (by simpa only [mapE, List.map_cons, List.getElem?_cons_succ] using hx)
          simp only [mapE, List.map_cons, List.set_cons_succ] at this ⊢
          rw [this]
      · have := i2 fun x hx => hn x (by simp only [mapE, List.map_cons]; exact List.mem_cons_of_mem _ hx)
        simp only [mapE, List.map_cons, List.cons_append] at this ⊢
        rw [this]
end Go.Proofs.Ytgjdmlgdgbehoaa.Am
