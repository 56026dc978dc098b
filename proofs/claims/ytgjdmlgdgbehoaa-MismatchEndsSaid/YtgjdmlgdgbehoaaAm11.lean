/- Structs of whole numbers, bools and strings, compared. -/
import Derived.Test.YtgjdmlgdgbehoaaAm10
set_option linter.unusedVariables false
set_option linter.unusedSimpArgs false
namespace Go.Proofs.Ytgjdmlgdgbehoaa.Am
open Go Go.RowKit

inductive Sh where
  | int (k : IntKind)
  | bool
  | str
def cellEq : Value → Value → Bool
  | .int _ a, .int _ b => decide (a = b)
  | .bool a, .bool b => a == b
  | .string a, .string b => decide (a = b)
  | _, _ => false
def allEq : List Value → List Value → Bool
  | x :: xs, y :: ys => cellEq x y && allEq xs ys
  | _, _ => true
def fits : List Sh → List Value → Prop
  | [], [] => True
  | .int k :: r, .int k' _ :: l => k = k' ∧ fits r l
  | .bool :: r, .bool _ :: l => fits r l
  | .str :: r, .string _ :: l => fits r l
  | _, _ => False
theorem fits_length : ∀ {s : List Sh} {l : List Value}, fits s l → l.length = s.length
  | [], [], _ => rfl
  | .int _ :: r, .int _ _ :: l, h => by simp [fits_length (s := r) (l := l) h.2]
  | .bool :: r, .bool _ :: l, h => by simp [fits_length (s := r) (l := l) h]
  | .str :: r, .string _ :: l, h => by simp [fits_length (s := r) (l := l) h]
theorem fits_append : ∀ {s s' : List Sh} {l : List Value}, fits (s ++ s') l → fits s (l.take s.length) ∧ fits s' (l.drop s.length)
  | [], s', l, h => by simpa [fits] using h
  | .int k :: r, s', .int k' n :: l, h => by
    obtain ⟨h1, h2⟩ := fits_append (s := r) (s' := s') (l := l) h.2
    exact ⟨⟨h.1, h1⟩, h2⟩
  | .bool :: r, s', .bool n :: l, h => fits_append (s := r) (s' := s') (l := l) h
  | .str :: r, s', .string n :: l, h => fits_append (s := r) (s' := s') (l := l) h
theorem allEq_append : ∀ (x x' y y' : List Value), x.length = y.length → allEq (x ++ x') (y ++ y') = (allEq x y && allEq x' y')
  | [], x', [], y', _ => by simp [allEq]
  | a :: x, x', b :: y, y', h => by
    simp only [List.cons_append, allEq]
    rw [allEq_append x x' y y' (by simpa using h), Bool.and_assoc]

def valOf (row : Bool) (l : List Value) : Value := if row then .agg ⟨l⟩ else l.headD undef
/-- A type whose values are compared cell by cell. -/
def EqT (P : Program) (n : Nat) (t : TypeId) (row : Bool) (s : List Sh) : Prop :=
  (∀ w, (isAgg t).run P w = .ok row w) ∧ (∀ w, (sizeOf t).run P w = .ok s.length w) ∧ (row = false → s.length = 1) ∧
  ∀ d xs ys w, fits s xs → fits s ys → (Op.equalIn (d + n) t (valOf row xs) (valOf row ys)).run P w = .ok (allEq xs ys) w
theorem EqT.more {P : Program} {n m : Nat} {t : TypeId} {row : Bool} {s : List Sh} (h : EqT P n t row s) (hm : n ≤ m) : EqT P m t row s :=
  ⟨h.1, h.2.1, h.2.2.1, fun d xs ys w h1 h2 => by rw [show d + m = (d + (m - n)) + n by omega]; exact h.2.2.2 _ xs ys w h1 h2⟩
theorem EqT.int {P : Program} {t : TypeId} {k : IntKind} (hu : P.underlying t = some (.int k)) (hs : (P.info? t).map (·.size) = some 1) : EqT P 1 t false [.int k] := by
  obtain ⟨inf, h1, h2⟩ := Option.map_eq_some_iff.1 hs
  refine ⟨fun w => by simp [isAgg, run_underlying hu], fun w => by simp [sizeOf, typeInfo, h1, h2], fun _ => rfl, fun d xs ys w hx hy => ?_⟩
  rcases xs with _ | ⟨x, _ | ⟨x', xs⟩⟩ <;> rcases ys with _ | ⟨y, _ | ⟨y', ys⟩⟩ <;> (try (simp [fits] at hx hy; done))
  · cases x <;> simp [fits] at hx
    cases y <;> simp [fits] at hy
    subst hx; subst hy
    simp [valOf, Op.equalIn, run_underlying hu, allEq, cellEq]
    rw [Bool.eq_iff_iff]; simp
  all_goals (cases x <;> cases y <;> simp [fits] at hx hy)
theorem EqT.bool {P : Program} {t : TypeId} (hu : P.underlying t = some .bool) (hs : (P.info? t).map (·.size) = some 1) : EqT P 1 t false [.bool] := by
  obtain ⟨inf, h1, h2⟩ := Option.map_eq_some_iff.1 hs
  refine ⟨fun w => by simp [isAgg, run_underlying hu], fun w => by simp [sizeOf, typeInfo, h1, h2], fun _ => rfl, fun d xs ys w hx hy => ?_⟩
  rcases xs with _ | ⟨x, _ | ⟨x', xs⟩⟩ <;> rcases ys with _ | ⟨y, _ | ⟨y', ys⟩⟩ <;> (try (simp [fits] at hx hy; done))
  · cases x <;> simp [fits] at hx
    cases y <;> simp [fits] at hy
    simp [valOf, Op.equalIn, run_underlying hu, allEq, cellEq]
  all_goals (cases x <;> cases y <;> simp [fits] at hx hy)
theorem beq_bytes (a b : ByteArray) : (a == b) = true ↔ a = b := by
  cases a; cases b
  simp [BEq.beq, ByteArray.beq]
  first
    | exact ⟨fun h => Array.eq_of_isEqv _ _ h, fun h => by subst h; exact Array.isEqv_self _⟩
    | exact ⟨fun h => by simpa using h, fun h => by subst h; simp⟩
    | simp [Array.isEqv_eq_decide]
theorem EqT.str {P : Program} {t : TypeId} (hu : P.underlying t = some .string) (hs : (P.info? t).map (·.size) = some 1) : EqT P 1 t false [.str] := by
  obtain ⟨inf, h1, h2⟩ := Option.map_eq_some_iff.1 hs
  refine ⟨fun w => by simp [isAgg, run_underlying hu], fun w => by simp [sizeOf, typeInfo, h1, h2], fun _ => rfl, fun d xs ys w hx hy => ?_⟩
  rcases xs with _ | ⟨x, _ | ⟨x', xs⟩⟩ <;> rcases ys with _ | ⟨y, _ | ⟨y', ys⟩⟩ <;> (try (simp [fits] at hx hy; done))
  · cases x <;> simp [fits] at hx
    cases y <;> simp [fits] at hy
    simp [valOf, Op.equalIn, run_underlying hu, allEq, cellEq]
    rw [Bool.eq_iff_iff]; simp
    exact beq_bytes _ _
  all_goals (cases x <;> cases y <;> simp [fits] at hx hy)

/-- Fields one behind the other, from a cell on. -/
inductive EqFs (P : Program) (n : Nat) : List Field → Nat → List Sh → Prop
  | nil {o : Nat} : EqFs P n [] o []
  | cons {f : Field} {fs : List Field} {o : Nat} {row : Bool} {s r : List Sh} (h : EqT P n f.type row s) (hn : f.name ≠ "_") (ho : f.offset = o) (hr : EqFs P n fs (o + s.length) r) : EqFs P n (f :: fs) o (s ++ r)

theorem EqFs.cons' {P : Program} {n : Nat} {f : Field} {fs : List Field} {o : Nat} {row : Bool} {s l : List Sh} (h : EqT P n f.type row s) (hn : f.name ≠ "_") (ho : f.offset = o) (hl : l.take s.length = s) (hr : EqFs P n fs (o + s.length) (l.drop s.length)) : EqFs P n (f :: fs) o l := by
  have h1 := EqFs.cons h hn ho hr
  have e : s ++ l.drop s.length = l := by
    have e2 := List.take_append_drop s.length l
    rw [hl] at e2
    exact e2
  rw [e] at h1
  exact h1
theorem part_eqT {P : Program} {n : Nat} {t : TypeId} {row : Bool} {s : List Sh} (h : EqT P n t row s) (w : World) (cs : List Value) (o : Nat) (hl : o + s.length ≤ cs.length) : (part t ⟨cs⟩ o).run P w = .ok (valOf row ((cs.drop o).take s.length)) w := by
  cases row with
  | true =>
    have hx : (⟨cs⟩ : Array Value).extract o (o + s.length) = ⟨(cs.drop o).take s.length⟩ := by
      apply Array.ext'
      simp [List.extract_eq_take_drop]
    simp [part, Sem.run_bind, h.1 w, h.2.1 w, hx, valOf]
  | false =>
    have h1 := h.2.2.1 rfl
    have hlt : o < cs.length := by omega
    have hh : ((cs.drop o).take s.length).headD undef = cs[o] := by
      rw [h1, List.drop_eq_getElem_cons hlt]; rfl
    simpa [part, Sem.run_bind, h.1 w, valOf, hlt] using hh.symm

theorem EqT.struct {P : Program} {n : Nat} {t : TypeId} {fs : Array Field} {s : List Sh} (hu : P.underlying t = some (.struct fs)) (hs : (P.info? t).map (·.size) = some s.length) (hst : P.stoodInHeld t = false) (h : EqFs P n fs.toList 0 s) : EqT P (n + 1) t true s := by
  obtain ⟨inf, h1, h2⟩ := Option.map_eq_some_iff.1 hs
  refine ⟨fun w => by simp [isAgg, run_underlying hu], fun w => by simp [sizeOf, typeInfo, h1, h2], fun e => (by cases e), fun d xs ys w hx hy => ?_⟩
  rw [show d + (n + 1) = (d + n) + 1 by omega]
  have key : ∀ (l : List Field) (o : Nat) (r : List Sh), EqFs P n l o r → ∀ (x y : List Value), o + r.length ≤ xs.length → o + r.length ≤ ys.length → x = (xs.drop o).take r.length → y = (ys.drop o).take r.length → fits r x → fits r y →
      ((forIn l ((none, ()) : Option Bool × Unit) fun f __s => do
        if f.name ≠ "_" then
          if (!(← Op.equalIn (d + n) f.type (← part f.type ⟨xs⟩ f.offset) (← part f.type ⟨ys⟩ f.offset))) = true then pure (ForInStep.done (some false, ()))
          else pure (ForInStep.yield (none, ()))
        else pure (ForInStep.yield (none, ())) : Sem (Option Bool × Unit)).run P w) = .ok (if allEq x y then (none, ()) else (some false, ())) w := by
    intro l o r hl
    induction hl with
    | nil => intro x y _ _ hxx hyy _ _; subst hxx; subst hyy; simp [allEq]
    | @cons f l o row s r hf hn ho hr ih =>
      intro x y hxl hyl hxx hyy hfx hfy
      simp only [List.length_append] at hxl hyl
      have px := part_eqT hf w xs o (by omega)
      have py := part_eqT hf w ys o (by omega)
      have fx := fits_append hfx
      have fy := fits_append hfy
      have ex1 : x.take s.length = (xs.drop o).take s.length := by rw [hxx, List.take_take]; simp
      have ey1 : y.take s.length = (ys.drop o).take s.length := by rw [hyy, List.take_take]; simp
      have ex2 : x.drop s.length = (xs.drop (o + s.length)).take r.length := by rw [hxx, List.drop_take, List.drop_drop]; simp
      have ey2 : y.drop s.length = (ys.drop (o + s.length)).take r.length := by rw [hyy, List.drop_take, List.drop_drop]; simp
      have hq := hf.2.2.2 d _ _ w (ex1 ▸ fx.1) (ey1 ▸ fy.1)
      have hall : allEq x y = (allEq (x.take s.length) (y.take s.length) && allEq (x.drop s.length) (y.drop s.length)) := by
        rw [← allEq_append _ _ _ _ (by rw [fits_length fx.1, fits_length fy.1]), List.take_append_drop, List.take_append_drop]
      have hih := ih _ _ (by omega) (by omega) ex2 ey2 fx.2 fy.2
      rw [List.forIn_cons, Sem.run_bind]
      subst ho
      simp only [hn, ne_eq, not_false_eq_true, if_true, Sem.run_bind, px, py, Result.andThen_ok, hq]
      rw [hall, ex1, ey1]
      cases hb : allEq ((xs.drop f.offset).take s.length) ((ys.drop f.offset).take s.length) with
      | true =>
        simp only [Bool.not_true, Bool.false_eq_true, if_false, Sem.run_pure, Result.andThen_ok, Bool.true_and]
        exact hih
      | false => simp
  have hk := key fs.toList 0 s h xs ys (by rw [fits_length hx]; omega) (by rw [fits_length hy]; omega) (by rw [List.drop_zero, List.take_of_length_le (by rw [fits_length hx]; omega)]) (by rw [List.drop_zero, List.take_of_length_le (by rw [fits_length hy]; omega)]) hx hy
  simp only [valOf, if_true, Op.equalIn, Sem.run_bind, run_underlying hu, Result.andThen_ok, run_program, hst, Bool.false_eq_true, if_false, Array.forIn_toList] at hk ⊢
  rw [hk]
  cases hb : allEq xs ys <;> simp
/-- All that the comparison of two structs asks of the type. -/
def EqTy (P : Program) (t : TypeId) (s : List Sh) : Prop := EqT P 9000 t true s ∧ P.eqGuardType P.depth t = false
theorem EqTy.mk {P : Program} {n : Nat} {t : TypeId} {s : List Sh} (h : EqT P n t true s) (hg : P.eqGuardType P.depth t = false) (hn : n ≤ 9000) : EqTy P t s := ⟨h.more hn, hg⟩
section
variable {P : Program} {w0 : World} {X : List Nat} {H : List Res} {o : Oper} {S : Sl} {K : Value → Prop} {t : TypeId} {s : List Sh} {x y : Operand} {yt : TypeId} {xs ys : List Value}
theorem eqlW (h : EqTy P t s) (ho : o.op = .binOp .eql t x y yt) (hx : opd S x = some (.agg ⟨xs⟩)) (hy : opd S y = some (.agg ⟨ys⟩)) (fx : fits s xs) (fy : fits s ys) (hk : K (.bool (allEq xs ys))) : EscQ P w0 X o S H K := by
  refine ⟨_, fun a w hA hS => ?_, hk⟩
  have he : (Op.equal t (.agg ⟨xs⟩) (.agg ⟨ys⟩)).run P w = .ok (allEq xs ys) w := by
    have := h.1.2.2.2 1000 xs ys w fx fy
    exact this
  simp [execOp, ho, opd_eval hA hx, opd_eval hA hy, eqGuard, h.2, binOp, he]
theorem neqW (h : EqTy P t s) (ho : o.op = .binOp .neq t x y yt) (hx : opd S x = some (.agg ⟨xs⟩)) (hy : opd S y = some (.agg ⟨ys⟩)) (fx : fits s xs) (fy : fits s ys) (hk : K (.bool (!allEq xs ys))) : EscQ P w0 X o S H K := by
  refine ⟨_, fun a w hA hS => ?_, hk⟩
  have he : (Op.equal t (.agg ⟨xs⟩) (.agg ⟨ys⟩)).run P w = .ok (allEq xs ys) w := by
    have := h.1.2.2.2 1000 xs ys w fx fy
    exact this
  simp [execOp, ho, opd_eval hA hx, opd_eval hA hy, eqGuard, h.2, binOp, he]
end
end Go.Proofs.Ytgjdmlgdgbehoaa.Am
