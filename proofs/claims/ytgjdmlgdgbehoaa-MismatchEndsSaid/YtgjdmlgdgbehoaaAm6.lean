/- That the function of the code tells the truth: regions in the text's order, and code. -/
import Derived.Test.YtgjdmlgdgbehoaaAm5
import Derived.Deep.LoopGhost
set_option linter.unusedVariables false
set_option linter.unusedSimpArgs false
namespace Go.Proofs.Ytgjdmlgdgbehoaa.Am
open Go Go.RowKit

/-- Every operation's slot is there. -/
def dOk (n : Nat) : Option Nat → Bool
  | some d => Nat.blt d n
  | none => true
def opsOk (n : Nat) (l : List Oper) : Bool := l.all fun o => dOk n o.dst
def codeOk (n : Nat) : Code → Bool
  | .seq x y => codeOk n x && codeOk n y
  | .cond _ x y => codeOk n x && codeOk n y
  | .block _ c => codeOk n c
  | .loop c => codeOk n c
  | .region _ ops _ => opsOk n ops.toList
  | _ => true

section
variable {P : Program} {ty : Nat → Option TD} {w0 : World} {X : List Nat}

theorem put_none (a : Act) (v : Value) : a.put none v = a := rfl
theorem put_size (a : Act) (d : Option Nat) (v : Value) : (a.put d v).tmps.size = a.tmps.size := by cases d <;> simp [Act.put]
theorem put_defers (a : Act) (d : Option Nat) (v : Value) : (a.put d v).defers = a.defers := by cases d <;> rfl

/-- What is known of a frame. -/
structure Fr (D : List Deferred) (n : Nat) (a : Act) (S : Sl) : Prop where
  ag : Agree a S
  sz : a.tmps.size = n
  df : a.defers = D
variable {D : List Deferred}
theorem Fr.put {n : Nat} {a : Act} {S : Sl} (h : Fr D n a S) {d : Nat} (hd : dOk n (some d) = true) (v : Value) : Fr D n (a.put (some d) v) ((d, v) :: S) :=
  ⟨h.ag.put (by have := h.sz; simp [dOk] at hd; omega) v, by rw [put_size, h.sz], by rw [put_defers, h.df]⟩

/-- A region that draws nothing. -/
theorem opsW_soundJ (hty : TyOk P ty) {n : Nat} {ops : Array Oper} {Q : Exit → Act → World → Prop} {J : List Nat} : ∀ (l : List Oper) (k : Nat) (a : Act) (w : World) (S : Sl) (H : List Res) (K : Sl → List Res → Prop),
    (∀ j, j < l.length → l[j]? = ops[k + j]?) → opsOk n l = true → Fr D n a S → St w0 X H w → opsW P ty w0 X (fun j => (ops[j]?).bind (·.dst)) l S H K →
    (∀ a' w' S' H', Fr D n a' S' → St w0 X H' w' → K S' H' → wpOps P ops Q J a' w') → wpOps P ops Q (List.range' k l.length ++ J) a w
  | [], k, a, w, S, H, K, hl, hok, hF, hS, h, hK => by
    simp only [List.length_nil, List.range'_zero, List.nil_append]
    exact hK a w S H hF hS h
  | o :: r, k, a, w, S, H, K, hl, hok, hF, hS, h, hK => by
    have h0 : ops[k]? = some o := by simpa using (hl 0 (by simp)).symm
    have hr : ∀ j, j < r.length → r[j]? = ops[k + 1 + j]? := fun j hj => by have := hl (j + 1) (by simpa using hj); simpa [Nat.add_assoc, Nat.add_comm 1 j] using this
    simp only [opsOk, List.all_cons, Bool.and_eq_true] at hok
    obtain ⟨hd, hok'⟩ := hok
    have ih := opsW_soundJ hty (n := n) (ops := ops) (Q := Q) (J := J) r (k + 1)
    rw [List.length_cons, List.range'_succ, List.cons_append, wpOps_cons]
    unfold wpOp
    simp only [h0]
    simp only [opsW] at h
    have next : ∀ (v : Value) (S : Sl) (H' : List Res) (w' : World), Fr D n a S → St w0 X H' w' → (match o.dst with
        | some d => opsW P ty w0 X (fun j => (ops[j]?).bind (·.dst)) r ((d, v) :: S) H' K
        | none => opsW P ty w0 X (fun j => (ops[j]?).bind (·.dst)) r S H' K) → wpOps P ops Q (List.range' (k + 1) r.length ++ J) (a.put o.dst v) w' := by
      intro v S H' w' hF hS h
      cases hdst : o.dst with
      | none =>
        rw [hdst] at h
        exact ih a w' S H' K hr hok' hF hS h hK
      | some d =>
        rw [hdst] at h hd
        exact ih _ w' _ H' K hr hok' (hF.put hd v) hS h hK
    split at h
    · rename_i hg
      rw [if_pos (by simp [Region.wanted, hg])]
      exact .inl (opW_sound hty hF.ag hS h fun v H' w' hS' h' => next v S H' w' hF hS' h')
    · rename_i j want hg
      split at h
      · rename_i t ht
        split at h
        · rename_i b hb
          have hy : yielded ops a.tmps j = some b := by
            unfold yielded
            rw [ht]
            simp [hF.ag t _ hb]
          by_cases hbw : b = want
          · rw [if_pos (by simp [Region.wanted, hg, hy, hbw])]
            have hF2 : Fr D n a ((t, .bool want) :: S) := ⟨hF.ag.again (by rw [hb, hbw]), hF.sz, hF.df⟩
            exact .inl (opW_sound hty hF2.ag hS (h.1 hbw) fun v H' w' hS' h' => next v _ H' w' hF2 hS' h')
          · have hbn : b = !want := by cases b <;> cases want <;> simp_all
            rw [if_neg (by simp [Region.wanted, hg, hy]; exact hbw)]
            have hF2 : Fr D n a ((t, .bool !want) :: S) := ⟨hF.ag.again (by rw [hb, hbn]), hF.sz, hF.df⟩
            exact next undef _ H w hF2 hS (h.2 hbn)
        · rename_i hu
          have hy : yielded ops a.tmps j = none := by
            unfold yielded
            rw [ht]
            simp [hF.ag t _ hu]
          rw [if_neg (by simp [Region.wanted, hg, hy])]
          exact next undef S H w hF hS h
        · exact h.elim
      · exact h.elim
theorem opsW_sound (hty : TyOk P ty) {n : Nat} {ops : Array Oper} {Q : Exit → Act → World → Prop} : ∀ (l : List Oper) (k : Nat) (a : Act) (w : World) (S : Sl) (H : List Res) (K : Sl → List Res → Prop),
    (∀ j, l[j]? = ops[k + j]?) → opsOk n l = true → Fr D n a S → St w0 X H w → opsW P ty w0 X (fun j => (ops[j]?).bind (·.dst)) l S H K →
    (∀ a' w' S' H', Fr D n a' S' → St w0 X H' w' → K S' H' → Q .normal a' w') → wpOps P ops Q (List.range' k l.length) a w := fun l k a w S H K hl hok hF hS h hK => by
  have := opsW_soundJ (J := []) hty l k a w S H K (fun j _ => hl j) hok hF hS h (fun a' w' S' H' h1 h2 h3 => by simpa [wpOps] using hK a' w' S' H' h1 h2 h3)
  simpa using this
end
end Go.Proofs.Ytgjdmlgdgbehoaa.Am
