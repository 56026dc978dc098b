/- What a call owns in memory, told as a list; what is kept as it was. For walks in which the world is never written out. -/
import Derived.Deep.Quiet
import Derived.Below
import Derived.Laws.AppendOwn
import Derived.Laws.OwnMore
import Derived.Laws.IdiomStrings
import Derived.Deep.MidRow
import Derived.RowKit3
set_option linter.unusedVariables false
namespace Go.Proofs.Ytgjdmlgdgbehoaa.Am
open Go Go.RowKit

/-- One thing that is owned: a block with its cells; a row that is appended to. -/
inductive Res where
  | blk (b : Nat) (cs : List Value) (T : TypeId)
  | row (v : Value) (E sz n : Nat) (xs : List Value)
  | byt (b : Nat) (s : ByteArray) (c T : Nat)
  | arr (v : Value) (E sz : Nat) (l : List (List Value))
  | map (m : Nat) (es : List (Value × Value))
  | obj (b : Nat) (o : Obj)

def Res.foot : Res → Option Nat
  | .blk b _ _ => some b
  | .row v _ _ _ _ => v.ownBlock
  | .byt b _ _ _ => some b
  | .arr v _ _ _ => v.ownBlock
  | .map m _ => some m
  | .obj b _ => some b

/-- A map's entries, with their births. -/
def MapOk (es : List (Value × Value)) (l : List MapEntry) (clock : Nat) : Prop :=
  l.map (fun e => (e.key, e.val)) = es ∧ (∀ e ∈ l, e.born < clock) ∧ l.Pairwise (fun a b => a.born < b.born)

def Res.ok (w : World) : Res → Prop
  | .blk b cs T => w.heap[b]? = some (.cells ⟨cs⟩ T (0, 0))
  | .row v E sz n xs => w.ownsRow 0 E sz v n xs
  | .byt b s c T => ∃ cells fz, w.heap[b]? = some (.cells cells T fz) ∧ ∀ j (h : j < s.size), cells[j]? = some (.int .u8 (s[j].toNat : Int))
  | .arr v E sz l => w.ownsRow 0 E sz v l.length l.flatten ∧ ∀ x ∈ l, x.length = sz
  | .map m es => ∃ l clock, w.heap[m]? = some (.map l clock) ∧ MapOk es l.toList clock
  | .obj b o => w.heap[b]? = some o

theorem Res.ok_lt {w : World} {r : Res} (h : r.ok w) {b : Nat} (hb : r.foot = some b) : b < w.heap.size := by
  cases r with
  | blk b' cs T =>
    simp [Res.foot] at hb; subst hb
    exact (Array.getElem?_eq_some_iff.1 h).1
  | row v E sz n xs => exact (World.ownsRow.lt h b hb).2
  | byt b' s c T =>
    simp [Res.foot] at hb; subst hb
    obtain ⟨cells, fz, h1, _⟩ := h
    exact (Array.getElem?_eq_some_iff.1 h1).1
  | arr v E sz l => exact (World.ownsRow.lt h.1 b hb).2
  | map m es =>
    simp [Res.foot] at hb; subst hb
    obtain ⟨l, clock, h1, _⟩ := h
    exact (Array.getElem?_eq_some_iff.1 h1).1
  | obj b' o =>
    simp [Res.foot] at hb; subst hb
    exact (Array.getElem?_eq_some_iff.1 h).1

theorem Res.ok_move {w w' : World} {r : Res} (h : r.ok w) (hm : ∀ b, r.foot = some b → w'.heap[b]? = w.heap[b]?) : r.ok w' := by
  cases r with
  | blk b cs T => exact (hm b rfl).trans h
  | row v E sz n xs =>
    obtain ⟨h1, h2⟩ := h
    refine ⟨h1, ?_⟩
    rcases h2 with h2 | ⟨g, cap, cur, rfl, hg, hh, r⟩
    · exact .inl h2
    · exact .inr ⟨g, cap, cur, rfl, hg, (hm g rfl).trans hh, r⟩
  | byt b s c T =>
    obtain ⟨cells, fz, h1, h2⟩ := h
    exact ⟨cells, fz, (hm b rfl).trans h1, h2⟩
  | arr v E sz l =>
    obtain ⟨⟨h1, h2⟩, h3⟩ := h
    refine ⟨⟨h1, ?_⟩, h3⟩
    rcases h2 with h2 | ⟨g, cap, cur, rfl, hg, hh, r⟩
    · exact .inl h2
    · exact .inr ⟨g, cap, cur, rfl, hg, (hm g rfl).trans hh, r⟩
  | map m es =>
    obtain ⟨l, clock, h1, h2⟩ := h
    exact ⟨l, clock, (hm m rfl).trans h1, h2⟩
  | obj b o => exact (hm b rfl).trans h

/-- w0: the world when the call began; X: what of it the call may write; H: what is owned now. -/
structure St (w0 : World) (X : List Nat) (H : List Res) (w : World) : Prop where
  os : w.os = w0.os
  tape : w.tape = w0.tape
  output : w.output = w0.output
  size : w0.heap.size ≤ w.heap.size
  frame : ∀ k, k < w0.heap.size → k ∉ X → w.heap[k]? = w0.heap[k]?
  ok : ∀ r ∈ H, r.ok w
  own : ∀ r ∈ H, ∀ b, r.foot = some b → b ∈ X ∨ w0.heap.size ≤ b
  sep : H.Pairwise (fun r s => ∀ b, r.foot = some b → s.foot ≠ some b)

theorem St.start (w : World) (X : List Nat) (H : List Res) (ok : ∀ r ∈ H, r.ok w) (own : ∀ r ∈ H, ∀ b, r.foot = some b → b ∈ X) (sep : H.Pairwise (fun r s => ∀ b, r.foot = some b → s.foot ≠ some b)) : St w X H w :=
  ⟨rfl, rfl, rfl, Nat.le_refl _, fun _ _ _ => rfl, ok, fun r hr b hb => .inl (own r hr b hb), sep⟩
theorem St.start0 (w : World) : St w [] [] w := St.start w [] [] (by simp) (by simp) .nil

/-- Nothing old was written: as the laws ask it. -/
theorem St.below {w0 w : World} {H : List Res} (h : St w0 [] H w) : Below w0.heap.size w0 w := ⟨h.os, h.tape, h.output, h.size, fun k hk => h.frame k hk (by simp)⟩

theorem St.drew {w0 w : World} {X : List Nat} {H : List Res} (h : St w0 X H w) (n : Nat) : St w0 X H { w with drawn := n } :=
  ⟨h.os, h.tape, h.output, h.size, h.frame, fun r hr => Res.ok_move (h.ok r hr) (fun _ _ => rfl), h.own, h.sep⟩

/-- Only new blocks came, and nothing that was there has turned. -/
theorem St.grow {w0 w w' : World} {X : List Nat} {H : List Res} (h : St w0 X H w) (hb : Below w.heap.size w w') : St w0 X H w' :=
  ⟨hb.os.trans h.os, hb.tape.trans h.tape, hb.output.trans h.output, Nat.le_trans h.size hb.size, fun k hk hx => (hb.block k (Nat.lt_of_lt_of_le hk h.size)).trans (h.frame k hk hx),
    fun r hr => Res.ok_move (h.ok r hr) (fun b hf => hb.block b (Res.ok_lt (h.ok r hr) hf)), h.own, h.sep⟩

/-- Fewer things owned. -/
theorem St.sub {w0 w : World} {X : List Nat} {H H' : List Res} (h : St w0 X H w) (hs : H'.Sublist H) : St w0 X H' w :=
  ⟨h.os, h.tape, h.output, h.size, h.frame, fun r hr => h.ok r (hs.subset hr), fun r hr => h.own r (hs.subset hr), h.sep.sublist hs⟩
theorem sep_symm {r s : Res} (h : ∀ b, r.foot = some b → s.foot ≠ some b) : ∀ b, s.foot = some b → r.foot ≠ some b := fun b h1 h2 => h b h2 h1
theorem St.perm {w0 w : World} {X : List Nat} {H H' : List Res} (h : St w0 X H w) (hp : H'.Perm H) : St w0 X H' w :=
  ⟨h.os, h.tape, h.output, h.size, h.frame, fun r hr => h.ok r (hp.subset hr), fun r hr => h.own r (hp.subset hr), (hp.pairwise_iff (fun h => sep_symm h)).2 h.sep⟩

/-- A new thing that is owned, in blocks that were not there. -/
theorem St.add {w0 w w' : World} {X : List Nat} {H : List Res} (h : St w0 X H w) (hb : Below w.heap.size w w') {r : Res} (hr : r.ok w') (hf : ∀ b, r.foot = some b → w.heap.size ≤ b) : St w0 X (r :: H) w' := by
  have h' := h.grow hb
  refine ⟨h'.os, h'.tape, h'.output, h'.size, h'.frame, ?_, ?_, ?_⟩
  · intro s hs
    rcases List.mem_cons.1 hs with rfl | hs
    · exact hr
    · exact h'.ok s hs
  · intro s hs b hb'
    rcases List.mem_cons.1 hs with rfl | hs
    · exact .inr (Nat.le_trans h.size (hf b hb'))
    · exact h'.own s hs b hb'
  · refine List.pairwise_cons.2 ⟨fun s hs b h1 h2 => ?_, h'.sep⟩
    have := Res.ok_lt (h.ok s hs) h2
    have := hf b h1
    omega

/-- One thing of H in another's place. -/
inductive Upd : List Res → Res → Res → List Res → Prop
  | here {r r' : Res} {t : List Res} : Upd (r :: t) r r' (r' :: t)
  | there {x r r' : Res} {t t' : List Res} : Upd t r r' t' → Upd (x :: t) r r' (x :: t')
theorem Upd.mem {H H' : List Res} {r r' : Res} (h : Upd H r r' H') : r ∈ H := by
  induction h with
  | here => exact List.mem_cons_self
  | there _ ih => exact List.mem_cons_of_mem _ ih
theorem Upd.mem' {H H' : List Res} {r r' : Res} (h : Upd H r r' H') : ∀ s, s ∈ H' → s = r' ∨ s ∈ H := by
  induction h with
  | here => intro s hs; rcases List.mem_cons.1 hs with rfl | hs; exact .inl rfl; exact .inr (List.mem_cons_of_mem _ hs)
  | there _ ih =>
    intro s hs
    rcases List.mem_cons.1 hs with rfl | hs
    · exact .inr List.mem_cons_self
    · rcases ih s hs with h | h
      · exact .inl h
      · exact .inr (List.mem_cons_of_mem _ h)

theorem St.upd_key {w0 w w' : World} {X : List Nat} (hsz : w0.heap.size ≤ w.heap.size) {H H' : List Res} {r r' : Res} (hu : Upd H r r' H') :
    (∀ k, k < w.heap.size → r.foot ≠ some k → w'.heap[k]? = w.heap[k]?) → r'.ok w' → (∀ b, r'.foot = some b → r.foot = some b ∨ w.heap.size ≤ b) → (∀ s ∈ H, s.ok w) → (∀ s ∈ H, ∀ b, s.foot = some b → b ∈ X ∨ w0.heap.size ≤ b) → H.Pairwise (fun r s => ∀ b, r.foot = some b → s.foot ≠ some b) →
      (∀ s ∈ H', s.ok w') ∧ (∀ s ∈ H', ∀ b, s.foot = some b → b ∈ X ∨ w0.heap.size ≤ b) ∧ H'.Pairwise (fun r s => ∀ b, r.foot = some b → s.foot ≠ some b) ∧ ∀ s ∈ H', s = r' ∨ s ∈ H := by
  induction hu with
  | @here r1 r1' t =>
    intro block hr hf ok own sep
    have hsep := List.pairwise_cons.1 sep
    have ht : ∀ s ∈ t, ∀ b, s.foot = some b → r1.foot ≠ some b := fun s hs b h1 h2 => hsep.1 s hs b h2 h1
    refine ⟨?_, ?_, ?_, ?_⟩
    · intro s hs
      rcases List.mem_cons.1 hs with rfl | hs
      · exact hr
      · have hso := ok s (List.mem_cons_of_mem _ hs)
        exact Res.ok_move hso (fun b hb => block b (Res.ok_lt hso hb) (ht s hs b hb))
    · intro s hs b hb
      rcases List.mem_cons.1 hs with rfl | hs
      · rcases hf b hb with h1 | h1
        · exact own _ List.mem_cons_self b h1
        · exact .inr (Nat.le_trans hsz h1)
      · exact own s (List.mem_cons_of_mem _ hs) b hb
    · refine List.pairwise_cons.2 ⟨fun s hs b h1 h2 => ?_, hsep.2⟩
      rcases hf b h1 with h3 | h3
      · exact ht s hs b h2 h3
      · have := Res.ok_lt (ok s (List.mem_cons_of_mem _ hs)) h2
        omega
    · intro s hs
      rcases List.mem_cons.1 hs with rfl | hs
      · exact .inl rfl
      · exact .inr (List.mem_cons_of_mem _ hs)
  | @there x r1 r1' t t' hu ih =>
    intro block hr hf ok own sep
    have hsep := List.pairwise_cons.1 sep
    obtain ⟨i1, i2, i3, i4⟩ := ih block hr hf (fun s hs => ok s (List.mem_cons_of_mem _ hs)) (fun s hs => own s (List.mem_cons_of_mem _ hs)) hsep.2
    have hx : ∀ b, x.foot = some b → r1.foot ≠ some b := hsep.1 _ hu.mem
    refine ⟨?_, ?_, ?_, ?_⟩
    · intro s hs
      rcases List.mem_cons.1 hs with rfl | hs
      · have hso := ok s List.mem_cons_self
        exact Res.ok_move hso (fun b hb => block b (Res.ok_lt hso hb) (hx b hb))
      · exact i1 s hs
    · intro s hs b hb
      rcases List.mem_cons.1 hs with rfl | hs
      · exact own s List.mem_cons_self b hb
      · exact i2 s hs b hb
    · refine List.pairwise_cons.2 ⟨fun s hs b h1 h2 => ?_, i3⟩
      rcases i4 s hs with rfl | hs'
      · rcases hf b h2 with h3 | h3
        · exact hx b h1 h3
        · have := Res.ok_lt (ok x List.mem_cons_self) h1
          omega
      · exact hsep.1 s hs' b h1 h2
    · intro s hs
      rcases List.mem_cons.1 hs with rfl | hs
      · exact .inr List.mem_cons_self
      · rcases i4 s hs with h1 | h1
        · exact .inl h1
        · exact .inr (List.mem_cons_of_mem _ h1)
/-- The one thing r is written, or is another one now; all else stays. -/
theorem St.upd {w0 w w' : World} {X : List Nat} {H H' : List Res} {r r' : Res} (h : St w0 X H w) (hu : Upd H r r' H')
    (os : w'.os = w.os) (tape : w'.tape = w.tape) (output : w'.output = w.output) (size : w.heap.size ≤ w'.heap.size)
    (block : ∀ k, k < w.heap.size → r.foot ≠ some k → w'.heap[k]? = w.heap[k]?) (hr : r'.ok w') (hf : ∀ b, r'.foot = some b → r.foot = some b ∨ w.heap.size ≤ b) : St w0 X H' w' := by
  obtain ⟨k1, k2, k3, _⟩ := St.upd_key h.size hu block hr hf h.ok h.own h.sep
  refine ⟨os.trans h.os, tape.trans h.tape, output.trans h.output, Nat.le_trans h.size size, fun k hk hx => ?_, k1, k2, k3⟩
  refine (block k (Nat.lt_of_lt_of_le hk h.size) (fun e => ?_)).trans (h.frame k hk hx)
  rcases h.own r hu.mem k e with h1 | h1
  · exact hx h1
  · omega
end Go.Proofs.Ytgjdmlgdgbehoaa.Am
