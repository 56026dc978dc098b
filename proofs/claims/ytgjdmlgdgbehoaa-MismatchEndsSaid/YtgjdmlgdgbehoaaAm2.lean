/- What code does to slots and to what is owned: a function of the code, that ends in a proposition; nothing is said of the world, nor of the order that a statement draws. -/
import Derived.Test.YtgjdmlgdgbehoaaAm1
set_option linter.unusedVariables false
namespace Go.Proofs.Ytgjdmlgdgbehoaa.Am
open Go Go.RowKit

/-- What a type is. -/
structure TD where
  d : TypeDesc
  size : Nat
  bytes : Nat
  zero : List Value
  parts : List (Nat × Nat) := []
def TyOk (P : Program) (ty : Nat → Option TD) : Prop :=
  ∀ t i, ty t = some i → P.underlying t = some i.d ∧ ∃ inf z, P.info? t = some inf ∧ inf.size = i.size ∧ inf.bytes = i.bytes ∧ inf.zero = some z ∧ z.cells = ⟨i.zero⟩ ∧ i.zero.length = i.size ∧
    ∀ fs, i.d = .struct fs → ∀ w, ((fs.mapM fun f => do pure (f.offset, ← sizeOf f.type)) : Sem (Array (Nat × Nat))).run P w = .ok (⟨i.parts⟩ : Array (Nat × Nat)) w

/-- Slots: the last written first. -/
abbrev Sl := List (Nat × Value)
def look : Sl → Nat → Option Value
  | [], _ => none
  | (k, v) :: r, t => match Nat.beq k t with
    | true => some v
    | false => look r t
def opd (S : Sl) : Operand → Option Value
  | .tmp t => look S t
  | .const v => some v
  | .global _ => none
  | .func f => some (.func (.func f) #[] #[])
def opds (S : Sl) : List Operand → Option (List Value)
  | [] => some []
  | x :: r => match opd S x, opds S r with
    | some v, some l => some (v :: l)
    | _, _ => none
def Agree (a : Act) (S : Sl) : Prop := ∀ t v, look S t = some v → a.tmps[t]? = some v

/-- Cells out of a list, the list's own form forced. -/
def takeK {β : Type} (dflt : β) : List Value → Nat → (List Value → β) → β
  | _, 0, k => k []
  | x :: r, n + 1, k => takeK dflt r n fun l => k (x :: l)
  | [], _ + 1, _ => dflt
def subK {β : Type} (dflt : β) : List Value → Nat → Nat → (List Value → β) → β
  | l, 0, n, k => takeK dflt l n k
  | _ :: r, o + 1, n, k => subK dflt r o n k
  | [], _ + 1, _, _ => dflt
/-- Cells put into a list, from a place on. -/
def overK {β : Type} (dflt : β) : List Value → List Value → (List Value → β) → β
  | l, [], k => k l
  | _ :: r, v :: vs, k => overK dflt r vs fun l => k (v :: l)
  | [], _ :: _, _ => dflt
def putK {β : Type} (dflt : β) : List Value → Nat → List Value → (List Value → β) → β
  | l, 0, vs, k => overK dflt l vs k
  | x :: r, o + 1, vs, k => putK dflt r o vs fun l => k (x :: l)
  | [], _ + 1, _, _ => dflt
/-- Lists joined, the list's own form forced. -/
def appK {β : Type} : List Value → List Value → (List Value → β) → β
  | [], m, k => k m
  | x :: l, m, k => appK l m fun r => k (x :: r)
theorem appK_eq {β : Type} : ∀ (l m : List Value) (k : List Value → β), appK l m k = k (l ++ m)
  | [], m, k => rfl
  | x :: l, m, k => by simp only [appK, List.cons_append]; exact appK_eq l m _
theorem takeK_eq {β : Type} (dflt : β) : ∀ (l : List Value) (n : Nat) (k : List Value → β), n ≤ l.length → takeK dflt l n k = k (l.take n)
  | _, 0, k, _ => by simp [takeK]
  | x :: r, n + 1, k, h => by simp only [takeK, List.take_succ_cons]; rw [takeK_eq dflt r n _ (by simpa using h)]
  | [], n + 1, _, h => by simp at h
theorem takeK_dflt {β : Type} (dflt : β) : ∀ (l : List Value) (n : Nat) (k : List Value → β), ¬ n ≤ l.length → takeK dflt l n k = dflt
  | _, 0, k, h => by simp at h
  | x :: r, n + 1, k, h => by simp only [takeK]; exact takeK_dflt dflt r n _ (by simpa using h)
  | [], n + 1, _, _ => rfl
theorem subK_eq {β : Type} (dflt : β) : ∀ (l : List Value) (o n : Nat) (k : List Value → β), o + n ≤ l.length → subK dflt l o n k = k ((l.drop o).take n)
  | l, 0, n, k, h => by simp only [subK, List.drop_zero]; exact takeK_eq dflt l n k (by omega)
  | x :: r, o + 1, n, k, h => by simp only [subK, List.drop_succ_cons]; exact subK_eq dflt r o n k (by simp at h; omega)
  | [], o + 1, n, k, h => by simp at h
theorem subK_dflt {β : Type} (dflt : β) : ∀ (l : List Value) (o n : Nat) (k : List Value → β), ¬ o + n ≤ l.length → subK dflt l o n k = dflt
  | l, 0, n, k, h => by simp only [subK]; exact takeK_dflt dflt l n k (by omega)
  | x :: r, o + 1, n, k, h => by simp only [subK]; exact subK_dflt dflt r o n k (by simp at h; omega)
  | [], o + 1, n, k, h => rfl
theorem overK_eq {β : Type} (dflt : β) : ∀ (l vs : List Value) (k : List Value → β), vs.length ≤ l.length → overK dflt l vs k = k (vs ++ l.drop vs.length)
  | l, [], k, _ => by simp [overK]
  | x :: r, v :: vs, k, h => by simp only [overK, List.length_cons, List.drop_succ_cons, List.cons_append]; rw [overK_eq dflt r vs _ (by simpa using h)]
  | [], v :: vs, _, h => by simp at h
theorem overK_dflt {β : Type} (dflt : β) : ∀ (l vs : List Value) (k : List Value → β), ¬ vs.length ≤ l.length → overK dflt l vs k = dflt
  | l, [], k, h => by simp at h
  | x :: r, v :: vs, k, h => by simp only [overK]; exact overK_dflt dflt r vs _ (by simpa using h)
  | [], v :: vs, _, _ => rfl
theorem putK_eq {β : Type} (dflt : β) : ∀ (l : List Value) (o : Nat) (vs : List Value) (k : List Value → β), o + vs.length ≤ l.length → putK dflt l o vs k = k (l.take o ++ vs ++ l.drop (o + vs.length))
  | l, 0, vs, k, h => by simp only [putK, List.take_zero, List.nil_append, Nat.zero_add]; exact overK_eq dflt l vs k (by omega)
  | x :: r, o + 1, vs, k, h => by
    simp only [putK, List.take_succ_cons, List.cons_append]
    rw [putK_eq dflt r o vs _ (by simp at h; omega), show o + 1 + vs.length = (o + vs.length) + 1 by omega, List.drop_succ_cons]
  | [], o + 1, vs, k, h => by simp at h
theorem putK_dflt {β : Type} (dflt : β) : ∀ (l : List Value) (o : Nat) (vs : List Value) (k : List Value → β), ¬ o + vs.length ≤ l.length → putK dflt l o vs k = dflt
  | l, 0, vs, k, h => by simp only [putK]; exact overK_dflt dflt l vs k (by omega)
  | x :: r, o + 1, vs, k, h => by simp only [putK]; exact putK_dflt dflt r o vs _ (by simp at h; omega)
  | [], o + 1, vs, k, h => rfl

/-- The list but for one thing of it. -/
inductive Hole : List Res → Res → (Res → List Res) → Prop
  | here {r : Res} {t : List Res} : Hole (r :: t) r (fun r' => r' :: t)
  | there {x r : Res} {t : List Res} {f : Res → List Res} : Hole t r f → Hole (x :: t) r (fun r' => x :: f r')
theorem Hole.upd {H : List Res} {r : Res} {f : Res → List Res} (h : Hole H r f) (r' : Res) : Upd H r r' (f r') := by
  induction h with
  | here => exact .here
  | there _ ih => exact .there ih

/-- A slice's value, as far as it is known: nothing, or the head of a block. -/
def IsRow (v : Value) (n : Nat) : Prop := (v = .slice none 0 0 ∧ n = 0) ∨ ∃ g cap, v = .slice (some ⟨g, 0, none⟩) n cap ∧ n ≤ cap

section
variable (P : Program) (ty : Nat → Option TD) (w0 : World) (X : List Nat)

/-- n cells from o on in block b are vs. -/
def Rd (H : List Res) (b o : Nat) (vs : List Value) : Prop := ∀ w, St w0 X H w → w.rangeAt b o vs

/-- A callee: what it hands back, and what is owned then. -/
def CallOk (f : FuncId) (args : List Value) (H : List Res) (R : Value → List Res → Prop) : Prop :=
  (∃ fn, P.funcs[f]? = some fn ∧ (fn.name == "runtime.NumGoroutine") = false ∧ fn.body.isNone = false) ∧
  ∀ w, St w0 X H w → Calls P f ⟨args⟩ w fun e w' => ∃ v H', e = .returned v ∧ R v H' ∧ St w0 X H' w'

/-- A call: of a function with a body; of one without. -/
inductive CallW (f : FuncId) (args : List Value) (H : List Res) (K : Value → List Res → Prop) : Prop
  | call (h : ∃ R, CallOk P w0 X f args H R ∧ ∀ v H', R v H' → K v H') : CallW f args H K
  | ext (v : Value) (H' : List Res) (he : ∀ w, St w0 X H w → ∃ w', (callFunc f ⟨args⟩).run P w = .ok (.value v) w' ∧ St w0 X H' w') (hk : K v H') : CallW f args H K

/-- Any operation that is no call of a function with a body: by what its run does. -/
inductive EscW (o : Oper) (S : Sl) (H : List Res) (K : Value → List Res → Prop) : Prop
  | mk (R : Value → List Res → Prop) (h : ∀ a w, Agree a S → St w0 X H w → ∃ v w' H', ((execOp a.eval o).run P w = .ok (.value v) w' ∨ (v = undef ∧ (execOp a.eval o).run P w = .ok .skip w')) ∧ R v H' ∧ St w0 X H' w') (hk : ∀ v H', R v H' → K v H') : EscW o S H K

/-- An operation that leaves the world alone: by what its run does. -/
inductive EscQ (o : Oper) (S : Sl) (H : List Res) (K : Value → Prop) : Prop
  | mk (v : Value) (h : ∀ a w, Agree a S → St w0 X H w → (execOp a.eval o).run P w = .ok (.value v) w) (hk : K v) : EscQ o S H K

/-- A variable's value out of cells. -/
def ofCells (d : TypeDesc) (vs : List Value) (k : Value → Prop) : Prop :=
  match d with
  | .struct _ | .array _ _ => k (.agg ⟨vs⟩)
  | _ => match vs with
    | [v] => k v
    | _ => False

def loadW (H : List Res) (b o : Nat) (i : TD) (k : Value → Prop) : Prop :=
  (∃ cs T, Res.blk b cs T ∈ H ∧ subK False cs o i.size fun vs => ofCells i.d vs k) ∨
  (∃ vs, Rd w0 X H b o vs ∧ vs.length = i.size ∧ ofCells i.d vs k)
/-- A store into an element of a row of elements. -/
inductive StX (H : List Res) (b o sz' : Nat) (v : Value) (k : List Res → Prop) : Prop
  | arr (n c E sz : Nat) (l : List (List Value)) (f : Res → List Res) (hole : Hole H (.arr (.slice (some ⟨b, 0, none⟩) n c) E sz l) f) (j q : Nat) (x : List Value) (hx : l[j]? = some x) (ho : o = 0 + j * sz + q) (hlen : v.cells.toList.length = sz') (one : v.cells.toList.all (·.oneCell') = true)
      (hk : putK False x q v.cells.toList fun x' => k (f (.arr (.slice (some ⟨b, 0, none⟩) n c) E sz (l.set j x')))) : StX H b o sz' v k
def storeW (H : List Res) (b o : Nat) (i : TD) (v : Value) (k : List Res → Prop) : Prop :=
  match i.size with
  | 0 => v.cells.toList.length = 0 ∧ k H
  | n + 1 => (∃ cs T f, Hole H (.blk b cs T) f ∧ v.cells.toList.length = n + 1 ∧ (v.cells.toList.all (·.oneCell') = true) ∧ putK False cs o v.cells.toList fun cs' => k (f (.blk b cs' T))) ∨ StX H b o (n + 1) v k

/-- Bytes' cells, as numbers. -/
def mkS (l : List Int) : ByteArray := ⟨⟨l.map fun n => UInt8.ofNat n.toNat⟩⟩
inductive BytW (H : List Res) (b o n : Nat) (k : List Int → Prop) : Prop
  | mk (l : List Int) (hl : l.length = n) (hr : Rd w0 X H b o (l.map (Value.int .u8))) (hk : k l) : BytW H b o n k
/-- An append: of what is new (m elements from a place on), to nothing, to a row, to a block that is full. -/
inductive AppW (H : List Res) (e : Nat) (ei : TD) (b o m : Nat) (v : Value) (K : Value → List Res → Prop) : Prop
  | none (ms : List Value) (pos : 0 < ei.size) (hl : ms.length = m * ei.size) (hr : Rd w0 X H b o ms) (one : ms.all (·.oneCell') = true) (hv : v = .slice none 0 0) (h1 : m ≤ maxLen) (h2 : m * ei.bytes ≤ 140737488355328)
      (hk : ∀ A q, IsRow (.slice A m q) m → K (.slice A m q) (.row (.slice A m q) e ei.size m ms :: H)) : AppW H e ei b o m v K
  | row (ms : List Value) (pos : 0 < ei.size) (hl : ms.length = m * ei.size) (hr : Rd w0 X H b o ms) (one : ms.all (·.oneCell') = true) (n : Nat) (xs : List Value) (f : Res → List Res) (hf : Hole H (.row v e ei.size n xs) f) (h1 : n + m ≤ maxLen) (h2 : (n + m) * ei.bytes ≤ 140737488355328)
      (hk : ∀ A q, IsRow (.slice A (n + m) q) (n + m) → K (.slice A (n + m) q) (f (.row (.slice A (n + m) q) e ei.size (n + m) (xs ++ ms)))) : AppW H e ei b o m v K
  | zero (ms : List Value) (pos : 0 < ei.size) (hl : ms.length = m * ei.size) (hr : Rd w0 X H b o ms) (a : Addr) (hv : v = .slice (some a) 0 0) (h0 : 0 < m) (h1 : m ≤ maxLen) (h2 : m * ei.bytes ≤ 140737488355328)
      (hk : ∀ g q, m ≤ q → K (.slice (some ⟨g, 0, .none⟩) m q) (.row (.slice (some ⟨g, 0, .none⟩) m q) e ei.size m ms :: H)) : AppW H e ei b o m v K
  | noneA (ms : List (List Value)) (pos : 0 < ei.size) (hl : ms.length = m) (hs : ∀ x ∈ ms, x.length = ei.size) (hr : Rd w0 X H b o ms.flatten) (one : ms.flatten.all (·.oneCell') = true) (hv : v = .slice none 0 0) (h1 : m ≤ maxLen) (h2 : m * ei.bytes ≤ 140737488355328)
      (hk : ∀ A q, IsRow (.slice A m q) m → K (.slice A m q) (.arr (.slice A m q) e ei.size ms :: H)) : AppW H e ei b o m v K
  | zeroA (ms : List (List Value)) (pos : 0 < ei.size) (hl : ms.length = m) (hs : ∀ x ∈ ms, x.length = ei.size) (hr : Rd w0 X H b o ms.flatten) (a : Addr) (hv : v = .slice (some a) 0 0) (h0 : 0 < m) (h1 : m ≤ maxLen) (h2 : m * ei.bytes ≤ 140737488355328)
      (hk : ∀ g q, m ≤ q → K (.slice (some ⟨g, 0, .none⟩) m q) (.arr (.slice (some ⟨g, 0, .none⟩) m q) e ei.size ms :: H)) : AppW H e ei b o m v K
  | blkA (ms : List (List Value)) (pos : 0 < ei.size) (hl : ms.length = m) (hs : ∀ x ∈ ms, x.length = ei.size) (hr : Rd w0 X H b o ms.flatten) (one : ms.flatten.all (·.oneCell') = true) (g : Nat) (f : Res → List Res) (hf : Hole H (.blk g [] e) f) (hv : v = .slice (some ⟨g, 0, .none⟩) 0 0) (h1 : m ≤ maxLen) (h2 : m * ei.bytes ≤ 140737488355328)
      (hk : ∀ A q, IsRow (.slice A m q) m → K (.slice A m q) (f (.arr (.slice A m q) e ei.size ms))) : AppW H e ei b o m v K
  | arr (ms : List (List Value)) (pos : 0 < ei.size) (hl : ms.length = m) (hs : ∀ x ∈ ms, x.length = ei.size) (hr : Rd w0 X H b o ms.flatten) (one : ms.flatten.all (·.oneCell') = true) (xs : List (List Value)) (f : Res → List Res) (hf : Hole H (.arr v e ei.size xs) f) (h1 : xs.length + m ≤ maxLen) (h2 : (xs.length + m) * ei.bytes ≤ 140737488355328)
      (hk : ∀ A q, IsRow (.slice A (xs.length + m) q) (xs.length + m) → K (.slice A (xs.length + m) q) (f (.arr (.slice A (xs.length + m) q) e ei.size (xs ++ ms)))) : AppW H e ei b o m v K
  | blk (ms : List Value) (pos : 0 < ei.size) (hl : ms.length = m * ei.size) (hr : Rd w0 X H b o ms) (one : ms.all (·.oneCell') = true) (n g : Nat) (xs : List Value) (f : Res → List Res) (hf : Hole H (.blk g xs e) f) (hv : v = .slice (some ⟨g, 0, .none⟩) n n) (hn : xs.length = n * ei.size) (h1 : n + m ≤ maxLen) (h2 : (n + m) * ei.bytes ≤ 140737488355328)
      (hk : ∀ A q, IsRow (.slice A (n + m) q) (n + m) → K (.slice A (n + m) q) (f (.row (.slice A (n + m) q) e ei.size (n + m) (xs ++ ms)))) : AppW H e ei b o m v K
/-- Parts put into cells. -/
def fillK (place : Nat → Option (Nat × Nat)) (S : Sl) : List (Nat × Operand) → List Value → (List Value → Prop) → Prop
  | [], cs, k => k cs
  | (i, x) :: r, cs, k => match place i, opd S x with
    | some (off, sz), some v => v.cells.toList.length = sz ∧ putK False cs off v.cells.toList fun cs' => fillK place S r cs' k
    | _, _ => False

def intW (op : BinOp) (k : IntKind) (a b : Int) (K : Value → Prop) : Prop :=
  match op with
  | .add => K (.int k (k.wrap (a + b)))
  | .sub => K (.int k (k.wrap (a - b)))
  | .mul => K (.int k (k.wrap (a * b)))
  | .quo => b ≠ 0 ∧ K (.int k (k.wrap (a.tdiv b)))
  | .rem => b ≠ 0 ∧ K (.int k (a.tmod b))
  | .and => K (.int k (bits .and k a b))
  | .or => K (.int k (bits .or k a b))
  | .xor => K (.int k (bits .xor k a b))
  | .andNot => K (.int k (bits .andNot k a b))
  | .shl => 0 ≤ b ∧ K (.int k (k.wrap (a * 2 ^ min b.toNat k.bits)))
  | .shr => 0 ≤ b ∧ K (.int k (a.fdiv (2 ^ min b.toNat k.bits)))
  | .eql => K (.bool (decide (a = b)))
  | .neq => K (.bool (!decide (a = b)))
  | .lss => K (.bool (decide (a < b)))
  | .leq => K (.bool (decide (a ≤ b)))
  | .gtr => K (.bool (decide (b < a)))
  | .geq => K (.bool (decide (b ≤ a)))
def strW (op : BinOp) (a b : ByteArray) (K : Value → Prop) : Prop :=
  match op with
  | .add => a.size + b.size ≤ 9223372036854775807 ∧ K (.string (a ++ b))
  | .eql => K (.bool (decide (a = b)))
  | .neq => K (.bool (!decide (a = b)))
  | .lss => K (.bool (Op.bytesLess a.data.toList b.data.toList))
  | _ => False

/-- One operation that leaves the world alone. -/
def pureW (o : Oper) (S : Sl) (H : List Res) (K : Value → Prop) : Prop :=
  match o.op with
  | .move x => match opd S x with
    | some v => K v
    | none => False
  | .assign x => match opd S x with
    | some v => K v
    | none => False
  | .pick c x y => match opd S c with
    | some (.bool t) => match t with
      | true => match opd S x with
        | some v => K v
        | none => False
      | false => match opd S y with
        | some v => K v
        | none => False
    | _ => False
  | .build t ps => match ty t with
    | some i => match i.d with
      | .struct _ => fillK (fun j => i.parts[j]?) S ps.toList i.zero fun cs => K (.agg ⟨cs⟩)
      | .array _ e => match ty e with
        | some ei => fillK (fun j => some (j * ei.size, ei.size)) S ps.toList i.zero fun cs => K (.agg ⟨cs⟩)
        | none => False
      | _ => False
    | none => False
  | .load t x => match opd S x, ty t with
    | some (.pointer (some ⟨b, o, none⟩)), some i => loadW w0 X H b o i K
    | _, _ => False
  | .nilCheck x => match opd S x with
    | some (.pointer (some ad)) => K (.pointer (some ad))
    | some (.func (.func f) u v) => K (.func (.func f) u v)
    | _ => False
  | .binOp op t x y _ => match opd S x, opd S y with
    | some (.int k a), some (.int k' b) => match op with
      | .shl => intW .shl k a b K
      | .shr => intW .shr k a b K
      | op => k = k' ∧ intW op k a b K
    | some (.string a), some (.string b) => strW op a b K
    | some (.slice a n c), some (.slice none _ _) => match ty t with
      | some i => match i.d, op with
        | .slice _, .eql => K (.bool a.isNone)
        | .slice _, .neq => K (.bool (!a.isNone))
        | _, _ => EscQ P w0 X o S H K
      | none => EscQ P w0 X o S H K
    | some (.bool a), some (.bool b) => match ty t with
      | some i => match i.d, op with
        | .bool, .eql => K (.bool (a == b))
        | .bool, .neq => K (.bool (!(a == b)))
        | _, _ => EscQ P w0 X o S H K
      | none => EscQ P w0 X o S H K
    | _, _ => EscQ P w0 X o S H K
  | .unOp op _ x => match op, opd S x with
    | .not, some (.bool b) => K (.bool (!b))
    | .neg, some (.int k n) => K (.int k (k.wrap (0 - n)))
    | _, _ => EscQ P w0 X o S H K
  | .convert s d x => match opd S x, ty s, ty d with
    | some (.int k n), some _, some i => match i.d with
      | .int k' => K (.int k' (k'.wrap n))
      | _ => False
    | some (.slice (some ⟨b, q, none⟩) n _), some si, some di => match si.d, di.d with
      | .slice e, .string => match ty e with
        | some ei => match ei.d with
          | .int .u8 => BytW w0 X H b q n fun l => K (.string (mkS l))
          | _ => EscQ P w0 X o S H K
        | none => False
      | _, _ => EscQ P w0 X o S H K
    | _, _, _ => EscQ P w0 X o S H K
  | .makeFunc fn first caps => match opds S first.toList, opds S caps.toList with
    | some a, some b => K (.func fn ⟨a⟩ ⟨b⟩)
    | _, _ => False
  | .field t x f => match opd S x, ty t with
    | some (.agg cs), some i => match i.d with
      | .struct fs => match fs.toList[f]? with
        | some fl => match ty fl.type with
          | some fi => subK False cs.toList fl.offset fi.size fun vs => ofCells fi.d vs K
          | none => False
        | none => False
      | _ => False
    | _, _ => False
  | .extract x n => match opd S x with
    | some (.tuple vs) => match vs.toList[n]? with
      | some v => K v
      | none => False
    | _ => False
  | .fieldAddr t x f => match opd S x, ty t with
    | some (.pointer (some ⟨b, o, none⟩)), some i => match i.d with
      | .struct fs => match fs.toList[f]? with
        | some fl => match ty fl.type with
          | some fi => match fi.size with
            | 0 => False
            | _ + 1 => K (.pointer (some ⟨b, o + fl.offset, none⟩))
          | none => False
        | none => False
      | _ => False
    | _, _ => False
  | .indexAddr t x j => match opd S x, opd S j, ty t with
    | some (.slice (some ⟨b, o, none⟩) n _), some (.int _ q), some i => match i.d with
      | .slice e => match ty e with
        | some ei => (0 ≤ q ∧ q < (n : Int)) ∧ match ei.size with
          | 1 => K (.pointer (some ⟨b, o + q.toNat, none⟩))
          | s => K (.pointer (some ⟨b, o + q.toNat * s, none⟩))
        | none => False
      | _ => False
    | some (.pointer (some ⟨b, o, none⟩)), some (.int _ q), some i => match i.d with
      | .array n e => match ty e with
        | some ei => (0 ≤ q ∧ q < (n : Int)) ∧ match ei.size with
          | 1 => K (.pointer (some ⟨b, o + q.toNat, none⟩))
          | s => K (.pointer (some ⟨b, o + q.toNat * s, none⟩))
        | none => False
      | _ => False
    | _, _, _ => False
  | .index t x j => match opd S x, opd S j, ty t with
    | some (.string s), some (.int _ q), some i => match i.d with
      | .string => ∃ h : 0 ≤ q ∧ q.toNat < s.size, K (.int .u8 ((s[q.toNat]'h.2).toNat : Int))
      | _ => False
    | some (.agg cs), some (.int _ q), some i => match i.d with
      | .array n e => match ty e with
        | some ei => (0 ≤ q ∧ q < (n : Int)) ∧ subK False cs.toList (q.toNat * ei.size) ei.size fun vs => ofCells ei.d vs K
        | none => False
      | _ => False
    | _, _, _ => False
  | .slice t x lo hi none => match ty t, opd S x with
    | some i, some (.string s) => match i.d with
      | .string => match (match lo with | none => some (Value.int .i64 0) | some y => opd S y), (match hi with | none => some (Value.int .i64 s.size) | some y => opd S y) with
        | some (.int _ l), some (.int _ h) => (0 ≤ l ∧ l ≤ h ∧ h ≤ (s.size : Int)) ∧ K (.string (s.extract l.toNat h.toNat))
        | _, _ => False
      | _ => False
    | some i, some (.pointer (some ⟨b, q, none⟩)) => match lo, hi, i.d with
      | none, none, .array n e => match ty e with
        | some _ => K (.slice (some ⟨b, q, none⟩) n n)
        | none => False
      | _, _, _ => EscQ P w0 X o S H K
    | _, _ => EscQ P w0 X o S H K
  | .call c => match c.callee with
    | .builtin .min => match opds S c.args.toList with
      | some [.int k a, .int _ b] => K (.int k (if b < a then b else a))
      | _ => EscQ P w0 X o S H K
    | .builtin .max => match opds S c.args.toList with
      | some [.int k a, .int _ b] => K (.int k (if a < b then b else a))
      | _ => EscQ P w0 X o S H K
    | .builtin .len => match c.args.toList, c.argTypes.toList with
      | [x], [t] => match ty t, opd S x with
        | some i, some v => match i.d with
          | .string => match v with
            | .string s => K (.int .i64 s.size)
            | _ => False
          | .slice _ => match v with
            | .slice _ n _ => K (.int .i64 n)
            | _ => False
          | _ => EscQ P w0 X o S H K
        | _, _ => False
      | _, _ => False
    | .builtin _ => EscQ P w0 X o S H K
    | _ => False
  | _ => EscQ P w0 X o S H K

/-- One operation. -/
def opW (o : Oper) (S : Sl) (H : List Res) (K : Value → List Res → Prop) : Prop :=
  match o.op with
  | .alloc e => match ty e with
    | some i => ∀ b, K (.pointer (some ⟨b, 0, none⟩)) (.blk b i.zero e :: H)
    | none => False
  | .box e x => match opd S x with
    | some v => ∀ b, K (.pointer (some ⟨b, 0, none⟩)) (.blk b v.cells.toList e :: H)
    | none => False
  | .store t x y => match opd S x, opd S y, ty t with
    | some (.pointer (some ⟨b, o, none⟩)), some v, some i => storeW H b o i v fun H' => K undef H'
    | _, _, _ => False
  | .convert s d x => match opd S x with
    | some (.int _ _) => pureW P ty w0 X o S H fun v => K v H
    | some (.string a) => match ty s, ty d with
      | some si, some di => match si.d, di.d with
        | .string, .slice e => match ty e with
          | some ei => match ei.d with
            | .int .u8 => ∀ b q, K (.slice (some ⟨b, 0, none⟩) a.size q) (.byt b a q e :: H)
            | _ => EscW P w0 X o S H K
          | none => False
        | _, _ => EscW P w0 X o S H K
      | _, _ => False
    | some (.slice _ _ _) => pureW P ty w0 X o S H fun v => K v H
    | _ => EscW P w0 X o S H K
  | .buildSlice t n ps => match ty t with
    | some i => match i.d with
      | .slice e => match ty e with
        | some ei => n * ei.size ≤ 16777216 ∧ fillK (fun j => some (j * ei.size, ei.size)) S ps.toList ((List.range (n * ei.size)).map fun j => ei.zero.getD (j % ei.size) undef) fun cs => ∀ b, K (.slice (some ⟨b, 0, none⟩) n n) (.blk b cs e :: H)
        | none => False
      | _ => False
    | none => False
  | .call c => match c.callee with
    | .builtin .len => pureW P ty w0 X o S H fun v => K v H
    | .builtin .min => pureW P ty w0 X o S H fun v => K v H
    | .builtin .max => pureW P ty w0 X o S H fun v => K v H
    | .builtin .append => match c.args.toList, c.argTypes.toList with
      | [x, y], [t, t'] => match ty t, opd S x, opd S y with
        | some i, some v, some (.slice (some ⟨b, o, none⟩) m _) => match i.d with
          | .slice e => match ty e with
            | some ei => t = t' ∧ AppW w0 X H e ei b o m v K
            | none => False
          | _ => False
        | _, _, _ => EscW P w0 X o S H K
      | _, _ => False
    | .value fo => match opd S fo, opds S c.args.toList with
      | some (.func (.func f) first caps), some args => appK args caps.toList fun l => appK first.toList l fun l => CallW P w0 X f l H K
      | _, _ => False
    | _ => EscW P w0 X o S H K
  | .makeMap .. => EscW P w0 X o S H K
  | .mapUpdate .. => EscW P w0 X o S H K
  | .insert .. => EscW P w0 X o S H K
  | .mapEntry .. => EscW P w0 X o S H K
  | .entryStore .. => EscW P w0 X o S H K
  | .makeSlice .. => EscW P w0 X o S H K
  | .range .. => EscW P w0 X o S H K
  | .next .. => EscW P w0 X o S H K
  | .entry .. => EscW P w0 X o S H K
  | _ => pureW P ty w0 X o S H fun v => K v H

/-- Operations in the text's order. g: where each operation's value lies, for guards. -/
def opsW (g : Nat → Option Nat) : List Oper → Sl → List Res → (Sl → List Res → Prop) → Prop
  | [], S, H, K => K S H
  | o :: r, S, H, K => match o.guard with
    | none => opW P ty w0 X o S H fun v H' => match o.dst with
      | some d => opsW g r ((d, v) :: S) H' K
      | none => opsW g r S H' K
    | some (j, want) => match g j with
      | some t => match look S t with
        | some (.bool b) =>
          (b = want → opW P ty w0 X o ((t, .bool want) :: S) H fun v H' => match o.dst with
            | some d => opsW g r ((d, v) :: (t, .bool want) :: S) H' K
            | none => opsW g r ((t, .bool want) :: S) H' K) ∧
          (b = !want → match o.dst with
            | some d => opsW g r ((d, undef) :: (t, .bool !want) :: S) H K
            | none => opsW g r ((t, .bool !want) :: S) H K)
        | some (.tuple _) => match o.dst with
          | some d => opsW g r ((d, undef) :: S) H K
          | none => opsW g r S H K
        | _ => False
      | none => False

/-- A callee that only reads, and makes memory of its own. -/
def QCall (f : FuncId) (args : List Value) (H : List Res) (v : Value) : Prop :=
  (∃ fn, P.funcs[f]? = some fn ∧ (fn.name == "runtime.NumGoroutine") = false ∧ fn.body.isNone = false) ∧
  ∀ w, St w0 X H w → Calls P f ⟨args⟩ w fun e w' => e = .returned v ∧ Below w.heap.size w w'
/-- One operation that leaves what is owned alone. -/
def quietW (o : Oper) (S : Sl) (H : List Res) (K : Value → Prop) : Prop :=
  match o.op with
  | .call c => match c.callee with
    | .value fo => match opd S fo, opds S c.args.toList with
      | some (.func (.func f) first caps), some args => appK args caps.toList fun l => appK first.toList l fun l => ∃ v, QCall P w0 X f l H v ∧ K v
      | _, _ => False
    | _ => pureW P ty w0 X o S H K
  | _ => pureW P ty w0 X o S H K
/-- An operation that makes a block of its own. -/
def isA (o : Oper) : Bool := match o.guard, o.dst, o.op with
  | none, some _, .alloc _ => true
  | none, some _, .box _ _ => true
  | _, _, _ => false
/-- One operation, with its guard. -/
def stepW (g : Nat → Option Nat) (o : Oper) (S : Sl) (op : Sl → (Value → List Res → Prop) → Prop) (H : List Res) (K : Sl → List Res → Prop) : Prop :=
  match o.guard with
  | none => op S fun v H' => match o.dst with
    | some d => K ((d, v) :: S) H'
    | none => K S H'
  | some (j, want) => match g j with
    | some t => match look S t with
      | some (.bool b) =>
        (b = want → op ((t, .bool want) :: S) fun v H' => match o.dst with
          | some d => K ((d, v) :: (t, .bool want) :: S) H'
          | none => K ((t, .bool want) :: S) H') ∧
        (b = !want → match o.dst with
          | some d => K ((d, undef) :: (t, .bool !want) :: S) H
          | none => K ((t, .bool !want) :: S) H)
      | some (.tuple _) => match o.dst with
        | some d => K ((d, undef) :: S) H
        | none => K S H
      | _ => False
    | none => False
/-- What makes a block. -/
def allocW (o : Oper) (S : Sl) (H : List Res) (K : Sl → List Res → Prop) : Prop :=
  match o.dst, o.op with
  | some d, .alloc e => match ty e with
    | some i => ∀ b, K ((d, .pointer (some ⟨b, 0, none⟩)) :: S) (.blk b i.zero e :: H)
    | none => False
  | some d, .box e x => match opd S x with
    | some v => ∀ b, K ((d, .pointer (some ⟨b, 0, none⟩)) :: S) (.blk b v.cells.toList e :: H)
    | none => False
  | _, _ => False
/-- Slots that have a value where guards hold (and none where they don't): slot, guards, value. -/
abbrev Ch := List (Nat × Bool)
abbrev Cl := List (Nat × Ch × Value)
def lookC : Cl → Nat → Option (Ch × Value)
  | [], _ => none
  | (k, ch, v) :: r, t => match Nat.beq k t with
    | true => some (ch, v)
    | false => lookC r t
def sameB : Bool → Bool → Bool
  | true, true => true
  | false, false => true
  | _, _ => false
def hasL : Ch → Nat → Bool → Bool
  | [], _, _ => false
  | (i, w) :: r, j, w' => match Nat.beq i j with
    | true => match sameB w w' with
      | true => true
      | false => hasL r j w'
    | false => hasL r j w'
def subL : Ch → Ch → Bool
  | [], _ => true
  | (j, w) :: r, ch => match hasL ch j w with
    | true => subL r ch
    | false => false
/-- .. where slot t (of a bool) is w, too. -/
def subLt (g : Nat → Option Nat) (t : Nat) (w : Bool) : Ch → Ch → Bool
  | [], _ => true
  | (j, w') :: r, ch => match hasL ch j w' with
    | true => subLt g t w r ch
    | false => match g j with
      | some t' => match Nat.beq t' t with
        | true => match sameB w' w with
          | true => subLt g t w r ch
          | false => false
        | false => false
      | none => false
/-- The slots that are sure where ch holds. -/
def sureS (S : Sl) (ch : Ch) : Cl → Sl
  | [] => S
  | (t, c, v) :: r => match subL c ch with
    | true => (t, v) :: sureS S ch r
    | false => sureS S ch r
def litP (S : Sl) (C : Cl) (t : Nat) (w : Bool) : Prop := match look S t with
  | some (.bool b) => b = w
  | some _ => True
  | none => match lookC C t with
    | some (_, .bool b) => b = w
    | _ => True
def hypC (g : Nat → Option Nat) (S : Sl) (C : Cl) : Ch → Prop
  | [] => True
  | (j, w) :: r => (match g j with
    | some t => litP S C t w
    | none => True) ∧ hypC g S C r
/-- A value of which is known what it is where something holds. -/
inductive IsV (v : Value) : Value → Prop
  | mk : IsV v v
inductive GuardP (hyp : Prop) (A : (Value → Prop) → Prop) (K : Value → Prop) : Prop
  | mk (v : Value) (h : hyp → A (fun u => IsV v u)) (k : K v) : GuardP hyp A K
/-- A bool's slot: where it has one, and which. -/
def boolK (S : Sl) (C : Cl) (t : Nat) (k : Ch → Bool → Prop) (u : Prop) : Prop := match look S t with
  | some (.bool b) => k [] b
  | some (.tuple _) => u
  | some _ => False
  | none => match lookC C t with
    | some (ch, .bool b) => k ch b
    | _ => False
/-- One of two bools. -/
def pickK (g : Nat → Option Nat) (S : Sl) (C : Cl) (ch : Ch) (c x y : Operand) (K : Value → Prop) : Prop := match c with
  | .tmp tc => boolK S C tc (fun cc b => match subL cc ch with
    | true => match x with
      | .const (.bool true) => match y with
        | .tmp t => boolK S C t (fun cy q => match subLt g tc false cy ch with
          | true => K (.bool (b || q))
          | false => False) False
        | .const (.bool q) => K (.bool (b || q))
        | _ => False
      | .tmp t => match y with
        | .const (.bool false) => boolK S C t (fun cx p => match subLt g tc true cx ch with
          | true => K (.bool (b && p))
          | false => False) False
        | _ => False
      | .const (.bool false) => match y with
        | .const (.bool false) => K (.bool (b && false))
        | _ => False
      | _ => False
    | false => False) False
  | _ => False
/-- One operation, with its guard: what it comes to where the guard holds. -/
def stepC (g : Nat → Option Nat) (o : Oper) (S : Sl) (C : Cl) (op : Sl → (Value → List Res → Prop) → Prop) (qop : Sl → (Value → Prop) → Prop) (H : List Res) (K : Sl → Cl → List Res → Prop) : Prop :=
  match o.guard with
  | none => match o.op with
    | .pick c x y => match o.dst with
      | some d => pickK g S C [] c x y fun v => K ((d, v) :: S) C H
      | none => False
    | _ => op S fun v H' => match o.dst with
      | some d => K ((d, v) :: S) C H'
      | none => K S C H'
  | some (j, want) => match g j with
    | some t => match o.dst with
      | some d => match look S d with
        | none => boolK S C t (fun ch b => match o.op with
          | .pick c x y => pickK g S C ((j, want) :: ch) c x y fun v => K S ((d, (j, want) :: ch, v) :: C) H
          | _ => GuardP (hypC g S C ((j, want) :: ch)) (qop (sureS S ((j, want) :: ch) C)) fun v => K S ((d, (j, want) :: ch, v) :: C) H) (K ((d, undef) :: S) C H)
        | some _ => False
      | none => False
    | none => False
def distB (ops : Array Oper) : Bool := (List.range ops.size).all fun i => (List.range ops.size).all fun j => Nat.beq i j || match (ops[i]?).bind (·.dst), (ops[j]?).bind (·.dst) with
  | some d, some e => !Nat.beq d e
  | _, _ => true
/-- Does each guard come ahead, and is it waited for? -/
def guardB (ops : Array Oper) : Bool := (List.range ops.size).all fun i => match (ops[i]?).bind (·.guard) with
  | some (j, _) => Nat.blt j i && ((ops[i]?).map fun o => o.after.any fun e => Region.binds .any e && Nat.beq e.on j).getD false
  | none => true
def hasG : List Oper → Bool
  | [] => false
  | o :: r => match o.guard with
    | some _ => true
    | none => hasG r
/-- The orders that a statement may draw, as far as they must be told apart. quiet: what only reads, of what is kept; pure: what reads nothing that is owned; alloc: what makes a block; last, alt: what may come now. -/
inductive OTree where
  | done
  | quiet (i : Nat) (t : OTree)
  | pure (i : Nat) (t : OTree)
  | alloc (i : Nat) (t : OTree)
  | last (i : Nat) (kj : Bool) (t : OTree)
  | alt (i : Nat) (kj : Bool) (t r : OTree)
/-- A part of what is owned, in any order. -/
def SubL (A B : List Res) : Prop := ∃ C, C.Perm B ∧ A.Sublist C
theorem SubL.perm {A B B' : List Res} (h : SubL A B) (hp : B.Perm B') : SubL A B' := h.imp fun C ⟨h1, h2⟩ => ⟨h1.trans hp, h2⟩
theorem SubL.cons {A B : List Res} (x : Res) (h : SubL A B) : SubL A (x :: B) := by
  obtain ⟨C, h1, h2⟩ := h
  exact ⟨x :: C, h1.cons x, h2.trans (List.sublist_cons_self x C)⟩
theorem SubL.nil {B : List Res} : SubL [] B := ⟨B, List.Perm.refl _, List.nil_sublist _⟩
theorem SubL.refl (B : List Res) : SubL B B := ⟨B, List.Perm.refl _, List.Sublist.refl _⟩
theorem SubL.of {A B : List Res} (h : A.Sublist B) : SubL A B := ⟨B, List.Perm.refl _, h⟩
/-- Two ways. -/
structure AltP (A B : Prop) : Prop where
  one : A
  two : B
/-- What is kept is still there. -/
structure KeepP (Hc H : List Res) (A : Prop) : Prop where
  sub : SubL Hc H
  go : A
def keepK (kj : Bool) (Hc H : List Res) (A : Prop) : Prop := match kj with
  | true => KeepP Hc H A
  | false => A
/-- Does j wait for i, by way of others too? -/
inductive Waits (ops : Array Oper) : Nat → Nat → Prop
  | one {j : Nat} {o : Oper} {e : Edge} (ho : ops[j]? = some o) (he : e ∈ o.after) (hb : Region.binds .any e = true) : Waits ops j e.on
  | more {j i : Nat} {o : Oper} {e : Edge} (ho : ops[j]? = some o) (he : e ∈ o.after) (hb : Region.binds .any e = true) (h : Waits ops e.on i) : Waits ops j i
/-- For each operation those that it waits for, as bits. -/
def maskOf (acc : List Nat) (es : List Edge) : Nat := es.foldl (fun s e => if Region.binds .any e then s ||| (2 ^ e.on ||| acc.getD e.on 0) else s) 0
def masks (l : List Oper) : List Nat := l.foldl (fun acc o => acc ++ [maskOf acc o.after.toList]) []
/-- What reads what is kept. -/
def quietsOf : OTree → List Nat
  | .done => []
  | .quiet i t => i :: quietsOf t
  | .pure _ t => quietsOf t
  | .alloc _ t => quietsOf t
  | .last _ _ t => quietsOf t
  | .alt _ _ t r => quietsOf t ++ quietsOf r
def boundB (ms : List Nat) (qs : List Nat) (k : Nat) : Bool := qs.all fun i => Nat.testBit (ms.getD k 0) i
def anyBound (ms : List Nat) (qs : List Nat) (listed : Array Bool) (n : Nat) : Bool := (List.range n).any fun k => boundB ms qs k && listed.getD k false
def isAt (ops : Array Oper) (i : Nat) : Bool := ((ops[i]?).map isA).getD false
/-- Does a tree tell all orders? -/
def treeOk (ops : Array Oper) (ms qs : List Nat) : OTree → Nat → Array Bool → Option (List Nat) → Bool
  | .done, n, listed, rem => n == 0 && rem.isNone && (Region.ready .any ops listed).isEmpty
  | .quiet i t, n, listed, rem => match n with
    | 0 => false
    | n + 1 => rem.isNone && !isAt ops i && (Region.ready .any ops listed).contains i && Region.free .any ops listed i && qs.contains i && !boundB ms qs i && treeOk ops ms qs t n (listed.setIfInBounds i true) none
  | .pure i t, n, listed, rem => match n with
    | 0 => false
    | n + 1 => rem.isNone && !isAt ops i && (Region.ready .any ops listed).contains i && Region.free .any ops listed i && (qs.isEmpty || !boundB ms qs i || anyBound ms qs listed ops.size) && treeOk ops ms qs t n (listed.setIfInBounds i true) none
  | .alloc i t, n, listed, rem => match n with
    | 0 => false
    | n + 1 => rem.isNone && isAt ops i && (Region.ready .any ops listed).contains i && Region.free .any ops listed i &&
      ((List.range ops.size).all fun j => j == i || listed.getD j true || isAt ops j || Nat.testBit (ms.getD j 0) i) && treeOk ops ms qs t n (listed.setIfInBounds i true) none
  | .last i kj t, n, listed, rem => match n with
    | 0 => false
    | n + 1 => (rem.getD (Region.ready .any ops listed) == [i]) && (kj || qs.isEmpty || anyBound ms qs (listed.setIfInBounds i true) ops.size) && treeOk ops ms qs t n (listed.setIfInBounds i true) none
  | .alt i kj t r, n, listed, rem => match n with
    | 0 => false
    | n + 1 => (rem.getD (Region.ready .any ops listed)).contains i && (kj || qs.isEmpty || anyBound ms qs (listed.setIfInBounds i true) ops.size) && treeOk ops ms qs t n (listed.setIfInBounds i true) none &&
      treeOk ops ms qs r (n + 1) listed (some ((rem.getD (Region.ready .any ops listed)).filter (· != i)))
def drawOk (ops : Array Oper) (t : OTree) : Bool := Region.noSelect ops && treeOk ops (masks ops.toList) (quietsOf t) t ops.size (Array.replicate ops.size false) none
def nthW (ops : Array Oper) (i : Nat) (k : Oper → Prop) : Prop := match ops.toList[i]? with
  | some o => k o
  | none => False
/-- What a tree's orders come to. -/
def treeG {σ : Type} (stQ : Oper → List Res → σ → List Res → (σ → Prop) → Prop) (stA stG : Oper → σ → List Res → (σ → List Res → Prop) → Prop) (ops : Array Oper) (Hc : List Res) (t : OTree) : σ → List Res → (σ → List Res → Prop) → Prop :=
  OTree.rec (motive := fun _ => σ → List Res → (σ → List Res → Prop) → Prop)
    (fun S H K => K S H)
    (fun i _ ih S H K => nthW ops i fun o => stQ o Hc S H fun S' => ih S' H K)
    (fun i _ ih S H K => nthW ops i fun o => stQ o [] S H fun S' => ih S' H K)
    (fun i _ ih S H K => nthW ops i fun o => stA o S H fun S' H' => ih S' H' K)
    (fun i kj _ ih S H K => nthW ops i fun o => stG o S H fun S' H' => keepK kj Hc H' (ih S' H' K))
    (fun i kj _ _ iht ihr S H K => AltP (nthW ops i fun o => stG o S H fun S' H' => keepK kj Hc H' (iht S' H' K)) (ihr S H K)) t
def treeW (ops : Array Oper) (g : Nat → Option Nat) (Hc : List Res) (t : OTree) : Sl → List Res → (Sl → List Res → Prop) → Prop :=
  treeG (fun o Hi S H K => stepW g o S (fun S' k => quietW P ty w0 X o S' Hi fun v => k v H) H fun S' _ => K S') (fun o S H K => allocW ty o S H K) (fun o S H K => stepW g o S (fun S' k => opW P ty w0 X o S' H k) H K) ops Hc t
def treeC (ops : Array Oper) (g : Nat → Option Nat) (Hc : List Res) (t : OTree) : Sl × Cl → List Res → (Sl × Cl → List Res → Prop) → Prop :=
  treeG (fun o Hi s H K => stepC g o s.1 s.2 (fun S' k => quietW P ty w0 X o S' Hi fun v => k v H) (fun S' k => quietW P ty w0 X o S' Hi k) H fun S' C' _ => K (S', C')) (fun o s H K => allocW ty o s.1 H fun S' H' => K (S', s.2) H')
    (fun o s H K => stepC g o s.1 s.2 (fun S' k => opW P ty w0 X o S' H k) (fun S' k => quietW P ty w0 X o S' H k) H fun S' C' H' => K (S', C') H') ops Hc t
/-- A statement that draws its order. -/
inductive DrawW (ops : Array Oper) (S : Sl) (H : List Res) (K : Sl → List Res → Prop) : Prop
  | mk (Hc : List Res) (t : OTree) (ok : drawOk ops t = true) (sub : SubL Hc H) (h : treeW P ty w0 X ops (fun j => (ops[j]?).bind (·.dst)) Hc t S H K) : DrawW ops S H K
  | mkC (Hc : List Res) (t : OTree) (ok : drawOk ops t = true) (dist : (distB ops && guardB ops) = true) (sub : SubL Hc H) (h : treeC P ty w0 X ops (fun j => (ops[j]?).bind (·.dst)) Hc t (S, []) H fun s H' => K s.1 H') : DrawW ops S H K
/-- Operations in the text's order, with guards. -/
def opsC (g : Nat → Option Nat) (l : List Oper) : Sl → Cl → List Res → (Sl → List Res → Prop) → Prop :=
  List.rec (motive := fun _ => Sl → Cl → List Res → (Sl → List Res → Prop) → Prop) (fun S _ H K => K S H)
    (fun o _ ih S C H K => stepC g o S C (fun S' k => opW P ty w0 X o S' H k) (fun S' k => quietW P ty w0 X o S' H k) H fun S' C' H' => ih S' C' H' K) l
inductive CondW (ops : Array Oper) (S : Sl) (H : List Res) (K : Sl → List Res → Prop) : Prop
  | split (h : opsW P ty w0 X (fun j => (ops[j]?).bind (·.dst)) ops.toList S H K) : CondW ops S H K
  | mk (dist : (distB ops && guardB ops) = true) (h : opsC P ty w0 X (fun j => (ops[j]?).bind (·.dst)) ops.toList S [] H K) : CondW ops S H K

inductive Ex where
  | normal
  | exit (id : Nat)
  | ret

/-- Slots and memory that are part of what is there. -/
def SubS : Sl → Sl → Prop
  | [], _ => True
  | (t, v) :: r, S => look S t = some v ∧ SubS r S

/-- What is owned, told in another way. -/
def Ent (w0 : World) (X : List Nat) (H H' : List Res) : Prop := ∀ w, St w0 X H w → St w0 X H' w
theorem Ent.of {w0 : World} {X : List Nat} {H H' : List Res} (h : H'.Sublist H) : Ent w0 X H H' := fun w hw => hw.sub h
theorem Ent.refl {w0 : World} {X : List Nat} {H : List Res} : Ent w0 X H H := fun w hw => hw
theorem Ent.trans {w0 : World} {X : List Nat} {H H' H'' : List Res} (h : Ent w0 X H H') (h' : Ent w0 X H' H'') : Ent w0 X H H'' := fun w hw => h' w (h w hw)
/-- Behind a round: what holds at a round's head, with less to go. -/
inductive Again (w0 : World) (X : List Nat) {σ : Type} (I : σ → Sl → List Res → Prop) (μ : σ → Nat) (s : σ) (S : Sl) (H : List Res) : Prop
  | mk (s' : σ) (S2 : Sl) (H2 : List Res) (lt : μ s' < μ s) (inv : I s' S2 H2) (sub : SubS S2 S) (keep : Ent w0 X H H2) : Again w0 X I μ s S H
/-- A loop. -/
inductive LoopW (w0 : World) (X : List Nat) (body : (Ex → Sl → List Res → Prop) → Sl → List Res → Prop) (Q : Ex → Sl → List Res → Prop) (S : Sl) (H : List Res) : Prop
  | mk (σ : Type) (I : σ → Sl → List Res → Prop) (μ : σ → Nat) (s : σ) (S1 : Sl) (H1 : List Res) (inv : I s S1 H1) (sub : SubS S1 S) (keep : Ent w0 X H H1)
      (round : ∀ s S1 H1, I s S1 H1 → body (fun e S' H' => match e with
        | .normal => Again w0 X I μ s S' H'
        | .exit j => Q (.exit j) S' H'
        | .ret => Q .ret S' H') S1 H1) : LoopW w0 X body Q S H

/-- What holds where ways meet. -/
inductive Meet (w0 : World) (X : List Nat) {σ : Type} (I : σ → Sl → List Res → Prop) (S : Sl) (H : List Res) : Prop
  | mk (s : σ) (S1 : Sl) (H1 : List Res) (inv : I s S1 H1) (sub : SubS S1 S) (keep : Ent w0 X H H1) : Meet w0 X I S H
/-- Where ways meet: what holds there may be told anew. -/
inductive SeqP (k : Nat) (w0 : World) (X : List Nat) (A : (Ex → Sl → List Res → Prop) → Prop) (B : Sl → List Res → Prop) (Q : Ex → Sl → List Res → Prop) : Prop
  | go (h : A fun e S' H' => match e with
      | .normal => B S' H'
      | .exit i => Q (.exit i) S' H'
      | .ret => Q .ret S' H') : SeqP k w0 X A B Q
  | cut (σ : Type) (I : σ → Sl → List Res → Prop) (h : A fun e S' H' => match e with
      | .normal => Meet w0 X I S' H'
      | .exit i => Q (.exit i) S' H'
      | .ret => Q .ret S' H') (hy : ∀ s S1 H1, I s S1 H1 → B S1 H1) : SeqP k w0 X A B Q
/-- Does code branch? -/
def forks : Code → Bool
  | .cond _ _ _ => true
  | .block _ _ => true
  | .seq _ y => forks y
  | _ => false
/-- The first region of code. -/
def fstReg : Code → Nat
  | .region i _ _ => i
  | .seq x _ => fstReg x
  | .cond _ x _ => fstReg x
  | .block _ c => fstReg c
  | .loop c => fstReg c
  | _ => 99999
def codeW : Code → (Ex → Sl → List Res → Prop) → Sl → List Res → Prop
  | .skip, Q, S, H => Q .normal S H
  | .seq x y, Q, S, H => match forks x with
    | false => codeW x (fun e S' H' => match e with
      | .normal => codeW y Q S' H'
      | .exit i => Q (.exit i) S' H'
      | .ret => Q .ret S' H') S H
    | true => SeqP (fstReg y) w0 X (fun Q' => codeW x Q' S H) (fun S' H' => codeW y Q S' H') Q
  | .cond c x y, Q, S, H => match c with
    | .tmp t => match look S t with
      | some (.bool b) => (b = true → codeW x Q ((t, .bool true) :: S) H) ∧ (b = false → codeW y Q ((t, .bool false) :: S) H)
      | _ => False
    | .const (.bool b) => (b = true → codeW x Q S H) ∧ (b = false → codeW y Q S H)
    | _ => False
  | .block i c, Q, S, H => codeW c (fun e S' H' => match e with
      | .normal => Q .normal S' H'
      | .exit j => match Nat.beq j i with
        | true => Q .normal S' H'
        | false => Q (.exit j) S' H'
      | .ret => Q .ret S' H') S H
  | .exit i, Q, S, H => Q (.exit i) S H
  | .ret, Q, S, H => Q .ret S H
  | .loop c, Q, S, H => LoopW w0 X (fun Q' S' H' => codeW c Q' S' H') Q S H
  | .region _ ops draw, Q, S, H => match draw with
    | false => match hasG ops.toList with
      | false => opsW P ty w0 X (fun j => (ops[j]?).bind (·.dst)) ops.toList S H fun S' H' => Q .normal S' H'
      | true => CondW P ty w0 X ops S H fun S' H' => Q .normal S' H'
    | true => DrawW P ty w0 X ops S H fun S' H' => Q .normal S' H'
  | _, _, _, _ => False
end
end Go.Proofs.Ytgjdmlgdgbehoaa.Am
