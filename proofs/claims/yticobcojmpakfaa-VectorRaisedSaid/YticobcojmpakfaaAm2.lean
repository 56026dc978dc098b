/- What code does to slots and to what is owned: a function of the code, that ends in a proposition; nothing is said of the world, nor of the order that a statement draws. -/
import Derived.Test.YticobcojmpakfaaAm1
set_option linter.unusedVariables false
namespace Go.Proofs.Yticobcojmpakfaa.Am
open Go Go.RowKit

/-- What a type is. -/
structure TD where
  d : TypeDesc
  size : Nat
  bytes : Nat
  zero : List Value
  parts : List (Nat × Nat) := []
def TyOk (P : Program) (ty : Nat → Option TD) : Prop :=
  ∀ t i, ty t = some i → P.underlying t = some i.d ∧ ∃ inf z, P.info? t = some inf ∧ inf.size = i.size ∧ inf.bytes = i.bytes ∧ inf.zero = some z ∧ z.cells = ⟨i.zero⟩ ∧ i.zero.length = i.size ∧
    ∀ fs, i.d = .struct fs → ∀ w, ((fs.mapM fun f => do pure (f.offset, ← sizeOf f.type)) : Sem (Array (Nat × Nat))).run P w = .ok (⟨i.parts⟩ : Array (Nat × Nat)) w

/-- Slots: the last written first. -/
abbrev Sl := List (Nat × Value)
def look : Sl → Nat → Option Value
  | [], _ => none
  | (k, v) :: r, t => match Nat.beq k t with
    | true => some v
    | false => look r t
def opd (S : Sl) : Operand → Option Value
  | .tmp t => look S t
  | .const v => some v
  | .global _ => none
  | .func f => some (.func (.func f) #[] #[])
def opds (S : Sl) : List Operand → Option (List Value)
  | [] => some []
  | x :: r => match opd S x, opds S r with
    | some v, some l => some (v :: l)
    | _, _ => none
def Agree (a : Act) (S : Sl) : Prop := ∀ t v, look S t = some v → a.tmps[t]? = some v

/-- Cells out of a list, the list's own form forced. -/
def takeK {β : Type} (dflt : β) : List Value → Nat → (List Value → β) → β
  | _, 0, k => k []
  | x :: r, n + 1, k => takeK dflt r n fun l => k (x :: l)
  | [], _ + 1, _ => dflt
def subK {β : Type} (dflt : β) : List Value → Nat → Nat → (List Value → β) → β
  | l, 0, n, k => takeK dflt l n k
  | _ :: r, o + 1, n, k => subK dflt r o n k
  | [], _ + 1, _, _ => dflt
/-- Cells put into a list, from a place on. -/
def overK {β : Type} (dflt : β) : List Value → List Value → (List Value → β) → β
  | l, [], k => k l
  | _ :: r, v :: vs, k => overK dflt r vs fun l => k (v :: l)
  | [], _ :: _, _ => dflt
def putK {β : Type} (dflt : β) : List Value → Nat → List Value → (List Value → β) → β
  | l, 0, vs, k => overK dflt l vs k
  | x :: r, o + 1, vs, k => putK dflt r o vs fun l => k (x :: l)
  | [], _ + 1, _, _ => dflt
/-- Lists joined, the list's own form forced. -/
def appK {β : Type} : List Value → List Value → (List Value → β) → β
  | [], m, k => k m
  | x :: l, m, k => appK l m fun r => k (x :: r)
theorem appK_eq {β : Type} : ∀ (l m : List Value) (k : List Value → β), appK l m k = k (l ++ m)
  | [], m, k => rfl
  | x :: l, m, k => by simp only [appK, List.cons_append]; exact appK_eq l m _
theorem takeK_eq {β : Type} (dflt : β) : ∀ (l : List Value) (n : Nat) (k : List Value → β), n ≤ l.length → takeK dflt l n k = k (l.take n)
  | _, 0, k, _ => by simp [takeK]
  | x :: r, n + 1, k, h => by simp only [takeK, List.take_succ_cons]; rw [takeK_eq dflt r n _ (by simpa using h)]
  | [], n + 1, _, h => by simp at h
theorem takeK_dflt {β : Type} (dflt : β) : ∀ (l : List Value) (n : Nat) (k : List Value → β), ¬ n ≤ l.length → takeK dflt l n k = dflt
  | _, 0, k, h => by simp at h
  | x :: r, n + 1, k, h => by simp only [takeK]; exact takeK_dflt dflt r n _ (by simpa using h)
  | [], n + 1, _, _ => rfl
theorem subK_eq {β : Type} (dflt : β) : ∀ (l : List Value) (o n : Nat) (k : List Value → β), o + n ≤ l.length → subK dflt l o n k = k ((l.drop o).take n)
  | l, 0, n, k, h => by simp only [subK, List.drop_zero]; exact takeK_eq dflt l n k (by omega)
  | x :: r, o + 1, n, k, h => by simp only [subK, List.drop_succ_cons]; exact subK_eq dflt r o n k (by simp at h; omega)
  | [], o + 1, n, k, h => by simp at h
theorem subK_dflt {β : Type} (dflt : β) : ∀ (l : List Value) (o n : Nat) (k : List Value → β), ¬ o + n ≤ l.length → subK dflt l o n k = dflt
  | l, 0, n, k, h => by simp only [subK]; exact takeK_dflt dflt l n k (by omega)
  | x :: r, o + 1, n, k, h => by simp only [subK]; exact subK_dflt dflt r o n k (by simp at h; omega)
  | [], o + 1, n, k, h => rfl
theorem overK_eq {β : Type} (dflt : β) : ∀ (l vs : List Value) (k : List Value → β), vs.length ≤ l.length → overK dflt l vs k = k (vs ++ l.drop vs.length)
  | l, [], k, _ => by simp [overK]
  | x :: r, v :: vs, k, h => by simp only [overK, List.length_cons, List.drop_succ_cons, List.cons_append]; rw [overK_eq dflt r vs _ (by simpa using h)]
  | [], v :: vs, _, h => by simp at h
theorem overK_dflt {β : Type} (dflt : β) : ∀ (l vs : List Value) (k : List Value → β), ¬ vs.length ≤ l.length → overK dflt l vs k = dflt
  | l, [], k, h => by simp at h
  | x :: r, v :: vs, k, h => by simp only [overK]; exact overK_dflt dflt r vs _ (by simpa using h)
  | [], v :: vs, _, _ => rfl
theorem putK_eq {β : Type} (dflt : β) : ∀ (l : List Value) (o : Nat) (vs : List Value) (k : List Value → β), o + vs.length ≤ l.length → putK dflt l o vs k = k (l.take o ++ vs ++ l.drop (o + vs.length))
  | l, 0, vs, k, h => by simp only [putK, List.take_zero, List.nil_append, Nat.zero_add]; exact overK_eq dflt l vs k (by omega)
  | x :: r, o + 1, vs, k, h => by
    simp only [putK, List.take_succ_cons, List.cons_append]
    rw [putK_eq dflt r o vs _ (by simp at h; omega), show o + 1 + vs.length = (o + vs.length) + 1 by omega, List.drop_succ_cons]
  | [], o + 1, vs, k, h => by simp at h
theorem putK_dflt {β : Type} (dflt : β) : ∀ (l : List Value) (o : Nat) (vs : List Value) (k : List Value → β), ¬ o + vs.length ≤ l.length → putK dflt l o vs k = dflt
  | l, 0, vs, k, h => by simp only [putK]; exact overK_dflt dflt l vs k (by omega)
  | x :: r, o + 1, vs, k, h => by simp only [putK]; exact putK_dflt dflt r o vs _ (by simp at h; omega)
  | [], o + 1, vs, k, h => rfl

/-- The list but for one thing of it. -/
inductive Hole : List Res → Res → (Res → List Res) → Prop
  | here {r : Res} {t : List Res} : Hole (r :: t) r (fun r' => r' :: t)
  | there {x r : Res} {t : List Res} {f : Res → List Res} : Hole t r f → Hole (x :: t) r (fun r' => x :: f r')
theorem Hole.upd {H : List Res} {r : Res} {f : Res → List Res} (h : Hole H r f) (r' : Res) : Upd H r r' (f r') := by
  induction h with
  | here => exact .here
  | there _ ih => exact .there ih

/-- A slice's value, as far as it is known: nothing, or the head of a block. -/
def IsRow (v : Value) (n : Nat) : Prop := (v = .slice none 0 0 ∧ n = 0) ∨ ∃ g cap, v = .slice (some ⟨g, 0, none⟩) n cap ∧ n ≤ cap

section
variable (P : Program) (ty : Nat → Option TD) (w0 : World) (X : List Nat)

/-- n cells from o on in block b are vs. -/
def Rd (H : List Res) (b o : Nat) (vs : List Value) : Prop := ∀ w, St w0 X H w → w.rangeAt b o vs

/-- A callee: what it hands back, and what is owned then. -/
def CallOk (f : FuncId) (args : List Value) (H : List Res) (R : Value → List Res → Prop) : Prop :=
  (∃ fn, P.funcs[f]? = some fn ∧ (fn.name == "runtime.NumGoroutine") = false ∧ fn.body.isNone = false) ∧
  ∀ w, St w0 X H w → Calls P f ⟨args⟩ w fun e w' => ∃ v H', e = .returned v ∧ R v H' ∧ St w0 X H' w'

/-- Any operation that is no call of a function with a body: by what its run does. -/
def EscW (o : Oper) (S : Sl) (H : List Res) (K : Value → List Res → Prop) : Prop :=
  ∃ R : Value → List Res → Prop, (∀ a w, Agree a S → St w0 X H w → ∃ v w' H', ((execOp a.eval o).run P w = .ok (.value v) w' ∨ (v = undef ∧ (execOp a.eval o).run P w = .ok .skip w')) ∧ R v H' ∧ St w0 X H' w') ∧ ∀ v H', R v H' → K v H'

/-- An operation that leaves the world alone: by what its run does. -/
def EscQ (o : Oper) (S : Sl) (H : List Res) (K : Value → Prop) : Prop :=
  ∃ v, (∀ a w, Agree a S → St w0 X H w → (execOp a.eval o).run P w = .ok (.value v) w) ∧ K v

/-- A variable's value out of cells. -/
def ofCells (d : TypeDesc) (vs : List Value) (k : Value → Prop) : Prop :=
  match d with
  | .struct _ | .array _ _ => k (.agg ⟨vs⟩)
  | _ => match vs with
    | [v] => k v
    | _ => False

def loadW (H : List Res) (b o : Nat) (i : TD) (k : Value → Prop) : Prop :=
  (∃ cs T, Res.blk b cs T ∈ H ∧ subK False cs o i.size fun vs => ofCells i.d vs k) ∨
  (∃ vs, Rd w0 X H b o vs ∧ vs.length = i.size ∧ ofCells i.d vs k)
def storeW (H : List Res) (b o : Nat) (i : TD) (v : Value) (k : List Res → Prop) : Prop :=
  match i.size with
  | 0 => v.cells.toList.length = 0 ∧ k H
  | n + 1 => ∃ cs T f, Hole H (.blk b cs T) f ∧ v.cells.toList.length = n + 1 ∧ (v.cells.toList.all (·.oneCell') = true) ∧ putK False cs o v.cells.toList fun cs' => k (f (.blk b cs' T))

/-- Bytes' cells, as numbers. -/
def mkS (l : List Int) : ByteArray := ⟨⟨l.map fun n => UInt8.ofNat n.toNat⟩⟩
inductive BytW (H : List Res) (b o n : Nat) (k : List Int → Prop) : Prop
  | mk (l : List Int) (hl : l.length = n) (hr : Rd w0 X H b o (l.map (Value.int .u8))) (hk : k l) : BytW H b o n k
/-- An append: of what is new (m elements from a place on), to nothing, to a row, to a block that is full. -/
inductive AppW (H : List Res) (e : Nat) (ei : TD) (b o m : Nat) (v : Value) (K : Value → List Res → Prop) : Prop
  | none (ms : List Value) (pos : 0 < ei.size) (hl : ms.length = m * ei.size) (hr : Rd w0 X H b o ms) (one : ms.all (·.oneCell') = true) (hv : v = .slice none 0 0) (h1 : m ≤ maxLen) (h2 : m * ei.bytes ≤ 140737488355328)
      (hk : ∀ A q, IsRow (.slice A m q) m → K (.slice A m q) (.row (.slice A m q) e ei.size m ms :: H)) : AppW H e ei b o m v K
  | row (ms : List Value) (pos : 0 < ei.size) (hl : ms.length = m * ei.size) (hr : Rd w0 X H b o ms) (one : ms.all (·.oneCell') = true) (n : Nat) (xs : List Value) (f : Res → List Res) (hf : Hole H (.row v e ei.size n xs) f) (h1 : n + m ≤ maxLen) (h2 : (n + m) * ei.bytes ≤ 140737488355328)
      (hk : ∀ A q, IsRow (.slice A (n + m) q) (n + m) → K (.slice A (n + m) q) (f (.row (.slice A (n + m) q) e ei.size (n + m) (xs ++ ms)))) : AppW H e ei b o m v K
  | blk (ms : List Value) (pos : 0 < ei.size) (hl : ms.length = m * ei.size) (hr : Rd w0 X H b o ms) (one : ms.all (·.oneCell') = true) (n g : Nat) (xs : List Value) (f : Res → List Res) (hf : Hole H (.blk g xs e) f) (hv : v = .slice (some ⟨g, 0, .none⟩) n n) (hn : xs.length = n * ei.size) (h1 : n + m ≤ maxLen) (h2 : (n + m) * ei.bytes ≤ 140737488355328)
      (hk : ∀ A q, IsRow (.slice A (n + m) q) (n + m) → K (.slice A (n + m) q) (f (.row (.slice A (n + m) q) e ei.size (n + m) (xs ++ ms)))) : AppW H e ei b o m v K
/-- Parts put into cells. -/
def fillK (place : Nat → Option (Nat × Nat)) (S : Sl) : List (Nat × Operand) → List Value → (List Value → Prop) → Prop
  | [], cs, k => k cs
  | (i, x) :: r, cs, k => match place i, opd S x with
    | some (off, sz), some v => v.cells.toList.length = sz ∧ putK False cs off v.cells.toList fun cs' => fillK place S r cs' k
    | _, _ => False

def intW (op : BinOp) (k : IntKind) (a b : Int) (K : Value → Prop) : Prop :=
  match op with
  | .add => K (.int k (k.wrap (a + b)))
  | .sub => K (.int k (k.wrap (a - b)))
  | .mul => K (.int k (k.wrap (a * b)))
  | .quo => b ≠ 0 ∧ K (.int k (k.wrap (a.tdiv b)))
  | .rem => b ≠ 0 ∧ K (.int k (a.tmod b))
  | .and => K (.int k (bits .and k a b))
  | .or => K (.int k (bits .or k a b))
  | .xor => K (.int k (bits .xor k a b))
  | .andNot => K (.int k (bits .andNot k a b))
  | .shl => 0 ≤ b ∧ K (.int k (k.wrap (a * 2 ^ min b.toNat k.bits)))
  | .shr => 0 ≤ b ∧ K (.int k (a.fdiv (2 ^ min b.toNat k.bits)))
  | .eql => K (.bool (decide (a = b)))
  | .neq => K (.bool (!decide (a = b)))
  | .lss => K (.bool (decide (a < b)))
  | .leq => K (.bool (decide (a ≤ b)))
  | .gtr => K (.bool (decide (b < a)))
  | .geq => K (.bool (decide (b ≤ a)))
def strW (op : BinOp) (a b : ByteArray) (K : Value → Prop) : Prop :=
  match op with
  | .add => a.size + b.size ≤ 9223372036854775807 ∧ K (.string (a ++ b))
  | .eql => K (.bool (decide (a = b)))
  | .neq => K (.bool (!decide (a = b)))
  | .lss => K (.bool (Op.bytesLess a.data.toList b.data.toList))
  | _ => False

/-- One operation that leaves the world alone. -/
def pureW (o : Oper) (S : Sl) (H : List Res) (K : Value → Prop) : Prop :=
  match o.op with
  | .move x => match opd S x with
    | some v => K v
    | none => False
  | .assign x => match opd S x with
    | some v => K v
    | none => False
  | .pick c x y => match opd S c with
    | some (.bool t) => match t with
      | true => match opd S x with
        | some v => K v
        | none => False
      | false => match opd S y with
        | some v => K v
        | none => False
    | _ => False
  | .build t ps => match ty t with
    | some i => match i.d with
      | .struct _ => fillK (fun j => i.parts[j]?) S ps.toList i.zero fun cs => K (.agg ⟨cs⟩)
      | .array _ e => match ty e with
        | some ei => fillK (fun j => some (j * ei.size, ei.size)) S ps.toList i.zero fun cs => K (.agg ⟨cs⟩)
        | none => False
      | _ => False
    | none => False
  | .load t x => match opd S x, ty t with
    | some (.pointer (some ⟨b, o, none⟩)), some i => loadW w0 X H b o i K
    | _, _ => False
  | .nilCheck x => match opd S x with
    | some (.pointer (some ad)) => K (.pointer (some ad))
    | some (.func (.func f) u v) => K (.func (.func f) u v)
    | _ => False
  | .binOp op t x y _ => match opd S x, opd S y with
    | some (.int k a), some (.int k' b) => match op with
      | .shl => intW .shl k a b K
      | .shr => intW .shr k a b K
      | op => k = k' ∧ intW op k a b K
    | some (.string a), some (.string b) => strW op a b K
    | _, _ => EscQ P w0 X o S H K
  | .unOp op _ x => match op, opd S x with
    | .not, some (.bool b) => K (.bool (!b))
    | .neg, some (.int k n) => K (.int k (k.wrap (0 - n)))
    | _, _ => EscQ P w0 X o S H K
  | .convert s d x => match opd S x, ty s, ty d with
    | some (.int k n), some _, some i => match i.d with
      | .int k' => K (.int k' (k'.wrap n))
      | _ => False
    | some (.slice (some ⟨b, q, none⟩) n _), some si, some di => match si.d, di.d with
      | .slice e, .string => match ty e with
        | some ei => match ei.d with
          | .int .u8 => BytW w0 X H b q n fun l => K (.string (mkS l))
          | _ => EscQ P w0 X o S H K
        | none => False
      | _, _ => EscQ P w0 X o S H K
    | _, _, _ => EscQ P w0 X o S H K
  | .makeFunc fn first caps => match opds S first.toList, opds S caps.toList with
    | some a, some b => K (.func fn ⟨a⟩ ⟨b⟩)
    | _, _ => False
  | .field t x f => match opd S x, ty t with
    | some (.agg cs), some i => match i.d with
      | .struct fs => match fs.toList[f]? with
        | some fl => match ty fl.type with
          | some fi => subK False cs.toList fl.offset fi.size fun vs => ofCells fi.d vs K
          | none => False
        | none => False
      | _ => False
    | _, _ => False
  | .extract x n => match opd S x with
    | some (.tuple vs) => match vs.toList[n]? with
      | some v => K v
      | none => False
    | _ => False
  | .fieldAddr t x f => match opd S x, ty t with
    | some (.pointer (some ⟨b, o, none⟩)), some i => match i.d with
      | .struct fs => match fs.toList[f]? with
        | some fl => match ty fl.type with
          | some fi => match fi.size with
            | 0 => False
            | _ + 1 => K (.pointer (some ⟨b, o + fl.offset, none⟩))
          | none => False
        | none => False
      | _ => False
    | _, _ => False
  | .indexAddr t x j => match opd S x, opd S j, ty t with
    | some (.slice (some ⟨b, o, none⟩) n _), some (.int _ q), some i => match i.d with
      | .slice e => match ty e with
        | some ei => (0 ≤ q ∧ q < (n : Int)) ∧ match ei.size with
          | 1 => K (.pointer (some ⟨b, o + q.toNat, none⟩))
          | s => K (.pointer (some ⟨b, o + q.toNat * s, none⟩))
        | none => False
      | _ => False
    | some (.pointer (some ⟨b, o, none⟩)), some (.int _ q), some i => match i.d with
      | .array n e => match ty e with
        | some ei => (0 ≤ q ∧ q < (n : Int)) ∧ match ei.size with
          | 1 => K (.pointer (some ⟨b, o + q.toNat, none⟩))
          | s => K (.pointer (some ⟨b, o + q.toNat * s, none⟩))
        | none => False
      | _ => False
    | _, _, _ => False
  | .index t x j => match opd S x, opd S j, ty t with
    | some (.string s), some (.int _ q), some i => match i.d with
      | .string => ∃ h : 0 ≤ q ∧ q.toNat < s.size, K (.int .u8 ((s[q.toNat]'h.2).toNat : Int))
      | _ => False
    | some (.agg cs), some (.int _ q), some i => match i.d with
      | .array n e => match ty e with
        | some ei => (0 ≤ q ∧ q < (n : Int)) ∧ subK False cs.toList (q.toNat * ei.size) ei.size fun vs => ofCells ei.d vs K
        | none => False
      | _ => False
    | _, _, _ => False
  | .slice t x lo hi none => match ty t, opd S x with
    | some i, some (.string s) => match i.d with
      | .string => match (match lo with | none => some (Value.int .i64 0) | some y => opd S y), (match hi with | none => some (Value.int .i64 s.size) | some y => opd S y) with
        | some (.int _ l), some (.int _ h) => (0 ≤ l ∧ l ≤ h ∧ h ≤ (s.size : Int)) ∧ K (.string (s.extract l.toNat h.toNat))
        | _, _ => False
      | _ => False
    | some i, some (.pointer (some ⟨b, q, none⟩)) => match lo, hi, i.d with
      | none, none, .array n e => match ty e with
        | some _ => K (.slice (some ⟨b, q, none⟩) n n)
        | none => False
      | _, _, _ => EscQ P w0 X o S H K
    | _, _ => EscQ P w0 X o S H K
  | .call c => match c.callee with
    | .builtin .min => match opds S c.args.toList with
      | some [.int k a, .int _ b] => K (.int k (if b < a then b else a))
      | _ => EscQ P w0 X o S H K
    | .builtin .max => match opds S c.args.toList with
      | some [.int k a, .int _ b] => K (.int k (if a < b then b else a))
      | _ => EscQ P w0 X o S H K
    | .builtin .len => match c.args.toList, c.argTypes.toList with
      | [x], [t] => match ty t, opd S x with
        | some i, some v => match i.d with
          | .string => match v with
            | .string s => K (.int .i64 s.size)
            | _ => False
          | .slice _ => match v with
            | .slice _ n _ => K (.int .i64 n)
            | _ => False
          | _ => EscQ P w0 X o S H K
        | _, _ => False
      | _, _ => False
    | .builtin _ => EscQ P w0 X o S H K
    | _ => False
  | _ => False

/-- One operation. -/
def opW (o : Oper) (S : Sl) (H : List Res) (K : Value → List Res → Prop) : Prop :=
  match o.op with
  | .alloc e => match ty e with
    | some i => ∀ b, K (.pointer (some ⟨b, 0, none⟩)) (.blk b i.zero e :: H)
    | none => False
  | .box e x => match opd S x with
    | some v => ∀ b, K (.pointer (some ⟨b, 0, none⟩)) (.blk b v.cells.toList e :: H)
    | none => False
  | .store t x y => match opd S x, opd S y, ty t with
    | some (.pointer (some ⟨b, o, none⟩)), some v, some i => storeW H b o i v fun H' => K undef H'
    | _, _, _ => False
  | .convert s d x => match opd S x with
    | some (.int _ _) => pureW P ty w0 X o S H fun v => K v H
    | some (.string a) => match ty s, ty d with
      | some si, some di => match si.d, di.d with
        | .string, .slice e => match ty e with
          | some ei => match ei.d with
            | .int .u8 => ∀ b q, K (.slice (some ⟨b, 0, none⟩) a.size q) (.byt b a q e :: H)
            | _ => EscW P w0 X o S H K
          | none => False
        | _, _ => EscW P w0 X o S H K
      | _, _ => False
    | some (.slice _ _ _) => pureW P ty w0 X o S H fun v => K v H
    | _ => EscW P w0 X o S H K
  | .buildSlice t n ps => match ty t with
    | some i => match i.d with
      | .slice e => match ty e with
        | some ei => n * ei.size ≤ 16777216 ∧ fillK (fun j => some (j * ei.size, ei.size)) S ps.toList ((List.range (n * ei.size)).map fun j => ei.zero.getD (j % ei.size) undef) fun cs => ∀ b, K (.slice (some ⟨b, 0, none⟩) n n) (.blk b cs e :: H)
        | none => False
      | _ => False
    | none => False
  | .call c => match c.callee with
    | .builtin .len => pureW P ty w0 X o S H fun v => K v H
    | .builtin .min => pureW P ty w0 X o S H fun v => K v H
    | .builtin .max => pureW P ty w0 X o S H fun v => K v H
    | .builtin .append => match c.args.toList, c.argTypes.toList with
      | [x, y], [t, t'] => match ty t, opd S x, opd S y with
        | some i, some v, some (.slice (some ⟨b, o, none⟩) m _) => match i.d with
          | .slice e => match ty e with
            | some ei => t = t' ∧ AppW w0 X H e ei b o m v K
            | none => False
          | _ => False
        | _, _, _ => EscW P w0 X o S H K
      | _, _ => False
    | .value fo => match opd S fo, opds S c.args.toList with
      | some (.func (.func f) first caps), some args => appK args caps.toList fun l => appK first.toList l fun l => ∃ R, CallOk P w0 X f l H R ∧ ∀ v H', R v H' → K v H'
      | _, _ => False
    | _ => EscW P w0 X o S H K
  | .makeMap .. => EscW P w0 X o S H K
  | .mapUpdate .. => EscW P w0 X o S H K
  | .lookup .. => EscW P w0 X o S H K
  | .makeSlice .. => EscW P w0 X o S H K
  | .range .. => EscW P w0 X o S H K
  | .next .. => EscW P w0 X o S H K
  | .entry .. => EscW P w0 X o S H K
  | _ => pureW P ty w0 X o S H fun v => K v H

/-- Operations in the text's order. g: where each operation's value lies, for guards. -/
def opsW (g : Nat → Option Nat) : List Oper → Sl → List Res → (Sl → List Res → Prop) → Prop
  | [], S, H, K => K S H
  | o :: r, S, H, K => match o.guard with
    | none => opW P ty w0 X o S H fun v H' => match o.dst with
      | some d => opsW g r ((d, v) :: S) H' K
      | none => opsW g r S H' K
    | some (j, want) => match g j with
      | some t => match look S t with
        | some (.bool b) =>
          (b = want → opW P ty w0 X o ((t, .bool want) :: S) H fun v H' => match o.dst with
            | some d => opsW g r ((d, v) :: (t, .bool want) :: S) H' K
            | none => opsW g r ((t, .bool want) :: S) H' K) ∧
          (b = !want → match o.dst with
            | some d => opsW g r ((d, undef) :: (t, .bool !want) :: S) H K
            | none => opsW g r ((t, .bool !want) :: S) H K)
        | some (.tuple _) => match o.dst with
          | some d => opsW g r ((d, undef) :: S) H K
          | none => opsW g r S H K
        | _ => False
      | none => False

/-- A callee that only reads, and makes memory of its own. -/
def QCall (f : FuncId) (args : List Value) (H : List Res) (v : Value) : Prop :=
  (∃ fn, P.funcs[f]? = some fn ∧ (fn.name == "runtime.NumGoroutine") = false ∧ fn.body.isNone = false) ∧
  ∀ w, St w0 X H w → Calls P f ⟨args⟩ w fun e w' => e = .returned v ∧ Below w.heap.size w w'
/-- One operation that leaves what is owned alone. -/
def quietW (o : Oper) (S : Sl) (H : List Res) (K : Value → Prop) : Prop :=
  match o.op with
  | .call c => match c.callee with
    | .value fo => match opd S fo, opds S c.args.toList with
      | some (.func (.func f) first caps), some args => appK args caps.toList fun l => appK first.toList l fun l => ∃ v, QCall P w0 X f l H v ∧ K v
      | _, _ => False
    | _ => pureW P ty w0 X o S H K
  | _ => pureW P ty w0 X o S H K
/-- An operation that makes a block of its own. -/
def isA (o : Oper) : Bool := match o.guard, o.dst, o.op with
  | none, some _, .alloc _ => true
  | none, some _, .box _ _ => true
  | _, _, _ => false
/-- Of a statement that draws its order: what only reads. -/
def quietsW (g : Nat → Option Nat) : List Oper → Sl → List Res → (Sl → Prop) → Prop
  | [], S, _, K => K S
  | o :: r, S, H, K => match isA o with
    | true => quietsW g r S H K
    | false => match o.guard with
      | none => quietW P ty w0 X o S H fun v => match o.dst with
        | some d => quietsW g r ((d, v) :: S) H K
        | none => quietsW g r S H K
      | some (j, want) => match g j with
        | some t => match look S t with
          | some (.bool b) =>
            (b = want → quietW P ty w0 X o ((t, .bool want) :: S) H fun v => match o.dst with
              | some d => quietsW g r ((d, v) :: (t, .bool want) :: S) H K
              | none => quietsW g r ((t, .bool want) :: S) H K) ∧
            (b = !want → match o.dst with
              | some d => quietsW g r ((d, undef) :: (t, .bool !want) :: S) H K
              | none => quietsW g r ((t, .bool !want) :: S) H K)
          | some (.tuple _) => match o.dst with
            | some d => quietsW g r ((d, undef) :: S) H K
            | none => quietsW g r S H K
          | _ => False
        | none => False
/-- What makes blocks. -/
def allocsW : List Oper → Sl → List Res → (Sl → List Res → Prop) → Prop
  | [], S, H, K => K S H
  | o :: r, S, H, K => match isA o with
    | true => match o.dst, o.op with
      | some d, .alloc e => match ty e with
        | some i => ∀ b, allocsW r ((d, .pointer (some ⟨b, 0, none⟩)) :: S) (.blk b i.zero e :: H) K
        | none => False
      | some d, .box e x => match opd S x with
        | some v => ∀ b, allocsW r ((d, .pointer (some ⟨b, 0, none⟩)) :: S) (.blk b v.cells.toList e :: H) K
        | none => False
      | _, _ => False
    | false => allocsW r S H K
/-- May the first n operations come in the order: what reads, then what makes blocks; do all others wait for all ahead of them? -/
def lexOrd (ops : Array Oper) (n : Nat) : List Nat → Array Bool → Bool
  | [], listed => (List.range n).all fun j => listed.getD j false
  | i :: r, listed => Nat.blt i n && (Region.ready .any ops listed).contains i && Region.free .any ops listed i && lexOrd ops n r (listed.setIfInBounds i true)
/-- Does j wait for i, by way of others too? -/
inductive Waits (ops : Array Oper) : Nat → Nat → Prop
  | one {j : Nat} {o : Oper} {e : Edge} (ho : ops[j]? = some o) (he : e ∈ o.after) (hb : Region.binds .any e = true) : Waits ops j e.on
  | more {j i : Nat} {o : Oper} {e : Edge} (ho : ops[j]? = some o) (he : e ∈ o.after) (hb : Region.binds .any e = true) (h : Waits ops e.on i) : Waits ops j i
/-- For each operation those that it waits for, as bits. -/
def maskOf (acc : List Nat) (es : List Edge) : Nat := es.foldl (fun s e => if Region.binds .any e then s ||| (2 ^ e.on ||| acc.getD e.on 0) else s) 0
def masks (l : List Oper) : List Nat := l.foldl (fun acc o => acc ++ [maskOf acc o.after.toList]) []
def ordOf (ops : Array Oper) (n : Nat) : List Nat :=
  ((List.range n).filter fun i => !((ops[i]?).map isA).getD false) ++ ((List.range n).filter fun i => ((ops[i]?).map isA).getD false)
def drawOk (ops : Array Oper) (n : Nat) : Bool :=
  Region.noSelect ops && Nat.ble n ops.size && ((ordOf ops n).length == n) &&
  ((List.range ops.size).all fun j => Nat.blt j n || (((List.range j).all fun i => Nat.testBit ((masks ops.toList).getD j 0) i) &&
    ((ops[j]?).map fun o => o.after.all fun e => !Region.binds .any e || Nat.blt e.on j).getD false)) &&
  lexOrd ops n (ordOf ops n) (Array.replicate ops.size false)
/-- A statement that draws its order. -/
inductive DrawW (ops : Array Oper) (S : Sl) (H : List Res) (K : Sl → List Res → Prop) : Prop
  | mk (n : Nat) (ok : drawOk ops n = true) (h : quietsW P ty w0 X (fun j => (ops[j]?).bind (·.dst)) (ops.toList.take n) S H fun S1 => allocsW ty (ops.toList.take n) S1 H fun S2 H2 => opsW P ty w0 X (fun j => (ops[j]?).bind (·.dst)) (ops.toList.drop n) S2 H2 K) : DrawW ops S H K

inductive Ex where
  | normal
  | exit (id : Nat)
  | ret

/-- Slots and memory that are part of what is there. -/
def SubS : Sl → Sl → Prop
  | [], _ => True
  | (t, v) :: r, S => look S t = some v ∧ SubS r S

/-- Behind a round: what holds at a round's head, with less to go. -/
inductive Again {σ : Type} (I : σ → Sl → List Res → Prop) (μ : σ → Nat) (s : σ) (S : Sl) (H : List Res) : Prop
  | mk (s' : σ) (S2 : Sl) (H2 : List Res) (lt : μ s' < μ s) (inv : I s' S2 H2) (sub : SubS S2 S) (keep : H2.Sublist H) : Again I μ s S H
/-- A loop. -/
inductive LoopW (body : (Ex → Sl → List Res → Prop) → Sl → List Res → Prop) (Q : Ex → Sl → List Res → Prop) (S : Sl) (H : List Res) : Prop
  | mk (σ : Type) (I : σ → Sl → List Res → Prop) (μ : σ → Nat) (s : σ) (S1 : Sl) (H1 : List Res) (inv : I s S1 H1) (sub : SubS S1 S) (keep : H1.Sublist H)
      (round : ∀ s S1 H1, I s S1 H1 → body (fun e S' H' => match e with
        | .normal => Again I μ s S' H'
        | .exit j => Q (.exit j) S' H'
        | .ret => Q .ret S' H') S1 H1) : LoopW body Q S H

def codeW : Code → (Ex → Sl → List Res → Prop) → Sl → List Res → Prop
  | .skip, Q, S, H => Q .normal S H
  | .seq x y, Q, S, H => codeW x (fun e S' H' => match e with
      | .normal => codeW y Q S' H'
      | .exit i => Q (.exit i) S' H'
      | .ret => Q .ret S' H') S H
  | .cond c x y, Q, S, H => match c with
    | .tmp t => match look S t with
      | some (.bool b) => (b = true → codeW x Q ((t, .bool true) :: S) H) ∧ (b = false → codeW y Q ((t, .bool false) :: S) H)
      | _ => False
    | _ => False
  | .block i c, Q, S, H => codeW c (fun e S' H' => match e with
      | .normal => Q .normal S' H'
      | .exit j => match Nat.beq j i with
        | true => Q .normal S' H'
        | false => Q (.exit j) S' H'
      | .ret => Q .ret S' H') S H
  | .exit i, Q, S, H => Q (.exit i) S H
  | .ret, Q, S, H => Q .ret S H
  | .loop c, Q, S, H => LoopW (fun Q' S' H' => codeW c Q' S' H') Q S H
  | .region _ ops draw, Q, S, H => match draw with
    | false => opsW P ty w0 X (fun j => (ops[j]?).bind (·.dst)) ops.toList S H fun S' H' => Q .normal S' H'
    | true => DrawW P ty w0 X ops S H fun S' H' => Q .normal S' H'
  | _, _, _, _ => False
end
end Go.Proofs.Yticobcojmpakfaa.Am
