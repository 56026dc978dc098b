/- The function of the code once more, by recursors alone: the kernel and the elaborator reduce it to the same terms. -/
import Derived.Test.YtgjdmlgdgbehoaaAm12
set_option linter.unusedVariables false
set_option linter.unusedSimpArgs false
namespace Go.Proofs.Ytgjdmlgdgbehoaa.Am
open Go Go.RowKit
/-- One of two, by a guard's value. -/
def selP (b want : Bool) (A B : Prop) : Prop := match b with
  | true => match want with
    | true => A
    | false => B
  | false => match want with
    | true => B
    | false => A
theorem selP_eq (b want : Bool) (A B : Prop) : selP b want A B = ((b = want → A) ∧ (b = !want → B)) := by cases b <;> cases want <;> simp [selP]
theorem selSplit {b want : Bool} {A B : Prop} (h1 : b = true → selP true want A B) (h2 : b = false → selP false want A B) : selP b want A B := by
  cases b
  · exact h2 rfl
  · exact h1 rfl
/-- A condition. -/
def condP (b : Bool) (A B : Prop) : Prop := match b with
  | true => A
  | false => B
theorem condP_eq (b : Bool) (A B : Prop) : condP b A B = ((b = true → A) ∧ (b = false → B)) := by cases b <;> simp [condP]
theorem condSplit {b : Bool} {A B : Prop} (h1 : b = true → A) (h2 : b = false → B) : condP b A B := by
  cases b
  · exact h2 rfl
  · exact h1 rfl
/-- A thing's place in a list, for a quick search. -/
inductive Has : List Res → Res → Prop
  | here {r : Res} {t : List Res} : Has (r :: t) r
  | there {x r : Res} {t : List Res} : Has t r → Has (x :: t) r
theorem memHas {H : List Res} {r : Res} (h : Has H r) : r ∈ H := by
  induction h with
  | here => exact List.mem_cons_self
  | there _ ih => exact List.mem_cons_of_mem _ ih
theorem clash {b : Bool} (h : b = false) (h' : b = true) : False := by rw [h] at h'; cases h'
section
variable (P : Program) (ty : Nat → Option TD) (w0 : World) (X : List Nat)
def opsR (g : Nat → Option Nat) (l : List Oper) : Sl → List Res → (Sl → List Res → Prop) → Prop :=
  List.rec (motive := fun _ => Sl → List Res → (Sl → List Res → Prop) → Prop) (fun S H K => K S H) (fun o _ ih S H K => match o.guard with
    | none => opW P ty w0 X o S H fun v H' => match o.dst with
      | some d => ih ((d, v) :: S) H' K
      | none => ih S H' K
    | some (j, want) => match g j with
      | some t => match look S t with
        | some (.bool b) => selP b want
          (opW P ty w0 X o ((t, .bool want) :: S) H fun v H' => match o.dst with
            | some d => ih ((d, v) :: (t, .bool want) :: S) H' K
            | none => ih ((t, .bool want) :: S) H' K)
          (match o.dst with
            | some d => ih ((d, undef) :: (t, .bool !want) :: S) H K
            | none => ih ((t, .bool !want) :: S) H K)
        | some (.tuple _) => match o.dst with
          | some d => ih ((d, undef) :: S) H K
          | none => ih S H K
        | _ => False
      | none => False) l
theorem opsR_eq (g : Nat → Option Nat) : ∀ (l : List Oper), opsR P ty w0 X g l = opsW P ty w0 X g l
  | [] => rfl
  | o :: r => by
    funext S H K
    have ih := opsR_eq g r
    show (match o.guard with
      | none => opW P ty w0 X o S H fun v H' => match o.dst with
        | some d => opsR P ty w0 X g r ((d, v) :: S) H' K
        | none => opsR P ty w0 X g r S H' K
      | some (j, want) => match g j with
        | some t => match look S t with
          | some (.bool b) => selP b want
            (opW P ty w0 X o ((t, .bool want) :: S) H fun v H' => match o.dst with
              | some d => opsR P ty w0 X g r ((d, v) :: (t, .bool want) :: S) H' K
              | none => opsR P ty w0 X g r ((t, .bool want) :: S) H' K)
            (match o.dst with
              | some d => opsR P ty w0 X g r ((d, undef) :: (t, .bool !want) :: S) H K
              | none => opsR P ty w0 X g r ((t, .bool !want) :: S) H K)
          | some (.tuple _) => match o.dst with
            | some d => opsR P ty w0 X g r ((d, undef) :: S) H K
            | none => opsR P ty w0 X g r S H K
          | _ => False
        | none => False) = _
    rw [ih]
    simp only [opsW, selP_eq]
    rfl
def stepR (g : Nat → Option Nat) (o : Oper) (S : Sl) (op : Sl → (Value → List Res → Prop) → Prop) (H : List Res) (K : Sl → List Res → Prop) : Prop :=
  match o.guard with
  | none => op S fun v H' => match o.dst with
    | some d => K ((d, v) :: S) H'
    | none => K S H'
  | some (j, want) => match g j with
    | some t => match look S t with
      | some (.bool b) => selP b want
        (op ((t, .bool want) :: S) fun v H' => match o.dst with
          | some d => K ((d, v) :: (t, .bool want) :: S) H'
          | none => K ((t, .bool want) :: S) H')
        (match o.dst with
          | some d => K ((d, undef) :: (t, .bool !want) :: S) H
          | none => K ((t, .bool !want) :: S) H)
      | some (.tuple _) => match o.dst with
        | some d => K ((d, undef) :: S) H
        | none => K S H
      | _ => False
    | none => False
theorem stepR_eq (g : Nat → Option Nat) (o : Oper) (S : Sl) (op : Sl → (Value → List Res → Prop) → Prop) (H : List Res) (K : Sl → List Res → Prop) : stepR g o S op H K = stepW g o S op H K := by
  unfold stepR stepW
  simp only [selP_eq]
  rfl
/-- What a tree's orders come to. -/
def treeR (ops : Array Oper) (g : Nat → Option Nat) (Hc : List Res) (t : OTree) : Sl → List Res → (Sl → List Res → Prop) → Prop :=
  treeG (fun o Hi S H K => stepR g o S (fun S' k => quietW P ty w0 X o S' Hi fun v => k v H) H fun S' _ => K S') (fun o S H K => allocW ty o S H K) (fun o S H K => stepR g o S (fun S' k => opW P ty w0 X o S' H k) H K) ops Hc t
theorem treeR_eq (ops : Array Oper) (g : Nat → Option Nat) (Hc : List Res) (t : OTree) : treeR P ty w0 X ops g Hc t = treeW P ty w0 X ops g Hc t := by
  unfold treeR treeW
  simp only [stepR_eq]
/-- A statement that draws its order. -/
inductive DrawR (ops : Array Oper) (S : Sl) (H : List Res) (K : Sl → List Res → Prop) : Prop
  | mk (Hc : List Res) (t : OTree) (ok : drawOk ops t = true) (sub : SubL Hc H) (h : treeR P ty w0 X ops (fun j => (ops[j]?).bind (·.dst)) Hc t S H K) : DrawR ops S H K
  | mkC (Hc : List Res) (t : OTree) (ok : drawOk ops t = true) (dist : (distB ops && guardB ops) = true) (sub : SubL Hc H) (h : treeC P ty w0 X ops (fun j => (ops[j]?).bind (·.dst)) Hc t (S, []) H fun s H' => K s.1 H') : DrawR ops S H K
theorem DrawR_eq (ops : Array Oper) (S : Sl) (H : List Res) (K : Sl → List Res → Prop) : DrawR P ty w0 X ops S H K = DrawW P ty w0 X ops S H K := by
  refine propext ⟨fun h => ?_, fun h => ?_⟩
  · cases h with
    | mk Hc t ok sub h => rw [treeR_eq] at h; exact .mk Hc t ok sub h
    | mkC Hc t ok dist sub h => exact .mkC Hc t ok dist sub h
  · cases h with
    | mk Hc t ok sub h => refine .mk Hc t ok sub ?_; rw [treeR_eq]; exact h
    | mkC Hc t ok dist sub h => exact .mkC Hc t ok dist sub h
/-- Operations in the text's order, with guards. -/
inductive CondR (ops : Array Oper) (S : Sl) (H : List Res) (K : Sl → List Res → Prop) : Prop
  | split (h : opsR P ty w0 X (fun j => (ops[j]?).bind (·.dst)) ops.toList S H K) : CondR ops S H K
  | mk (dist : (distB ops && guardB ops) = true) (h : opsC P ty w0 X (fun j => (ops[j]?).bind (·.dst)) ops.toList S [] H K) : CondR ops S H K
theorem CondR_eq (ops : Array Oper) (S : Sl) (H : List Res) (K : Sl → List Res → Prop) : CondR P ty w0 X ops S H K = CondW P ty w0 X ops S H K := by
  refine propext ⟨fun h => ?_, fun h => ?_⟩
  · cases h with
    | split h => rw [opsR_eq] at h; exact .split h
    | mk d h => exact .mk d h
  · cases h with
    | split h => refine .split ?_; rw [opsR_eq]; exact h
    | mk d h => exact .mk d h
def codeR (c : Code) : (Ex → Sl → List Res → Prop) → Sl → List Res → Prop :=
  Code.rec (motive := fun _ => (Ex → Sl → List Res → Prop) → Sl → List Res → Prop)
    (fun Q S H => Q .normal S H)
    (fun _ ops draw Q S H => match draw with
      | false => match hasG ops.toList with
        | false => opsR P ty w0 X (fun j => (ops[j]?).bind (·.dst)) ops.toList S H fun S' H' => Q .normal S' H'
        | true => CondR P ty w0 X ops S H fun S' H' => Q .normal S' H'
      | true => DrawR P ty w0 X ops S H fun S' H' => Q .normal S' H')
    (fun x y ihx ihy Q S H => match forks x with
      | false => ihx (fun e S' H' => match e with
        | .normal => ihy Q S' H'
        | .exit i => Q (.exit i) S' H'
        | .ret => Q .ret S' H') S H
      | true => SeqP (fstReg y) w0 X (fun Q' => ihx Q' S H) (fun S' H' => ihy Q S' H') Q)
    (fun c _ _ ihx ihy Q S H => match c with
      | .tmp t => match look S t with
        | some (.bool b) => condP b (ihx Q ((t, .bool true) :: S) H) (ihy Q ((t, .bool false) :: S) H)
        | _ => False
      | .const (.bool b) => condP b (ihx Q S H) (ihy Q S H)
      | _ => False)
    (fun i _ ih Q S H => ih (fun e S' H' => match e with
      | .normal => Q .normal S' H'
      | .exit j => match Nat.beq j i with
        | true => Q .normal S' H'
        | false => Q (.exit j) S' H'
      | .ret => Q .ret S' H') S H)
    (fun _ ih Q S H => LoopW w0 X (fun Q' S' H' => ih Q' S' H') Q S H)
    (fun _ _ _ _ _ _ _ _ _ => False)
    (fun i Q S H => Q (.exit i) S H)
    (fun _ _ _ _ _ => False)
    (fun _ _ _ _ => False)
    (fun _ _ _ _ => False)
    (fun Q S H => Q .ret S H)
    (fun _ _ _ _ => False) c
theorem codeR_eq : ∀ (c : Code), codeR P ty w0 X c = codeW P ty w0 X c
  | .skip => by funext Q S H; simp only [codeW]; rfl
  | .region i ops draw => by
    funext Q S H
    show (match draw with
      | false => match hasG ops.toList with
        | false => opsR P ty w0 X (fun j => (ops[j]?).bind (·.dst)) ops.toList S H fun S' H' => Q .normal S' H'
        | true => CondR P ty w0 X ops S H fun S' H' => Q .normal S' H'
      | true => DrawR P ty w0 X ops S H fun S' H' => Q .normal S' H') = _
    rw [opsR_eq, DrawR_eq, CondR_eq]; simp only [codeW]; rfl
  | .seq x y => by
    funext Q S H
    have ihx := codeR_eq x
    have ihy := codeR_eq y
    show (match forks x with
      | false => codeR P ty w0 X x (fun e S' H' => match e with
        | .normal => codeR P ty w0 X y Q S' H'
        | .exit i => Q (.exit i) S' H'
        | .ret => Q .ret S' H') S H
      | true => SeqP (fstReg y) w0 X (fun Q' => codeR P ty w0 X x Q' S H) (fun S' H' => codeR P ty w0 X y Q S' H') Q) = _
    rw [ihx, ihy]; simp only [codeW]; rfl
  | .cond c x y => by
    funext Q S H
    have ihx := codeR_eq x
    have ihy := codeR_eq y
    show (match c with
      | .tmp t => match look S t with
        | some (.bool b) => condP b (codeR P ty w0 X x Q ((t, .bool true) :: S) H) (codeR P ty w0 X y Q ((t, .bool false) :: S) H)
        | _ => False
      | .const (.bool b) => condP b (codeR P ty w0 X x Q S H) (codeR P ty w0 X y Q S H)
      | _ => False) = _
    rw [ihx, ihy]; simp only [codeW, condP_eq]; rfl
  | .block i c => by
    funext Q S H
    have ih := codeR_eq c
    show (codeR P ty w0 X c (fun e S' H' => match e with
      | .normal => Q .normal S' H'
      | .exit j => match Nat.beq j i with
        | true => Q .normal S' H'
        | false => Q (.exit j) S' H'
      | .ret => Q .ret S' H') S H) = _
    rw [ih]; simp only [codeW]
    rfl
  | .loop c => by
    funext Q S H
    have ih := codeR_eq c
    show LoopW w0 X (fun Q' S' H' => codeR P ty w0 X c Q' S' H') Q S H = _
    rw [ih]; simp only [codeW]
  | .rangeFunc f ps a b => by funext Q S H; simp only [codeW]; rfl
  | .exit i => by funext Q S H; simp only [codeW]; rfl
  | .scope b => by funext Q S H; simp only [codeW]; rfl
  | .label l => by funext Q S H; simp only [codeW]; rfl
  | .goto l => by funext Q S H; simp only [codeW]; rfl
  | .ret => by funext Q S H; simp only [codeW]; rfl
  | .refuse y => by funext Q S H; simp only [codeW]; rfl
def resR (rs : List ResultVar) : Sl → List Res → (List Value → Prop) → Prop :=
  List.rec (motive := fun _ => Sl → List Res → (List Value → Prop) → Prop) (fun _ _ K => K []) (fun x _ ih S H K => match x with
    | .tmp t => match look S t with
      | some v => ih S H fun l => K (v :: l)
      | none => False
    | .cell a t => match look S a, ty t with
      | some (.pointer (some ⟨b, o, none⟩)), some i => loadW w0 X H b o i fun v => ih S H fun l => K (v :: l)
      | _, _ => False) rs
theorem resR_eq : ∀ (rs : List ResultVar), resR ty w0 X rs = fun S H K => resW ty w0 X S H rs K
  | [] => rfl
  | x :: r => by
    funext S H K
    have ih := resR_eq r
    show (match x with
      | .tmp t => match look S t with
        | some v => resR ty w0 X r S H fun l => K (v :: l)
        | none => False
      | .cell a t => match look S a, ty t with
        | some (.pointer (some ⟨b, o, none⟩)), some i => loadW w0 X H b o i fun v => resR ty w0 X r S H fun l => K (v :: l)
        | _, _ => False) = _
    rw [ih]
    cases x <;> simp only [resW] <;> rfl
def retR (rs : List ResultVar) (R : Value → List Res → Prop) : Ex → Sl → List Res → Prop
  | .exit _, _, _ => False
  | .normal, S, H => resR ty w0 X rs S H fun l => R (oneOf l) H
  | .ret, S, H => resR ty w0 X rs S H fun l => R (oneOf l) H
theorem retR_eq (fn : Func) (R : Value → List Res → Prop) : retR ty w0 X fn.results.toList R = retW ty w0 X fn R := by
  funext e S H
  have k : ∀ l, R (oneOf l) H = (match l with | [v] => R v H | l => R (.tuple ⟨l⟩) H) := by
    intro l
    unfold oneOf
    split <;> split <;> simp_all
  cases e <;> simp only [retR, retW, resR_eq, k] <;> rfl
/-- What the whole function does. -/
def funcR (fn : Func) (args : List Value) (H : List Res) (R : Value → List Res → Prop) : Prop :=
  match fn.body with
  | some c => codeR P ty w0 X c (retR ty w0 X fn.results.toList R) (argS 0 args) H
  | none => False
theorem funcR_eq (fn : Func) (args : List Value) (H : List Res) (R : Value → List Res → Prop) : funcR P ty w0 X fn args H R = funcW P ty w0 X fn args H R := by
  unfold funcR funcW
  cases fn.body with
  | none => rfl
  | some c => simp only [codeR_eq, retR_eq]
end
section
variable {P : Program} {ty : Nat → Option TD}
theorem funcR_pure (hty : TyOk P ty) (hm : P.follows .mixedOrders = true) {f : FuncId} {fn : Func} (hf : P.funcs[f]? = some fn) (hok : (match fn.body with | some c => codeOk fn.ntmps c | none => false) = true)
    {args : List Value} (hn : args.length ≤ fn.ntmps) {r : Value} {w : World} (h : funcR P ty w [] fn args [] fun v _ => v = r) :
    PuAt P f args r w := func_pure hty hm hf hok hn (by rw [← funcR_eq]; exact h)
theorem funcR_one (hty : TyOk P ty) (hm : P.follows .mixedOrders = true) {f : FuncId} {fn : Func} (hf : P.funcs[f]? = some fn) (hok : (match fn.body with | some c => codeOk fn.ntmps c | none => false) = true)
    {args : List Value} (hn : args.length ≤ fn.ntmps) {v : Value} {w : World} {b : Nat} {cs cs' : List Value} {T : TypeId} (hb : w.heap[b]? = some (.cells ⟨cs⟩ T (0, 0))) (h : funcR P ty w [b] fn args [.blk b cs T] fun r H => r = v ∧ List.Sublist [Res.blk b cs' T] H) :
    OneAt P f args b cs T v cs' w := func_one hty hm hf hok hn hb (by rw [← funcR_eq]; exact h)
theorem funcR_new (hty : TyOk P ty) (hm : P.follows .mixedOrders = true) {f : FuncId} {fn : Func} (hf : P.funcs[f]? = some fn) (hok : (match fn.body with | some c => codeOk fn.ntmps c | none => false) = true)
    {args : List Value} (hn : args.length ≤ fn.ntmps) {R : Value → List Res → Prop} {w : World} {H : List Res} (hS : St w (feet H) H w) (h : funcR P ty w (feet H) fn args H R) :
    FnAt P f args H R w := func_new hty hm hf hok hn hS (by rw [← funcR_eq]; exact h)
end
end Go.Proofs.Ytgjdmlgdgbehoaa.Am
