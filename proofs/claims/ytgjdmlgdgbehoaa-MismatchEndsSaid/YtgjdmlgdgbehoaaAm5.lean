/- That the function of the code tells the truth: an operation's run. -/
import Derived.Test.YtgjdmlgdgbehoaaAm4
import Derived.Laws.Strings
import Derived.Laws.BytesString
set_option linter.unusedVariables false
set_option linter.unusedSimpArgs false
namespace Go.Proofs.Ytgjdmlgdgbehoaa.Am
open Go Go.RowKit

section
variable {P : Program} {ty : Nat → Option TD} {w0 : World} {X : List Nat}

theorem wp_value {o : Oper} {a : Act} {w w' : World} {v : Value} {next : Act → World → Prop} {Q : Exit → Act → World → Prop} (hrun : (execOp a.eval o).run P w = .ok (.value v) w') (hn : next (a.put o.dst v) w') : o.wp P a w next Q := by
  unfold Oper.wp; rw [hrun]; exact hn
theorem wp_none {o : Oper} {a : Act} {w w' : World} {next : Act → World → Prop} {Q : Exit → Act → World → Prop} (hrun : (execOp a.eval o).run P w = .ok .skip w') (hn : next (a.put o.dst undef) w') : o.wp P a w next Q := by
  unfold Oper.wp; rw [hrun]; exact hn

theorem esc_sound {o : Oper} {a : Act} {w : World} {S : Sl} {H : List Res} {K : Value → List Res → Prop} {next : Act → World → Prop} {Q : Exit → Act → World → Prop} (hA : Agree a S) (hS : St w0 X H w) (h : EscW P w0 X o S H K)
    (hK : ∀ v H' w', St w0 X H' w' → K v H' → next (a.put o.dst v) w') : o.wp P a w next Q := by
  obtain ⟨R, h1, h2⟩ := h
  obtain ⟨v, w', H', h3, h4, h5⟩ := h1 a w hA hS
  rcases h3 with h3 | ⟨rfl, h3⟩
  · exact wp_value h3 (hK v H' w' h5 (h2 v H' h4))
  · exact wp_none h3 (hK _ H' w' h5 (h2 _ H' h4))

theorem escQ_run {o : Oper} {S : Sl} {H : List Res} {K : Value → Prop} (h : EscQ P w0 X o S H K) : ∃ v, K v ∧ ∀ a w, Agree a S → St w0 X H w → (execOp a.eval o).run P w = .ok (.value v) w := by
  obtain ⟨v, h1, h2⟩ := h
  exact ⟨v, h2, h1⟩
theorem beq_dec (x y : Int) : (x == y) = decide (x = y) := by rw [Bool.eq_iff_iff]; simp
theorem int_run {op : BinOp} {k : IntKind} {x y : Int} {K : Value → Prop} (h : intW op k x y K) (t : TypeId) (k' : IntKind) (hk : op = .shl ∨ op = .shr ∨ k = k') : ∃ v, K v ∧ ∀ w : World, (binOp op t (.int k x) (.int k' y)).run P w = .ok v w := by
  cases op <;> simp only [intW] at h <;> first
    | (obtain ⟨h0, h⟩ := h
       refine ⟨_, h, fun w => ?_⟩
       simp [binOp, Op.shift, show ¬ y < 0 by omega]
       done)
    | (obtain rfl : k = k' := by simpa using hk
       first
         | (obtain ⟨h0, h⟩ := h; refine ⟨_, h, fun w => ?_⟩; simp [binOp, Op.intDiv, h0]; done)
         | (refine ⟨_, h, fun w => ?_⟩; simp [binOp, Op.intArith]; done)
         | (refine ⟨_, h, fun w => ?_⟩; simp [binOp, Op.intBits, bits]; done)
         | (refine ⟨_, h, fun w => ?_⟩; simp [binOp, Op.intCmp, bne, beq_dec]; done))
theorem str_run {op : BinOp} {x y : ByteArray} {K : Value → Prop} (h : strW op x y K) (t : TypeId) : ∃ v, K v ∧ ∀ w : World, (binOp op t (.string x) (.string y)).run P w = .ok v w := by
  have heq : (x.toList == y.toList) = decide (x = y) := by
    rw [ByteArray.toList_eq, ByteArray.toList_eq]
    rw [Bool.eq_iff_iff]
    simp only [beq_iff_eq, decide_eq_true_eq]
    constructor
    · intro h
      cases x; cases y
      simpa using Array.ext' h
    · rintro rfl; rfl
  cases op <;> simp only [strW] at h
  case add =>
    obtain ⟨h0, h⟩ := h
    refine ⟨_, h, fun w => ?_⟩
    have : ¬ (((x.size + y.size : Nat) : Int) > IntKind.i64.max) := by
      have : IntKind.i64.max = 9223372036854775807 := by decide
      omega
    simp only [binOp, Op.stringOp]
    rw [if_neg this]
    rfl
  case eql => exact ⟨_, h, fun w => by simp [binOp, Op.stringOp, heq]⟩
  case neq => exact ⟨_, h, fun w => by simp [binOp, Op.stringOp, heq]⟩
  case lss => exact ⟨_, h, fun w => by simp [binOp, Op.stringOp, ByteArray.toList_eq]⟩
theorem eqGuard_int {op : BinOp} {t : TypeId} {x y : Operand} {k k' : IntKind} {a b : Int} (w : World) : (eqGuard op t x y (.int k a) (.int k' b)).run P w = .ok () w := by
  cases op <;> simp [eqGuard]
theorem eqGuard_str {op : BinOp} {t : TypeId} {x y : Operand} {a b : ByteArray} (w : World) : (eqGuard op t x y (.string a) (.string b)).run P w = .ok () w := by
  cases op <;> simp [eqGuard]

theorem bound_run (k : IntKind) (i : Int) (y : Nat) (c : BoundsCode) (w : World) (h : 0 ≤ i ∧ i ≤ (y : Int)) : (Instr.sliceBound (.int k i) y c).run P w = .ok i.toNat w := by
  simp only [Instr.sliceBound, asIntOf, Sem.run_bind, Sem.run_pure, Result.andThen_ok]
  rw [if_pos h]
  rfl
theorem call_run {f : FuncId} {args : Array Value} {fn : Func} (hf : P.funcs[f]? = some fn) (hn : (fn.name == "runtime.NumGoroutine") = false) (hb : fn.body.isNone = false) (w : World) : (callFunc f args).run P w = .ok (.enter f args) w := by
  have hn' : ¬ fn.name = "runtime.NumGoroutine" := by simpa using hn
  have hb' : ¬ fn.body = none := by intro e; rw [e] at hb; simp at hb
  simp [callFunc, hf, hn', hb']

/-- Where an append's value lies: where it lay, or in a new block. -/
theorem append_block {w w' : World} (t ty e : TypeId) (i : TypeInfo) (z : Value) (size bytes : Nat) (ht : P.underlying t = some (.slice e)) (hi : P.info? e = some i) (hz : i.zero = some z)
    (hsize : i.size = size) (hby : i.bytes = bytes) (v v' : Value) (n : Nat) (xs : List Value) (hown : w.ownsRow 0 e size v n xs)
    (a : Addr) (m c : Nat) (news : List Value) (hl : news.length = m * size) (hnews : ∀ j u, news[j]? = some u → w.cell? (a.add j) = some u) (h1 : ∀ u ∈ news, u.oneCell' = true)
    (h63 : n + m ≤ maxLen) (hbytes : (n + m) * bytes ≤ 140737488355328) (hr : (Builtin.append_ #[t, t] ty #[v, .slice (some a) m c]).run P w = .ok v' w') (hnil : v' = .slice none 0 0 ↔ v = .slice none 0 0 ∧ m = 0) :
    ∀ b, v'.ownBlock = some b → v.ownBlock = some b ∨ w.heap.size ≤ b := by
  subst hsize
  subst hby
  have hsmall : n + m ≤ 9223372036854775807 := by simp only [maxLen] at h63; omega
  intro b hb
  rcases hown.2 with ⟨rfl, rfl⟩ | ⟨g, cap, cur, rfl, hbg, hg, hnc, hcm, hcs, htake⟩
  · by_cases hm : m = 0
    · rw [hnil.2 ⟨rfl, hm⟩] at hb
      simp [Value.ownBlock] at hb
    · have h2 := run_append_nil (P := P) w t ty e i z ht hi hz a m c news hl hnews (by omega) (by omega) (by simp only [Nat.zero_add] at hbytes; omega)
      rw [h2] at hr
      injection hr with h3 h4
      subst h3
      simp [Value.ownBlock] at hb
      exact .inr (by omega)
  · by_cases hroom : n + m ≤ cap
    · have hfit : n * i.size + news.length ≤ cur.size := by rw [hl, hcs, ← Nat.add_mul]; exact Nat.mul_le_mul_right _ hroom
      have h2 := run_append_room (P := P) w t ty e i ht hi g n cap cur hg a m c news hl hnews h1 hroom hfit
      rw [h2] at hr
      injection hr with h3 h4
      subst h3
      exact .inl hb
    · have holds : ∀ j u, xs[j]? = some u → w.cell? ((⟨g, 0, none⟩ : Addr).add j) = some u := hown.cells (g := g) rfl
      have h2 := run_append_grow (P := P) w t ty e i z ht hi hz ⟨g, 0, none⟩ n cap xs hown.1 holds a m c news hl hnews (by omega) (by omega) (growslice_fits (by omega) hbytes)
      rw [h2] at hr
      injection hr with h3 h4
      subst h3
      simp [Value.ownBlock] at hb
      exact .inr (by omega)

theorem eqSlice_run {t e : TypeId} (hu : P.underlying t = some (.slice e)) {ad : Option Addr} {n c n' c' : Nat} (k : Nat) (w : World) : (Op.equalIn (k + 1) t (.slice ad n c) (.slice none n' c')).run P w = .ok ad.isNone w := by cases ad <;> simp [Op.equalIn, run_underlying hu]
theorem eqBool_run {t : TypeId} (hu : P.underlying t = some .bool) {p q : Bool} (n : Nat) (w : World) : (Op.equalIn (n + 1) t (.bool p) (.bool q)).run P w = .ok (p == q) w := by simp [Op.equalIn, run_underlying hu]
/-- An operation that leaves the world alone. -/
theorem pureW_run (hty : TyOk P ty) {o : Oper} {S : Sl} {H : List Res} {K : Value → Prop} (h : pureW P ty w0 X o S H K) : ∃ v, K v ∧ ∀ a w, Agree a S → St w0 X H w → (execOp a.eval o).run P w = .ok (.value v) w := by
  unfold pureW at h
  split at h
  · rename_i x ho
    split at h
    · rename_i v hx
      exact ⟨_, h, fun a w hA hS => by simp [execOp, ho, opd_eval hA hx]⟩
    · exact h.elim
  · rename_i x ho
    split at h
    · rename_i v hx
      exact ⟨_, h, fun a w hA hS => by simp [execOp, ho, opd_eval hA hx]⟩
    · exact h.elim
  · rename_i c x y ho
    split at h
    · rename_i t hc
      cases t with
      | true =>
        simp only at h
        split at h
        · rename_i v hx
          exact ⟨_, h, fun a w hA hS => by simp [execOp, ho, opd_eval hA hc, opd_eval hA hx, asBool]⟩
        · exact h.elim
      | false =>
        simp only at h
        split at h
        · rename_i v hx
          exact ⟨_, h, fun a w hA hS => by simp [execOp, ho, opd_eval hA hc, opd_eval hA hx, asBool]⟩
        · exact h.elim
    · exact h.elim
  · rename_i t ps ho
    split at h
    · rename_i i hi
      obtain ⟨hu, inf, z, hinf, hs1, hs2, hz0, hc, hl, hparts⟩ := hty t i hi
      have hz : ∀ w : World, (zeroValue t).run P w = .ok z w := fun w => by simp [zeroValue, typeInfo, hinf, hz0]
      split at h
      · rename_i fs hd
        rw [hd] at hu
        have hpl := hparts fs hd
        obtain ⟨cs', h2, h1⟩ := fill_run (place' := fun j => (⟨i.parts⟩ : Array (Nat × Nat))[j]?) (fun j x hx => by simpa using hx) ps.toList i.zero _ h
        refine ⟨.agg ⟨cs'⟩, h2, fun a w hA hS => ?_⟩
        have h1' : Instr.fill (fun j => (⟨i.parts⟩ : Array (Nat × Nat))[j]?) z.cells (ps.map fun (i, x) => (i, a.eval x)).toList = some ⟨cs'⟩ := by
          rw [hc]; simpa using h1 a hA
        simp only [execOp, ho, Instr.build, Sem.run_bind, hz, Result.andThen_ok, run_underlying hu, hpl, h1', Sem.run_pure]
      · rename_i n e hd
        rw [hd] at hu
        split at h
        · rename_i ei hei
          obtain ⟨cs', h2, h1⟩ := fill_run (place' := fun j => some (j * ei.size, ei.size)) (fun j x hx => hx) ps.toList i.zero _ h
          refine ⟨.agg ⟨cs'⟩, h2, fun a w hA hS => ?_⟩
          have hs := run_size hty hei w
          have h1' : Instr.fill (fun j => some (j * ei.size, ei.size)) z.cells (ps.map fun (i, x) => (i, a.eval x)).toList = some ⟨cs'⟩ := by
            rw [hc]; simpa using h1 a hA
          simp only [execOp, ho, Instr.build, Sem.run_bind, hz, Result.andThen_ok, run_underlying hu, hs, h1', Sem.run_pure]
        · exact h.elim
      · exact h.elim
    · exact h.elim
  · rename_i t x ho
    split at h
    · rename_i b q i hx hi
      obtain ⟨v, h1, h2⟩ := loadW_run hty hi h
      exact ⟨v, h1, fun a w hA hS => by simp [execOp, ho, opd_eval hA hx, Instr.loadAt, Instr.sureAddr, h2 w hS]⟩
    · exact h.elim
  · rename_i x ho
    split at h
    · rename_i ad hx
      exact ⟨_, h, fun a w hA hS => by simp [execOp, ho, opd_eval hA hx]⟩
    · rename_i f u v hx
      exact ⟨_, h, fun a w hA hS => by simp [execOp, ho, opd_eval hA hx]⟩
    · exact h.elim
  · rename_i op t x y yt ho
    split at h
    · rename_i k p k' q hx hy
      have fin : ∀ (op : BinOp), o.op = .binOp op t x y yt → (op = .shl ∨ op = .shr ∨ k = k') → intW op k p q K → ∃ v, K v ∧ ∀ a w, Agree a S → St w0 X H w → (execOp a.eval o).run P w = .ok (.value v) w := by
        intro op ho hk hi
        obtain ⟨v, h2, h1⟩ := int_run (P := P) hi t k' hk
        refine ⟨v, h2, fun a w hA hS => ?_⟩
        simp [execOp, ho, opd_eval hA hx, opd_eval hA hy, eqGuard_int, h1]
      split at h
      · exact fin _ ho (by simp) h
      · exact fin _ ho (by simp) h
      · exact fin _ ho (.inr (.inr h.1)) h.2
    · rename_i p q hx hy
      obtain ⟨v, h2, h1⟩ := str_run (P := P) h t
      refine ⟨v, h2, fun a w hA hS => ?_⟩
      simp [execOp, ho, opd_eval hA hx, opd_eval hA hy, eqGuard_str, h1]
    · rename_i ad n c n' c' hx hy
      split at h
      · rename_i i hi
        have hu := ty_u hty hi
        split at h
        · rename_i e hd
          rw [hd] at hu
          refine ⟨_, h, fun a w hA hS => ?_⟩
          have hq : (Op.equalIn Op.maxDepth t (.slice ad n c) (.slice none n' c')).run P w = .ok ad.isNone w := eqSlice_run hu 9999 w
          simp [execOp, ho, opd_eval hA hx, opd_eval hA hy, eqGuard, binOp, Op.equal, hq]
        · rename_i e hd
          rw [hd] at hu
          refine ⟨_, h, fun a w hA hS => ?_⟩
          have hq : (Op.equalIn Op.maxDepth t (.slice ad n c) (.slice none n' c')).run P w = .ok ad.isNone w := eqSlice_run hu 9999 w
          simp [execOp, ho, opd_eval hA hx, opd_eval hA hy, eqGuard, binOp, Op.equal, hq]
        · exact escQ_run h
      · exact escQ_run h
    · rename_i p q hx hy
      split at h
      · rename_i i hi
        have hu := ty_u hty hi
        split at h
        · rename_i hd
          rw [hd] at hu
          refine ⟨_, h, fun a w hA hS => ?_⟩
          have hq : (Op.equalIn Op.maxDepth t (.bool p) (.bool q)).run P w = .ok (p == q) w := eqBool_run hu 9999 w
          simp [execOp, ho, opd_eval hA hx, opd_eval hA hy, eqGuard, binOp, Op.equal, hq]
        · rename_i hd
          rw [hd] at hu
          refine ⟨_, h, fun a w hA hS => ?_⟩
          have hq : (Op.equalIn Op.maxDepth t (.bool p) (.bool q)).run P w = .ok (p == q) w := eqBool_run hu 9999 w
          simp [execOp, ho, opd_eval hA hx, opd_eval hA hy, eqGuard, binOp, Op.equal, hq]
        · exact escQ_run h
      · exact escQ_run h
    · exact escQ_run h
  · rename_i op t x ho
    split at h
    · rename_i p hx
      exact ⟨_, h, fun a w hA hS => by simp [execOp, ho, opd_eval hA hx, Op.unary]⟩
    · rename_i k n hx
      exact ⟨_, h, fun a w hA hS => by simp [execOp, ho, opd_eval hA hx, Op.unary, Op.intArith]⟩
    · exact escQ_run h
  · rename_i s d x ho
    split at h
    · rename_i k n si i hx hs hi
      have hus := ty_u hty hs
      have hu := ty_u hty hi
      split at h
      · rename_i k' hd
        rw [hd] at hu
        refine ⟨.int k' (k'.wrap n), h, fun a w hA hS => ?_⟩
        simp [execOp, ho, opd_eval hA hx, convert, run_underlying hus, run_underlying hu, Conv.intToInt]
      · exact h.elim
    · rename_i b q n cap si di hx hsi hdi
      have hus := ty_u hty hsi
      have hud := ty_u hty hdi
      split at h
      · rename_i e hds hdd
        rw [hds] at hus
        rw [hdd] at hud
        split at h
        · rename_i ei hei
          have hue := ty_u hty hei
          split at h
          · rename_i hde
            rw [hde] at hue
            obtain ⟨l, hl, hr, hk⟩ := h
            refine ⟨.string (mkS l), hk, fun a w hA hS => ?_⟩
            have hcells : (loadCells ⟨b, q, none⟩ n).run P w = .ok (l.map (Value.int .u8)).toArray w := by
              rw [← hl, ← List.length_map (f := Value.int .u8)]
              exact run_loadCells_list (P := P) w ⟨b, q, none⟩ _ (fun j v hv => by rw [Addr.add_mid]; exact hr w hS j v hv)
            have hb := run_bytesToString (P := P) w ⟨b, q, none⟩ n cap l hcells
            have hfold : ∀ (l : List Int) (r : ByteArray), l.foldl (fun r n => r.push (UInt8.ofNat n.toNat)) r = ⟨r.data ++ (l.map fun n => UInt8.ofNat n.toNat).toArray⟩ := by
              intro l
              induction l with
              | nil => intro r; simp
              | cons x l ih => intro r; simp only [List.foldl_cons, List.map_cons]; rw [ih]; cases r; simp [ByteArray.push]
            rw [hfold] at hb
            have hc := run_convert_bytes_string (P := P) w s d e (some ⟨b, q, none⟩) n cap hus hue hud
            rw [hb] at hc
            have e1 : (⟨ByteArray.empty.data ++ (l.map fun n => UInt8.ofNat n.toNat).toArray⟩ : ByteArray) = mkS l := by
              simp [mkS, ByteArray.empty, ByteArray.emptyWithCapacity]
              try rfl
            rw [e1] at hc
            simp [execOp, ho, opd_eval hA hx, hc]
          · exact escQ_run h
        · exact h.elim
      · exact escQ_run h
    · exact escQ_run h
  · rename_i fn first caps ho
    split at h
    · rename_i u v hu hv
      refine ⟨.func fn ⟨u⟩ ⟨v⟩, h, fun a w hA hS => ?_⟩
      have e1 : first.map a.eval = ⟨u⟩ := by apply Array.ext'; simpa using opds_eval hA hu
      have e2 : caps.map a.eval = ⟨v⟩ := by apply Array.ext'; simpa using opds_eval hA hv
      simp [execOp, ho, Instr.makeFunc, e1, e2]
    · exact h.elim
  · rename_i t x f ho
    split at h
    · rename_i cs i hx hi
      have hu := ty_u hty hi
      split at h
      · rename_i fs hd
        rw [hd] at hu
        split at h
        · rename_i fl hfl
          split at h
          · rename_i fi hfi
            obtain ⟨v, h2, h1⟩ := part_run hty hfi h
            refine ⟨v, h2, fun a w hA hS => ?_⟩
            have hfl' : fs[f]? = some fl := by rw [← Array.getElem?_toList]; exact hfl
            simp [execOp, ho, opd_eval hA hx, Instr.field, run_underlying hu, hfl', asAgg]
            have : (⟨cs.toList⟩ : Array Value) = cs := rfl
            rw [this] at h1
            rw [h1]
            rfl
          · exact h.elim
        · exact h.elim
      · exact h.elim
    · exact h.elim
  · rename_i x n ho
    split at h
    · rename_i vs hx
      split at h
      · rename_i v hv
        have hv' : vs[n]? = some v := by rw [← Array.getElem?_toList]; exact hv
        exact ⟨_, h, fun a w hA hS => by simp [execOp, ho, opd_eval hA hx, Instr.extract, hv']⟩
      · exact h.elim
    · exact h.elim
  · rename_i t x f ho
    split at h
    · rename_i b q i hx hi
      have hu := ty_u hty hi
      split at h
      · rename_i fs hd
        rw [hd] at hu
        split at h
        · rename_i fl hfl
          split at h
          · rename_i fi hfi
            split at h
            · exact h.elim
            rename_i nn hnn
            have hne : fi.size ≠ 0 := by omega
            have hfl' : fs[f]? = some fl := by rw [← Array.getElem?_toList]; exact hfl
            refine ⟨.pointer (some ⟨b, q + fl.offset, none⟩), h, fun a w hA hS => ?_⟩
            have hs := run_size hty hfi w
            simp [execOp, ho, opd_eval hA hx, Instr.fieldAt, run_underlying hu, hfl', Instr.sureAddr, fieldPlace, hs, hne, Addr.add_mid]
          · exact h.elim
        · exact h.elim
      · exact h.elim
    · exact h.elim
  · rename_i t x j ho
    split at h
    · rename_i b q n c k z i hx hj hi
      have hu := ty_u hty hi
      split at h
      · rename_i e hd
        rw [hd] at hu
        split at h
        · rename_i ei hei
          obtain ⟨hb, h⟩ := h
          have h : K (.pointer (some ⟨b, q + z.toNat * ei.size, none⟩)) := by
            split at h
            · rename_i e1; rw [e1, Nat.mul_one]; exact h
            · exact h
          refine ⟨.pointer (some ⟨b, q + z.toNat * ei.size, none⟩), h, fun a w hA hS => ?_⟩
          have hs := run_size hty hei w
          simp only [execOp, ho, opd_eval hA hx, opd_eval hA hj, Instr.indexAt, asIntOf, Sem.run_bind, Sem.run_pure, Result.andThen_ok, run_underlying hu]
          rw [if_pos hb]
          simp [hs, Addr.add_mid]
        · exact h.elim
      · exact h.elim
    · rename_i b q k z i hx hj hi
      have hu := ty_u hty hi
      split at h
      · rename_i n e hd
        rw [hd] at hu
        split at h
        · rename_i ei hei
          obtain ⟨hb, h⟩ := h
          have h : K (.pointer (some ⟨b, q + z.toNat * ei.size, none⟩)) := by
            split at h
            · rename_i e1; rw [e1, Nat.mul_one]; exact h
            · exact h
          refine ⟨.pointer (some ⟨b, q + z.toNat * ei.size, none⟩), h, fun a w hA hS => ?_⟩
          have hs := run_size hty hei w
          simp only [execOp, ho, opd_eval hA hx, opd_eval hA hj, Instr.indexAt, asIntOf, Sem.run_bind, Sem.run_pure, Result.andThen_ok, run_underlying hu, Instr.sureAddr]
          rw [if_pos hb]
          simp [hs, Addr.add_mid]
        · exact h.elim
      · exact h.elim
    · exact h.elim
  · rename_i t x j ho
    split at h
    · rename_i s k z i hx hj hi
      have hu := ty_u hty hi
      split at h
      · rename_i hd
        rw [hd] at hu
        obtain ⟨⟨h0, h1⟩, h⟩ := h
        refine ⟨.int .u8 ((s[z.toNat]'h1).toNat : Int), h, fun a w hA hS => ?_⟩
        have hg : s[z.toNat]? = some (s[z.toNat]'h1) := by simp [h1]
        simp [execOp, ho, opd_eval hA hx, opd_eval hA hj, Instr.index, asIntOf, run_underlying hu, h0, hg]
      · exact h.elim
    · rename_i cs k z i hx hj hi
      have hu := ty_u hty hi
      split at h
      · rename_i n e hd
        rw [hd] at hu
        split at h
        · rename_i ei hei
          obtain ⟨hb, h⟩ := h
          obtain ⟨v, h2, h1⟩ := part_run hty hei h
          refine ⟨v, h2, fun a w hA hS => ?_⟩
          have hs := run_size hty hei w
          simp only [execOp, ho, opd_eval hA hx, opd_eval hA hj, Instr.index, asIntOf, Sem.run_bind, Sem.run_pure, Result.andThen_ok, run_underlying hu]
          rw [if_pos hb]
          have : (⟨cs.toList⟩ : Array Value) = cs := rfl
          rw [this] at h1
          simp [hs, h1]
        · exact h.elim
      · exact h.elim
    · exact h.elim
  · rename_i t x lo hi ho
    split at h
    · rename_i i s hi' hx
      have hu := ty_u hty hi'
      split at h
      · rename_i hd
        rw [hd] at hu
        split at h
        · rename_i kl l kh u hl hh
          obtain ⟨⟨h0, h1, h2⟩, h⟩ := h
          refine ⟨.string (s.extract l.toNat u.toNat), h, fun a w hA hS => ?_⟩
          have hb2 := fun c => bound_run (P := P) kh u s.size c w ⟨by omega, h2⟩
          have hb1 := fun c => bound_run (P := P) kl l u.toNat c w ⟨h0, by omega⟩
          cases lo with
          | none =>
            simp only [Option.some.injEq, Value.int.injEq] at hl
            obtain ⟨rfl, rfl⟩ := hl
            cases hi with
            | none =>
              simp only [Option.some.injEq, Value.int.injEq] at hh
              obtain ⟨rfl, rfl⟩ := hh
              simp [execOp, ho, opd_eval hA hx, Instr.sliceAt, Instr.slice, run_underlying hu, Instr.sliceBounds]
            | some y =>
              have hy := opd_eval hA hh
              simp [execOp, ho, opd_eval hA hx, hy, Instr.sliceAt, Instr.slice, run_underlying hu, Instr.sliceBounds, hb2]
          | some y' =>
            have hy' := opd_eval hA hl
            cases hi with
            | none =>
              simp only [Option.some.injEq, Value.int.injEq] at hh
              obtain ⟨rfl, rfl⟩ := hh
              simp only [Int.toNat_natCast] at hb1
              simp [execOp, ho, opd_eval hA hx, hy', Instr.sliceAt, Instr.slice, run_underlying hu, Instr.sliceBounds, hb1]
            | some y =>
              have hy := opd_eval hA hh
              simp [execOp, ho, opd_eval hA hx, hy, hy', Instr.sliceAt, Instr.slice, run_underlying hu, Instr.sliceBounds, hb1, hb2]
        · exact h.elim
      · exact h.elim
    · rename_i i b q hi' hx
      have hu := ty_u hty hi'
      split at h
      · rename_i n e hd
        rw [hd] at hu
        split at h
        · rename_i ei hei
          refine ⟨.slice (some ⟨b, q, none⟩) n n, h, fun a w hA hS => ?_⟩
          have hs := run_size hty hei w
          simp [execOp, ho, opd_eval hA hx, Instr.sliceAt, Instr.sureAddr, run_underlying hu, Instr.sliceBounds, hs]
          intro _
          simp [Addr.add]
        · exact h.elim
      · exact escQ_run h
    · exact escQ_run h
  · rename_i c ho
    split at h
    · rename_i hc
      split at h
      · rename_i k p k' q hargs
        refine ⟨_, h, fun a w hA hS => ?_⟩
        have e1 : c.args.map a.eval = ⟨[.int k p, .int k' q]⟩ := by apply Array.ext'; simpa using opds_eval hA hargs
        simp only [execOp, ho, resolve, hc, invoke, builtin, Sem.run_bind, Sem.run_pure, Result.andThen_ok, e1]
        simp [Builtin.min_, Builtin.min2]
      · exact escQ_run h
    · rename_i hc
      split at h
      · rename_i k p k' q hargs
        refine ⟨_, h, fun a w hA hS => ?_⟩
        have e1 : c.args.map a.eval = ⟨[.int k p, .int k' q]⟩ := by apply Array.ext'; simpa using opds_eval hA hargs
        simp only [execOp, ho, resolve, hc, invoke, builtin, Sem.run_bind, Sem.run_pure, Result.andThen_ok, e1]
        simp [Builtin.max_, Builtin.max2]
      · exact escQ_run h
    · rename_i hc
      split at h
      · rename_i x t hxs hts
        have hargs : c.args = #[x] := by apply Array.ext'; simpa using hxs
        have hat : c.argTypes = #[t] := by apply Array.ext'; simpa using hts
        split at h
        · rename_i i v hi hx
          have hu := ty_u hty hi
          split at h
          · rename_i hd
            rw [hd] at hu
            split at h
            · rename_i s
              refine ⟨.int .i64 s.size, h, fun a w hA hS => ?_⟩
              simp [execOp, ho, resolve, hc, hargs, hat, opd_eval hA hx, invoke, builtin, Builtin.len_, run_underlying hu, goInt]
            · exact h.elim
          · rename_i e hd
            rw [hd] at hu
            split at h
            · rename_i A n cap
              refine ⟨.int .i64 n, h, fun a w hA hS => ?_⟩
              simp [execOp, ho, resolve, hc, hargs, hat, opd_eval hA hx, invoke, builtin, Builtin.len_, run_underlying hu, goInt]
            · exact h.elim
          · exact escQ_run h
        · exact h.elim
      · exact h.elim
    · exact escQ_run h
    · exact h.elim
  · exact escQ_run h

/-- What an operation's run does: a value, or a call. -/
def runAt (P : Program) (w0 : World) (X : List Nat) (o : Oper) (a : Act) (w : World) (K : Value → List Res → Prop) : Prop :=
  (∃ v w', ((execOp a.eval o).run P w = .ok (.value v) w' ∨ (v = undef ∧ (execOp a.eval o).run P w = .ok .skip w')) ∧ ∃ H', K v H' ∧ St w0 X H' w') ∨
  (∃ f args, (execOp a.eval o).run P w = .ok (.enter f args) w ∧ Calls P f args w fun e w' => ∃ v H', e = .returned v ∧ K v H' ∧ St w0 X H' w')
theorem ra_value {o : Oper} {a : Act} {w w' : World} {v : Value} {K : Value → List Res → Prop} (hrun : (execOp a.eval o).run P w = .ok (.value v) w') (hn : ∃ H', K v H' ∧ St w0 X H' w') : runAt P w0 X o a w K := .inl ⟨v, w', .inl hrun, hn⟩
theorem ra_none {o : Oper} {a : Act} {w w' : World} {K : Value → List Res → Prop} (hrun : (execOp a.eval o).run P w = .ok .skip w') (hn : ∃ H', K undef H' ∧ St w0 X H' w') : runAt P w0 X o a w K := .inl ⟨undef, w', .inr ⟨rfl, hrun⟩, hn⟩
theorem ra_esc {o : Oper} {a : Act} {w : World} {S : Sl} {H : List Res} {K : Value → List Res → Prop} (hA : Agree a S) (hS : St w0 X H w) (h : EscW P w0 X o S H K) : runAt P w0 X o a w K := by
  obtain ⟨R, h1, h2⟩ := h
  obtain ⟨v, w', H', h3, h4, h5⟩ := h1 a w hA hS
  exact .inl ⟨v, w', h3, H', h2 v H' h4, h5⟩
/-- An operation. -/
theorem opW_run (hty : TyOk P ty) {o : Oper} {a : Act} {w : World} {S : Sl} {H : List Res} {K : Value → List Res → Prop} (hA : Agree a S) (hS : St w0 X H w)
    (h : opW P ty w0 X o S H K) : runAt P w0 X o a w K := by
  have hK : ∀ v H' w', St w0 X H' w' → K v H' → ∃ H', K v H' ∧ St w0 X H' w' := fun v H' w' h1 h2 => ⟨H', h2, h1⟩
  have pure : (pureW P ty w0 X o S H fun v => K v H) → runAt P w0 X o a w K := fun h => by
    obtain ⟨v, h1, h2⟩ := pureW_run hty h
    exact ra_value (h2 a w hA hS) (hK v H w hS h1)
  unfold opW at h
  split at h
  · rename_i e ho
    split at h
    · rename_i i hi
      obtain ⟨z, hz, hc, hl⟩ := run_zero hty hi w
      refine ra_value (v := .pointer (some ⟨w.heap.size, 0, none⟩)) (w' := w.alloc (.cells ⟨i.zero⟩ e)) ?_ (hK _ _ _ (hS.alloc i.zero e) (h w.heap.size))
      simp [execOp, ho, Instr.alloc, hz, newVar, newRow, hc]
    · exact h.elim
  · rename_i e x ho
    split at h
    · rename_i v hx
      refine ra_value (v := .pointer (some ⟨w.heap.size, 0, none⟩)) (w' := w.alloc (.cells v.cells e)) ?_ (hK _ _ _ (hS.alloc v.cells.toList e) (h w.heap.size))
      simp [execOp, ho, Instr.box, opd_eval hA hx, newVar, newRow]
    · exact h.elim
  · rename_i t x y ho
    split at h
    · rename_i b q v i hx hy hi
      obtain ⟨w', H', h1, h2, h3⟩ := storeW_run hty hi hS h
      refine ra_none (w' := w') ?_ (hK _ _ _ h2 h3)
      simp [execOp, ho, opd_eval hA hx, opd_eval hA hy, Instr.storeAt, Instr.sureAddr, h1]
    · exact h.elim
  · rename_i s d x ho
    split at h
    · exact pure h
    · rename_i str hx
      split at h
      · rename_i si di hsi hdi
        have hus := ty_u hty hsi
        have hud := ty_u hty hdi
        split at h
        · rename_i e hds hdd
          rw [hds] at hus
          rw [hdd] at hud
          split at h
          · rename_i ei hei
            have hue := ty_u hty hei
            split at h
            · rename_i hde
              rw [hde] at hue
              have hr := run_bytes_of_string (P := P) w s d e str hus hud hue
              refine ra_value (v := .slice (some ⟨w.heap.size, 0, none⟩) str.size (grownCap w str.size 0 e)) (w' := _) (by simp [execOp, ho, opd_eval hA hx, hr]; rfl) (hK _ _ _ ?_ (h w.heap.size (grownCap w str.size 0 e)))
              refine hS.add ((Below.refl _ _).trans (((Below.refl _ _).drew).alloc (Nat.le_refl _) _)) ⟨_, _, heap_alloc_new w.drew _, fun j hj => ?_⟩ (fun b hb => by simp [Res.foot] at hb; omega)
              have hj' : j < str.data.size := hj
              exact bytesRow_at str _ j hj'
            · exact ra_esc hA hS h
          · exact h.elim
        · exact ra_esc hA hS h
      · exact h.elim
    · exact pure h
    · exact ra_esc hA hS h
  · rename_i t n ps ho
    split at h
    · rename_i i hi
      have hu := ty_u hty hi
      split at h
      · rename_i e hd
        rw [hd] at hu
        split at h
        · rename_i ei hei
          obtain ⟨hle, h⟩ := h
          obtain ⟨z, hz, hzc, hzl⟩ := run_zero hty hei w
          have hs := run_size hty hei w
          obtain ⟨cs', h2, h1⟩ := fill_run (place' := fun j => some (j * ei.size, ei.size)) (fun j x hx => hx) ps.toList _ _ h
          have hfill := h1 a hA
          refine ra_value (v := .slice (some ⟨w.heap.size, 0, none⟩) n n) (w' := w.alloc (.cells ⟨cs'⟩ e)) ?_ (hK _ _ _ (hS.alloc cs' e) (h2 w.heap.size))
          have hz2 : ∀ zc : Array Value, (zc = (if n * ei.size = 0 then #[] else ⟨ei.zero⟩)) → (Array.range (n * ei.size)).map (fun j => zc[j % zc.size]!) = (⟨(List.range (n * ei.size)).map fun j => ei.zero.getD (j % ei.size) undef⟩ : Array Value) := by
            intro zc hzc
            apply Array.ext'
            simp only [Array.toList_map, Array.toList_range]
            apply List.map_congr_left
            intro j hj
            have hj : j < n * ei.size := by simpa using hj
            have hpos : 0 < ei.size := by
              rcases Nat.eq_zero_or_pos ei.size with h0 | h0
              · rw [h0] at hj; simp at hj
              · exact h0
            rw [if_neg (by omega)] at hzc
            subst hzc
            have hsz : (⟨ei.zero⟩ : Array Value).size = ei.size := by simpa using hzl
            have hm := Nat.mod_lt j hpos
            rw [hsz]
            simp [List.getD_eq_getElem?_getD, hzl, hm]
          by_cases h0 : n * ei.size = 0
          · have hz3 := hz2 #[] (by rw [if_pos h0])
            rw [← hz3] at hfill
            simp [execOp, ho, Instr.buildSlice, run_underlying hu, hs, show ¬ (16777216 < n * ei.size) by omega, h0]
            simp [h0] at hfill
            simp [hfill, newRow]
          · have hz3 := hz2 z.cells (by rw [if_neg h0, hzc])
            rw [← hz3] at hfill
            simp [execOp, ho, Instr.buildSlice, run_underlying hu, hs, show ¬ (16777216 < n * ei.size) by omega, h0, hz]
            simp at hfill
            simp [hfill, newRow]
        · exact h.elim
      · exact h.elim
    · exact h.elim
  · rename_i c ho
    split at h
    · exact pure h
    · exact pure h
    · exact pure h
    · rename_i hc
      split at h
      · rename_i x y t t' hxs hts
        have hargs : c.args = #[x, y] := by apply Array.ext'; simpa using hxs
        have hat : c.argTypes = #[t, t'] := by apply Array.ext'; simpa using hts
        split at h
        · rename_i i v b q m cap hi hx hy
          have hu := ty_u hty hi
          split at h
          · rename_i e hd
            rw [hd] at hu
            split at h
            · rename_i ei hei
              obtain ⟨rfl, h⟩ := h
              obtain ⟨_, inf, z, hinf, hs1, hs2, hz, hzc, hzl, _⟩ := hty e ei hei
              have hzs : z.cells.size = ei.size := by rw [hzc]; simpa using hzl
              have fits : ∀ {v' : Value} {w' : World}, (Builtin.append_ #[t, t] o.type #[v, .slice (some ⟨b, q, none⟩) m cap]).run P w = .ok v' w' → (execOp a.eval o).run P w = .ok (.value v') w' := by
                intro v' w' hr
                simp [execOp, ho, resolve, hc, hargs, hat, opd_eval hA hx, opd_eval hA hy, invoke, builtin, hr]
              have key : ∀ (ms : List Value) (n : Nat) (xs : List Value), 0 < ei.size → ms.length = m * ei.size → Rd w0 X H b q ms → ms.all (·.oneCell') = true → w.ownsRow 0 e ei.size v n xs → n + m ≤ maxLen → (n + m) * ei.bytes ≤ 140737488355328 →
                  ∃ A' q' w', (execOp a.eval o).run P w = .ok (.value (.slice A' (n + m) q')) w' ∧ w'.ownsRow 0 e ei.size (.slice A' (n + m) q') (n + m) (xs ++ ms) ∧ IsRow (.slice A' (n + m) q') (n + m) ∧ w.grownBy w' v.ownBlock ∧
                    ∀ b, (Value.slice A' (n + m) q').ownBlock = some b → v.ownBlock = some b ∨ w.heap.size ≤ b := by
                intro ms n xs hpos hml hrd hone hown h1 h2
                have hnews : ∀ j u, ms[j]? = some u → w.cell? ((⟨b, q, none⟩ : Addr).add j) = some u := fun j u hu => by rw [Addr.add_mid]; exact hrd w hS j u hu
                have hone' : ∀ u ∈ ms, u.oneCell' = true := List.all_eq_true.1 hone
                obtain ⟨v', w', hr, ho', hg, hnil⟩ := run_append_own (P := P) w 0 t o.type e inf z ei.size ei.bytes hu hinf hz hs1 hs2 hzs hpos v n xs hown ⟨b, q, none⟩ m cap ms hml hnews hone' h1 h2 (Nat.zero_le _)
                have hir : IsRow v' (n + m) := by
                  rcases ho'.2 with ⟨h1, h2⟩ | ⟨g, cp, cur, h1, _, _, h2, _⟩
                  · exact .inl ⟨h1, h2⟩
                  · exact .inr ⟨g, cp, h1, h2⟩
                have hblk := append_block (P := P) t o.type e inf z ei.size ei.bytes hu hinf hz hs1 hs2 v _ n xs hown ⟨b, q, none⟩ m cap ms hml hnews hone' h1 h2 hr hnil
                obtain ⟨A', q', rfl⟩ : ∃ A' q', v' = .slice A' (n + m) q' := by
                  rcases hir with ⟨rfl, h0⟩ | ⟨g, cp, rfl, _⟩
                  · exact ⟨none, 0, by rw [h0]⟩
                  · exact ⟨_, _, rfl⟩
                exact ⟨A', q', w', fits hr, ho', hir, hg, hblk⟩
              cases h with
              | none ms hpos hml hrd hone hv h1 h2 hk =>
                subst hv
                obtain ⟨A', q', w', hr, ho', hir, hg, hblk⟩ := key ms 0 [] hpos hml hrd hone (World.ownsRow_nil w 0 e ei.size) (by omega) (by simpa using h2)
                simp only [Nat.zero_add, List.nil_append] at hr ho' hir hblk
                refine ra_value hr (hK _ _ _ ?_ (hk A' q' hir))
                refine hS.add ⟨hg.os, hg.tape, hg.output, hg.size, fun k hk => hg.block k hk (by simp [Value.ownBlock])⟩ ho' ?_
                intro b' hb'
                rcases hblk b' hb' with h4 | h4
                · simp [Value.ownBlock] at h4
                · exact h4
              | row ms hpos hml hrd hone n xs f hf h1 h2 hk =>
                have hown : w.ownsRow 0 e ei.size v n xs := hS.ok _ (hf.upd (.row v e ei.size n xs)).mem
                obtain ⟨A', q', w', hr, ho', hir, hg, hblk⟩ := key ms n xs hpos hml hrd hone hown h1 h2
                refine ra_value hr (hK _ _ _ ?_ (hk A' q' hir))
                exact hS.upd (hf.upd _) hg.os hg.tape hg.output hg.size (fun k hk hn => hg.block k hk (fun e => hn e.symm)) ho' hblk
              | zero ms hpos hml hrd ad hv h0 h1 h2 hk =>
                subst hv
                have hnews : ∀ j u, ms[j]? = some u → w.cell? ((⟨b, q, none⟩ : Addr).add j) = some u := fun j u hu => by rw [Addr.add_mid]; exact hrd w hS j u hu
                have hml' : ms.length = m * inf.size := by rw [hs1]; exact hml
                have hm63 : m ≤ 9223372036854775807 := by simp only [maxLen] at h1; omega
                have hr := run_append_grow (P := P) w t o.type e inf z hu hinf hz ad 0 0 [] (by simp) (by simp) ⟨b, q, none⟩ m cap ms hml' hnews (by omega) (by omega) (growslice_fits (by omega) (by rw [hs2]; simpa using h2))
                rw [Nat.zero_add] at hr
                have hcap : m ≤ grownCap w m 0 e ∧ (m ≤ maxLen → grownCap w m 0 e ≤ maxLen) := ⟨grownCap_ge w m 0 e, grownCap_le_maxLen w m 0 e⟩
                refine ra_value (fits hr) (hK _ _ _ ?_ (hk w.heap.size _ hcap.1))
                refine hS.add (((Below.refl _ _).drew).alloc (Nat.le_refl _) _) ?_ (fun b' hb' => by simp [Res.foot, Value.ownBlock] at hb'; omega)
                refine ⟨hml, .inr ⟨w.heap.size, _, _, rfl, Nat.zero_le _, heap_alloc_new w.drew _, hcap.1, hcap.2 h1, ?_, ?_⟩⟩
                · simp [Builtin.zeroCells, hzs, hml, ← Nat.add_mul]
                  congr 1
                  have := hcap.1
                  omega
                · simp [← hml]
              | zeroA msl hpos hml0 hsz hrd ad hv h0 h1 h2 hk =>
                have hml : msl.flatten.length = m * ei.size := by rw [flat_len hsz, hml0]
                generalize hms : msl.flatten = ms at *
                subst hv
                have hnews : ∀ j u, ms[j]? = some u → w.cell? ((⟨b, q, none⟩ : Addr).add j) = some u := fun j u hu => by rw [Addr.add_mid]; exact hrd w hS j u hu
                have hml' : ms.length = m * inf.size := by rw [hs1]; exact hml
                have hm63 : m ≤ 9223372036854775807 := by simp only [maxLen] at h1; omega
                have hr := run_append_grow (P := P) w t o.type e inf z hu hinf hz ad 0 0 [] (by simp) (by simp) ⟨b, q, none⟩ m cap ms hml' hnews (by omega) (by omega) (growslice_fits (by omega) (by rw [hs2]; simpa using h2))
                rw [Nat.zero_add] at hr
                have hcap : m ≤ grownCap w m 0 e ∧ (m ≤ maxLen → grownCap w m 0 e ≤ maxLen) := ⟨grownCap_ge w m 0 e, grownCap_le_maxLen w m 0 e⟩
                refine ra_value (fits hr) (hK _ _ _ ?_ (hk w.heap.size _ hcap.1))
                refine hS.add (((Below.refl _ _).drew).alloc (Nat.le_refl _) _) ?_ (fun b' hb' => by simp [Res.foot, Value.ownBlock] at hb'; omega)
                refine ⟨?_, hsz⟩
                rw [hml0, hms]
                refine ⟨hml, .inr ⟨w.heap.size, _, _, rfl, Nat.zero_le _, heap_alloc_new w.drew _, hcap.1, hcap.2 h1, ?_, ?_⟩⟩
                · simp [Builtin.zeroCells, hzs, hml, ← Nat.add_mul]
                  congr 1
                  have := hcap.1
                  omega
                · simp [← hml]
              | noneA msl hpos hml0 hsz hrd hone hv h1 h2 hk =>
                subst hv
                have hml : msl.flatten.length = m * ei.size := by rw [flat_len hsz, hml0]
                obtain ⟨A', q', w', hr, ho', hir, hg, hblk⟩ := key msl.flatten 0 [] hpos hml hrd hone (World.ownsRow_nil w 0 e ei.size) (by omega) (by simpa using h2)
                simp only [Nat.zero_add, List.nil_append] at hr ho' hir hblk
                refine ra_value hr (hK _ _ _ ?_ (hk A' q' hir))
                refine hS.add ⟨hg.os, hg.tape, hg.output, hg.size, fun k hk => hg.block k hk (by simp [Value.ownBlock])⟩ ⟨by rw [hml0]; exact ho', hsz⟩ ?_
                intro b' hb'
                rcases hblk b' hb' with h4 | h4
                · simp [Value.ownBlock] at h4
                · exact h4
              | blkA msl hpos hml0 hsz hrd hone g f hf hv h1 h2 hk =>
                have hml : msl.flatten.length = m * ei.size := by rw [flat_len hsz, hml0]
                have hb0 : w.heap[g]? = some (.cells ⟨[]⟩ e (0, 0)) := hS.ok _ (hf.upd (.blk g [] e)).mem
                have hown : w.ownsRow 0 e ei.size v 0 [] := ⟨by simp, .inr ⟨g, 0, ⟨[]⟩, hv, Nat.zero_le _, hb0, Nat.le_refl _, by omega, by simp, by simp⟩⟩
                obtain ⟨A', q', w', hr, ho', hir, hg, hblk⟩ := key msl.flatten 0 [] hpos hml hrd hone hown (by omega) (by simpa using h2)
                simp only [Nat.zero_add, List.nil_append] at hr ho' hir hblk
                refine ra_value hr (hK _ _ _ ?_ (hk A' q' hir))
                have hvb : v.ownBlock = some g := by rw [hv]; rfl
                refine hS.upd (hf.upd _) hg.os hg.tape hg.output hg.size (fun k hk hn => hg.block k hk (fun e => hn (by simp only [Res.foot]; rw [← hvb]; exact e.symm))) ⟨by rw [hml0]; exact ho', hsz⟩ (fun b hb => ?_)
                have := hblk b hb
                rw [hvb] at this
                simpa [Res.foot] using this
              | arr ms hpos hml hsz hrd hone xs f hf h1 h2 hk =>
                have hok := hS.ok _ (hf.upd (.arr v e ei.size xs)).mem
                have hmf : ms.flatten.length = m * ei.size := by rw [flat_len hsz, hml]
                obtain ⟨A', q', w', hr, ho', hir, hg, hblk⟩ := key ms.flatten xs.length xs.flatten hpos hmf hrd hone hok.1 h1 h2
                refine ra_value hr (hK _ _ _ ?_ (hk A' q' hir))
                refine hS.upd (hf.upd _) hg.os hg.tape hg.output hg.size (fun k hk hn => hg.block k hk (fun e => hn e.symm)) ⟨?_, ?_⟩ hblk
                · rw [List.length_append, hml, List.flatten_append]; exact ho'
                · intro y hy
                  rcases List.mem_append.1 hy with hy | hy
                  · exact hok.2 y hy
                  · exact hsz y hy
              | blk ms hpos hml hrd hone n g xs f hf hv hn h1 h2 hk =>
                have hb0 : w.heap[g]? = some (.cells ⟨xs⟩ e (0, 0)) := hS.ok _ (hf.upd (.blk g xs e)).mem
                have hown : w.ownsRow 0 e ei.size v n xs := ⟨hn, .inr ⟨g, n, ⟨xs⟩, hv, Nat.zero_le _, hb0, Nat.le_refl _, by omega, by simpa using hn, by simp [← hn]⟩⟩
                obtain ⟨A', q', w', hr, ho', hir, hg, hblk⟩ := key ms n xs hpos hml hrd hone hown h1 h2
                refine ra_value hr (hK _ _ _ ?_ (hk A' q' hir))
                have hvb : v.ownBlock = some g := by rw [hv]; rfl
                refine hS.upd (hf.upd _) hg.os hg.tape hg.output hg.size (fun k hk hn => hg.block k hk (fun e => hn (by simp only [Res.foot]; rw [← hvb]; exact e.symm))) ho' (fun b hb => ?_)
                have := hblk b hb
                rw [hvb] at this
                simpa [Res.foot] using this
            · exact h.elim
          · exact h.elim
        · exact ra_esc hA hS h
      · exact h.elim
    · rename_i fo hc
      split at h
      · rename_i f first caps args hf hargs
        rw [appK_eq, appK_eq, ← List.append_assoc] at h
        have e1 : c.args.map a.eval = ⟨args⟩ := by apply Array.ext'; simpa using opds_eval hA hargs
        have e2 : first ++ (⟨args⟩ : Array Value) ++ caps = ⟨first.toList ++ args ++ caps.toList⟩ := by apply Array.ext'; simp
        have hex : (execOp a.eval o).run P w = (callFunc f ⟨first.toList ++ args ++ caps.toList⟩).run P w := by
          simp only [execOp, ho, resolve, hc, opd_eval hA hf, Deferred.ofValue, Sem.run_bind, Sem.run_pure, Result.andThen_ok, invoke, e1, e2]
        rcases h with ⟨R, ⟨⟨fn, hfn, hn, hb⟩, hcall⟩, h⟩ | ⟨v, H', he, hk⟩
        · have hrun : (execOp a.eval o).run P w = .ok (.enter f ⟨first.toList ++ args ++ caps.toList⟩) w := by
            rw [hex]; exact call_run hfn hn hb w
          refine .inr ⟨_, _, hrun, (hcall w hS).mono ?_⟩
          rintro e w' ⟨v, H', rfl, hr, hs⟩
          exact ⟨v, H', rfl, h v H' hr, hs⟩
        · obtain ⟨w', h1, h2⟩ := he w hS
          exact ra_value (hex.trans h1) (hK v H' w' h2 hk)
      · exact h.elim
    · exact ra_esc hA hS h
  all_goals first | exact pure h | exact ra_esc hA hS h
theorem runAt_wp {o : Oper} {a : Act} {w : World} {K : Value → List Res → Prop} {next : Act → World → Prop} {Q : Exit → Act → World → Prop} (h : runAt P w0 X o a w K) (hK : ∀ v H' w', St w0 X H' w' → K v H' → next (a.put o.dst v) w') : o.wp P a w next Q := by
  rcases h with ⟨v, w', h1, H', h2, h3⟩ | ⟨f, args, h1, h2⟩
  · rcases h1 with h1 | ⟨rfl, h1⟩
    · exact wp_value h1 (hK v H' w' h3 h2)
    · exact wp_none h1 (hK _ H' w' h3 h2)
  · unfold Oper.wp
    rw [h1, Oper.upon_enter]
    refine h2.mono ?_
    rintro e w' ⟨v, H', rfl, hr, hs⟩
    exact hK v H' w' hs hr
theorem opW_sound (hty : TyOk P ty) {o : Oper} {a : Act} {w : World} {S : Sl} {H : List Res} {K : Value → List Res → Prop} {next : Act → World → Prop} {Q : Exit → Act → World → Prop} (hA : Agree a S) (hS : St w0 X H w)
    (h : opW P ty w0 X o S H K) (hK : ∀ v H' w', St w0 X H' w' → K v H' → next (a.put o.dst v) w') : o.wp P a w next Q := runAt_wp (opW_run hty hA hS h) hK
end
end Go.Proofs.Ytgjdmlgdgbehoaa.Am
