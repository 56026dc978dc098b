/- What each type of the program is, as far as the walk asks. -/
import Derived.Test.YticobcojmpakfaaProg
import Derived.Test.YticobcojmpakfaaAm11
import Derived.KernelRfl
set_option linter.unusedVariables false
set_option maxRecDepth 100000
namespace Go.Proofs.Yticobcojmpakfaa.Am
open Go Go.RowKit
def TyAt (P : Program) (t : Nat) (i : TD) : Prop := P.underlying t = some i.d ∧ ∃ inf z, P.info? t = some inf ∧ inf.size = i.size ∧ inf.bytes = i.bytes ∧ inf.zero = some z ∧ z.cells = ⟨i.zero⟩ ∧ i.zero.length = i.size ∧
    ∀ fs, i.d = .struct fs → ∀ w, ((fs.mapM fun f => do pure (f.offset, ← sizeOf f.type)) : Sem (Array (Nat × Nat))).run P w = .ok (⟨i.parts⟩ : Array (Nat × Nat)) w
theorem mkTy {P : Program} {t : Nat} {i : TD} (z : Value) (hu : P.underlying t = some i.d) (hi : (P.info? t).map (fun f => (f.size, f.bytes, f.zero)) = some (i.size, i.bytes, some z)) (hz : z.cells = ⟨i.zero⟩) (hl : i.zero.length = i.size)
    (hp : ∀ fs, i.d = .struct fs → ∀ w, ((fs.mapM fun f => do pure (f.offset, ← sizeOf f.type)) : Sem (Array (Nat × Nat))).run P w = .ok (⟨i.parts⟩ : Array (Nat × Nat)) w) : TyAt P t i := by
  obtain ⟨inf, h1, h2⟩ := Option.map_eq_some_iff.1 hi
  simp only [Prod.mk.injEq] at h2
  exact ⟨hu, inf, z, h1, h2.1, h2.2.1, h2.2.2, hz, hl, hp⟩
def lookTy : List (Nat × TD) → Nat → Option TD
  | [], _ => none
  | (k, v) :: r, t => match Nat.beq k t with
    | true => some v
    | false => lookTy r t
theorem lookTy_ok {P : Program} : ∀ {l : List (Nat × TD)}, (∀ p ∈ l, TyAt P p.1 p.2) → TyOk P (lookTy l)
  | [], _, t, i, h => by simp [lookTy] at h
  | (k, v) :: r, hl, t, i, h => by
    simp only [lookTy] at h
    split at h
    · rename_i e
      have e : k = t := by simpa using e
      subst e
      obtain rfl := Option.some.inj h
      exact hl _ List.mem_cons_self
    · exact lookTy_ok (fun p hp => hl p (List.mem_cons_of_mem _ hp)) t i h
theorem all_nil {P : Program} : ∀ p ∈ ([] : List (Nat × TD)), TyAt P p.1 p.2 := fun p hp => by cases hp
theorem all_cons {P : Program} {k : Nat} {v : TD} {r : List (Nat × TD)} (h : TyAt P k v) (hr : ∀ p ∈ r, TyAt P p.1 p.2) : ∀ p ∈ (k, v) :: r, TyAt P p.1 p.2 := fun p hp => by
  rcases List.mem_cons.1 hp with rfl | hp
  · exact h
  · exact hr p hp
def td1 : TD := { d := (Go.TypeDesc.func #[] #[] false), size := 1, bytes := 8, zero := [.nilFunc], parts := [] }
theorem ty1 : TyAt Try.prog 1 td1 := mkTy (.nilFunc) Try.underlying1 (by kernel_rfl) rfl rfl (fun fs h w => by cases h)
def td2 : TD := { d := (Go.TypeDesc.int Go.IntKind.i64), size := 1, bytes := 8, zero := [.int .i64 0], parts := [] }
theorem ty2 : TyAt Try.prog 2 td2 := mkTy (.int .i64 0) Try.underlying2 (by kernel_rfl) rfl rfl (fun fs h w => by cases h)
def td3 : TD := { d := (Go.TypeDesc.int Go.IntKind.i64), size := 1, bytes := 8, zero := [.int .i64 0], parts := [] }
theorem ty3 : TyAt Try.prog 3 td3 := mkTy (.int .i64 0) Try.underlying3 (by kernel_rfl) rfl rfl (fun fs h w => by cases h)
def td4 : TD := { d := Go.TypeDesc.bool, size := 1, bytes := 1, zero := [.bool false], parts := [] }
theorem ty4 : TyAt Try.prog 4 td4 := mkTy (.bool false) Try.underlying4 (by kernel_rfl) rfl rfl (fun fs h w => by cases h)
def td5 : TD := { d := (Go.TypeDesc.int Go.IntKind.u8), size := 1, bytes := 1, zero := [.int .u8 0], parts := [] }
theorem ty5 : TyAt Try.prog 5 td5 := mkTy (.int .u8 0) Try.underlying5 (by kernel_rfl) rfl rfl (fun fs h w => by cases h)
def td6 : TD := { d := (Go.TypeDesc.int Go.IntKind.u8), size := 1, bytes := 1, zero := [.int .u8 0], parts := [] }
theorem ty6 : TyAt Try.prog 6 td6 := mkTy (.int .u8 0) Try.underlying6 (by kernel_rfl) rfl rfl (fun fs h w => by cases h)
def td7 : TD := { d := (Go.TypeDesc.struct #[{ name := "x", type := 2, offset := 0, embedded := false, tag := "", pkgPath := "runtime", byteOffset := 0 }, { name := "y", type := 3, offset := 1, embedded := false, tag := "", pkgPath := "runtime", byteOffset := 8 }, { name := "signed", type := 4, offset := 2, embedded := false, tag := "", pkgPath := "runtime", byteOffset := 16 }, { name := "code", type := 6, offset := 3, embedded := false, tag := "", pkgPath := "runtime", byteOffset := 17 }]), size := 4, bytes := 24, zero := [.int .i64 0, .int .i64 0, .bool false, .int .u8 0], parts := [(0, 1), (1, 1), (2, 1), (3, 1)] }
theorem ty7 : TyAt Try.prog 7 td7 := mkTy (.agg ⟨[.int .i64 0, .int .i64 0, .bool false, .int .u8 0]⟩) Try.underlying7 (by kernel_rfl) rfl rfl (fun fs h w => by cases h; kernel_rfl)
def td8 : TD := { d := (Go.TypeDesc.struct #[{ name := "x", type := 2, offset := 0, embedded := false, tag := "", pkgPath := "runtime", byteOffset := 0 }, { name := "y", type := 3, offset := 1, embedded := false, tag := "", pkgPath := "runtime", byteOffset := 8 }, { name := "signed", type := 4, offset := 2, embedded := false, tag := "", pkgPath := "runtime", byteOffset := 16 }, { name := "code", type := 6, offset := 3, embedded := false, tag := "", pkgPath := "runtime", byteOffset := 17 }]), size := 4, bytes := 24, zero := [.int .i64 0, .int .i64 0, .bool false, .int .u8 0], parts := [(0, 1), (1, 1), (2, 1), (3, 1)] }
theorem ty8 : TyAt Try.prog 8 td8 := mkTy (.agg ⟨[.int .i64 0, .int .i64 0, .bool false, .int .u8 0]⟩) Try.underlying8 (by kernel_rfl) rfl rfl (fun fs h w => by cases h; kernel_rfl)
def td9 : TD := { d := Go.TypeDesc.string, size := 1, bytes := 16, zero := [.string ⟨#[]⟩], parts := [] }
theorem ty9 : TyAt Try.prog 9 td9 := mkTy (.string ⟨#[]⟩) Try.underlying9 (by kernel_rfl) rfl rfl (fun fs h w => by cases h)
def td10 : TD := { d := Go.TypeDesc.string, size := 1, bytes := 16, zero := [.string ⟨#[]⟩], parts := [] }
theorem ty10 : TyAt Try.prog 10 td10 := mkTy (.string ⟨#[]⟩) Try.underlying10 (by kernel_rfl) rfl rfl (fun fs h w => by cases h)
def td11 : TD := { d := Go.TypeDesc.string, size := 1, bytes := 16, zero := [.string ⟨#[]⟩], parts := [] }
theorem ty11 : TyAt Try.prog 11 td11 := mkTy (.string ⟨#[]⟩) Try.underlying11 (by kernel_rfl) rfl rfl (fun fs h w => by cases h)
def td12 : TD := { d := (Go.TypeDesc.int Go.IntKind.u64), size := 1, bytes := 8, zero := [.int .u64 0], parts := [] }
theorem ty12 : TyAt Try.prog 12 td12 := mkTy (.int .u64 0) Try.underlying12 (by kernel_rfl) rfl rfl (fun fs h w => by cases h)
def td13 : TD := { d := (Go.TypeDesc.struct #[{ name := "msg", type := 9, offset := 0, embedded := false, tag := "", pkgPath := "runtime", byteOffset := 0 }, { name := "addr", type := 12, offset := 1, embedded := false, tag := "", pkgPath := "runtime", byteOffset := 16 }]), size := 2, bytes := 24, zero := [.string ⟨#[]⟩, .int .u64 0], parts := [(0, 1), (1, 1)] }
theorem ty13 : TyAt Try.prog 13 td13 := mkTy (.agg ⟨[.string ⟨#[]⟩, .int .u64 0]⟩) Try.underlying13 (by kernel_rfl) rfl rfl (fun fs h w => by cases h; kernel_rfl)
def td14 : TD := { d := (Go.TypeDesc.struct #[{ name := "msg", type := 9, offset := 0, embedded := false, tag := "", pkgPath := "runtime", byteOffset := 0 }, { name := "addr", type := 12, offset := 1, embedded := false, tag := "", pkgPath := "runtime", byteOffset := 16 }]), size := 2, bytes := 24, zero := [.string ⟨#[]⟩, .int .u64 0], parts := [(0, 1), (1, 1)] }
theorem ty14 : TyAt Try.prog 14 td14 := mkTy (.agg ⟨[.string ⟨#[]⟩, .int .u64 0]⟩) Try.underlying14 (by kernel_rfl) rfl rfl (fun fs h w => by cases h; kernel_rfl)
def td15 : TD := { d := (Go.TypeDesc.pointer 141), size := 1, bytes := 8, zero := [.pointer none], parts := [] }
theorem ty15 : TyAt Try.prog 15 td15 := mkTy (.pointer none) Try.underlying15 (by kernel_rfl) rfl rfl (fun fs h w => by cases h)
def td16 : TD := { d := (Go.TypeDesc.pointer 144), size := 1, bytes := 8, zero := [.pointer none], parts := [] }
theorem ty16 : TyAt Try.prog 16 td16 := mkTy (.pointer none) Try.underlying16 (by kernel_rfl) rfl rfl (fun fs h w => by cases h)
def td17 : TD := { d := (Go.TypeDesc.pointer 153), size := 1, bytes := 8, zero := [.pointer none], parts := [] }
theorem ty17 : TyAt Try.prog 17 td17 := mkTy (.pointer none) Try.underlying17 (by kernel_rfl) rfl rfl (fun fs h w => by cases h)
def td18 : TD := { d := (Go.TypeDesc.struct #[{ name := "typ", type := 17, offset := 0, embedded := false, tag := "", pkgPath := "internal/runtime/maps", byteOffset := 0 }]), size := 1, bytes := 8, zero := [.pointer none], parts := [(0, 1)] }
theorem ty18 : TyAt Try.prog 18 td18 := mkTy (.agg ⟨[.pointer none]⟩) Try.underlying18 (by kernel_rfl) rfl rfl (fun fs h w => by cases h; kernel_rfl)
def td19 : TD := { d := (Go.TypeDesc.struct #[{ name := "typ", type := 17, offset := 0, embedded := false, tag := "", pkgPath := "internal/runtime/maps", byteOffset := 0 }]), size := 1, bytes := 8, zero := [.pointer none], parts := [(0, 1)] }
theorem ty19 : TyAt Try.prog 19 td19 := mkTy (.agg ⟨[.pointer none]⟩) Try.underlying19 (by kernel_rfl) rfl rfl (fun fs h w => by cases h; kernel_rfl)
def td21 : TD := { d := (Go.TypeDesc.int Go.IntKind.i32), size := 1, bytes := 4, zero := [.int .i32 0], parts := [] }
theorem ty21 : TyAt Try.prog 21 td21 := mkTy (.int .i32 0) Try.underlying21 (by kernel_rfl) rfl rfl (fun fs h w => by cases h)
def td22 : TD := { d := (Go.TypeDesc.struct #[{ name := "Dst", type := 9, offset := 0, embedded := false, tag := "", pkgPath := "", byteOffset := 0 }, { name := "Src", type := 9, offset := 1, embedded := false, tag := "", pkgPath := "", byteOffset := 16 }, { name := "Tagged", type := 4, offset := 2, embedded := false, tag := "", pkgPath := "", byteOffset := 32 }, { name := "Priority", type := 3, offset := 3, embedded := false, tag := "", pkgPath := "", byteOffset := 40 }, { name := "Vlan", type := 3, offset := 4, embedded := false, tag := "", pkgPath := "", byteOffset := 48 }, { name := "Type", type := 3, offset := 5, embedded := false, tag := "", pkgPath := "", byteOffset := 56 }, { name := "Payload", type := 9, offset := 6, embedded := false, tag := "", pkgPath := "", byteOffset := 64 }]), size := 7, bytes := 80, zero := [.string ⟨#[]⟩, .string ⟨#[]⟩, .bool false, .int .i64 0, .int .i64 0, .int .i64 0, .string ⟨#[]⟩], parts := [(0, 1), (1, 1), (2, 1), (3, 1), (4, 1), (5, 1), (6, 1)] }
theorem ty22 : TyAt Try.prog 22 td22 := mkTy (.agg ⟨[.string ⟨#[]⟩, .string ⟨#[]⟩, .bool false, .int .i64 0, .int .i64 0, .int .i64 0, .string ⟨#[]⟩]⟩) Try.underlying22 (by kernel_rfl) rfl rfl (fun fs h w => by cases h; kernel_rfl)
def td23 : TD := { d := (Go.TypeDesc.struct #[{ name := "Dst", type := 9, offset := 0, embedded := false, tag := "", pkgPath := "", byteOffset := 0 }, { name := "Src", type := 9, offset := 1, embedded := false, tag := "", pkgPath := "", byteOffset := 16 }, { name := "Tagged", type := 4, offset := 2, embedded := false, tag := "", pkgPath := "", byteOffset := 32 }, { name := "Priority", type := 3, offset := 3, embedded := false, tag := "", pkgPath := "", byteOffset := 40 }, { name := "Vlan", type := 3, offset := 4, embedded := false, tag := "", pkgPath := "", byteOffset := 48 }, { name := "Type", type := 3, offset := 5, embedded := false, tag := "", pkgPath := "", byteOffset := 56 }, { name := "Payload", type := 9, offset := 6, embedded := false, tag := "", pkgPath := "", byteOffset := 64 }]), size := 7, bytes := 80, zero := [.string ⟨#[]⟩, .string ⟨#[]⟩, .bool false, .int .i64 0, .int .i64 0, .int .i64 0, .string ⟨#[]⟩], parts := [(0, 1), (1, 1), (2, 1), (3, 1), (4, 1), (5, 1), (6, 1)] }
theorem ty23 : TyAt Try.prog 23 td23 := mkTy (.agg ⟨[.string ⟨#[]⟩, .string ⟨#[]⟩, .bool false, .int .i64 0, .int .i64 0, .int .i64 0, .string ⟨#[]⟩]⟩) Try.underlying23 (by kernel_rfl) rfl rfl (fun fs h w => by cases h; kernel_rfl)
def td24 : TD := { d := (Go.TypeDesc.func #[] #[4] false), size := 1, bytes := 8, zero := [.nilFunc], parts := [] }
theorem ty24 : TyAt Try.prog 24 td24 := mkTy (.nilFunc) Try.underlying24 (by kernel_rfl) rfl rfl (fun fs h w => by cases h)
def td25 : TD := { d := (Go.TypeDesc.func #[23] #[4] false), size := 1, bytes := 8, zero := [.nilFunc], parts := [] }
theorem ty25 : TyAt Try.prog 25 td25 := mkTy (.nilFunc) Try.underlying25 (by kernel_rfl) rfl rfl (fun fs h w => by cases h)
def td26 : TD := { d := (Go.TypeDesc.int Go.IntKind.i64), size := 1, bytes := 8, zero := [.int .i64 0], parts := [] }
theorem ty26 : TyAt Try.prog 26 td26 := mkTy (.int .i64 0) Try.underlying26 (by kernel_rfl) rfl rfl (fun fs h w => by cases h)
def td28 : TD := { d := (Go.TypeDesc.func #[23] #[9, 26] false), size := 1, bytes := 8, zero := [.nilFunc], parts := [] }
theorem ty28 : TyAt Try.prog 28 td28 := mkTy (.nilFunc) Try.underlying28 (by kernel_rfl) rfl rfl (fun fs h w => by cases h)
def td30 : TD := { d := (Go.TypeDesc.func #[23] #[9, 3] false), size := 1, bytes := 8, zero := [.nilFunc], parts := [] }
theorem ty30 : TyAt Try.prog 30 td30 := mkTy (.nilFunc) Try.underlying30 (by kernel_rfl) rfl rfl (fun fs h w => by cases h)
def td32 : TD := { d := (Go.TypeDesc.func #[9, 9] #[23, 26] false), size := 1, bytes := 8, zero := [.nilFunc], parts := [] }
theorem ty32 : TyAt Try.prog 32 td32 := mkTy (.nilFunc) Try.underlying32 (by kernel_rfl) rfl rfl (fun fs h w => by cases h)
def td34 : TD := { d := (Go.TypeDesc.func #[3, 9, 9] #[23, 3] false), size := 1, bytes := 8, zero := [.nilFunc], parts := [] }
theorem ty34 : TyAt Try.prog 34 td34 := mkTy (.nilFunc) Try.underlying34 (by kernel_rfl) rfl rfl (fun fs h w => by cases h)
def td35 : TD := { d := (Go.TypeDesc.func #[9, 3, 9] #[9, 26] false), size := 1, bytes := 8, zero := [.nilFunc], parts := [] }
theorem ty35 : TyAt Try.prog 35 td35 := mkTy (.nilFunc) Try.underlying35 (by kernel_rfl) rfl rfl (fun fs h w => by cases h)
def td36 : TD := { d := (Go.TypeDesc.func #[9, 3, 9] #[9, 3] false), size := 1, bytes := 8, zero := [.nilFunc], parts := [] }
theorem ty36 : TyAt Try.prog 36 td36 := mkTy (.nilFunc) Try.underlying36 (by kernel_rfl) rfl rfl (fun fs h w => by cases h)
def td37 : TD := { d := (Go.TypeDesc.func #[23] #[3] false), size := 1, bytes := 8, zero := [.nilFunc], parts := [] }
theorem ty37 : TyAt Try.prog 37 td37 := mkTy (.nilFunc) Try.underlying37 (by kernel_rfl) rfl rfl (fun fs h w => by cases h)
def td38 : TD := { d := (Go.TypeDesc.func #[23, 9, 9, 9, 3] #[4] false), size := 1, bytes := 8, zero := [.nilFunc], parts := [] }
theorem ty38 : TyAt Try.prog 38 td38 := mkTy (.nilFunc) Try.underlying38 (by kernel_rfl) rfl rfl (fun fs h w => by cases h)
def td39 : TD := { d := (Go.TypeDesc.func #[23, 3] #[23, 26] false), size := 1, bytes := 8, zero := [.nilFunc], parts := [] }
theorem ty39 : TyAt Try.prog 39 td39 := mkTy (.nilFunc) Try.underlying39 (by kernel_rfl) rfl rfl (fun fs h w => by cases h)
def td40 : TD := { d := (Go.TypeDesc.func #[9, 9, 9, 3] #[4] false), size := 1, bytes := 8, zero := [.nilFunc], parts := [] }
theorem ty40 : TyAt Try.prog 40 td40 := mkTy (.nilFunc) Try.underlying40 (by kernel_rfl) rfl rfl (fun fs h w => by cases h)
def td41 : TD := { d := (Go.TypeDesc.slice 9), size := 1, bytes := 24, zero := [.slice none 0 0], parts := [] }
theorem ty41 : TyAt Try.prog 41 td41 := mkTy (.slice none 0 0) Try.underlying41 (by kernel_rfl) rfl rfl (fun fs h w => by cases h)
def td42 : TD := { d := (Go.TypeDesc.pointer 105), size := 1, bytes := 8, zero := [.pointer none], parts := [] }
theorem ty42 : TyAt Try.prog 42 td42 := mkTy (.pointer none) Try.underlying42 (by kernel_rfl) rfl rfl (fun fs h w => by cases h)
def td43 : TD := { d := (Go.TypeDesc.func #[] #[42] false), size := 1, bytes := 8, zero := [.nilFunc], parts := [] }
theorem ty43 : TyAt Try.prog 43 td43 := mkTy (.nilFunc) Try.underlying43 (by kernel_rfl) rfl rfl (fun fs h w => by cases h)
def td44 : TD := { d := (Go.TypeDesc.func #[9] #[23, 26] false), size := 1, bytes := 8, zero := [.nilFunc], parts := [] }
theorem ty44 : TyAt Try.prog 44 td44 := mkTy (.nilFunc) Try.underlying44 (by kernel_rfl) rfl rfl (fun fs h w => by cases h)
def td46 : TD := { d := (Go.TypeDesc.func #[] #[3, 3] false), size := 1, bytes := 8, zero := [.nilFunc], parts := [] }
theorem ty46 : TyAt Try.prog 46 td46 := mkTy (.nilFunc) Try.underlying46 (by kernel_rfl) rfl rfl (fun fs h w => by cases h)
def td47 : TD := { d := (Go.TypeDesc.func #[41] #[4] false), size := 1, bytes := 8, zero := [.nilFunc], parts := [] }
theorem ty47 : TyAt Try.prog 47 td47 := mkTy (.nilFunc) Try.underlying47 (by kernel_rfl) rfl rfl (fun fs h w => by cases h)
def td48 : TD := { d := (Go.TypeDesc.func #[9] #[23, 3] false), size := 1, bytes := 8, zero := [.nilFunc], parts := [] }
theorem ty48 : TyAt Try.prog 48 td48 := mkTy (.nilFunc) Try.underlying48 (by kernel_rfl) rfl rfl (fun fs h w => by cases h)
def td49 : TD := { d := (Go.TypeDesc.func #[9] #[4] false), size := 1, bytes := 8, zero := [.nilFunc], parts := [] }
theorem ty49 : TyAt Try.prog 49 td49 := mkTy (.nilFunc) Try.underlying49 (by kernel_rfl) rfl rfl (fun fs h w => by cases h)
def td50 : TD := { d := (Go.TypeDesc.func #[23] #[23, 26] false), size := 1, bytes := 8, zero := [.nilFunc], parts := [] }
theorem ty50 : TyAt Try.prog 50 td50 := mkTy (.nilFunc) Try.underlying50 (by kernel_rfl) rfl rfl (fun fs h w => by cases h)
def td51 : TD := { d := (Go.TypeDesc.func #[23, 3, 9] #[4] false), size := 1, bytes := 8, zero := [.nilFunc], parts := [] }
theorem ty51 : TyAt Try.prog 51 td51 := mkTy (.nilFunc) Try.underlying51 (by kernel_rfl) rfl rfl (fun fs h w => by cases h)
def td52 : TD := { d := (Go.TypeDesc.func #[23, 23, 3, 9] #[4] false), size := 1, bytes := 8, zero := [.nilFunc], parts := [] }
theorem ty52 : TyAt Try.prog 52 td52 := mkTy (.nilFunc) Try.underlying52 (by kernel_rfl) rfl rfl (fun fs h w => by cases h)
def td53 : TD := { d := (Go.TypeDesc.int Go.IntKind.u64), size := 1, bytes := 8, zero := [.int .u64 0], parts := [] }
theorem ty53 : TyAt Try.prog 53 td53 := mkTy (.int .u64 0) Try.underlying53 (by kernel_rfl) rfl rfl (fun fs h w => by cases h)
def td54 : TD := { d := (Go.TypeDesc.struct #[{ name := "Root", type := 53, offset := 0, embedded := false, tag := "", pkgPath := "", byteOffset := 0 }, { name := "Cost", type := 53, offset := 1, embedded := false, tag := "", pkgPath := "", byteOffset := 8 }, { name := "Bridge", type := 53, offset := 2, embedded := false, tag := "", pkgPath := "", byteOffset := 16 }, { name := "Port", type := 53, offset := 3, embedded := false, tag := "", pkgPath := "", byteOffset := 24 }]), size := 4, bytes := 32, zero := [.int .u64 0, .int .u64 0, .int .u64 0, .int .u64 0], parts := [(0, 1), (1, 1), (2, 1), (3, 1)] }
theorem ty54 : TyAt Try.prog 54 td54 := mkTy (.agg ⟨[.int .u64 0, .int .u64 0, .int .u64 0, .int .u64 0]⟩) Try.underlying54 (by kernel_rfl) rfl rfl (fun fs h w => by cases h; kernel_rfl)
def td55 : TD := { d := (Go.TypeDesc.struct #[{ name := "Root", type := 53, offset := 0, embedded := false, tag := "", pkgPath := "", byteOffset := 0 }, { name := "Cost", type := 53, offset := 1, embedded := false, tag := "", pkgPath := "", byteOffset := 8 }, { name := "Bridge", type := 53, offset := 2, embedded := false, tag := "", pkgPath := "", byteOffset := 16 }, { name := "Port", type := 53, offset := 3, embedded := false, tag := "", pkgPath := "", byteOffset := 24 }]), size := 4, bytes := 32, zero := [.int .u64 0, .int .u64 0, .int .u64 0, .int .u64 0], parts := [(0, 1), (1, 1), (2, 1), (3, 1)] }
theorem ty55 : TyAt Try.prog 55 td55 := mkTy (.agg ⟨[.int .u64 0, .int .u64 0, .int .u64 0, .int .u64 0]⟩) Try.underlying55 (by kernel_rfl) rfl rfl (fun fs h w => by cases h; kernel_rfl)
def td56 : TD := { d := (Go.TypeDesc.struct #[{ name := "Kind", type := 3, offset := 0, embedded := false, tag := "", pkgPath := "", byteOffset := 0 }, { name := "Flags", type := 3, offset := 1, embedded := false, tag := "", pkgPath := "", byteOffset := 8 }, { name := "Vector", type := 55, offset := 2, embedded := false, tag := "", pkgPath := "", byteOffset := 16 }, { name := "Age", type := 3, offset := 6, embedded := false, tag := "", pkgPath := "", byteOffset := 48 }, { name := "Max", type := 3, offset := 7, embedded := false, tag := "", pkgPath := "", byteOffset := 56 }, { name := "Hello", type := 3, offset := 8, embedded := false, tag := "", pkgPath := "", byteOffset := 64 }, { name := "Delay", type := 3, offset := 9, embedded := false, tag := "", pkgPath := "", byteOffset := 72 }]), size := 10, bytes := 80, zero := [.int .i64 0, .int .i64 0, .int .u64 0, .int .u64 0, .int .u64 0, .int .u64 0, .int .i64 0, .int .i64 0, .int .i64 0, .int .i64 0], parts := [(0, 1), (1, 1), (2, 4), (6, 1), (7, 1), (8, 1), (9, 1)] }
theorem ty56 : TyAt Try.prog 56 td56 := mkTy (.agg ⟨[.int .i64 0, .int .i64 0, .int .u64 0, .int .u64 0, .int .u64 0, .int .u64 0, .int .i64 0, .int .i64 0, .int .i64 0, .int .i64 0]⟩) Try.underlying56 (by kernel_rfl) rfl rfl (fun fs h w => by cases h; kernel_rfl)
def td57 : TD := { d := (Go.TypeDesc.struct #[{ name := "Kind", type := 3, offset := 0, embedded := false, tag := "", pkgPath := "", byteOffset := 0 }, { name := "Flags", type := 3, offset := 1, embedded := false, tag := "", pkgPath := "", byteOffset := 8 }, { name := "Vector", type := 55, offset := 2, embedded := false, tag := "", pkgPath := "", byteOffset := 16 }, { name := "Age", type := 3, offset := 6, embedded := false, tag := "", pkgPath := "", byteOffset := 48 }, { name := "Max", type := 3, offset := 7, embedded := false, tag := "", pkgPath := "", byteOffset := 56 }, { name := "Hello", type := 3, offset := 8, embedded := false, tag := "", pkgPath := "", byteOffset := 64 }, { name := "Delay", type := 3, offset := 9, embedded := false, tag := "", pkgPath := "", byteOffset := 72 }]), size := 10, bytes := 80, zero := [.int .i64 0, .int .i64 0, .int .u64 0, .int .u64 0, .int .u64 0, .int .u64 0, .int .i64 0, .int .i64 0, .int .i64 0, .int .i64 0], parts := [(0, 1), (1, 1), (2, 4), (6, 1), (7, 1), (8, 1), (9, 1)] }
theorem ty57 : TyAt Try.prog 57 td57 := mkTy (.agg ⟨[.int .i64 0, .int .i64 0, .int .u64 0, .int .u64 0, .int .u64 0, .int .u64 0, .int .i64 0, .int .i64 0, .int .i64 0, .int .i64 0]⟩) Try.underlying57 (by kernel_rfl) rfl rfl (fun fs h w => by cases h; kernel_rfl)
def td58 : TD := { d := (Go.TypeDesc.func #[57] #[9, 26] false), size := 1, bytes := 8, zero := [.nilFunc], parts := [] }
theorem ty58 : TyAt Try.prog 58 td58 := mkTy (.nilFunc) Try.underlying58 (by kernel_rfl) rfl rfl (fun fs h w => by cases h)
def td59 : TD := { d := (Go.TypeDesc.func #[60] #[9, 3] false), size := 1, bytes := 8, zero := [.nilFunc], parts := [] }
theorem ty59 : TyAt Try.prog 59 td59 := mkTy (.nilFunc) Try.underlying59 (by kernel_rfl) rfl rfl (fun fs h w => by cases h)
def td60 : TD := { d := (Go.TypeDesc.struct #[{ name := "Kind", type := 3, offset := 0, embedded := false, tag := "", pkgPath := "", byteOffset := 0 }, { name := "Flags", type := 3, offset := 1, embedded := false, tag := "", pkgPath := "", byteOffset := 8 }, { name := "Vector", type := 55, offset := 2, embedded := false, tag := "", pkgPath := "", byteOffset := 16 }, { name := "Age", type := 3, offset := 6, embedded := false, tag := "", pkgPath := "", byteOffset := 48 }, { name := "Max", type := 3, offset := 7, embedded := false, tag := "", pkgPath := "", byteOffset := 56 }, { name := "Hello", type := 3, offset := 8, embedded := false, tag := "", pkgPath := "", byteOffset := 64 }, { name := "Delay", type := 3, offset := 9, embedded := false, tag := "", pkgPath := "", byteOffset := 72 }]), size := 10, bytes := 80, zero := [.int .i64 0, .int .i64 0, .int .u64 0, .int .u64 0, .int .u64 0, .int .u64 0, .int .i64 0, .int .i64 0, .int .i64 0, .int .i64 0], parts := [(0, 1), (1, 1), (2, 4), (6, 1), (7, 1), (8, 1), (9, 1)] }
theorem ty60 : TyAt Try.prog 60 td60 := mkTy (.agg ⟨[.int .i64 0, .int .i64 0, .int .u64 0, .int .u64 0, .int .u64 0, .int .u64 0, .int .i64 0, .int .i64 0, .int .i64 0, .int .i64 0]⟩) Try.underlying60 (by kernel_rfl) rfl rfl (fun fs h w => by cases h; kernel_rfl)
def td62 : TD := { d := (Go.TypeDesc.func #[9] #[57, 26] false), size := 1, bytes := 8, zero := [.nilFunc], parts := [] }
theorem ty62 : TyAt Try.prog 62 td62 := mkTy (.nilFunc) Try.underlying62 (by kernel_rfl) rfl rfl (fun fs h w => by cases h)
def td64 : TD := { d := (Go.TypeDesc.func #[9] #[60, 3] false), size := 1, bytes := 8, zero := [.nilFunc], parts := [] }
theorem ty64 : TyAt Try.prog 64 td64 := mkTy (.nilFunc) Try.underlying64 (by kernel_rfl) rfl rfl (fun fs h w => by cases h)
def td65 : TD := { d := (Go.TypeDesc.func #[57] #[4] false), size := 1, bytes := 8, zero := [.nilFunc], parts := [] }
theorem ty65 : TyAt Try.prog 65 td65 := mkTy (.nilFunc) Try.underlying65 (by kernel_rfl) rfl rfl (fun fs h w => by cases h)
def td66 : TD := { d := (Go.TypeDesc.func #[60] #[4] false), size := 1, bytes := 8, zero := [.nilFunc], parts := [] }
theorem ty66 : TyAt Try.prog 66 td66 := mkTy (.nilFunc) Try.underlying66 (by kernel_rfl) rfl rfl (fun fs h w => by cases h)
def td67 : TD := { d := (Go.TypeDesc.func #[3] #[3] false), size := 1, bytes := 8, zero := [.nilFunc], parts := [] }
theorem ty67 : TyAt Try.prog 67 td67 := mkTy (.nilFunc) Try.underlying67 (by kernel_rfl) rfl rfl (fun fs h w => by cases h)
def td68 : TD := { d := (Go.TypeDesc.func #[57, 9, 3, 3] #[4] false), size := 1, bytes := 8, zero := [.nilFunc], parts := [] }
theorem ty68 : TyAt Try.prog 68 td68 := mkTy (.nilFunc) Try.underlying68 (by kernel_rfl) rfl rfl (fun fs h w => by cases h)
def td69 : TD := { d := (Go.TypeDesc.func #[57, 57, 9, 9, 3] #[4] false), size := 1, bytes := 8, zero := [.nilFunc], parts := [] }
theorem ty69 : TyAt Try.prog 69 td69 := mkTy (.nilFunc) Try.underlying69 (by kernel_rfl) rfl rfl (fun fs h w => by cases h)
def td71 : TD := { d := (Go.TypeDesc.func #[53] #[3, 3, 9] false), size := 1, bytes := 8, zero := [.nilFunc], parts := [] }
theorem ty71 : TyAt Try.prog 71 td71 := mkTy (.nilFunc) Try.underlying71 (by kernel_rfl) rfl rfl (fun fs h w => by cases h)
def td73 : TD := { d := (Go.TypeDesc.func #[3, 3, 9] #[53, 26] false), size := 1, bytes := 8, zero := [.nilFunc], parts := [] }
theorem ty73 : TyAt Try.prog 73 td73 := mkTy (.nilFunc) Try.underlying73 (by kernel_rfl) rfl rfl (fun fs h w => by cases h)
def td74 : TD := { d := (Go.TypeDesc.func #[53, 53] #[4] false), size := 1, bytes := 8, zero := [.nilFunc], parts := [] }
theorem ty74 : TyAt Try.prog 74 td74 := mkTy (.nilFunc) Try.underlying74 (by kernel_rfl) rfl rfl (fun fs h w => by cases h)
def td75 : TD := { d := (Go.TypeDesc.slice 55), size := 1, bytes := 24, zero := [.slice none 0 0], parts := [] }
theorem ty75 : TyAt Try.prog 75 td75 := mkTy (.slice none 0 0) Try.underlying75 (by kernel_rfl) rfl rfl (fun fs h w => by cases h)
def td76 : TD := { d := (Go.TypeDesc.func #[55, 55] #[3] false), size := 1, bytes := 8, zero := [.nilFunc], parts := [] }
theorem ty76 : TyAt Try.prog 76 td76 := mkTy (.nilFunc) Try.underlying76 (by kernel_rfl) rfl rfl (fun fs h w => by cases h)
def td77 : TD := { d := (Go.TypeDesc.func #[55, 55] #[4] false), size := 1, bytes := 8, zero := [.nilFunc], parts := [] }
theorem ty77 : TyAt Try.prog 77 td77 := mkTy (.nilFunc) Try.underlying77 (by kernel_rfl) rfl rfl (fun fs h w => by cases h)
def td78 : TD := { d := (Go.TypeDesc.func #[75] #[3] false), size := 1, bytes := 8, zero := [.nilFunc], parts := [] }
theorem ty78 : TyAt Try.prog 78 td78 := mkTy (.nilFunc) Try.underlying78 (by kernel_rfl) rfl rfl (fun fs h w => by cases h)
def td79 : TD := { d := (Go.TypeDesc.func #[55, 55, 55, 75] #[4] false), size := 1, bytes := 8, zero := [.nilFunc], parts := [] }
theorem ty79 : TyAt Try.prog 79 td79 := mkTy (.nilFunc) Try.underlying79 (by kernel_rfl) rfl rfl (fun fs h w => by cases h)
def td80 : TD := { d := (Go.TypeDesc.int Go.IntKind.u32), size := 1, bytes := 4, zero := [.int .u32 0], parts := [] }
theorem ty80 : TyAt Try.prog 80 td80 := mkTy (.int .u32 0) Try.underlying80 (by kernel_rfl) rfl rfl (fun fs h w => by cases h)
def td81 : TD := { d := (Go.TypeDesc.func #[55, 53] #[55] false), size := 1, bytes := 8, zero := [.nilFunc], parts := [] }
theorem ty81 : TyAt Try.prog 81 td81 := mkTy (.nilFunc) Try.underlying81 (by kernel_rfl) rfl rfl (fun fs h w => by cases h)
def td82 : TD := { d := (Go.TypeDesc.func #[55, 55, 80, 80] #[4] false), size := 1, bytes := 8, zero := [.nilFunc], parts := [] }
theorem ty82 : TyAt Try.prog 82 td82 := mkTy (.nilFunc) Try.underlying82 (by kernel_rfl) rfl rfl (fun fs h w => by cases h)
def td83 : TD := { d := (Go.TypeDesc.func #[57, 3] #[9, 26] false), size := 1, bytes := 8, zero := [.nilFunc], parts := [] }
theorem ty83 : TyAt Try.prog 83 td83 := mkTy (.nilFunc) Try.underlying83 (by kernel_rfl) rfl rfl (fun fs h w => by cases h)
def td84 : TD := { d := (Go.TypeDesc.func #[60, 3] #[9, 3] false), size := 1, bytes := 8, zero := [.nilFunc], parts := [] }
theorem ty84 : TyAt Try.prog 84 td84 := mkTy (.nilFunc) Try.underlying84 (by kernel_rfl) rfl rfl (fun fs h w => by cases h)
def td86 : TD := { d := (Go.TypeDesc.func #[9] #[57, 3, 26] false), size := 1, bytes := 8, zero := [.nilFunc], parts := [] }
theorem ty86 : TyAt Try.prog 86 td86 := mkTy (.nilFunc) Try.underlying86 (by kernel_rfl) rfl rfl (fun fs h w => by cases h)
def td88 : TD := { d := (Go.TypeDesc.func #[9] #[60, 3, 3] false), size := 1, bytes := 8, zero := [.nilFunc], parts := [] }
theorem ty88 : TyAt Try.prog 88 td88 := mkTy (.nilFunc) Try.underlying88 (by kernel_rfl) rfl rfl (fun fs h w => by cases h)
def td89 : TD := { d := (Go.TypeDesc.func #[57, 3, 9] #[4] false), size := 1, bytes := 8, zero := [.nilFunc], parts := [] }
theorem ty89 : TyAt Try.prog 89 td89 := mkTy (.nilFunc) Try.underlying89 (by kernel_rfl) rfl rfl (fun fs h w => by cases h)
def td90 : TD := { d := (Go.TypeDesc.func #[57, 3, 9, 3] #[4] false), size := 1, bytes := 8, zero := [.nilFunc], parts := [] }
theorem ty90 : TyAt Try.prog 90 td90 := mkTy (.nilFunc) Try.underlying90 (by kernel_rfl) rfl rfl (fun fs h w => by cases h)
def td91 : TD := { d := (Go.TypeDesc.array 3 9), size := 3, bytes := 48, zero := [.string ⟨#[]⟩, .string ⟨#[]⟩, .string ⟨#[]⟩], parts := [] }
theorem ty91 : TyAt Try.prog 91 td91 := mkTy (.agg ⟨[.string ⟨#[]⟩, .string ⟨#[]⟩, .string ⟨#[]⟩]⟩) Try.underlying91 (by kernel_rfl) rfl rfl (fun fs h w => by cases h)
def td92 : TD := { d := (Go.TypeDesc.func #[] #[91] false), size := 1, bytes := 8, zero := [.nilFunc], parts := [] }
theorem ty92 : TyAt Try.prog 92 td92 := mkTy (.nilFunc) Try.underlying92 (by kernel_rfl) rfl rfl (fun fs h w => by cases h)
def td93 : TD := { d := (Go.TypeDesc.func #[9, 9, 3, 9] #[23, 26] false), size := 1, bytes := 8, zero := [.nilFunc], parts := [] }
theorem ty93 : TyAt Try.prog 93 td93 := mkTy (.nilFunc) Try.underlying93 (by kernel_rfl) rfl rfl (fun fs h w => by cases h)
def td94 : TD := { d := (Go.TypeDesc.slice 5), size := 1, bytes := 24, zero := [.slice none 0 0], parts := [] }
theorem ty94 : TyAt Try.prog 94 td94 := mkTy (.slice none 0 0) Try.underlying94 (by kernel_rfl) rfl rfl (fun fs h w => by cases h)
def td95 : TD := { d := (Go.TypeDesc.int Go.IntKind.u64), size := 1, bytes := 8, zero := [.int .u64 0], parts := [] }
theorem ty95 : TyAt Try.prog 95 td95 := mkTy (.int .u64 0) Try.underlying95 (by kernel_rfl) rfl rfl (fun fs h w => by cases h)
def td96 : TD := { d := (Go.TypeDesc.func #[9, 9] #[4] false), size := 1, bytes := 8, zero := [.nilFunc], parts := [] }
theorem ty96 : TyAt Try.prog 96 td96 := mkTy (.nilFunc) Try.underlying96 (by kernel_rfl) rfl rfl (fun fs h w => by cases h)
def td97 : TD := { d := (Go.TypeDesc.func #[3] #[4] false), size := 1, bytes := 8, zero := [.nilFunc], parts := [] }
theorem ty97 : TyAt Try.prog 97 td97 := mkTy (.nilFunc) Try.underlying97 (by kernel_rfl) rfl rfl (fun fs h w => by cases h)
def td98 : TD := { d := (Go.TypeDesc.func #[9, 94] #[4] false), size := 1, bytes := 8, zero := [.nilFunc], parts := [] }
theorem ty98 : TyAt Try.prog 98 td98 := mkTy (.nilFunc) Try.underlying98 (by kernel_rfl) rfl rfl (fun fs h w => by cases h)
def td99 : TD := { d := (Go.TypeDesc.struct #[]), size := 0, bytes := 0, zero := [], parts := [] }
theorem ty99 : TyAt Try.prog 99 td99 := mkTy (.agg ⟨[]⟩) Try.underlying99 (by kernel_rfl) rfl rfl (fun fs h w => by cases h; kernel_rfl)
def td100 : TD := { d := (Go.TypeDesc.struct #[]), size := 0, bytes := 0, zero := [], parts := [] }
theorem ty100 : TyAt Try.prog 100 td100 := mkTy (.agg ⟨[]⟩) Try.underlying100 (by kernel_rfl) rfl rfl (fun fs h w => by cases h; kernel_rfl)
def td101 : TD := { d := (Go.TypeDesc.struct #[]), size := 0, bytes := 0, zero := [], parts := [] }
theorem ty101 : TyAt Try.prog 101 td101 := mkTy (.agg ⟨[]⟩) Try.underlying101 (by kernel_rfl) rfl rfl (fun fs h w => by cases h; kernel_rfl)
def td102 : TD := { d := (Go.TypeDesc.struct #[{ name := "_", type := 100, offset := 0, embedded := false, tag := "", pkgPath := "sync/atomic", byteOffset := 0 }, { name := "_", type := 101, offset := 0, embedded := false, tag := "", pkgPath := "sync/atomic", byteOffset := 0 }, { name := "v", type := 2, offset := 0, embedded := false, tag := "", pkgPath := "sync/atomic", byteOffset := 0 }]), size := 1, bytes := 8, zero := [.int .i64 0], parts := [(0, 0), (0, 0), (0, 1)] }
theorem ty102 : TyAt Try.prog 102 td102 := mkTy (.agg ⟨[.int .i64 0]⟩) Try.underlying102 (by kernel_rfl) rfl rfl (fun fs h w => by cases h; kernel_rfl)
def td103 : TD := { d := (Go.TypeDesc.struct #[{ name := "_", type := 100, offset := 0, embedded := false, tag := "", pkgPath := "sync/atomic", byteOffset := 0 }, { name := "_", type := 101, offset := 0, embedded := false, tag := "", pkgPath := "sync/atomic", byteOffset := 0 }, { name := "v", type := 2, offset := 0, embedded := false, tag := "", pkgPath := "sync/atomic", byteOffset := 0 }]), size := 1, bytes := 8, zero := [.int .i64 0], parts := [(0, 0), (0, 0), (0, 1)] }
theorem ty103 : TyAt Try.prog 103 td103 := mkTy (.agg ⟨[.int .i64 0]⟩) Try.underlying103 (by kernel_rfl) rfl rfl (fun fs h w => by cases h; kernel_rfl)
def td104 : TD := { d := (Go.TypeDesc.struct #[{ name := "good", type := 103, offset := 0, embedded := false, tag := "", pkgPath := "treebridge/frame", byteOffset := 0 }, { name := "bad", type := 103, offset := 1, embedded := false, tag := "", pkgPath := "treebridge/frame", byteOffset := 8 }]), size := 2, bytes := 16, zero := [.int .i64 0, .int .i64 0], parts := [(0, 1), (1, 1)] }
theorem ty104 : TyAt Try.prog 104 td104 := mkTy (.agg ⟨[.int .i64 0, .int .i64 0]⟩) Try.underlying104 (by kernel_rfl) rfl rfl (fun fs h w => by cases h; kernel_rfl)
def td105 : TD := { d := (Go.TypeDesc.struct #[{ name := "good", type := 103, offset := 0, embedded := false, tag := "", pkgPath := "treebridge/frame", byteOffset := 0 }, { name := "bad", type := 103, offset := 1, embedded := false, tag := "", pkgPath := "treebridge/frame", byteOffset := 8 }]), size := 2, bytes := 16, zero := [.int .i64 0, .int .i64 0], parts := [(0, 1), (1, 1)] }
theorem ty105 : TyAt Try.prog 105 td105 := mkTy (.agg ⟨[.int .i64 0, .int .i64 0]⟩) Try.underlying105 (by kernel_rfl) rfl rfl (fun fs h w => by cases h; kernel_rfl)
def td106 : TD := { d := (Go.TypeDesc.func #[2] #[2] false), size := 1, bytes := 8, zero := [.nilFunc], parts := [] }
theorem ty106 : TyAt Try.prog 106 td106 := mkTy (.nilFunc) Try.underlying106 (by kernel_rfl) rfl rfl (fun fs h w => by cases h)
def td107 : TD := { d := (Go.TypeDesc.func #[] #[2] false), size := 1, bytes := 8, zero := [.nilFunc], parts := [] }
theorem ty107 : TyAt Try.prog 107 td107 := mkTy (.nilFunc) Try.underlying107 (by kernel_rfl) rfl rfl (fun fs h w => by cases h)
def td108 : TD := { d := (Go.TypeDesc.func #[3] #[9] false), size := 1, bytes := 8, zero := [.nilFunc], parts := [] }
theorem ty108 : TyAt Try.prog 108 td108 := mkTy (.nilFunc) Try.underlying108 (by kernel_rfl) rfl rfl (fun fs h w => by cases h)
def td109 : TD := { d := (Go.TypeDesc.func #[94, 53, 3] #[94] false), size := 1, bytes := 8, zero := [.nilFunc], parts := [] }
theorem ty109 : TyAt Try.prog 109 td109 := mkTy (.nilFunc) Try.underlying109 (by kernel_rfl) rfl rfl (fun fs h w => by cases h)
def td110 : TD := { d := (Go.TypeDesc.slice 3), size := 1, bytes := 24, zero := [.slice none 0 0], parts := [] }
theorem ty110 : TyAt Try.prog 110 td110 := mkTy (.slice none 0 0) Try.underlying110 (by kernel_rfl) rfl rfl (fun fs h w => by cases h)
def td111 : TD := { d := (Go.TypeDesc.func #[53, 3] #[9] false), size := 1, bytes := 8, zero := [.nilFunc], parts := [] }
theorem ty111 : TyAt Try.prog 111 td111 := mkTy (.nilFunc) Try.underlying111 (by kernel_rfl) rfl rfl (fun fs h w => by cases h)
def td112 : TD := { d := (Go.TypeDesc.func #[5, 5] #[3] false), size := 1, bytes := 8, zero := [.nilFunc], parts := [] }
theorem ty112 : TyAt Try.prog 112 td112 := mkTy (.nilFunc) Try.underlying112 (by kernel_rfl) rfl rfl (fun fs h w => by cases h)
def td113 : TD := { d := (Go.TypeDesc.func #[3] #[53] false), size := 1, bytes := 8, zero := [.nilFunc], parts := [] }
theorem ty113 : TyAt Try.prog 113 td113 := mkTy (.nilFunc) Try.underlying113 (by kernel_rfl) rfl rfl (fun fs h w => by cases h)
def td114 : TD := { d := (Go.TypeDesc.pointer 3), size := 1, bytes := 8, zero := [.pointer none], parts := [] }
theorem ty114 : TyAt Try.prog 114 td114 := mkTy (.pointer none) Try.underlying114 (by kernel_rfl) rfl rfl (fun fs h w => by cases h)
def td115 : TD := { d := (Go.TypeDesc.slice 114), size := 1, bytes := 24, zero := [.slice none 0 0], parts := [] }
theorem ty115 : TyAt Try.prog 115 td115 := mkTy (.slice none 0 0) Try.underlying115 (by kernel_rfl) rfl rfl (fun fs h w => by cases h)
def td116 : TD := { d := (Go.TypeDesc.func #[9, 3, 3] #[53] false), size := 1, bytes := 8, zero := [.nilFunc], parts := [] }
theorem ty116 : TyAt Try.prog 116 td116 := mkTy (.nilFunc) Try.underlying116 (by kernel_rfl) rfl rfl (fun fs h w => by cases h)
def td117 : TD := { d := (Go.TypeDesc.func #[3, 3] #[4] false), size := 1, bytes := 8, zero := [.nilFunc], parts := [] }
theorem ty117 : TyAt Try.prog 117 td117 := mkTy (.nilFunc) Try.underlying117 (by kernel_rfl) rfl rfl (fun fs h w => by cases h)
def td118 : TD := { d := (Go.TypeDesc.array 4 3), size := 4, bytes := 32, zero := [.int .i64 0, .int .i64 0, .int .i64 0, .int .i64 0], parts := [] }
theorem ty118 : TyAt Try.prog 118 td118 := mkTy (.agg ⟨[.int .i64 0, .int .i64 0, .int .i64 0, .int .i64 0]⟩) Try.underlying118 (by kernel_rfl) rfl rfl (fun fs h w => by cases h)
def td119 : TD := { d := (Go.TypeDesc.func #[3, 3] #[53, 26] false), size := 1, bytes := 8, zero := [.nilFunc], parts := [] }
theorem ty119 : TyAt Try.prog 119 td119 := mkTy (.nilFunc) Try.underlying119 (by kernel_rfl) rfl rfl (fun fs h w => by cases h)
def td120 : TD := { d := (Go.TypeDesc.array 6 5), size := 6, bytes := 6, zero := [.int .u8 0, .int .u8 0, .int .u8 0, .int .u8 0, .int .u8 0, .int .u8 0], parts := [] }
theorem ty120 : TyAt Try.prog 120 td120 := mkTy (.agg ⟨[.int .u8 0, .int .u8 0, .int .u8 0, .int .u8 0, .int .u8 0, .int .u8 0]⟩) Try.underlying120 (by kernel_rfl) rfl rfl (fun fs h w => by cases h)
def td121 : TD := { d := (Go.TypeDesc.array 4 53), size := 4, bytes := 32, zero := [.int .u64 0, .int .u64 0, .int .u64 0, .int .u64 0], parts := [] }
theorem ty121 : TyAt Try.prog 121 td121 := mkTy (.agg ⟨[.int .u64 0, .int .u64 0, .int .u64 0, .int .u64 0]⟩) Try.underlying121 (by kernel_rfl) rfl rfl (fun fs h w => by cases h)
def td122 : TD := { d := (Go.TypeDesc.func #[55] #[121] false), size := 1, bytes := 8, zero := [.nilFunc], parts := [] }
theorem ty122 : TyAt Try.prog 122 td122 := mkTy (.nilFunc) Try.underlying122 (by kernel_rfl) rfl rfl (fun fs h w => by cases h)
def td123 : TD := { d := (Go.TypeDesc.func #[124, 124] #[3] false), size := 1, bytes := 8, zero := [.nilFunc], parts := [] }
theorem ty123 : TyAt Try.prog 123 td123 := mkTy (.nilFunc) Try.underlying123 (by kernel_rfl) rfl rfl (fun fs h w => by cases h)
def td124 : TD := { d := (Go.TypeDesc.slice 53), size := 1, bytes := 24, zero := [.slice none 0 0], parts := [] }
theorem ty124 : TyAt Try.prog 124 td124 := mkTy (.slice none 0 0) Try.underlying124 (by kernel_rfl) rfl rfl (fun fs h w => by cases h)
def td125 : TD := { d := (Go.TypeDesc.struct #[{ name := "bridge", type := 53, offset := 0, embedded := false, tag := "", pkgPath := "treebridge/vector", byteOffset := 0 }, { name := "port", type := 53, offset := 1, embedded := false, tag := "", pkgPath := "treebridge/vector", byteOffset := 8 }]), size := 2, bytes := 16, zero := [.int .u64 0, .int .u64 0], parts := [(0, 1), (1, 1)] }
theorem ty125 : TyAt Try.prog 125 td125 := mkTy (.agg ⟨[.int .u64 0, .int .u64 0]⟩) Try.underlying125 (by kernel_rfl) rfl rfl (fun fs h w => by cases h; kernel_rfl)
def td126 : TD := { d := (Go.TypeDesc.struct #[{ name := "bridge", type := 53, offset := 0, embedded := false, tag := "", pkgPath := "treebridge/vector", byteOffset := 0 }, { name := "port", type := 53, offset := 1, embedded := false, tag := "", pkgPath := "treebridge/vector", byteOffset := 8 }]), size := 2, bytes := 16, zero := [.int .u64 0, .int .u64 0], parts := [(0, 1), (1, 1)] }
theorem ty126 : TyAt Try.prog 126 td126 := mkTy (.agg ⟨[.int .u64 0, .int .u64 0]⟩) Try.underlying126 (by kernel_rfl) rfl rfl (fun fs h w => by cases h; kernel_rfl)
def td127 : TD := { d := (Go.TypeDesc.func #[55] #[126] false), size := 1, bytes := 8, zero := [.nilFunc], parts := [] }
theorem ty127 : TyAt Try.prog 127 td127 := mkTy (.nilFunc) Try.underlying127 (by kernel_rfl) rfl rfl (fun fs h w => by cases h)
def td128 : TD := { d := (Go.TypeDesc.func #[75, 76] #[55] false), size := 1, bytes := 8, zero := [.nilFunc], parts := [] }
theorem ty128 : TyAt Try.prog 128 td128 := mkTy (.nilFunc) Try.underlying128 (by kernel_rfl) rfl rfl (fun fs h w => by cases h)
def td129 : TD := { d := (Go.TypeDesc.func #[75, 131] #[3] false), size := 1, bytes := 8, zero := [.nilFunc], parts := [] }
theorem ty129 : TyAt Try.prog 129 td129 := mkTy (.nilFunc) Try.underlying129 (by kernel_rfl) rfl rfl (fun fs h w => by cases h)
def td130 : TD := { d := (Go.TypeDesc.func #[3, 3] #[3] false), size := 1, bytes := 8, zero := [.nilFunc], parts := [] }
theorem ty130 : TyAt Try.prog 130 td130 := mkTy (.nilFunc) Try.underlying130 (by kernel_rfl) rfl rfl (fun fs h w => by cases h)
def td131 : TD := { d := (Go.TypeDesc.func #[55] #[4] false), size := 1, bytes := 8, zero := [.nilFunc], parts := [] }
theorem ty131 : TyAt Try.prog 131 td131 := mkTy (.nilFunc) Try.underlying131 (by kernel_rfl) rfl rfl (fun fs h w => by cases h)
def td132 : TD := { d := (Go.TypeDesc.func #[] #[26] false), size := 1, bytes := 8, zero := [.nilFunc], parts := [] }
theorem ty132 : TyAt Try.prog 132 td132 := mkTy (.nilFunc) Try.underlying132 (by kernel_rfl) rfl rfl (fun fs h w => by cases h)
def td133 : TD := { d := (Go.TypeDesc.pointer 103), size := 1, bytes := 8, zero := [.pointer none], parts := [] }
theorem ty133 : TyAt Try.prog 133 td133 := mkTy (.pointer none) Try.underlying133 (by kernel_rfl) rfl rfl (fun fs h w => by cases h)
def td134 : TD := { d := (Go.TypeDesc.func #[135, 2] #[2] false), size := 1, bytes := 8, zero := [.nilFunc], parts := [] }
theorem ty134 : TyAt Try.prog 134 td134 := mkTy (.nilFunc) Try.underlying134 (by kernel_rfl) rfl rfl (fun fs h w => by cases h)
def td135 : TD := { d := (Go.TypeDesc.pointer 2), size := 1, bytes := 8, zero := [.pointer none], parts := [] }
theorem ty135 : TyAt Try.prog 135 td135 := mkTy (.pointer none) Try.underlying135 (by kernel_rfl) rfl rfl (fun fs h w => by cases h)
def td136 : TD := { d := (Go.TypeDesc.func #[135] #[2] false), size := 1, bytes := 8, zero := [.nilFunc], parts := [] }
theorem ty136 : TyAt Try.prog 136 td136 := mkTy (.nilFunc) Try.underlying136 (by kernel_rfl) rfl rfl (fun fs h w => by cases h)
def td137 : TD := { d := (Go.TypeDesc.func #[53, 53] #[3] false), size := 1, bytes := 8, zero := [.nilFunc], parts := [] }
theorem ty137 : TyAt Try.prog 137 td137 := mkTy (.nilFunc) Try.underlying137 (by kernel_rfl) rfl rfl (fun fs h w => by cases h)
def td138 : TD := { d := (Go.TypeDesc.func #[53] #[4] false), size := 1, bytes := 8, zero := [.nilFunc], parts := [] }
theorem ty138 : TyAt Try.prog 138 td138 := mkTy (.nilFunc) Try.underlying138 (by kernel_rfl) rfl rfl (fun fs h w => by cases h)
def td139 : TD := { d := (Go.TypeDesc.func #[] #[9] false), size := 1, bytes := 8, zero := [.nilFunc], parts := [] }
theorem ty139 : TyAt Try.prog 139 td139 := mkTy (.nilFunc) Try.underlying139 (by kernel_rfl) rfl rfl (fun fs h w => by cases h)
def td142 : TD := { d := (Go.TypeDesc.array 0 16), size := 0, bytes := 0, zero := [], parts := [] }
theorem ty142 : TyAt Try.prog 142 td142 := mkTy (.agg ⟨[]⟩) Try.underlying142 (by kernel_rfl) rfl rfl (fun fs h w => by cases h)
def td143 : TD := { d := (Go.TypeDesc.struct #[{ name := "_", type := 142, offset := 0, embedded := false, tag := "", pkgPath := "runtime", byteOffset := 0 }]), size := 0, bytes := 0, zero := [], parts := [(0, 0)] }
theorem ty143 : TyAt Try.prog 143 td143 := mkTy (.agg ⟨[]⟩) Try.underlying143 (by kernel_rfl) rfl rfl (fun fs h w => by cases h; kernel_rfl)
def td144 : TD := { d := (Go.TypeDesc.struct #[{ name := "_", type := 142, offset := 0, embedded := false, tag := "", pkgPath := "runtime", byteOffset := 0 }]), size := 0, bytes := 0, zero := [], parts := [(0, 0)] }
theorem ty144 : TyAt Try.prog 144 td144 := mkTy (.agg ⟨[]⟩) Try.underlying144 (by kernel_rfl) rfl rfl (fun fs h w => by cases h; kernel_rfl)
def td145 : TD := { d := (Go.TypeDesc.func #[] #[3] false), size := 1, bytes := 8, zero := [.nilFunc], parts := [] }
theorem ty145 : TyAt Try.prog 145 td145 := mkTy (.nilFunc) Try.underlying145 (by kernel_rfl) rfl rfl (fun fs h w => by cases h)
def td146 : TD := { d := (Go.TypeDesc.int Go.IntKind.u8), size := 1, bytes := 1, zero := [.int .u8 0], parts := [] }
theorem ty146 : TyAt Try.prog 146 td146 := mkTy (.int .u8 0) Try.underlying146 (by kernel_rfl) rfl rfl (fun fs h w => by cases h)
def td147 : TD := { d := (Go.TypeDesc.int Go.IntKind.u8), size := 1, bytes := 1, zero := [.int .u8 0], parts := [] }
theorem ty147 : TyAt Try.prog 147 td147 := mkTy (.int .u8 0) Try.underlying147 (by kernel_rfl) rfl rfl (fun fs h w => by cases h)
def td148 : TD := { d := (Go.TypeDesc.func #[154, 154] #[4] false), size := 1, bytes := 8, zero := [.nilFunc], parts := [] }
theorem ty148 : TyAt Try.prog 148 td148 := mkTy (.nilFunc) Try.underlying148 (by kernel_rfl) rfl rfl (fun fs h w => by cases h)
def td149 : TD := { d := (Go.TypeDesc.pointer 5), size := 1, bytes := 8, zero := [.pointer none], parts := [] }
theorem ty149 : TyAt Try.prog 149 td149 := mkTy (.pointer none) Try.underlying149 (by kernel_rfl) rfl rfl (fun fs h w => by cases h)
def td150 : TD := { d := (Go.TypeDesc.int Go.IntKind.i32), size := 1, bytes := 4, zero := [.int .i32 0], parts := [] }
theorem ty150 : TyAt Try.prog 150 td150 := mkTy (.int .i32 0) Try.underlying150 (by kernel_rfl) rfl rfl (fun fs h w => by cases h)
def td151 : TD := { d := (Go.TypeDesc.int Go.IntKind.i32), size := 1, bytes := 4, zero := [.int .i32 0], parts := [] }
theorem ty151 : TyAt Try.prog 151 td151 := mkTy (.int .i32 0) Try.underlying151 (by kernel_rfl) rfl rfl (fun fs h w => by cases h)
theorem eqt9 : EqT Try.prog 1 9 false [.str] := EqT.str ty9.1 (by kernel_rfl)
theorem eqt4 : EqT Try.prog 1 4 false [.bool] := EqT.bool ty4.1 (by kernel_rfl)
theorem eqt3 : EqT Try.prog 1 3 false [.int .i64] := EqT.int ty3.1 (by kernel_rfl)
theorem eqt23 : EqT Try.prog 2 23 true [.str, .str, .bool, .int .i64, .int .i64, .int .i64, .str] := by
  refine EqT.struct ty23.1 (by kernel_rfl) (by kernel_rfl) ?_
  refine EqFs.cons' (eqt9) (by decide) rfl rfl ?_
  refine EqFs.cons' (eqt9) (by decide) rfl rfl ?_
  refine EqFs.cons' (eqt4) (by decide) rfl rfl ?_
  refine EqFs.cons' (eqt3) (by decide) rfl rfl ?_
  refine EqFs.cons' (eqt3) (by decide) rfl rfl ?_
  refine EqFs.cons' (eqt3) (by decide) rfl rfl ?_
  refine EqFs.cons' (eqt9) (by decide) rfl rfl ?_
  exact .nil
theorem eqS23 : EqTy Try.prog 23 [.str, .str, .bool, .int .i64, .int .i64, .int .i64, .str] := EqTy.mk eqt23 (by kernel_rfl) (Nat.le_of_ble_eq_true rfl)
theorem eqt53 : EqT Try.prog 1 53 false [.int .u64] := EqT.int ty53.1 (by kernel_rfl)
theorem eqt55 : EqT Try.prog 2 55 true [.int .u64, .int .u64, .int .u64, .int .u64] := by
  refine EqT.struct ty55.1 (by kernel_rfl) (by kernel_rfl) ?_
  refine EqFs.cons' (eqt53) (by decide) rfl rfl ?_
  refine EqFs.cons' (eqt53) (by decide) rfl rfl ?_
  refine EqFs.cons' (eqt53) (by decide) rfl rfl ?_
  refine EqFs.cons' (eqt53) (by decide) rfl rfl ?_
  exact .nil
theorem eqS55 : EqTy Try.prog 55 [.int .u64, .int .u64, .int .u64, .int .u64] := EqTy.mk eqt55 (by kernel_rfl) (Nat.le_of_ble_eq_true rfl)
theorem eqt57 : EqT Try.prog 3 57 true [.int .i64, .int .i64, .int .u64, .int .u64, .int .u64, .int .u64, .int .i64, .int .i64, .int .i64, .int .i64] := by
  refine EqT.struct ty57.1 (by kernel_rfl) (by kernel_rfl) ?_
  refine EqFs.cons' (eqt3.more (by decide)) (by decide) rfl rfl ?_
  refine EqFs.cons' (eqt3.more (by decide)) (by decide) rfl rfl ?_
  refine EqFs.cons' (eqt55) (by decide) rfl rfl ?_
  refine EqFs.cons' (eqt3.more (by decide)) (by decide) rfl rfl ?_
  refine EqFs.cons' (eqt3.more (by decide)) (by decide) rfl rfl ?_
  refine EqFs.cons' (eqt3.more (by decide)) (by decide) rfl rfl ?_
  refine EqFs.cons' (eqt3.more (by decide)) (by decide) rfl rfl ?_
  exact .nil
theorem eqS57 : EqTy Try.prog 57 [.int .i64, .int .i64, .int .u64, .int .u64, .int .u64, .int .u64, .int .i64, .int .i64, .int .i64, .int .i64] := EqTy.mk eqt57 (by kernel_rfl) (Nat.le_of_ble_eq_true rfl)
theorem eqt60 : EqT Try.prog 3 60 true [.int .i64, .int .i64, .int .u64, .int .u64, .int .u64, .int .u64, .int .i64, .int .i64, .int .i64, .int .i64] := by
  refine EqT.struct ty60.1 (by kernel_rfl) (by kernel_rfl) ?_
  refine EqFs.cons' (eqt3.more (by decide)) (by decide) rfl rfl ?_
  refine EqFs.cons' (eqt3.more (by decide)) (by decide) rfl rfl ?_
  refine EqFs.cons' (eqt55) (by decide) rfl rfl ?_
  refine EqFs.cons' (eqt3.more (by decide)) (by decide) rfl rfl ?_
  refine EqFs.cons' (eqt3.more (by decide)) (by decide) rfl rfl ?_
  refine EqFs.cons' (eqt3.more (by decide)) (by decide) rfl rfl ?_
  refine EqFs.cons' (eqt3.more (by decide)) (by decide) rfl rfl ?_
  exact .nil
theorem eqS60 : EqTy Try.prog 60 [.int .i64, .int .i64, .int .u64, .int .u64, .int .u64, .int .u64, .int .i64, .int .i64, .int .i64, .int .i64] := EqTy.mk eqt60 (by kernel_rfl) (Nat.le_of_ble_eq_true rfl)
theorem eqt126 : EqT Try.prog 2 126 true [.int .u64, .int .u64] := by
  refine EqT.struct ty126.1 (by kernel_rfl) (by kernel_rfl) ?_
  refine EqFs.cons' (eqt53) (by decide) rfl rfl ?_
  refine EqFs.cons' (eqt53) (by decide) rfl rfl ?_
  exact .nil
theorem eqS126 : EqTy Try.prog 126 [.int .u64, .int .u64] := EqTy.mk eqt126 (by kernel_rfl) (Nat.le_of_ble_eq_true rfl)
def tyL : List (Nat × TD) := [(3, td3), (4, td4), (9, td9), (5, td5), (1, td1), (2, td2), (6, td6), (7, td7), (8, td8), (10, td10), (11, td11), (12, td12), (13, td13), (14, td14), (15, td15), (16, td16), (17, td17), (18, td18), (19, td19), (21, td21), (22, td22), (23, td23), (24, td24), (25, td25), (26, td26), (28, td28), (30, td30), (32, td32), (34, td34), (35, td35), (36, td36), (37, td37), (38, td38), (39, td39), (40, td40), (41, td41), (42, td42), (43, td43), (44, td44), (46, td46), (47, td47), (48, td48), (49, td49), (50, td50), (51, td51), (52, td52), (53, td53), (54, td54), (55, td55), (56, td56), (57, td57), (58, td58), (59, td59), (60, td60), (62, td62), (64, td64), (65, td65), (66, td66), (67, td67), (68, td68), (69, td69), (71, td71), (73, td73), (74, td74), (75, td75), (76, td76), (77, td77), (78, td78), (79, td79), (80, td80), (81, td81), (82, td82), (83, td83), (84, td84), (86, td86), (88, td88), (89, td89), (90, td90), (91, td91), (92, td92), (93, td93), (94, td94), (95, td95), (96, td96), (97, td97), (98, td98), (99, td99), (100, td100), (101, td101), (102, td102), (103, td103), (104, td104), (105, td105), (106, td106), (107, td107), (108, td108), (109, td109), (110, td110), (111, td111), (112, td112), (113, td113), (114, td114), (115, td115), (116, td116), (117, td117), (118, td118), (119, td119), (120, td120), (121, td121), (122, td122), (123, td123), (124, td124), (125, td125), (126, td126), (127, td127), (128, td128), (129, td129), (130, td130), (131, td131), (132, td132), (133, td133), (134, td134), (135, td135), (136, td136), (137, td137), (138, td138), (139, td139), (142, td142), (143, td143), (144, td144), (145, td145), (146, td146), (147, td147), (148, td148), (149, td149), (150, td150), (151, td151)]
abbrev tyT : Nat → Option TD := lookTy tyL
theorem tyOk : TyOk Try.prog tyT := lookTy_ok (all_cons ty3 (all_cons ty4 (all_cons ty9 (all_cons ty5 (all_cons ty1 (all_cons ty2 (all_cons ty6 (all_cons ty7 (all_cons ty8 (all_cons ty10 (all_cons ty11 (all_cons ty12 (all_cons ty13 (all_cons ty14 (all_cons ty15 (all_cons ty16 (all_cons ty17 (all_cons ty18 (all_cons ty19 (all_cons ty21 (all_cons ty22 (all_cons ty23 (all_cons ty24 (all_cons ty25 (all_cons ty26 (all_cons ty28 (all_cons ty30 (all_cons ty32 (all_cons ty34 (all_cons ty35 (all_cons ty36 (all_cons ty37 (all_cons ty38 (all_cons ty39 (all_cons ty40 (all_cons ty41 (all_cons ty42 (all_cons ty43 (all_cons ty44 (all_cons ty46 (all_cons ty47 (all_cons ty48 (all_cons ty49 (all_cons ty50 (all_cons ty51 (all_cons ty52 (all_cons ty53 (all_cons ty54 (all_cons ty55 (all_cons ty56 (all_cons ty57 (all_cons ty58 (all_cons ty59 (all_cons ty60 (all_cons ty62 (all_cons ty64 (all_cons ty65 (all_cons ty66 (all_cons ty67 (all_cons ty68 (all_cons ty69 (all_cons ty71 (all_cons ty73 (all_cons ty74 (all_cons ty75 (all_cons ty76 (all_cons ty77 (all_cons ty78 (all_cons ty79 (all_cons ty80 (all_cons ty81 (all_cons ty82 (all_cons ty83 (all_cons ty84 (all_cons ty86 (all_cons ty88 (all_cons ty89 (all_cons ty90 (all_cons ty91 (all_cons ty92 (all_cons ty93 (all_cons ty94 (all_cons ty95 (all_cons ty96 (all_cons ty97 (all_cons ty98 (all_cons ty99 (all_cons ty100 (all_cons ty101 (all_cons ty102 (all_cons ty103 (all_cons ty104 (all_cons ty105 (all_cons ty106 (all_cons ty107 (all_cons ty108 (all_cons ty109 (all_cons ty110 (all_cons ty111 (all_cons ty112 (all_cons ty113 (all_cons ty114 (all_cons ty115 (all_cons ty116 (all_cons ty117 (all_cons ty118 (all_cons ty119 (all_cons ty120 (all_cons ty121 (all_cons ty122 (all_cons ty123 (all_cons ty124 (all_cons ty125 (all_cons ty126 (all_cons ty127 (all_cons ty128 (all_cons ty129 (all_cons ty130 (all_cons ty131 (all_cons ty132 (all_cons ty133 (all_cons ty134 (all_cons ty135 (all_cons ty136 (all_cons ty137 (all_cons ty138 (all_cons ty139 (all_cons ty142 (all_cons ty143 (all_cons ty144 (all_cons ty145 (all_cons ty146 (all_cons ty147 (all_cons ty148 (all_cons ty149 (all_cons ty150 (all_cons ty151 (all_nil))))))))))))))))))))))))))))))))))))))))))))))))))))))))))))))))))))))))))))))))))))))))))))))))))))))))))))))))))))))))))))))))))))))))))
theorem wide : Try.prog.follows .mixedOrders = true := by kernel_rfl
end Go.Proofs.Yticobcojmpakfaa.Am
