/- What each type of the program is, as far as the walk asks. -/
import Derived.Test.YtgjdmlgdgbehoaaProg
import Derived.Test.YtgjdmlgdgbehoaaAm11
import Derived.KernelRfl
set_option linter.unusedVariables false
set_option maxRecDepth 100000
namespace Go.Proofs.Ytgjdmlgdgbehoaa.Am
open Go Go.RowKit
def TyAt (P : Program) (t : Nat) (i : TD) : Prop := P.underlying t = some i.d ∧ ∃ inf z, P.info? t = some inf ∧ inf.size = i.size ∧ inf.bytes = i.bytes ∧ inf.zero = some z ∧ z.cells = ⟨i.zero⟩ ∧ i.zero.length = i.size ∧
    ∀ fs, i.d = .struct fs → ∀ w, ((fs.mapM fun f => do pure (f.offset, ← sizeOf f.type)) : Sem (Array (Nat × Nat))).run P w = .ok (⟨i.parts⟩ : Array (Nat × Nat)) w
theorem mkTy {P : Program} {t : Nat} {i : TD} (z : Value) (hu : P.underlying t = some i.d) (hi : (P.info? t).map (fun f => (f.size, f.bytes, f.zero)) = some (i.size, i.bytes, some z)) (hz : z.cells = ⟨i.zero⟩) (hl : i.zero.length = i.size)
    (hp : ∀ fs, i.d = .struct fs → ∀ w, ((fs.mapM fun f => do pure (f.offset, ← sizeOf f.type)) : Sem (Array (Nat × Nat))).run P w = .ok (⟨i.parts⟩ : Array (Nat × Nat)) w) : TyAt P t i := by
  obtain ⟨inf, h1, h2⟩ := Option.map_eq_some_iff.1 hi
  simp only [Prod.mk.injEq] at h2
  exact ⟨hu, inf, z, h1, h2.1, h2.2.1, h2.2.2, hz, hl, hp⟩
def lookTy : List (Nat × TD) → Nat → Option TD
  | [], _ => none
  | (k, v) :: r, t => match Nat.beq k t with
    | true => some v
    | false => lookTy r t
theorem lookTy_ok {P : Program} : ∀ {l : List (Nat × TD)}, (∀ p ∈ l, TyAt P p.1 p.2) → TyOk P (lookTy l)
  | [], _, t, i, h => by simp [lookTy] at h
  | (k, v) :: r, hl, t, i, h => by
    simp only [lookTy] at h
    split at h
    · rename_i e
      have e : k = t := by simpa using e
      subst e
      obtain rfl := Option.some.inj h
      exact hl _ List.mem_cons_self
    · exact lookTy_ok (fun p hp => hl p (List.mem_cons_of_mem _ hp)) t i h
theorem all_nil {P : Program} : ∀ p ∈ ([] : List (Nat × TD)), TyAt P p.1 p.2 := fun p hp => by cases hp
theorem all_cons {P : Program} {k : Nat} {v : TD} {r : List (Nat × TD)} (h : TyAt P k v) (hr : ∀ p ∈ r, TyAt P p.1 p.2) : ∀ p ∈ (k, v) :: r, TyAt P p.1 p.2 := fun p hp => by
  rcases List.mem_cons.1 hp with rfl | hp
  · exact h
  · exact hr p hp
def td1 : TD := { d := (Go.TypeDesc.func #[] #[] false), size := 1, bytes := 8, zero := [.nilFunc], parts := [] }
theorem ty1 : TyAt Try.prog 1 td1 := mkTy (.nilFunc) Try.underlying1 (by kernel_rfl) rfl rfl (fun fs h w => by cases h)
def td2 : TD := { d := (Go.TypeDesc.int Go.IntKind.i64), size := 1, bytes := 8, zero := [.int .i64 0], parts := [] }
theorem ty2 : TyAt Try.prog 2 td2 := mkTy (.int .i64 0) Try.underlying2 (by kernel_rfl) rfl rfl (fun fs h w => by cases h)
def td3 : TD := { d := (Go.TypeDesc.int Go.IntKind.i64), size := 1, bytes := 8, zero := [.int .i64 0], parts := [] }
theorem ty3 : TyAt Try.prog 3 td3 := mkTy (.int .i64 0) Try.underlying3 (by kernel_rfl) rfl rfl (fun fs h w => by cases h)
def td4 : TD := { d := Go.TypeDesc.bool, size := 1, bytes := 1, zero := [.bool false], parts := [] }
theorem ty4 : TyAt Try.prog 4 td4 := mkTy (.bool false) Try.underlying4 (by kernel_rfl) rfl rfl (fun fs h w => by cases h)
def td5 : TD := { d := (Go.TypeDesc.int Go.IntKind.u8), size := 1, bytes := 1, zero := [.int .u8 0], parts := [] }
theorem ty5 : TyAt Try.prog 5 td5 := mkTy (.int .u8 0) Try.underlying5 (by kernel_rfl) rfl rfl (fun fs h w => by cases h)
def td6 : TD := { d := (Go.TypeDesc.int Go.IntKind.u8), size := 1, bytes := 1, zero := [.int .u8 0], parts := [] }
theorem ty6 : TyAt Try.prog 6 td6 := mkTy (.int .u8 0) Try.underlying6 (by kernel_rfl) rfl rfl (fun fs h w => by cases h)
def td7 : TD := { d := (Go.TypeDesc.struct #[{ name := "x", type := 2, offset := 0, embedded := false, tag := "", pkgPath := "runtime", byteOffset := 0 }, { name := "y", type := 3, offset := 1, embedded := false, tag := "", pkgPath := "runtime", byteOffset := 8 }, { name := "signed", type := 4, offset := 2, embedded := false, tag := "", pkgPath := "runtime", byteOffset := 16 }, { name := "code", type := 6, offset := 3, embedded := false, tag := "", pkgPath := "runtime", byteOffset := 17 }]), size := 4, bytes := 24, zero := [.int .i64 0, .int .i64 0, .bool false, .int .u8 0], parts := [(0, 1), (1, 1), (2, 1), (3, 1)] }
theorem ty7 : TyAt Try.prog 7 td7 := mkTy (.agg ⟨[.int .i64 0, .int .i64 0, .bool false, .int .u8 0]⟩) Try.underlying7 (by kernel_rfl) rfl rfl (fun fs h w => by cases h; kernel_rfl)
def td8 : TD := { d := (Go.TypeDesc.struct #[{ name := "x", type := 2, offset := 0, embedded := false, tag := "", pkgPath := "runtime", byteOffset := 0 }, { name := "y", type := 3, offset := 1, embedded := false, tag := "", pkgPath := "runtime", byteOffset := 8 }, { name := "signed", type := 4, offset := 2, embedded := false, tag := "", pkgPath := "runtime", byteOffset := 16 }, { name := "code", type := 6, offset := 3, embedded := false, tag := "", pkgPath := "runtime", byteOffset := 17 }]), size := 4, bytes := 24, zero := [.int .i64 0, .int .i64 0, .bool false, .int .u8 0], parts := [(0, 1), (1, 1), (2, 1), (3, 1)] }
theorem ty8 : TyAt Try.prog 8 td8 := mkTy (.agg ⟨[.int .i64 0, .int .i64 0, .bool false, .int .u8 0]⟩) Try.underlying8 (by kernel_rfl) rfl rfl (fun fs h w => by cases h; kernel_rfl)
def td9 : TD := { d := Go.TypeDesc.string, size := 1, bytes := 16, zero := [.string ⟨#[]⟩], parts := [] }
theorem ty9 : TyAt Try.prog 9 td9 := mkTy (.string ⟨#[]⟩) Try.underlying9 (by kernel_rfl) rfl rfl (fun fs h w => by cases h)
def td10 : TD := { d := Go.TypeDesc.string, size := 1, bytes := 16, zero := [.string ⟨#[]⟩], parts := [] }
theorem ty10 : TyAt Try.prog 10 td10 := mkTy (.string ⟨#[]⟩) Try.underlying10 (by kernel_rfl) rfl rfl (fun fs h w => by cases h)
def td11 : TD := { d := Go.TypeDesc.string, size := 1, bytes := 16, zero := [.string ⟨#[]⟩], parts := [] }
theorem ty11 : TyAt Try.prog 11 td11 := mkTy (.string ⟨#[]⟩) Try.underlying11 (by kernel_rfl) rfl rfl (fun fs h w => by cases h)
def td12 : TD := { d := (Go.TypeDesc.int Go.IntKind.u64), size := 1, bytes := 8, zero := [.int .u64 0], parts := [] }
theorem ty12 : TyAt Try.prog 12 td12 := mkTy (.int .u64 0) Try.underlying12 (by kernel_rfl) rfl rfl (fun fs h w => by cases h)
def td13 : TD := { d := (Go.TypeDesc.struct #[{ name := "msg", type := 9, offset := 0, embedded := false, tag := "", pkgPath := "runtime", byteOffset := 0 }, { name := "addr", type := 12, offset := 1, embedded := false, tag := "", pkgPath := "runtime", byteOffset := 16 }]), size := 2, bytes := 24, zero := [.string ⟨#[]⟩, .int .u64 0], parts := [(0, 1), (1, 1)] }
theorem ty13 : TyAt Try.prog 13 td13 := mkTy (.agg ⟨[.string ⟨#[]⟩, .int .u64 0]⟩) Try.underlying13 (by kernel_rfl) rfl rfl (fun fs h w => by cases h; kernel_rfl)
def td14 : TD := { d := (Go.TypeDesc.struct #[{ name := "msg", type := 9, offset := 0, embedded := false, tag := "", pkgPath := "runtime", byteOffset := 0 }, { name := "addr", type := 12, offset := 1, embedded := false, tag := "", pkgPath := "runtime", byteOffset := 16 }]), size := 2, bytes := 24, zero := [.string ⟨#[]⟩, .int .u64 0], parts := [(0, 1), (1, 1)] }
theorem ty14 : TyAt Try.prog 14 td14 := mkTy (.agg ⟨[.string ⟨#[]⟩, .int .u64 0]⟩) Try.underlying14 (by kernel_rfl) rfl rfl (fun fs h w => by cases h; kernel_rfl)
def td15 : TD := { d := (Go.TypeDesc.pointer 258), size := 1, bytes := 8, zero := [.pointer none], parts := [] }
theorem ty15 : TyAt Try.prog 15 td15 := mkTy (.pointer none) Try.underlying15 (by kernel_rfl) rfl rfl (fun fs h w => by cases h)
def td16 : TD := { d := (Go.TypeDesc.pointer 261), size := 1, bytes := 8, zero := [.pointer none], parts := [] }
theorem ty16 : TyAt Try.prog 16 td16 := mkTy (.pointer none) Try.underlying16 (by kernel_rfl) rfl rfl (fun fs h w => by cases h)
def td17 : TD := { d := (Go.TypeDesc.pointer 269), size := 1, bytes := 8, zero := [.pointer none], parts := [] }
theorem ty17 : TyAt Try.prog 17 td17 := mkTy (.pointer none) Try.underlying17 (by kernel_rfl) rfl rfl (fun fs h w => by cases h)
def td18 : TD := { d := (Go.TypeDesc.struct #[{ name := "typ", type := 17, offset := 0, embedded := false, tag := "", pkgPath := "internal/runtime/maps", byteOffset := 0 }]), size := 1, bytes := 8, zero := [.pointer none], parts := [(0, 1)] }
theorem ty18 : TyAt Try.prog 18 td18 := mkTy (.agg ⟨[.pointer none]⟩) Try.underlying18 (by kernel_rfl) rfl rfl (fun fs h w => by cases h; kernel_rfl)
def td19 : TD := { d := (Go.TypeDesc.struct #[{ name := "typ", type := 17, offset := 0, embedded := false, tag := "", pkgPath := "internal/runtime/maps", byteOffset := 0 }]), size := 1, bytes := 8, zero := [.pointer none], parts := [(0, 1)] }
theorem ty19 : TyAt Try.prog 19 td19 := mkTy (.agg ⟨[.pointer none]⟩) Try.underlying19 (by kernel_rfl) rfl rfl (fun fs h w => by cases h; kernel_rfl)
def td21 : TD := { d := (Go.TypeDesc.int Go.IntKind.i32), size := 1, bytes := 4, zero := [.int .i32 0], parts := [] }
theorem ty21 : TyAt Try.prog 21 td21 := mkTy (.int .i32 0) Try.underlying21 (by kernel_rfl) rfl rfl (fun fs h w => by cases h)
def td22 : TD := { d := (Go.TypeDesc.int Go.IntKind.u64), size := 1, bytes := 8, zero := [.int .u64 0], parts := [] }
theorem ty22 : TyAt Try.prog 22 td22 := mkTy (.int .u64 0) Try.underlying22 (by kernel_rfl) rfl rfl (fun fs h w => by cases h)
def td23 : TD := { d := (Go.TypeDesc.slice 42), size := 1, bytes := 24, zero := [.slice none 0 0], parts := [] }
theorem ty23 : TyAt Try.prog 23 td23 := mkTy (.slice none 0 0) Try.underlying23 (by kernel_rfl) rfl rfl (fun fs h w => by cases h)
def td24 : TD := { d := (Go.TypeDesc.func #[] #[4] false), size := 1, bytes := 8, zero := [.nilFunc], parts := [] }
theorem ty24 : TyAt Try.prog 24 td24 := mkTy (.nilFunc) Try.underlying24 (by kernel_rfl) rfl rfl (fun fs h w => by cases h)
def td25 : TD := { d := (Go.TypeDesc.slice 122), size := 1, bytes := 24, zero := [.slice none 0 0], parts := [] }
theorem ty25 : TyAt Try.prog 25 td25 := mkTy (.slice none 0 0) Try.underlying25 (by kernel_rfl) rfl rfl (fun fs h w => by cases h)
def td26 : TD := { d := (Go.TypeDesc.func #[23] #[25] false), size := 1, bytes := 8, zero := [.nilFunc], parts := [] }
theorem ty26 : TyAt Try.prog 26 td26 := mkTy (.nilFunc) Try.underlying26 (by kernel_rfl) rfl rfl (fun fs h w => by cases h)
def td27 : TD := { d := (Go.TypeDesc.struct #[{ name := "Root", type := 22, offset := 0, embedded := false, tag := "", pkgPath := "", byteOffset := 0 }, { name := "Cost", type := 22, offset := 1, embedded := false, tag := "", pkgPath := "", byteOffset := 8 }, { name := "Bridge", type := 22, offset := 2, embedded := false, tag := "", pkgPath := "", byteOffset := 16 }, { name := "Port", type := 22, offset := 3, embedded := false, tag := "", pkgPath := "", byteOffset := 24 }]), size := 4, bytes := 32, zero := [.int .u64 0, .int .u64 0, .int .u64 0, .int .u64 0], parts := [(0, 1), (1, 1), (2, 1), (3, 1)] }
theorem ty27 : TyAt Try.prog 27 td27 := mkTy (.agg ⟨[.int .u64 0, .int .u64 0, .int .u64 0, .int .u64 0]⟩) Try.underlying27 (by kernel_rfl) rfl rfl (fun fs h w => by cases h; kernel_rfl)
def td28 : TD := { d := (Go.TypeDesc.struct #[{ name := "Root", type := 22, offset := 0, embedded := false, tag := "", pkgPath := "", byteOffset := 0 }, { name := "Cost", type := 22, offset := 1, embedded := false, tag := "", pkgPath := "", byteOffset := 8 }, { name := "Bridge", type := 22, offset := 2, embedded := false, tag := "", pkgPath := "", byteOffset := 16 }, { name := "Port", type := 22, offset := 3, embedded := false, tag := "", pkgPath := "", byteOffset := 24 }]), size := 4, bytes := 32, zero := [.int .u64 0, .int .u64 0, .int .u64 0, .int .u64 0], parts := [(0, 1), (1, 1), (2, 1), (3, 1)] }
theorem ty28 : TyAt Try.prog 28 td28 := mkTy (.agg ⟨[.int .u64 0, .int .u64 0, .int .u64 0, .int .u64 0]⟩) Try.underlying28 (by kernel_rfl) rfl rfl (fun fs h w => by cases h; kernel_rfl)
def td29 : TD := { d := (Go.TypeDesc.slice 3), size := 1, bytes := 24, zero := [.slice none 0 0], parts := [] }
theorem ty29 : TyAt Try.prog 29 td29 := mkTy (.slice none 0 0) Try.underlying29 (by kernel_rfl) rfl rfl (fun fs h w => by cases h)
def td30 : TD := { d := (Go.TypeDesc.slice 28), size := 1, bytes := 24, zero := [.slice none 0 0], parts := [] }
theorem ty30 : TyAt Try.prog 30 td30 := mkTy (.slice none 0 0) Try.underlying30 (by kernel_rfl) rfl rfl (fun fs h w => by cases h)
def td31 : TD := { d := (Go.TypeDesc.struct #[{ name := "Root", type := 28, offset := 0, embedded := false, tag := "", pkgPath := "", byteOffset := 0 }, { name := "Port", type := 3, offset := 4, embedded := false, tag := "", pkgPath := "", byteOffset := 32 }, { name := "Roles", type := 29, offset := 5, embedded := false, tag := "", pkgPath := "", byteOffset := 40 }, { name := "Offers", type := 30, offset := 6, embedded := false, tag := "", pkgPath := "", byteOffset := 64 }]), size := 7, bytes := 88, zero := [.int .u64 0, .int .u64 0, .int .u64 0, .int .u64 0, .int .i64 0, .slice none 0 0, .slice none 0 0], parts := [(0, 4), (4, 1), (5, 1), (6, 1)] }
theorem ty31 : TyAt Try.prog 31 td31 := mkTy (.agg ⟨[.int .u64 0, .int .u64 0, .int .u64 0, .int .u64 0, .int .i64 0, .slice none 0 0, .slice none 0 0]⟩) Try.underlying31 (by kernel_rfl) rfl rfl (fun fs h w => by cases h; kernel_rfl)
def td32 : TD := { d := (Go.TypeDesc.struct #[{ name := "Root", type := 28, offset := 0, embedded := false, tag := "", pkgPath := "", byteOffset := 0 }, { name := "Port", type := 3, offset := 4, embedded := false, tag := "", pkgPath := "", byteOffset := 32 }, { name := "Roles", type := 29, offset := 5, embedded := false, tag := "", pkgPath := "", byteOffset := 40 }, { name := "Offers", type := 30, offset := 6, embedded := false, tag := "", pkgPath := "", byteOffset := 64 }]), size := 7, bytes := 88, zero := [.int .u64 0, .int .u64 0, .int .u64 0, .int .u64 0, .int .i64 0, .slice none 0 0, .slice none 0 0], parts := [(0, 4), (4, 1), (5, 1), (6, 1)] }
theorem ty32 : TyAt Try.prog 32 td32 := mkTy (.agg ⟨[.int .u64 0, .int .u64 0, .int .u64 0, .int .u64 0, .int .i64 0, .slice none 0 0, .slice none 0 0]⟩) Try.underlying32 (by kernel_rfl) rfl rfl (fun fs h w => by cases h; kernel_rfl)
def td33 : TD := { d := (Go.TypeDesc.int Go.IntKind.i64), size := 1, bytes := 8, zero := [.int .i64 0], parts := [] }
theorem ty33 : TyAt Try.prog 33 td33 := mkTy (.int .i64 0) Try.underlying33 (by kernel_rfl) rfl rfl (fun fs h w => by cases h)
def td35 : TD := { d := (Go.TypeDesc.func #[22, 23] #[32, 33] false), size := 1, bytes := 8, zero := [.nilFunc], parts := [] }
theorem ty35 : TyAt Try.prog 35 td35 := mkTy (.nilFunc) Try.underlying35 (by kernel_rfl) rfl rfl (fun fs h w => by cases h)
def td36 : TD := { d := (Go.TypeDesc.func #[23] #[4] false), size := 1, bytes := 8, zero := [.nilFunc], parts := [] }
theorem ty36 : TyAt Try.prog 36 td36 := mkTy (.nilFunc) Try.underlying36 (by kernel_rfl) rfl rfl (fun fs h w => by cases h)
def td37 : TD := { d := (Go.TypeDesc.func #[25] #[4] false), size := 1, bytes := 8, zero := [.nilFunc], parts := [] }
theorem ty37 : TyAt Try.prog 37 td37 := mkTy (.nilFunc) Try.underlying37 (by kernel_rfl) rfl rfl (fun fs h w => by cases h)
def td39 : TD := { d := (Go.TypeDesc.func #[22, 25] #[28, 3] false), size := 1, bytes := 8, zero := [.nilFunc], parts := [] }
theorem ty39 : TyAt Try.prog 39 td39 := mkTy (.nilFunc) Try.underlying39 (by kernel_rfl) rfl rfl (fun fs h w => by cases h)
def td40 : TD := { d := (Go.TypeDesc.func #[22, 25, 3] #[3] false), size := 1, bytes := 8, zero := [.nilFunc], parts := [] }
theorem ty40 : TyAt Try.prog 40 td40 := mkTy (.nilFunc) Try.underlying40 (by kernel_rfl) rfl rfl (fun fs h w => by cases h)
def td41 : TD := { d := (Go.TypeDesc.struct #[{ name := "Id", type := 22, offset := 0, embedded := false, tag := "", pkgPath := "", byteOffset := 0 }, { name := "Cost", type := 22, offset := 1, embedded := false, tag := "", pkgPath := "", byteOffset := 8 }, { name := "Source", type := 3, offset := 2, embedded := false, tag := "", pkgPath := "", byteOffset := 16 }, { name := "Vector", type := 28, offset := 3, embedded := false, tag := "", pkgPath := "", byteOffset := 24 }]), size := 7, bytes := 56, zero := [.int .u64 0, .int .u64 0, .int .i64 0, .int .u64 0, .int .u64 0, .int .u64 0, .int .u64 0], parts := [(0, 1), (1, 1), (2, 1), (3, 4)] }
theorem ty41 : TyAt Try.prog 41 td41 := mkTy (.agg ⟨[.int .u64 0, .int .u64 0, .int .i64 0, .int .u64 0, .int .u64 0, .int .u64 0, .int .u64 0]⟩) Try.underlying41 (by kernel_rfl) rfl rfl (fun fs h w => by cases h; kernel_rfl)
def td42 : TD := { d := (Go.TypeDesc.struct #[{ name := "Id", type := 22, offset := 0, embedded := false, tag := "", pkgPath := "", byteOffset := 0 }, { name := "Cost", type := 22, offset := 1, embedded := false, tag := "", pkgPath := "", byteOffset := 8 }, { name := "Source", type := 3, offset := 2, embedded := false, tag := "", pkgPath := "", byteOffset := 16 }, { name := "Vector", type := 28, offset := 3, embedded := false, tag := "", pkgPath := "", byteOffset := 24 }]), size := 7, bytes := 56, zero := [.int .u64 0, .int .u64 0, .int .i64 0, .int .u64 0, .int .u64 0, .int .u64 0, .int .u64 0], parts := [(0, 1), (1, 1), (2, 1), (3, 4)] }
theorem ty42 : TyAt Try.prog 42 td42 := mkTy (.agg ⟨[.int .u64 0, .int .u64 0, .int .i64 0, .int .u64 0, .int .u64 0, .int .u64 0, .int .u64 0]⟩) Try.underlying42 (by kernel_rfl) rfl rfl (fun fs h w => by cases h; kernel_rfl)
def td43 : TD := { d := (Go.TypeDesc.func #[22, 23] #[4] false), size := 1, bytes := 8, zero := [.nilFunc], parts := [] }
theorem ty43 : TyAt Try.prog 43 td43 := mkTy (.nilFunc) Try.underlying43 (by kernel_rfl) rfl rfl (fun fs h w => by cases h)
def td44 : TD := { d := (Go.TypeDesc.func #[28, 28] #[3] false), size := 1, bytes := 8, zero := [.nilFunc], parts := [] }
theorem ty44 : TyAt Try.prog 44 td44 := mkTy (.nilFunc) Try.underlying44 (by kernel_rfl) rfl rfl (fun fs h w => by cases h)
def td45 : TD := { d := (Go.TypeDesc.func #[22] #[28] false), size := 1, bytes := 8, zero := [.nilFunc], parts := [] }
theorem ty45 : TyAt Try.prog 45 td45 := mkTy (.nilFunc) Try.underlying45 (by kernel_rfl) rfl rfl (fun fs h w => by cases h)
def td46 : TD := { d := (Go.TypeDesc.func #[28, 22] #[28] false), size := 1, bytes := 8, zero := [.nilFunc], parts := [] }
theorem ty46 : TyAt Try.prog 46 td46 := mkTy (.nilFunc) Try.underlying46 (by kernel_rfl) rfl rfl (fun fs h w => by cases h)
def td47 : TD := { d := (Go.TypeDesc.struct #[{ name := "Trunk", type := 4, offset := 0, embedded := false, tag := "", pkgPath := "", byteOffset := 0 }, { name := "Native", type := 3, offset := 1, embedded := false, tag := "", pkgPath := "", byteOffset := 8 }, { name := "Allowed", type := 29, offset := 2, embedded := false, tag := "", pkgPath := "", byteOffset := 16 }]), size := 3, bytes := 40, zero := [.bool false, .int .i64 0, .slice none 0 0], parts := [(0, 1), (1, 1), (2, 1)] }
theorem ty47 : TyAt Try.prog 47 td47 := mkTy (.agg ⟨[.bool false, .int .i64 0, .slice none 0 0]⟩) Try.underlying47 (by kernel_rfl) rfl rfl (fun fs h w => by cases h; kernel_rfl)
def td48 : TD := { d := (Go.TypeDesc.struct #[{ name := "Trunk", type := 4, offset := 0, embedded := false, tag := "", pkgPath := "", byteOffset := 0 }, { name := "Native", type := 3, offset := 1, embedded := false, tag := "", pkgPath := "", byteOffset := 8 }, { name := "Allowed", type := 29, offset := 2, embedded := false, tag := "", pkgPath := "", byteOffset := 16 }]), size := 3, bytes := 40, zero := [.bool false, .int .i64 0, .slice none 0 0], parts := [(0, 1), (1, 1), (2, 1)] }
theorem ty48 : TyAt Try.prog 48 td48 := mkTy (.agg ⟨[.bool false, .int .i64 0, .slice none 0 0]⟩) Try.underlying48 (by kernel_rfl) rfl rfl (fun fs h w => by cases h; kernel_rfl)
def td49 : TD := { d := (Go.TypeDesc.struct #[{ name := "Dst", type := 9, offset := 0, embedded := false, tag := "", pkgPath := "", byteOffset := 0 }, { name := "Src", type := 9, offset := 1, embedded := false, tag := "", pkgPath := "", byteOffset := 16 }, { name := "Tagged", type := 4, offset := 2, embedded := false, tag := "", pkgPath := "", byteOffset := 32 }, { name := "Priority", type := 3, offset := 3, embedded := false, tag := "", pkgPath := "", byteOffset := 40 }, { name := "Vlan", type := 3, offset := 4, embedded := false, tag := "", pkgPath := "", byteOffset := 48 }, { name := "Type", type := 3, offset := 5, embedded := false, tag := "", pkgPath := "", byteOffset := 56 }, { name := "Payload", type := 9, offset := 6, embedded := false, tag := "", pkgPath := "", byteOffset := 64 }]), size := 7, bytes := 80, zero := [.string ⟨#[]⟩, .string ⟨#[]⟩, .bool false, .int .i64 0, .int .i64 0, .int .i64 0, .string ⟨#[]⟩], parts := [(0, 1), (1, 1), (2, 1), (3, 1), (4, 1), (5, 1), (6, 1)] }
theorem ty49 : TyAt Try.prog 49 td49 := mkTy (.agg ⟨[.string ⟨#[]⟩, .string ⟨#[]⟩, .bool false, .int .i64 0, .int .i64 0, .int .i64 0, .string ⟨#[]⟩]⟩) Try.underlying49 (by kernel_rfl) rfl rfl (fun fs h w => by cases h; kernel_rfl)
def td50 : TD := { d := (Go.TypeDesc.struct #[{ name := "Dst", type := 9, offset := 0, embedded := false, tag := "", pkgPath := "", byteOffset := 0 }, { name := "Src", type := 9, offset := 1, embedded := false, tag := "", pkgPath := "", byteOffset := 16 }, { name := "Tagged", type := 4, offset := 2, embedded := false, tag := "", pkgPath := "", byteOffset := 32 }, { name := "Priority", type := 3, offset := 3, embedded := false, tag := "", pkgPath := "", byteOffset := 40 }, { name := "Vlan", type := 3, offset := 4, embedded := false, tag := "", pkgPath := "", byteOffset := 48 }, { name := "Type", type := 3, offset := 5, embedded := false, tag := "", pkgPath := "", byteOffset := 56 }, { name := "Payload", type := 9, offset := 6, embedded := false, tag := "", pkgPath := "", byteOffset := 64 }]), size := 7, bytes := 80, zero := [.string ⟨#[]⟩, .string ⟨#[]⟩, .bool false, .int .i64 0, .int .i64 0, .int .i64 0, .string ⟨#[]⟩], parts := [(0, 1), (1, 1), (2, 1), (3, 1), (4, 1), (5, 1), (6, 1)] }
theorem ty50 : TyAt Try.prog 50 td50 := mkTy (.agg ⟨[.string ⟨#[]⟩, .string ⟨#[]⟩, .bool false, .int .i64 0, .int .i64 0, .int .i64 0, .string ⟨#[]⟩]⟩) Try.underlying50 (by kernel_rfl) rfl rfl (fun fs h w => by cases h; kernel_rfl)
def td51 : TD := { d := (Go.TypeDesc.func #[50] #[4] false), size := 1, bytes := 8, zero := [.nilFunc], parts := [] }
theorem ty51 : TyAt Try.prog 51 td51 := mkTy (.nilFunc) Try.underlying51 (by kernel_rfl) rfl rfl (fun fs h w => by cases h)
def td52 : TD := { d := (Go.TypeDesc.struct #[{ name := "Trunk", type := 4, offset := 0, embedded := false, tag := "", pkgPath := "", byteOffset := 0 }, { name := "Native", type := 3, offset := 1, embedded := false, tag := "", pkgPath := "", byteOffset := 8 }, { name := "Allowed", type := 29, offset := 2, embedded := false, tag := "", pkgPath := "", byteOffset := 16 }]), size := 3, bytes := 40, zero := [.bool false, .int .i64 0, .slice none 0 0], parts := [(0, 1), (1, 1), (2, 1)] }
theorem ty52 : TyAt Try.prog 52 td52 := mkTy (.agg ⟨[.bool false, .int .i64 0, .slice none 0 0]⟩) Try.underlying52 (by kernel_rfl) rfl rfl (fun fs h w => by cases h; kernel_rfl)
def td54 : TD := { d := (Go.TypeDesc.func #[48] #[9, 33] false), size := 1, bytes := 8, zero := [.nilFunc], parts := [] }
theorem ty54 : TyAt Try.prog 54 td54 := mkTy (.nilFunc) Try.underlying54 (by kernel_rfl) rfl rfl (fun fs h w => by cases h)
def td56 : TD := { d := (Go.TypeDesc.func #[52] #[9, 3] false), size := 1, bytes := 8, zero := [.nilFunc], parts := [] }
theorem ty56 : TyAt Try.prog 56 td56 := mkTy (.nilFunc) Try.underlying56 (by kernel_rfl) rfl rfl (fun fs h w => by cases h)
def td58 : TD := { d := (Go.TypeDesc.func #[9] #[48, 33] false), size := 1, bytes := 8, zero := [.nilFunc], parts := [] }
theorem ty58 : TyAt Try.prog 58 td58 := mkTy (.nilFunc) Try.underlying58 (by kernel_rfl) rfl rfl (fun fs h w => by cases h)
def td60 : TD := { d := (Go.TypeDesc.func #[9] #[52, 3] false), size := 1, bytes := 8, zero := [.nilFunc], parts := [] }
theorem ty60 : TyAt Try.prog 60 td60 := mkTy (.nilFunc) Try.underlying60 (by kernel_rfl) rfl rfl (fun fs h w => by cases h)
def td62 : TD := { d := (Go.TypeDesc.func #[48, 50] #[3, 33] false), size := 1, bytes := 8, zero := [.nilFunc], parts := [] }
theorem ty62 : TyAt Try.prog 62 td62 := mkTy (.nilFunc) Try.underlying62 (by kernel_rfl) rfl rfl (fun fs h w => by cases h)
def td64 : TD := { d := (Go.TypeDesc.func #[52, 50] #[3, 3] false), size := 1, bytes := 8, zero := [.nilFunc], parts := [] }
theorem ty64 : TyAt Try.prog 64 td64 := mkTy (.nilFunc) Try.underlying64 (by kernel_rfl) rfl rfl (fun fs h w => by cases h)
def td66 : TD := { d := (Go.TypeDesc.func #[48, 50, 3] #[50, 33] false), size := 1, bytes := 8, zero := [.nilFunc], parts := [] }
theorem ty66 : TyAt Try.prog 66 td66 := mkTy (.nilFunc) Try.underlying66 (by kernel_rfl) rfl rfl (fun fs h w => by cases h)
def td68 : TD := { d := (Go.TypeDesc.func #[52, 50, 3] #[50, 3] false), size := 1, bytes := 8, zero := [.nilFunc], parts := [] }
theorem ty68 : TyAt Try.prog 68 td68 := mkTy (.nilFunc) Try.underlying68 (by kernel_rfl) rfl rfl (fun fs h w => by cases h)
def td69 : TD := { d := (Go.TypeDesc.func #[48] #[4] false), size := 1, bytes := 8, zero := [.nilFunc], parts := [] }
theorem ty69 : TyAt Try.prog 69 td69 := mkTy (.nilFunc) Try.underlying69 (by kernel_rfl) rfl rfl (fun fs h w => by cases h)
def td70 : TD := { d := (Go.TypeDesc.func #[52] #[4] false), size := 1, bytes := 8, zero := [.nilFunc], parts := [] }
theorem ty70 : TyAt Try.prog 70 td70 := mkTy (.nilFunc) Try.underlying70 (by kernel_rfl) rfl rfl (fun fs h w => by cases h)
def td71 : TD := { d := (Go.TypeDesc.func #[48, 3] #[4] false), size := 1, bytes := 8, zero := [.nilFunc], parts := [] }
theorem ty71 : TyAt Try.prog 71 td71 := mkTy (.nilFunc) Try.underlying71 (by kernel_rfl) rfl rfl (fun fs h w => by cases h)
def td72 : TD := { d := (Go.TypeDesc.func #[52, 3] #[4] false), size := 1, bytes := 8, zero := [.nilFunc], parts := [] }
theorem ty72 : TyAt Try.prog 72 td72 := mkTy (.nilFunc) Try.underlying72 (by kernel_rfl) rfl rfl (fun fs h w => by cases h)
def td73 : TD := { d := (Go.TypeDesc.func #[52, 52] #[4] false), size := 1, bytes := 8, zero := [.nilFunc], parts := [] }
theorem ty73 : TyAt Try.prog 73 td73 := mkTy (.nilFunc) Try.underlying73 (by kernel_rfl) rfl rfl (fun fs h w => by cases h)
def td74 : TD := { d := (Go.TypeDesc.func #[48, 9, 50, 3] #[4] false), size := 1, bytes := 8, zero := [.nilFunc], parts := [] }
theorem ty74 : TyAt Try.prog 74 td74 := mkTy (.nilFunc) Try.underlying74 (by kernel_rfl) rfl rfl (fun fs h w => by cases h)
def td75 : TD := { d := (Go.TypeDesc.func #[48, 50, 3, 3] #[4] false), size := 1, bytes := 8, zero := [.nilFunc], parts := [] }
theorem ty75 : TyAt Try.prog 75 td75 := mkTy (.nilFunc) Try.underlying75 (by kernel_rfl) rfl rfl (fun fs h w => by cases h)
def td76 : TD := { d := (Go.TypeDesc.slice 84), size := 1, bytes := 24, zero := [.slice none 0 0], parts := [] }
theorem ty76 : TyAt Try.prog 76 td76 := mkTy (.slice none 0 0) Try.underlying76 (by kernel_rfl) rfl rfl (fun fs h w => by cases h)
def td77 : TD := { d := (Go.TypeDesc.slice 161), size := 1, bytes := 24, zero := [.slice none 0 0], parts := [] }
theorem ty77 : TyAt Try.prog 77 td77 := mkTy (.slice none 0 0) Try.underlying77 (by kernel_rfl) rfl rfl (fun fs h w => by cases h)
def td78 : TD := { d := (Go.TypeDesc.struct #[{ name := "P", type := 52, offset := 0, embedded := false, tag := "", pkgPath := "", byteOffset := 0 }, { name := "Hello", type := 3, offset := 3, embedded := false, tag := "", pkgPath := "", byteOffset := 40 }, { name := "Now", type := 3, offset := 4, embedded := false, tag := "", pkgPath := "", byteOffset := 48 }, { name := "L", type := 77, offset := 5, embedded := false, tag := "", pkgPath := "", byteOffset := 56 }, { name := "Many", type := 3, offset := 6, embedded := false, tag := "", pkgPath := "", byteOffset := 80 }, { name := "First", type := 3, offset := 7, embedded := false, tag := "", pkgPath := "", byteOffset := 88 }, { name := "Told", type := 3, offset := 8, embedded := false, tag := "", pkgPath := "", byteOffset := 96 }]), size := 9, bytes := 104, zero := [.bool false, .int .i64 0, .slice none 0 0, .int .i64 0, .int .i64 0, .slice none 0 0, .int .i64 0, .int .i64 0, .int .i64 0], parts := [(0, 3), (3, 1), (4, 1), (5, 1), (6, 1), (7, 1), (8, 1)] }
theorem ty78 : TyAt Try.prog 78 td78 := mkTy (.agg ⟨[.bool false, .int .i64 0, .slice none 0 0, .int .i64 0, .int .i64 0, .slice none 0 0, .int .i64 0, .int .i64 0, .int .i64 0]⟩) Try.underlying78 (by kernel_rfl) rfl rfl (fun fs h w => by cases h; kernel_rfl)
def td79 : TD := { d := (Go.TypeDesc.struct #[{ name := "P", type := 52, offset := 0, embedded := false, tag := "", pkgPath := "", byteOffset := 0 }, { name := "Hello", type := 3, offset := 3, embedded := false, tag := "", pkgPath := "", byteOffset := 40 }, { name := "Now", type := 3, offset := 4, embedded := false, tag := "", pkgPath := "", byteOffset := 48 }, { name := "L", type := 77, offset := 5, embedded := false, tag := "", pkgPath := "", byteOffset := 56 }, { name := "Many", type := 3, offset := 6, embedded := false, tag := "", pkgPath := "", byteOffset := 80 }, { name := "First", type := 3, offset := 7, embedded := false, tag := "", pkgPath := "", byteOffset := 88 }, { name := "Told", type := 3, offset := 8, embedded := false, tag := "", pkgPath := "", byteOffset := 96 }]), size := 9, bytes := 104, zero := [.bool false, .int .i64 0, .slice none 0 0, .int .i64 0, .int .i64 0, .slice none 0 0, .int .i64 0, .int .i64 0, .int .i64 0], parts := [(0, 3), (3, 1), (4, 1), (5, 1), (6, 1), (7, 1), (8, 1)] }
theorem ty79 : TyAt Try.prog 79 td79 := mkTy (.agg ⟨[.bool false, .int .i64 0, .slice none 0 0, .int .i64 0, .int .i64 0, .slice none 0 0, .int .i64 0, .int .i64 0, .int .i64 0]⟩) Try.underlying79 (by kernel_rfl) rfl rfl (fun fs h w => by cases h; kernel_rfl)
def td80 : TD := { d := (Go.TypeDesc.pointer 159), size := 1, bytes := 8, zero := [.pointer none], parts := [] }
theorem ty80 : TyAt Try.prog 80 td80 := mkTy (.pointer none) Try.underlying80 (by kernel_rfl) rfl rfl (fun fs h w => by cases h)
def td82 : TD := { d := (Go.TypeDesc.func #[48, 3] #[80, 33] false), size := 1, bytes := 8, zero := [.nilFunc], parts := [] }
theorem ty82 : TyAt Try.prog 82 td82 := mkTy (.nilFunc) Try.underlying82 (by kernel_rfl) rfl rfl (fun fs h w => by cases h)
def td83 : TD := { d := (Go.TypeDesc.struct #[{ name := "Ask", type := 4, offset := 0, embedded := false, tag := "", pkgPath := "", byteOffset := 0 }, { name := "Received", type := 3, offset := 1, embedded := false, tag := "", pkgPath := "", byteOffset := 8 }, { name := "Told", type := 3, offset := 2, embedded := false, tag := "", pkgPath := "", byteOffset := 16 }, { name := "Now", type := 3, offset := 3, embedded := false, tag := "", pkgPath := "", byteOffset := 24 }]), size := 4, bytes := 32, zero := [.bool false, .int .i64 0, .int .i64 0, .int .i64 0], parts := [(0, 1), (1, 1), (2, 1), (3, 1)] }
theorem ty83 : TyAt Try.prog 83 td83 := mkTy (.agg ⟨[.bool false, .int .i64 0, .int .i64 0, .int .i64 0]⟩) Try.underlying83 (by kernel_rfl) rfl rfl (fun fs h w => by cases h; kernel_rfl)
def td84 : TD := { d := (Go.TypeDesc.struct #[{ name := "Ask", type := 4, offset := 0, embedded := false, tag := "", pkgPath := "", byteOffset := 0 }, { name := "Received", type := 3, offset := 1, embedded := false, tag := "", pkgPath := "", byteOffset := 8 }, { name := "Told", type := 3, offset := 2, embedded := false, tag := "", pkgPath := "", byteOffset := 16 }, { name := "Now", type := 3, offset := 3, embedded := false, tag := "", pkgPath := "", byteOffset := 24 }]), size := 4, bytes := 32, zero := [.bool false, .int .i64 0, .int .i64 0, .int .i64 0], parts := [(0, 1), (1, 1), (2, 1), (3, 1)] }
theorem ty84 : TyAt Try.prog 84 td84 := mkTy (.agg ⟨[.bool false, .int .i64 0, .int .i64 0, .int .i64 0]⟩) Try.underlying84 (by kernel_rfl) rfl rfl (fun fs h w => by cases h; kernel_rfl)
def td86 : TD := { d := (Go.TypeDesc.func #[79, 3, 3, 3] #[79, 3] false), size := 1, bytes := 8, zero := [.nilFunc], parts := [] }
theorem ty86 : TyAt Try.prog 86 td86 := mkTy (.nilFunc) Try.underlying86 (by kernel_rfl) rfl rfl (fun fs h w => by cases h)
def td87 : TD := { d := (Go.TypeDesc.func #[3, 3, 3] #[33] false), size := 1, bytes := 8, zero := [.nilFunc], parts := [] }
theorem ty87 : TyAt Try.prog 87 td87 := mkTy (.nilFunc) Try.underlying87 (by kernel_rfl) rfl rfl (fun fs h w => by cases h)
def td88 : TD := { d := (Go.TypeDesc.func #[79, 3] #[79] false), size := 1, bytes := 8, zero := [.nilFunc], parts := [] }
theorem ty88 : TyAt Try.prog 88 td88 := mkTy (.nilFunc) Try.underlying88 (by kernel_rfl) rfl rfl (fun fs h w => by cases h)
def td89 : TD := { d := (Go.TypeDesc.func #[3, 3] #[4] false), size := 1, bytes := 8, zero := [.nilFunc], parts := [] }
theorem ty89 : TyAt Try.prog 89 td89 := mkTy (.nilFunc) Try.underlying89 (by kernel_rfl) rfl rfl (fun fs h w => by cases h)
def td90 : TD := { d := (Go.TypeDesc.func #[79, 3] #[4] false), size := 1, bytes := 8, zero := [.nilFunc], parts := [] }
theorem ty90 : TyAt Try.prog 90 td90 := mkTy (.nilFunc) Try.underlying90 (by kernel_rfl) rfl rfl (fun fs h w => by cases h)
def td91 : TD := { d := (Go.TypeDesc.func #[3] #[29] false), size := 1, bytes := 8, zero := [.nilFunc], parts := [] }
theorem ty91 : TyAt Try.prog 91 td91 := mkTy (.nilFunc) Try.underlying91 (by kernel_rfl) rfl rfl (fun fs h w => by cases h)
def td92 : TD := { d := (Go.TypeDesc.func #[29, 29] #[4] false), size := 1, bytes := 8, zero := [.nilFunc], parts := [] }
theorem ty92 : TyAt Try.prog 92 td92 := mkTy (.nilFunc) Try.underlying92 (by kernel_rfl) rfl rfl (fun fs h w => by cases h)
def td93 : TD := { d := (Go.TypeDesc.func #[79] #[29] false), size := 1, bytes := 8, zero := [.nilFunc], parts := [] }
theorem ty93 : TyAt Try.prog 93 td93 := mkTy (.nilFunc) Try.underlying93 (by kernel_rfl) rfl rfl (fun fs h w => by cases h)
def td95 : TD := { d := (Go.TypeDesc.func #[] #[3, 3, 4] false), size := 1, bytes := 8, zero := [.nilFunc], parts := [] }
theorem ty95 : TyAt Try.prog 95 td95 := mkTy (.nilFunc) Try.underlying95 (by kernel_rfl) rfl rfl (fun fs h w => by cases h)
def td96 : TD := { d := (Go.TypeDesc.func #[] #[3] false), size := 1, bytes := 8, zero := [.nilFunc], parts := [] }
theorem ty96 : TyAt Try.prog 96 td96 := mkTy (.nilFunc) Try.underlying96 (by kernel_rfl) rfl rfl (fun fs h w => by cases h)
def td97 : TD := { d := (Go.TypeDesc.func #[48, 3, 76] #[4] false), size := 1, bytes := 8, zero := [.nilFunc], parts := [] }
theorem ty97 : TyAt Try.prog 97 td97 := mkTy (.nilFunc) Try.underlying97 (by kernel_rfl) rfl rfl (fun fs h w => by cases h)
def td98 : TD := { d := (Go.TypeDesc.func #[48, 3, 3, 3, 3, 3] #[4] false), size := 1, bytes := 8, zero := [.nilFunc], parts := [] }
theorem ty98 : TyAt Try.prog 98 td98 := mkTy (.nilFunc) Try.underlying98 (by kernel_rfl) rfl rfl (fun fs h w => by cases h)
def td99 : TD := { d := (Go.TypeDesc.slice 110), size := 1, bytes := 24, zero := [.slice none 0 0], parts := [] }
theorem ty99 : TyAt Try.prog 99 td99 := mkTy (.slice none 0 0) Try.underlying99 (by kernel_rfl) rfl rfl (fun fs h w => by cases h)
def td100 : TD := { d := (Go.TypeDesc.func #[99] #[4] false), size := 1, bytes := 8, zero := [.nilFunc], parts := [] }
theorem ty100 : TyAt Try.prog 100 td100 := mkTy (.nilFunc) Try.underlying100 (by kernel_rfl) rfl rfl (fun fs h w => by cases h)
def td101 : TD := { d := (Go.TypeDesc.pointer 172), size := 1, bytes := 8, zero := [.pointer none], parts := [] }
theorem ty101 : TyAt Try.prog 101 td101 := mkTy (.pointer none) Try.underlying101 (by kernel_rfl) rfl rfl (fun fs h w => by cases h)
def td103 : TD := { d := (Go.TypeDesc.func #[3] #[101, 33] false), size := 1, bytes := 8, zero := [.nilFunc], parts := [] }
theorem ty103 : TyAt Try.prog 103 td103 := mkTy (.nilFunc) Try.underlying103 (by kernel_rfl) rfl rfl (fun fs h w => by cases h)
def td104 : TD := { d := (Go.TypeDesc.slice 114), size := 1, bytes := 24, zero := [.slice none 0 0], parts := [] }
theorem ty104 : TyAt Try.prog 104 td104 := mkTy (.slice none 0 0) Try.underlying104 (by kernel_rfl) rfl rfl (fun fs h w => by cases h)
def td105 : TD := { d := (Go.TypeDesc.struct #[{ name := "Room", type := 3, offset := 0, embedded := false, tag := "", pkgPath := "", byteOffset := 0 }, { name := "L", type := 104, offset := 1, embedded := false, tag := "", pkgPath := "", byteOffset := 8 }, { name := "Learned", type := 3, offset := 2, embedded := false, tag := "", pkgPath := "", byteOffset := 32 }]), size := 3, bytes := 40, zero := [.int .i64 0, .slice none 0 0, .int .i64 0], parts := [(0, 1), (1, 1), (2, 1)] }
theorem ty105 : TyAt Try.prog 105 td105 := mkTy (.agg ⟨[.int .i64 0, .slice none 0 0, .int .i64 0]⟩) Try.underlying105 (by kernel_rfl) rfl rfl (fun fs h w => by cases h; kernel_rfl)
def td106 : TD := { d := (Go.TypeDesc.struct #[{ name := "Room", type := 3, offset := 0, embedded := false, tag := "", pkgPath := "", byteOffset := 0 }, { name := "L", type := 104, offset := 1, embedded := false, tag := "", pkgPath := "", byteOffset := 8 }, { name := "Learned", type := 3, offset := 2, embedded := false, tag := "", pkgPath := "", byteOffset := 32 }]), size := 3, bytes := 40, zero := [.int .i64 0, .slice none 0 0, .int .i64 0], parts := [(0, 1), (1, 1), (2, 1)] }
theorem ty106 : TyAt Try.prog 106 td106 := mkTy (.agg ⟨[.int .i64 0, .slice none 0 0, .int .i64 0]⟩) Try.underlying106 (by kernel_rfl) rfl rfl (fun fs h w => by cases h; kernel_rfl)
def td108 : TD := { d := (Go.TypeDesc.func #[101, 106, 110] #[106, 4] false), size := 1, bytes := 8, zero := [.nilFunc], parts := [] }
theorem ty108 : TyAt Try.prog 108 td108 := mkTy (.nilFunc) Try.underlying108 (by kernel_rfl) rfl rfl (fun fs h w => by cases h)
def td109 : TD := { d := (Go.TypeDesc.struct #[{ name := "Kind", type := 3, offset := 0, embedded := false, tag := "", pkgPath := "", byteOffset := 0 }, { name := "Vlan", type := 3, offset := 1, embedded := false, tag := "", pkgPath := "", byteOffset := 8 }, { name := "Mac", type := 9, offset := 2, embedded := false, tag := "", pkgPath := "", byteOffset := 16 }, { name := "Port", type := 3, offset := 3, embedded := false, tag := "", pkgPath := "", byteOffset := 32 }, { name := "N", type := 3, offset := 4, embedded := false, tag := "", pkgPath := "", byteOffset := 40 }, { name := "M", type := 3, offset := 5, embedded := false, tag := "", pkgPath := "", byteOffset := 48 }]), size := 6, bytes := 56, zero := [.int .i64 0, .int .i64 0, .string ⟨#[]⟩, .int .i64 0, .int .i64 0, .int .i64 0], parts := [(0, 1), (1, 1), (2, 1), (3, 1), (4, 1), (5, 1)] }
theorem ty109 : TyAt Try.prog 109 td109 := mkTy (.agg ⟨[.int .i64 0, .int .i64 0, .string ⟨#[]⟩, .int .i64 0, .int .i64 0, .int .i64 0]⟩) Try.underlying109 (by kernel_rfl) rfl rfl (fun fs h w => by cases h; kernel_rfl)
def td110 : TD := { d := (Go.TypeDesc.struct #[{ name := "Kind", type := 3, offset := 0, embedded := false, tag := "", pkgPath := "", byteOffset := 0 }, { name := "Vlan", type := 3, offset := 1, embedded := false, tag := "", pkgPath := "", byteOffset := 8 }, { name := "Mac", type := 9, offset := 2, embedded := false, tag := "", pkgPath := "", byteOffset := 16 }, { name := "Port", type := 3, offset := 3, embedded := false, tag := "", pkgPath := "", byteOffset := 32 }, { name := "N", type := 3, offset := 4, embedded := false, tag := "", pkgPath := "", byteOffset := 40 }, { name := "M", type := 3, offset := 5, embedded := false, tag := "", pkgPath := "", byteOffset := 48 }]), size := 6, bytes := 56, zero := [.int .i64 0, .int .i64 0, .string ⟨#[]⟩, .int .i64 0, .int .i64 0, .int .i64 0], parts := [(0, 1), (1, 1), (2, 1), (3, 1), (4, 1), (5, 1)] }
theorem ty110 : TyAt Try.prog 110 td110 := mkTy (.agg ⟨[.int .i64 0, .int .i64 0, .string ⟨#[]⟩, .int .i64 0, .int .i64 0, .int .i64 0]⟩) Try.underlying110 (by kernel_rfl) rfl rfl (fun fs h w => by cases h; kernel_rfl)
def td111 : TD := { d := (Go.TypeDesc.slice 115), size := 1, bytes := 24, zero := [.slice none 0 0], parts := [] }
theorem ty111 : TyAt Try.prog 111 td111 := mkTy (.slice none 0 0) Try.underlying111 (by kernel_rfl) rfl rfl (fun fs h w => by cases h)
def td112 : TD := { d := (Go.TypeDesc.func #[] #[111] false), size := 1, bytes := 8, zero := [.nilFunc], parts := [] }
theorem ty112 : TyAt Try.prog 112 td112 := mkTy (.nilFunc) Try.underlying112 (by kernel_rfl) rfl rfl (fun fs h w => by cases h)
def td113 : TD := { d := (Go.TypeDesc.struct #[{ name := "Vlan", type := 3, offset := 0, embedded := false, tag := "", pkgPath := "", byteOffset := 0 }, { name := "Mac", type := 9, offset := 1, embedded := false, tag := "", pkgPath := "", byteOffset := 8 }, { name := "Port", type := 3, offset := 2, embedded := false, tag := "", pkgPath := "", byteOffset := 24 }, { name := "Heard", type := 3, offset := 3, embedded := false, tag := "", pkgPath := "", byteOffset := 32 }, { name := "Fixed", type := 4, offset := 4, embedded := false, tag := "", pkgPath := "", byteOffset := 40 }]), size := 5, bytes := 48, zero := [.int .i64 0, .string ⟨#[]⟩, .int .i64 0, .int .i64 0, .bool false], parts := [(0, 1), (1, 1), (2, 1), (3, 1), (4, 1)] }
theorem ty113 : TyAt Try.prog 113 td113 := mkTy (.agg ⟨[.int .i64 0, .string ⟨#[]⟩, .int .i64 0, .int .i64 0, .bool false]⟩) Try.underlying113 (by kernel_rfl) rfl rfl (fun fs h w => by cases h; kernel_rfl)
def td114 : TD := { d := (Go.TypeDesc.struct #[{ name := "Vlan", type := 3, offset := 0, embedded := false, tag := "", pkgPath := "", byteOffset := 0 }, { name := "Mac", type := 9, offset := 1, embedded := false, tag := "", pkgPath := "", byteOffset := 8 }, { name := "Port", type := 3, offset := 2, embedded := false, tag := "", pkgPath := "", byteOffset := 24 }, { name := "Heard", type := 3, offset := 3, embedded := false, tag := "", pkgPath := "", byteOffset := 32 }, { name := "Fixed", type := 4, offset := 4, embedded := false, tag := "", pkgPath := "", byteOffset := 40 }]), size := 5, bytes := 48, zero := [.int .i64 0, .string ⟨#[]⟩, .int .i64 0, .int .i64 0, .bool false], parts := [(0, 1), (1, 1), (2, 1), (3, 1), (4, 1)] }
theorem ty114 : TyAt Try.prog 114 td114 := mkTy (.agg ⟨[.int .i64 0, .string ⟨#[]⟩, .int .i64 0, .int .i64 0, .bool false]⟩) Try.underlying114 (by kernel_rfl) rfl rfl (fun fs h w => by cases h; kernel_rfl)
def td115 : TD := { d := (Go.TypeDesc.struct #[{ name := "Vlan", type := 3, offset := 0, embedded := false, tag := "", pkgPath := "", byteOffset := 0 }, { name := "Mac", type := 9, offset := 1, embedded := false, tag := "", pkgPath := "", byteOffset := 8 }, { name := "Port", type := 3, offset := 2, embedded := false, tag := "", pkgPath := "", byteOffset := 24 }, { name := "Heard", type := 3, offset := 3, embedded := false, tag := "", pkgPath := "", byteOffset := 32 }, { name := "Fixed", type := 4, offset := 4, embedded := false, tag := "", pkgPath := "", byteOffset := 40 }]), size := 5, bytes := 48, zero := [.int .i64 0, .string ⟨#[]⟩, .int .i64 0, .int .i64 0, .bool false], parts := [(0, 1), (1, 1), (2, 1), (3, 1), (4, 1)] }
theorem ty115 : TyAt Try.prog 115 td115 := mkTy (.agg ⟨[.int .i64 0, .string ⟨#[]⟩, .int .i64 0, .int .i64 0, .bool false]⟩) Try.underlying115 (by kernel_rfl) rfl rfl (fun fs h w => by cases h; kernel_rfl)
def td117 : TD := { d := (Go.TypeDesc.func #[3, 9] #[3, 4] false), size := 1, bytes := 8, zero := [.nilFunc], parts := [] }
theorem ty117 : TyAt Try.prog 117 td117 := mkTy (.nilFunc) Try.underlying117 (by kernel_rfl) rfl rfl (fun fs h w => by cases h)
def td118 : TD := { d := (Go.TypeDesc.func #[106, 3, 9] #[3, 4] false), size := 1, bytes := 8, zero := [.nilFunc], parts := [] }
theorem ty118 : TyAt Try.prog 118 td118 := mkTy (.nilFunc) Try.underlying118 (by kernel_rfl) rfl rfl (fun fs h w => by cases h)
def td119 : TD := { d := (Go.TypeDesc.func #[3, 99, 3, 9] #[4] false), size := 1, bytes := 8, zero := [.nilFunc], parts := [] }
theorem ty119 : TyAt Try.prog 119 td119 := mkTy (.nilFunc) Try.underlying119 (by kernel_rfl) rfl rfl (fun fs h w => by cases h)
def td120 : TD := { d := (Go.TypeDesc.func #[3, 99] #[4] false), size := 1, bytes := 8, zero := [.nilFunc], parts := [] }
theorem ty120 : TyAt Try.prog 120 td120 := mkTy (.nilFunc) Try.underlying120 (by kernel_rfl) rfl rfl (fun fs h w => by cases h)
def td121 : TD := { d := (Go.TypeDesc.func #[99, 3] #[4] false), size := 1, bytes := 8, zero := [.nilFunc], parts := [] }
theorem ty121 : TyAt Try.prog 121 td121 := mkTy (.nilFunc) Try.underlying121 (by kernel_rfl) rfl rfl (fun fs h w => by cases h)
def td122 : TD := { d := (Go.TypeDesc.struct #[{ name := "Id", type := 22, offset := 0, embedded := false, tag := "", pkgPath := "", byteOffset := 0 }, { name := "Cost", type := 22, offset := 1, embedded := false, tag := "", pkgPath := "", byteOffset := 8 }, { name := "Source", type := 3, offset := 2, embedded := false, tag := "", pkgPath := "", byteOffset := 16 }, { name := "Vector", type := 28, offset := 3, embedded := false, tag := "", pkgPath := "", byteOffset := 24 }]), size := 7, bytes := 56, zero := [.int .u64 0, .int .u64 0, .int .i64 0, .int .u64 0, .int .u64 0, .int .u64 0, .int .u64 0], parts := [(0, 1), (1, 1), (2, 1), (3, 4)] }
theorem ty122 : TyAt Try.prog 122 td122 := mkTy (.agg ⟨[.int .u64 0, .int .u64 0, .int .i64 0, .int .u64 0, .int .u64 0, .int .u64 0, .int .u64 0]⟩) Try.underlying122 (by kernel_rfl) rfl rfl (fun fs h w => by cases h; kernel_rfl)
def td123 : TD := { d := (Go.TypeDesc.func #[22, 23] #[28, 3] false), size := 1, bytes := 8, zero := [.nilFunc], parts := [] }
theorem ty123 : TyAt Try.prog 123 td123 := mkTy (.nilFunc) Try.underlying123 (by kernel_rfl) rfl rfl (fun fs h w => by cases h)
def td124 : TD := { d := (Go.TypeDesc.func #[28, 22] #[4] false), size := 1, bytes := 8, zero := [.nilFunc], parts := [] }
theorem ty124 : TyAt Try.prog 124 td124 := mkTy (.nilFunc) Try.underlying124 (by kernel_rfl) rfl rfl (fun fs h w => by cases h)
def td125 : TD := { d := (Go.TypeDesc.map 22 4), size := 1, bytes := 8, zero := [.map none], parts := [] }
theorem ty125 : TyAt Try.prog 125 td125 := mkTy (.map none) Try.underlying125 (by kernel_rfl) rfl rfl (fun fs h w => by cases h)
def td127 : TD := { d := (Go.TypeDesc.func #[22, 122] #[28, 4] false), size := 1, bytes := 8, zero := [.nilFunc], parts := [] }
theorem ty127 : TyAt Try.prog 127 td127 := mkTy (.nilFunc) Try.underlying127 (by kernel_rfl) rfl rfl (fun fs h w => by cases h)
def td128 : TD := { d := (Go.TypeDesc.array 4 22), size := 4, bytes := 32, zero := [.int .u64 0, .int .u64 0, .int .u64 0, .int .u64 0], parts := [] }
theorem ty128 : TyAt Try.prog 128 td128 := mkTy (.agg ⟨[.int .u64 0, .int .u64 0, .int .u64 0, .int .u64 0]⟩) Try.underlying128 (by kernel_rfl) rfl rfl (fun fs h w => by cases h)
def td129 : TD := { d := (Go.TypeDesc.func #[28] #[128] false), size := 1, bytes := 8, zero := [.nilFunc], parts := [] }
theorem ty129 : TyAt Try.prog 129 td129 := mkTy (.nilFunc) Try.underlying129 (by kernel_rfl) rfl rfl (fun fs h w => by cases h)
def td130 : TD := { d := (Go.TypeDesc.func #[131, 131] #[3] false), size := 1, bytes := 8, zero := [.nilFunc], parts := [] }
theorem ty130 : TyAt Try.prog 130 td130 := mkTy (.nilFunc) Try.underlying130 (by kernel_rfl) rfl rfl (fun fs h w => by cases h)
def td131 : TD := { d := (Go.TypeDesc.slice 22), size := 1, bytes := 24, zero := [.slice none 0 0], parts := [] }
theorem ty131 : TyAt Try.prog 131 td131 := mkTy (.slice none 0 0) Try.underlying131 (by kernel_rfl) rfl rfl (fun fs h w => by cases h)
def td132 : TD := { d := (Go.TypeDesc.int Go.IntKind.u64), size := 1, bytes := 8, zero := [.int .u64 0], parts := [] }
theorem ty132 : TyAt Try.prog 132 td132 := mkTy (.int .u64 0) Try.underlying132 (by kernel_rfl) rfl rfl (fun fs h w => by cases h)
def td133 : TD := { d := (Go.TypeDesc.slice 5), size := 1, bytes := 24, zero := [.slice none 0 0], parts := [] }
theorem ty133 : TyAt Try.prog 133 td133 := mkTy (.slice none 0 0) Try.underlying133 (by kernel_rfl) rfl rfl (fun fs h w => by cases h)
def td134 : TD := { d := (Go.TypeDesc.func #[3] #[9] false), size := 1, bytes := 8, zero := [.nilFunc], parts := [] }
theorem ty134 : TyAt Try.prog 134 td134 := mkTy (.nilFunc) Try.underlying134 (by kernel_rfl) rfl rfl (fun fs h w => by cases h)
def td135 : TD := { d := (Go.TypeDesc.func #[3] #[3] false), size := 1, bytes := 8, zero := [.nilFunc], parts := [] }
theorem ty135 : TyAt Try.prog 135 td135 := mkTy (.nilFunc) Try.underlying135 (by kernel_rfl) rfl rfl (fun fs h w => by cases h)
def td136 : TD := { d := (Go.TypeDesc.func #[50] #[50, 33] false), size := 1, bytes := 8, zero := [.nilFunc], parts := [] }
theorem ty136 : TyAt Try.prog 136 td136 := mkTy (.nilFunc) Try.underlying136 (by kernel_rfl) rfl rfl (fun fs h w => by cases h)
def td137 : TD := { d := (Go.TypeDesc.func #[50, 3] #[50, 33] false), size := 1, bytes := 8, zero := [.nilFunc], parts := [] }
theorem ty137 : TyAt Try.prog 137 td137 := mkTy (.nilFunc) Try.underlying137 (by kernel_rfl) rfl rfl (fun fs h w => by cases h)
def td138 : TD := { d := (Go.TypeDesc.func #[3] #[4] false), size := 1, bytes := 8, zero := [.nilFunc], parts := [] }
theorem ty138 : TyAt Try.prog 138 td138 := mkTy (.nilFunc) Try.underlying138 (by kernel_rfl) rfl rfl (fun fs h w => by cases h)
def td139 : TD := { d := (Go.TypeDesc.func #[29, 3] #[4] false), size := 1, bytes := 8, zero := [.nilFunc], parts := [] }
theorem ty139 : TyAt Try.prog 139 td139 := mkTy (.nilFunc) Try.underlying139 (by kernel_rfl) rfl rfl (fun fs h w => by cases h)
def td140 : TD := { d := (Go.TypeDesc.func #[9] #[4] false), size := 1, bytes := 8, zero := [.nilFunc], parts := [] }
theorem ty140 : TyAt Try.prog 140 td140 := mkTy (.nilFunc) Try.underlying140 (by kernel_rfl) rfl rfl (fun fs h w => by cases h)
def td141 : TD := { d := (Go.TypeDesc.func #[29] #[29] false), size := 1, bytes := 8, zero := [.nilFunc], parts := [] }
theorem ty141 : TyAt Try.prog 141 td141 := mkTy (.nilFunc) Try.underlying141 (by kernel_rfl) rfl rfl (fun fs h w => by cases h)
def td142 : TD := { d := (Go.TypeDesc.map 3 3), size := 1, bytes := 8, zero := [.map none], parts := [] }
theorem ty142 : TyAt Try.prog 142 td142 := mkTy (.map none) Try.underlying142 (by kernel_rfl) rfl rfl (fun fs h w => by cases h)
def td143 : TD := { d := (Go.TypeDesc.struct #[]), size := 0, bytes := 0, zero := [], parts := [] }
theorem ty143 : TyAt Try.prog 143 td143 := mkTy (.agg ⟨[]⟩) Try.underlying143 (by kernel_rfl) rfl rfl (fun fs h w => by cases h; kernel_rfl)
def td144 : TD := { d := (Go.TypeDesc.struct #[]), size := 0, bytes := 0, zero := [], parts := [] }
theorem ty144 : TyAt Try.prog 144 td144 := mkTy (.agg ⟨[]⟩) Try.underlying144 (by kernel_rfl) rfl rfl (fun fs h w => by cases h; kernel_rfl)
def td145 : TD := { d := (Go.TypeDesc.struct #[]), size := 0, bytes := 0, zero := [], parts := [] }
theorem ty145 : TyAt Try.prog 145 td145 := mkTy (.agg ⟨[]⟩) Try.underlying145 (by kernel_rfl) rfl rfl (fun fs h w => by cases h; kernel_rfl)
def td146 : TD := { d := (Go.TypeDesc.struct #[{ name := "_", type := 144, offset := 0, embedded := false, tag := "", pkgPath := "sync/atomic", byteOffset := 0 }, { name := "_", type := 145, offset := 0, embedded := false, tag := "", pkgPath := "sync/atomic", byteOffset := 0 }, { name := "v", type := 2, offset := 0, embedded := false, tag := "", pkgPath := "sync/atomic", byteOffset := 0 }]), size := 1, bytes := 8, zero := [.int .i64 0], parts := [(0, 0), (0, 0), (0, 1)] }
theorem ty146 : TyAt Try.prog 146 td146 := mkTy (.agg ⟨[.int .i64 0]⟩) Try.underlying146 (by kernel_rfl) rfl rfl (fun fs h w => by cases h; kernel_rfl)
def td147 : TD := { d := (Go.TypeDesc.struct #[{ name := "_", type := 144, offset := 0, embedded := false, tag := "", pkgPath := "sync/atomic", byteOffset := 0 }, { name := "_", type := 145, offset := 0, embedded := false, tag := "", pkgPath := "sync/atomic", byteOffset := 0 }, { name := "v", type := 2, offset := 0, embedded := false, tag := "", pkgPath := "sync/atomic", byteOffset := 0 }]), size := 1, bytes := 8, zero := [.int .i64 0], parts := [(0, 0), (0, 0), (0, 1)] }
theorem ty147 : TyAt Try.prog 147 td147 := mkTy (.agg ⟨[.int .i64 0]⟩) Try.underlying147 (by kernel_rfl) rfl rfl (fun fs h w => by cases h; kernel_rfl)
def td148 : TD := { d := (Go.TypeDesc.struct #[]), size := 0, bytes := 0, zero := [], parts := [] }
theorem ty148 : TyAt Try.prog 148 td148 := mkTy (.agg ⟨[]⟩) Try.underlying148 (by kernel_rfl) rfl rfl (fun fs h w => by cases h; kernel_rfl)
def td149 : TD := { d := (Go.TypeDesc.int Go.IntKind.u32), size := 1, bytes := 4, zero := [.int .u32 0], parts := [] }
theorem ty149 : TyAt Try.prog 149 td149 := mkTy (.int .u32 0) Try.underlying149 (by kernel_rfl) rfl rfl (fun fs h w => by cases h)
def td150 : TD := { d := (Go.TypeDesc.struct #[{ name := "_", type := 144, offset := 0, embedded := false, tag := "", pkgPath := "sync/atomic", byteOffset := 0 }, { name := "v", type := 149, offset := 0, embedded := false, tag := "", pkgPath := "sync/atomic", byteOffset := 0 }]), size := 1, bytes := 4, zero := [.int .u32 0], parts := [(0, 0), (0, 1)] }
theorem ty150 : TyAt Try.prog 150 td150 := mkTy (.agg ⟨[.int .u32 0]⟩) Try.underlying150 (by kernel_rfl) rfl rfl (fun fs h w => by cases h; kernel_rfl)
def td151 : TD := { d := (Go.TypeDesc.struct #[{ name := "_", type := 144, offset := 0, embedded := false, tag := "", pkgPath := "sync/atomic", byteOffset := 0 }, { name := "v", type := 149, offset := 0, embedded := false, tag := "", pkgPath := "sync/atomic", byteOffset := 0 }]), size := 1, bytes := 4, zero := [.int .u32 0], parts := [(0, 0), (0, 1)] }
theorem ty151 : TyAt Try.prog 151 td151 := mkTy (.agg ⟨[.int .u32 0]⟩) Try.underlying151 (by kernel_rfl) rfl rfl (fun fs h w => by cases h; kernel_rfl)
def td152 : TD := { d := (Go.TypeDesc.struct #[{ name := "state", type := 21, offset := 0, embedded := false, tag := "", pkgPath := "internal/sync", byteOffset := 0 }, { name := "sema", type := 149, offset := 1, embedded := false, tag := "", pkgPath := "internal/sync", byteOffset := 4 }]), size := 2, bytes := 8, zero := [.int .i32 0, .int .u32 0], parts := [(0, 1), (1, 1)] }
theorem ty152 : TyAt Try.prog 152 td152 := mkTy (.agg ⟨[.int .i32 0, .int .u32 0]⟩) Try.underlying152 (by kernel_rfl) rfl rfl (fun fs h w => by cases h; kernel_rfl)
def td153 : TD := { d := (Go.TypeDesc.struct #[{ name := "state", type := 21, offset := 0, embedded := false, tag := "", pkgPath := "internal/sync", byteOffset := 0 }, { name := "sema", type := 149, offset := 1, embedded := false, tag := "", pkgPath := "internal/sync", byteOffset := 4 }]), size := 2, bytes := 8, zero := [.int .i32 0, .int .u32 0], parts := [(0, 1), (1, 1)] }
theorem ty153 : TyAt Try.prog 153 td153 := mkTy (.agg ⟨[.int .i32 0, .int .u32 0]⟩) Try.underlying153 (by kernel_rfl) rfl rfl (fun fs h w => by cases h; kernel_rfl)
def td154 : TD := { d := (Go.TypeDesc.struct #[{ name := "_", type := 148, offset := 0, embedded := false, tag := "", pkgPath := "sync", byteOffset := 0 }, { name := "mu", type := 153, offset := 0, embedded := false, tag := "", pkgPath := "sync", byteOffset := 0 }]), size := 2, bytes := 8, zero := [.int .i32 0, .int .u32 0], parts := [(0, 0), (0, 2)] }
theorem ty154 : TyAt Try.prog 154 td154 := mkTy (.agg ⟨[.int .i32 0, .int .u32 0]⟩) Try.underlying154 (by kernel_rfl) rfl rfl (fun fs h w => by cases h; kernel_rfl)
def td155 : TD := { d := (Go.TypeDesc.struct #[{ name := "_", type := 148, offset := 0, embedded := false, tag := "", pkgPath := "sync", byteOffset := 0 }, { name := "mu", type := 153, offset := 0, embedded := false, tag := "", pkgPath := "sync", byteOffset := 0 }]), size := 2, bytes := 8, zero := [.int .i32 0, .int .u32 0], parts := [(0, 0), (0, 2)] }
theorem ty155 : TyAt Try.prog 155 td155 := mkTy (.agg ⟨[.int .i32 0, .int .u32 0]⟩) Try.underlying155 (by kernel_rfl) rfl rfl (fun fs h w => by cases h; kernel_rfl)
def td156 : TD := { d := (Go.TypeDesc.struct #[{ name := "_", type := 148, offset := 0, embedded := false, tag := "", pkgPath := "sync", byteOffset := 0 }, { name := "done", type := 151, offset := 0, embedded := false, tag := "", pkgPath := "sync", byteOffset := 0 }, { name := "m", type := 155, offset := 1, embedded := false, tag := "", pkgPath := "sync", byteOffset := 4 }]), size := 3, bytes := 12, zero := [.int .u32 0, .int .i32 0, .int .u32 0], parts := [(0, 0), (0, 1), (1, 2)] }
theorem ty156 : TyAt Try.prog 156 td156 := mkTy (.agg ⟨[.int .u32 0, .int .i32 0, .int .u32 0]⟩) Try.underlying156 (by kernel_rfl) rfl rfl (fun fs h w => by cases h; kernel_rfl)
def td157 : TD := { d := (Go.TypeDesc.struct #[{ name := "_", type := 148, offset := 0, embedded := false, tag := "", pkgPath := "sync", byteOffset := 0 }, { name := "done", type := 151, offset := 0, embedded := false, tag := "", pkgPath := "sync", byteOffset := 0 }, { name := "m", type := 155, offset := 1, embedded := false, tag := "", pkgPath := "sync", byteOffset := 4 }]), size := 3, bytes := 12, zero := [.int .u32 0, .int .i32 0, .int .u32 0], parts := [(0, 0), (0, 1), (1, 2)] }
theorem ty157 : TyAt Try.prog 157 td157 := mkTy (.agg ⟨[.int .u32 0, .int .i32 0, .int .u32 0]⟩) Try.underlying157 (by kernel_rfl) rfl rfl (fun fs h w => by cases h; kernel_rfl)
def td158 : TD := { d := (Go.TypeDesc.struct #[{ name := "p", type := 48, offset := 0, embedded := false, tag := "", pkgPath := "treebridge/mismatch", byteOffset := 0 }, { name := "hold", type := 3, offset := 3, embedded := false, tag := "", pkgPath := "treebridge/mismatch", byteOffset := 40 }, { name := "now", type := 3, offset := 4, embedded := false, tag := "", pkgPath := "treebridge/mismatch", byteOffset := 48 }, { name := "until", type := 142, offset := 5, embedded := false, tag := "", pkgPath := "treebridge/mismatch", byteOffset := 56 }, { name := "heard", type := 147, offset := 6, embedded := false, tag := "", pkgPath := "treebridge/mismatch", byteOffset := 64 }, { name := "first", type := 157, offset := 7, embedded := false, tag := "", pkgPath := "treebridge/mismatch", byteOffset := 72 }, { name := "recv", type := 3, offset := 10, embedded := false, tag := "", pkgPath := "treebridge/mismatch", byteOffset := 88 }, { name := "telld", type := 3, offset := 11, embedded := false, tag := "", pkgPath := "treebridge/mismatch", byteOffset := 96 }]), size := 12, bytes := 104, zero := [.bool false, .int .i64 0, .slice none 0 0, .int .i64 0, .int .i64 0, .map none, .int .i64 0, .int .u32 0, .int .i32 0, .int .u32 0, .int .i64 0, .int .i64 0], parts := [(0, 3), (3, 1), (4, 1), (5, 1), (6, 1), (7, 3), (10, 1), (11, 1)] }
theorem ty158 : TyAt Try.prog 158 td158 := mkTy (.agg ⟨[.bool false, .int .i64 0, .slice none 0 0, .int .i64 0, .int .i64 0, .map none, .int .i64 0, .int .u32 0, .int .i32 0, .int .u32 0, .int .i64 0, .int .i64 0]⟩) Try.underlying158 (by kernel_rfl) rfl rfl (fun fs h w => by cases h; kernel_rfl)
def td159 : TD := { d := (Go.TypeDesc.struct #[{ name := "p", type := 48, offset := 0, embedded := false, tag := "", pkgPath := "treebridge/mismatch", byteOffset := 0 }, { name := "hold", type := 3, offset := 3, embedded := false, tag := "", pkgPath := "treebridge/mismatch", byteOffset := 40 }, { name := "now", type := 3, offset := 4, embedded := false, tag := "", pkgPath := "treebridge/mismatch", byteOffset := 48 }, { name := "until", type := 142, offset := 5, embedded := false, tag := "", pkgPath := "treebridge/mismatch", byteOffset := 56 }, { name := "heard", type := 147, offset := 6, embedded := false, tag := "", pkgPath := "treebridge/mismatch", byteOffset := 64 }, { name := "first", type := 157, offset := 7, embedded := false, tag := "", pkgPath := "treebridge/mismatch", byteOffset := 72 }, { name := "recv", type := 3, offset := 10, embedded := false, tag := "", pkgPath := "treebridge/mismatch", byteOffset := 88 }, { name := "telld", type := 3, offset := 11, embedded := false, tag := "", pkgPath := "treebridge/mismatch", byteOffset := 96 }]), size := 12, bytes := 104, zero := [.bool false, .int .i64 0, .slice none 0 0, .int .i64 0, .int .i64 0, .map none, .int .i64 0, .int .u32 0, .int .i32 0, .int .u32 0, .int .i64 0, .int .i64 0], parts := [(0, 3), (3, 1), (4, 1), (5, 1), (6, 1), (7, 3), (10, 1), (11, 1)] }
theorem ty159 : TyAt Try.prog 159 td159 := mkTy (.agg ⟨[.bool false, .int .i64 0, .slice none 0 0, .int .i64 0, .int .i64 0, .map none, .int .i64 0, .int .u32 0, .int .i32 0, .int .u32 0, .int .i64 0, .int .i64 0]⟩) Try.underlying159 (by kernel_rfl) rfl rfl (fun fs h w => by cases h; kernel_rfl)
def td160 : TD := { d := (Go.TypeDesc.struct #[{ name := "Vlan", type := 3, offset := 0, embedded := false, tag := "", pkgPath := "", byteOffset := 0 }, { name := "Until", type := 3, offset := 1, embedded := false, tag := "", pkgPath := "", byteOffset := 8 }]), size := 2, bytes := 16, zero := [.int .i64 0, .int .i64 0], parts := [(0, 1), (1, 1)] }
theorem ty160 : TyAt Try.prog 160 td160 := mkTy (.agg ⟨[.int .i64 0, .int .i64 0]⟩) Try.underlying160 (by kernel_rfl) rfl rfl (fun fs h w => by cases h; kernel_rfl)
def td161 : TD := { d := (Go.TypeDesc.struct #[{ name := "Vlan", type := 3, offset := 0, embedded := false, tag := "", pkgPath := "", byteOffset := 0 }, { name := "Until", type := 3, offset := 1, embedded := false, tag := "", pkgPath := "", byteOffset := 8 }]), size := 2, bytes := 16, zero := [.int .i64 0, .int .i64 0], parts := [(0, 1), (1, 1)] }
theorem ty161 : TyAt Try.prog 161 td161 := mkTy (.agg ⟨[.int .i64 0, .int .i64 0]⟩) Try.underlying161 (by kernel_rfl) rfl rfl (fun fs h w => by cases h; kernel_rfl)
def td162 : TD := { d := (Go.TypeDesc.func #[2] #[2] false), size := 1, bytes := 8, zero := [.nilFunc], parts := [] }
theorem ty162 : TyAt Try.prog 162 td162 := mkTy (.nilFunc) Try.underlying162 (by kernel_rfl) rfl rfl (fun fs h w => by cases h)
def td163 : TD := { d := (Go.TypeDesc.func #[1] #[] false), size := 1, bytes := 8, zero := [.nilFunc], parts := [] }
theorem ty163 : TyAt Try.prog 163 td163 := mkTy (.nilFunc) Try.underlying163 (by kernel_rfl) rfl rfl (fun fs h w => by cases h)
def td164 : TD := { d := (Go.TypeDesc.func #[29] #[] false), size := 1, bytes := 8, zero := [.nilFunc], parts := [] }
theorem ty164 : TyAt Try.prog 164 td164 := mkTy (.nilFunc) Try.underlying164 (by kernel_rfl) rfl rfl (fun fs h w => by cases h)
def td165 : TD := { d := (Go.TypeDesc.func #[] #[2] false), size := 1, bytes := 8, zero := [.nilFunc], parts := [] }
theorem ty165 : TyAt Try.prog 165 td165 := mkTy (.nilFunc) Try.underlying165 (by kernel_rfl) rfl rfl (fun fs h w => by cases h)
def td166 : TD := { d := (Go.TypeDesc.func #[3, 9, 3, 3] #[33] false), size := 1, bytes := 8, zero := [.nilFunc], parts := [] }
theorem ty166 : TyAt Try.prog 166 td166 := mkTy (.nilFunc) Try.underlying166 (by kernel_rfl) rfl rfl (fun fs h w => by cases h)
def td167 : TD := { d := (Go.TypeDesc.func #[3, 9, 3] #[33] false), size := 1, bytes := 8, zero := [.nilFunc], parts := [] }
theorem ty167 : TyAt Try.prog 167 td167 := mkTy (.nilFunc) Try.underlying167 (by kernel_rfl) rfl rfl (fun fs h w => by cases h)
def td168 : TD := { d := (Go.TypeDesc.func #[3, 3] #[3] false), size := 1, bytes := 8, zero := [.nilFunc], parts := [] }
theorem ty168 : TyAt Try.prog 168 td168 := mkTy (.nilFunc) Try.underlying168 (by kernel_rfl) rfl rfl (fun fs h w => by cases h)
def td169 : TD := { d := (Go.TypeDesc.func #[3, 9] #[33] false), size := 1, bytes := 8, zero := [.nilFunc], parts := [] }
theorem ty169 : TyAt Try.prog 169 td169 := mkTy (.nilFunc) Try.underlying169 (by kernel_rfl) rfl rfl (fun fs h w => by cases h)
def td170 : TD := { d := (Go.TypeDesc.map 183 115), size := 1, bytes := 8, zero := [.map none], parts := [] }
theorem ty170 : TyAt Try.prog 170 td170 := mkTy (.map none) Try.underlying170 (by kernel_rfl) rfl rfl (fun fs h w => by cases h)
def td171 : TD := { d := (Go.TypeDesc.struct #[{ name := "room", type := 3, offset := 0, embedded := false, tag := "", pkgPath := "treebridge/fdb", byteOffset := 0 }, { name := "entries", type := 170, offset := 1, embedded := false, tag := "", pkgPath := "treebridge/fdb", byteOffset := 8 }, { name := "learned", type := 147, offset := 2, embedded := false, tag := "", pkgPath := "treebridge/fdb", byteOffset := 16 }]), size := 3, bytes := 24, zero := [.int .i64 0, .map none, .int .i64 0], parts := [(0, 1), (1, 1), (2, 1)] }
theorem ty171 : TyAt Try.prog 171 td171 := mkTy (.agg ⟨[.int .i64 0, .map none, .int .i64 0]⟩) Try.underlying171 (by kernel_rfl) rfl rfl (fun fs h w => by cases h; kernel_rfl)
def td172 : TD := { d := (Go.TypeDesc.struct #[{ name := "room", type := 3, offset := 0, embedded := false, tag := "", pkgPath := "treebridge/fdb", byteOffset := 0 }, { name := "entries", type := 170, offset := 1, embedded := false, tag := "", pkgPath := "treebridge/fdb", byteOffset := 8 }, { name := "learned", type := 147, offset := 2, embedded := false, tag := "", pkgPath := "treebridge/fdb", byteOffset := 16 }]), size := 3, bytes := 24, zero := [.int .i64 0, .map none, .int .i64 0], parts := [(0, 1), (1, 1), (2, 1)] }
theorem ty172 : TyAt Try.prog 172 td172 := mkTy (.agg ⟨[.int .i64 0, .map none, .int .i64 0]⟩) Try.underlying172 (by kernel_rfl) rfl rfl (fun fs h w => by cases h; kernel_rfl)
def td174 : TD := { d := (Go.TypeDesc.func #[106, 3, 9, 3, 3] #[106, 3] false), size := 1, bytes := 8, zero := [.nilFunc], parts := [] }
theorem ty174 : TyAt Try.prog 174 td174 := mkTy (.nilFunc) Try.underlying174 (by kernel_rfl) rfl rfl (fun fs h w => by cases h)
def td175 : TD := { d := (Go.TypeDesc.func #[106, 3, 9, 3] #[106, 3] false), size := 1, bytes := 8, zero := [.nilFunc], parts := [] }
theorem ty175 : TyAt Try.prog 175 td175 := mkTy (.nilFunc) Try.underlying175 (by kernel_rfl) rfl rfl (fun fs h w => by cases h)
def td176 : TD := { d := (Go.TypeDesc.func #[106, 3, 9] #[106, 3] false), size := 1, bytes := 8, zero := [.nilFunc], parts := [] }
theorem ty176 : TyAt Try.prog 176 td176 := mkTy (.nilFunc) Try.underlying176 (by kernel_rfl) rfl rfl (fun fs h w => by cases h)
def td177 : TD := { d := (Go.TypeDesc.func #[106, 3, 3] #[106, 3] false), size := 1, bytes := 8, zero := [.nilFunc], parts := [] }
theorem ty177 : TyAt Try.prog 177 td177 := mkTy (.nilFunc) Try.underlying177 (by kernel_rfl) rfl rfl (fun fs h w => by cases h)
def td178 : TD := { d := (Go.TypeDesc.func #[180, 184] #[111] false), size := 1, bytes := 8, zero := [.nilFunc], parts := [] }
theorem ty178 : TyAt Try.prog 178 td178 := mkTy (.nilFunc) Try.underlying178 (by kernel_rfl) rfl rfl (fun fs h w => by cases h)
def td179 : TD := { d := (Go.TypeDesc.func #[199] #[] false), size := 1, bytes := 8, zero := [.nilFunc], parts := [] }
theorem ty179 : TyAt Try.prog 179 td179 := mkTy (.nilFunc) Try.underlying179 (by kernel_rfl) rfl rfl (fun fs h w => by cases h)
def td180 : TD := { d := (Go.TypeDesc.func #[199] #[] false), size := 1, bytes := 8, zero := [.nilFunc], parts := [] }
theorem ty180 : TyAt Try.prog 180 td180 := mkTy (.nilFunc) Try.underlying180 (by kernel_rfl) rfl rfl (fun fs h w => by cases h)
def td181 : TD := { d := (Go.TypeDesc.func #[170] #[180] false), size := 1, bytes := 8, zero := [.nilFunc], parts := [] }
theorem ty181 : TyAt Try.prog 181 td181 := mkTy (.nilFunc) Try.underlying181 (by kernel_rfl) rfl rfl (fun fs h w => by cases h)
def td182 : TD := { d := (Go.TypeDesc.struct #[{ name := "vlan", type := 3, offset := 0, embedded := false, tag := "", pkgPath := "treebridge/fdb", byteOffset := 0 }, { name := "mac", type := 9, offset := 1, embedded := false, tag := "", pkgPath := "treebridge/fdb", byteOffset := 8 }]), size := 2, bytes := 24, zero := [.int .i64 0, .string ⟨#[]⟩], parts := [(0, 1), (1, 1)] }
theorem ty182 : TyAt Try.prog 182 td182 := mkTy (.agg ⟨[.int .i64 0, .string ⟨#[]⟩]⟩) Try.underlying182 (by kernel_rfl) rfl rfl (fun fs h w => by cases h; kernel_rfl)
def td183 : TD := { d := (Go.TypeDesc.struct #[{ name := "vlan", type := 3, offset := 0, embedded := false, tag := "", pkgPath := "treebridge/fdb", byteOffset := 0 }, { name := "mac", type := 9, offset := 1, embedded := false, tag := "", pkgPath := "treebridge/fdb", byteOffset := 8 }]), size := 2, bytes := 24, zero := [.int .i64 0, .string ⟨#[]⟩], parts := [(0, 1), (1, 1)] }
theorem ty183 : TyAt Try.prog 183 td183 := mkTy (.agg ⟨[.int .i64 0, .string ⟨#[]⟩]⟩) Try.underlying183 (by kernel_rfl) rfl rfl (fun fs h w => by cases h; kernel_rfl)
def td184 : TD := { d := (Go.TypeDesc.func #[115, 115] #[3] false), size := 1, bytes := 8, zero := [.nilFunc], parts := [] }
theorem ty184 : TyAt Try.prog 184 td184 := mkTy (.nilFunc) Try.underlying184 (by kernel_rfl) rfl rfl (fun fs h w => by cases h)
def td186 : TD := { d := (Go.TypeDesc.func #[3, 28] #[] false), size := 1, bytes := 8, zero := [.nilFunc], parts := [] }
theorem ty186 : TyAt Try.prog 186 td186 := mkTy (.nilFunc) Try.underlying186 (by kernel_rfl) rfl rfl (fun fs h w => by cases h)
def td187 : TD := { d := (Go.TypeDesc.func #[22, 22] #[3] false), size := 1, bytes := 8, zero := [.nilFunc], parts := [] }
theorem ty187 : TyAt Try.prog 187 td187 := mkTy (.nilFunc) Try.underlying187 (by kernel_rfl) rfl rfl (fun fs h w => by cases h)
def td188 : TD := { d := (Go.TypeDesc.func #[29, 3] #[3] false), size := 1, bytes := 8, zero := [.nilFunc], parts := [] }
theorem ty188 : TyAt Try.prog 188 td188 := mkTy (.nilFunc) Try.underlying188 (by kernel_rfl) rfl rfl (fun fs h w => by cases h)
def td189 : TD := { d := (Go.TypeDesc.pointer 147), size := 1, bytes := 8, zero := [.pointer none], parts := [] }
theorem ty189 : TyAt Try.prog 189 td189 := mkTy (.pointer none) Try.underlying189 (by kernel_rfl) rfl rfl (fun fs h w => by cases h)
def td190 : TD := { d := (Go.TypeDesc.func #[191, 2] #[2] false), size := 1, bytes := 8, zero := [.nilFunc], parts := [] }
theorem ty190 : TyAt Try.prog 190 td190 := mkTy (.nilFunc) Try.underlying190 (by kernel_rfl) rfl rfl (fun fs h w => by cases h)
def td191 : TD := { d := (Go.TypeDesc.pointer 2), size := 1, bytes := 8, zero := [.pointer none], parts := [] }
theorem ty191 : TyAt Try.prog 191 td191 := mkTy (.pointer none) Try.underlying191 (by kernel_rfl) rfl rfl (fun fs h w => by cases h)
def td192 : TD := { d := (Go.TypeDesc.pointer 157), size := 1, bytes := 8, zero := [.pointer none], parts := [] }
theorem ty192 : TyAt Try.prog 192 td192 := mkTy (.pointer none) Try.underlying192 (by kernel_rfl) rfl rfl (fun fs h w => by cases h)
def td193 : TD := { d := (Go.TypeDesc.func #[29, 3, 3, 3] #[] false), size := 1, bytes := 8, zero := [.nilFunc], parts := [] }
theorem ty193 : TyAt Try.prog 193 td193 := mkTy (.nilFunc) Try.underlying193 (by kernel_rfl) rfl rfl (fun fs h w => by cases h)
def td194 : TD := { d := (Go.TypeDesc.func #[132] #[3] false), size := 1, bytes := 8, zero := [.nilFunc], parts := [] }
theorem ty194 : TyAt Try.prog 194 td194 := mkTy (.nilFunc) Try.underlying194 (by kernel_rfl) rfl rfl (fun fs h w => by cases h)
def td195 : TD := { d := (Go.TypeDesc.func #[191] #[2] false), size := 1, bytes := 8, zero := [.nilFunc], parts := [] }
theorem ty195 : TyAt Try.prog 195 td195 := mkTy (.nilFunc) Try.underlying195 (by kernel_rfl) rfl rfl (fun fs h w => by cases h)
def td197 : TD := { d := (Go.TypeDesc.func #[] #[183, 4] false), size := 1, bytes := 8, zero := [.nilFunc], parts := [] }
theorem ty197 : TyAt Try.prog 197 td197 := mkTy (.nilFunc) Try.underlying197 (by kernel_rfl) rfl rfl (fun fs h w => by cases h)
def td198 : TD := { d := (Go.TypeDesc.func #[199] #[3] false), size := 1, bytes := 8, zero := [.nilFunc], parts := [] }
theorem ty198 : TyAt Try.prog 198 td198 := mkTy (.nilFunc) Try.underlying198 (by kernel_rfl) rfl rfl (fun fs h w => by cases h)
def td199 : TD := { d := (Go.TypeDesc.func #[115] #[4] false), size := 1, bytes := 8, zero := [.nilFunc], parts := [] }
theorem ty199 : TyAt Try.prog 199 td199 := mkTy (.nilFunc) Try.underlying199 (by kernel_rfl) rfl rfl (fun fs h w => by cases h)
def td200 : TD := { d := (Go.TypeDesc.func #[3, 9, 3, 3] #[3] false), size := 1, bytes := 8, zero := [.nilFunc], parts := [] }
theorem ty200 : TyAt Try.prog 200 td200 := mkTy (.nilFunc) Try.underlying200 (by kernel_rfl) rfl rfl (fun fs h w => by cases h)
def td201 : TD := { d := (Go.TypeDesc.func #[106, 3] #[106] false), size := 1, bytes := 8, zero := [.nilFunc], parts := [] }
theorem ty201 : TyAt Try.prog 201 td201 := mkTy (.nilFunc) Try.underlying201 (by kernel_rfl) rfl rfl (fun fs h w => by cases h)
def td202 : TD := { d := (Go.TypeDesc.func #[106, 114] #[106] false), size := 1, bytes := 8, zero := [.nilFunc], parts := [] }
theorem ty202 : TyAt Try.prog 202 td202 := mkTy (.nilFunc) Try.underlying202 (by kernel_rfl) rfl rfl (fun fs h w => by cases h)
def td203 : TD := { d := (Go.TypeDesc.func #[180] #[111] false), size := 1, bytes := 8, zero := [.nilFunc], parts := [] }
theorem ty203 : TyAt Try.prog 203 td203 := mkTy (.nilFunc) Try.underlying203 (by kernel_rfl) rfl rfl (fun fs h w => by cases h)
def td204 : TD := { d := (Go.TypeDesc.func #[111, 184] #[] false), size := 1, bytes := 8, zero := [.nilFunc], parts := [] }
theorem ty204 : TyAt Try.prog 204 td204 := mkTy (.nilFunc) Try.underlying204 (by kernel_rfl) rfl rfl (fun fs h w => by cases h)
def td205 : TD := { d := (Go.TypeDesc.func #[29] #[3] true), size := 1, bytes := 8, zero := [.nilFunc], parts := [] }
theorem ty205 : TyAt Try.prog 205 td205 := mkTy (.nilFunc) Try.underlying205 (by kernel_rfl) rfl rfl (fun fs h w => by cases h)
def td206 : TD := { d := (Go.TypeDesc.func #[9, 9] #[3] false), size := 1, bytes := 8, zero := [.nilFunc], parts := [] }
theorem ty206 : TyAt Try.prog 206 td206 := mkTy (.nilFunc) Try.underlying206 (by kernel_rfl) rfl rfl (fun fs h w => by cases h)
def td207 : TD := { d := (Go.TypeDesc.func #[22] #[4] false), size := 1, bytes := 8, zero := [.nilFunc], parts := [] }
theorem ty207 : TyAt Try.prog 207 td207 := mkTy (.nilFunc) Try.underlying207 (by kernel_rfl) rfl rfl (fun fs h w => by cases h)
def td208 : TD := { d := (Go.TypeDesc.pointer 151), size := 1, bytes := 8, zero := [.pointer none], parts := [] }
theorem ty208 : TyAt Try.prog 208 td208 := mkTy (.pointer none) Try.underlying208 (by kernel_rfl) rfl rfl (fun fs h w => by cases h)
def td209 : TD := { d := (Go.TypeDesc.func #[210] #[149] false), size := 1, bytes := 8, zero := [.nilFunc], parts := [] }
theorem ty209 : TyAt Try.prog 209 td209 := mkTy (.nilFunc) Try.underlying209 (by kernel_rfl) rfl rfl (fun fs h w => by cases h)
def td210 : TD := { d := (Go.TypeDesc.pointer 149), size := 1, bytes := 8, zero := [.pointer none], parts := [] }
theorem ty210 : TyAt Try.prog 210 td210 := mkTy (.pointer none) Try.underlying210 (by kernel_rfl) rfl rfl (fun fs h w => by cases h)
def td211 : TD := { d := (Go.TypeDesc.func #[4] #[] false), size := 1, bytes := 8, zero := [.nilFunc], parts := [] }
theorem ty211 : TyAt Try.prog 211 td211 := mkTy (.nilFunc) Try.underlying211 (by kernel_rfl) rfl rfl (fun fs h w => by cases h)
def td212 : TD := { d := (Go.TypeDesc.func #[29, 3, 3] #[] false), size := 1, bytes := 8, zero := [.nilFunc], parts := [] }
theorem ty212 : TyAt Try.prog 212 td212 := mkTy (.nilFunc) Try.underlying212 (by kernel_rfl) rfl rfl (fun fs h w => by cases h)
def td213 : TD := { d := (Go.TypeDesc.int Go.IntKind.i64), size := 1, bytes := 8, zero := [.int .i64 0], parts := [] }
theorem ty213 : TyAt Try.prog 213 td213 := mkTy (.int .i64 0) Try.underlying213 (by kernel_rfl) rfl rfl (fun fs h w => by cases h)
def td215 : TD := { d := (Go.TypeDesc.func #[29, 3, 3] #[3, 213] false), size := 1, bytes := 8, zero := [.nilFunc], parts := [] }
theorem ty215 : TyAt Try.prog 215 td215 := mkTy (.nilFunc) Try.underlying215 (by kernel_rfl) rfl rfl (fun fs h w => by cases h)
def td216 : TD := { d := (Go.TypeDesc.func #[29, 3, 3] #[4] false), size := 1, bytes := 8, zero := [.nilFunc], parts := [] }
theorem ty216 : TyAt Try.prog 216 td216 := mkTy (.nilFunc) Try.underlying216 (by kernel_rfl) rfl rfl (fun fs h w => by cases h)
def td217 : TD := { d := (Go.TypeDesc.func #[29, 3, 3, 3] #[3] false), size := 1, bytes := 8, zero := [.nilFunc], parts := [] }
theorem ty217 : TyAt Try.prog 217 td217 := mkTy (.nilFunc) Try.underlying217 (by kernel_rfl) rfl rfl (fun fs h w => by cases h)
def td218 : TD := { d := (Go.TypeDesc.func #[29, 3, 3, 3] #[3, 4] false), size := 1, bytes := 8, zero := [.nilFunc], parts := [] }
theorem ty218 : TyAt Try.prog 218 td218 := mkTy (.nilFunc) Try.underlying218 (by kernel_rfl) rfl rfl (fun fs h w => by cases h)
def td219 : TD := { d := (Go.TypeDesc.func #[149] #[3] false), size := 1, bytes := 8, zero := [.nilFunc], parts := [] }
theorem ty219 : TyAt Try.prog 219 td219 := mkTy (.nilFunc) Try.underlying219 (by kernel_rfl) rfl rfl (fun fs h w => by cases h)
def td220 : TD := { d := (Go.TypeDesc.func #[22] #[3] false), size := 1, bytes := 8, zero := [.nilFunc], parts := [] }
theorem ty220 : TyAt Try.prog 220 td220 := mkTy (.nilFunc) Try.underlying220 (by kernel_rfl) rfl rfl (fun fs h w => by cases h)
def td221 : TD := { d := (Go.TypeDesc.func #[111, 199] #[111] false), size := 1, bytes := 8, zero := [.nilFunc], parts := [] }
theorem ty221 : TyAt Try.prog 221 td221 := mkTy (.nilFunc) Try.underlying221 (by kernel_rfl) rfl rfl (fun fs h w => by cases h)
def td222 : TD := { d := (Go.TypeDesc.func #[111, 184] #[115] false), size := 1, bytes := 8, zero := [.nilFunc], parts := [] }
theorem ty222 : TyAt Try.prog 222 td222 := mkTy (.nilFunc) Try.underlying222 (by kernel_rfl) rfl rfl (fun fs h w => by cases h)
def td223 : TD := { d := (Go.TypeDesc.func #[170, 224] #[] false), size := 1, bytes := 8, zero := [.nilFunc], parts := [] }
theorem ty223 : TyAt Try.prog 223 td223 := mkTy (.nilFunc) Try.underlying223 (by kernel_rfl) rfl rfl (fun fs h w => by cases h)
def td224 : TD := { d := (Go.TypeDesc.func #[183, 115] #[4] false), size := 1, bytes := 8, zero := [.nilFunc], parts := [] }
theorem ty224 : TyAt Try.prog 224 td224 := mkTy (.nilFunc) Try.underlying224 (by kernel_rfl) rfl rfl (fun fs h w => by cases h)
def td225 : TD := { d := (Go.TypeDesc.func #[111, 180] #[111] false), size := 1, bytes := 8, zero := [.nilFunc], parts := [] }
theorem ty225 : TyAt Try.prog 225 td225 := mkTy (.nilFunc) Try.underlying225 (by kernel_rfl) rfl rfl (fun fs h w => by cases h)
def td226 : TD := { d := (Go.TypeDesc.func #[111, 3, 3, 3, 184] #[] false), size := 1, bytes := 8, zero := [.nilFunc], parts := [] }
theorem ty226 : TyAt Try.prog 226 td226 := mkTy (.nilFunc) Try.underlying226 (by kernel_rfl) rfl rfl (fun fs h w => by cases h)
def td227 : TD := { d := (Go.TypeDesc.pointer 155), size := 1, bytes := 8, zero := [.pointer none], parts := [] }
theorem ty227 : TyAt Try.prog 227 td227 := mkTy (.pointer none) Try.underlying227 (by kernel_rfl) rfl rfl (fun fs h w => by cases h)
def td228 : TD := { d := (Go.TypeDesc.func #[210, 149] #[] false), size := 1, bytes := 8, zero := [.nilFunc], parts := [] }
theorem ty228 : TyAt Try.prog 228 td228 := mkTy (.nilFunc) Try.underlying228 (by kernel_rfl) rfl rfl (fun fs h w => by cases h)
def td229 : TD := { d := (Go.TypeDesc.func #[4] #[149] false), size := 1, bytes := 8, zero := [.nilFunc], parts := [] }
theorem ty229 : TyAt Try.prog 229 td229 := mkTy (.nilFunc) Try.underlying229 (by kernel_rfl) rfl rfl (fun fs h w => by cases h)
def td230 : TD := { d := (Go.TypeDesc.int Go.IntKind.u64), size := 1, bytes := 8, zero := [.int .u64 0], parts := [] }
theorem ty230 : TyAt Try.prog 230 td230 := mkTy (.int .u64 0) Try.underlying230 (by kernel_rfl) rfl rfl (fun fs h w => by cases h)
def td231 : TD := { d := (Go.TypeDesc.func #[3] #[132] false), size := 1, bytes := 8, zero := [.nilFunc], parts := [] }
theorem ty231 : TyAt Try.prog 231 td231 := mkTy (.nilFunc) Try.underlying231 (by kernel_rfl) rfl rfl (fun fs h w => by cases h)
def td232 : TD := { d := (Go.TypeDesc.func #[] #[22] false), size := 1, bytes := 8, zero := [.nilFunc], parts := [] }
theorem ty232 : TyAt Try.prog 232 td232 := mkTy (.nilFunc) Try.underlying232 (by kernel_rfl) rfl rfl (fun fs h w => by cases h)
def td233 : TD := { d := (Go.TypeDesc.func #[29, 3, 234] #[3] false), size := 1, bytes := 8, zero := [.nilFunc], parts := [] }
theorem ty233 : TyAt Try.prog 233 td233 := mkTy (.nilFunc) Try.underlying233 (by kernel_rfl) rfl rfl (fun fs h w => by cases h)
def td234 : TD := { d := (Go.TypeDesc.pointer 3), size := 1, bytes := 8, zero := [.pointer none], parts := [] }
theorem ty234 : TyAt Try.prog 234 td234 := mkTy (.pointer none) Try.underlying234 (by kernel_rfl) rfl rfl (fun fs h w => by cases h)
def td235 : TD := { d := (Go.TypeDesc.func #[29, 3, 3, 3, 234] #[3] false), size := 1, bytes := 8, zero := [.nilFunc], parts := [] }
theorem ty235 : TyAt Try.prog 235 td235 := mkTy (.nilFunc) Try.underlying235 (by kernel_rfl) rfl rfl (fun fs h w => by cases h)
def td236 : TD := { d := (Go.TypeDesc.func #[111, 199] #[3] false), size := 1, bytes := 8, zero := [.nilFunc], parts := [] }
theorem ty236 : TyAt Try.prog 236 td236 := mkTy (.nilFunc) Try.underlying236 (by kernel_rfl) rfl rfl (fun fs h w => by cases h)
def td237 : TD := { d := (Go.TypeDesc.func #[111, 3, 3, 184] #[] false), size := 1, bytes := 8, zero := [.nilFunc], parts := [] }
theorem ty237 : TyAt Try.prog 237 td237 := mkTy (.nilFunc) Try.underlying237 (by kernel_rfl) rfl rfl (fun fs h w => by cases h)
def td238 : TD := { d := (Go.TypeDesc.func #[111, 3, 3, 184] #[3, 213] false), size := 1, bytes := 8, zero := [.nilFunc], parts := [] }
theorem ty238 : TyAt Try.prog 238 td238 := mkTy (.nilFunc) Try.underlying238 (by kernel_rfl) rfl rfl (fun fs h w => by cases h)
def td239 : TD := { d := (Go.TypeDesc.func #[111, 3, 3, 184] #[4] false), size := 1, bytes := 8, zero := [.nilFunc], parts := [] }
theorem ty239 : TyAt Try.prog 239 td239 := mkTy (.nilFunc) Try.underlying239 (by kernel_rfl) rfl rfl (fun fs h w => by cases h)
def td240 : TD := { d := (Go.TypeDesc.func #[111, 3, 3, 3, 184] #[3] false), size := 1, bytes := 8, zero := [.nilFunc], parts := [] }
theorem ty240 : TyAt Try.prog 240 td240 := mkTy (.nilFunc) Try.underlying240 (by kernel_rfl) rfl rfl (fun fs h w => by cases h)
def td241 : TD := { d := (Go.TypeDesc.func #[111, 3, 3, 3, 184] #[3, 4] false), size := 1, bytes := 8, zero := [.nilFunc], parts := [] }
theorem ty241 : TyAt Try.prog 241 td241 := mkTy (.nilFunc) Try.underlying241 (by kernel_rfl) rfl rfl (fun fs h w => by cases h)
def td242 : TD := { d := (Go.TypeDesc.pointer 153), size := 1, bytes := 8, zero := [.pointer none], parts := [] }
theorem ty242 : TyAt Try.prog 242 td242 := mkTy (.pointer none) Try.underlying242 (by kernel_rfl) rfl rfl (fun fs h w => by cases h)
def td243 : TD := { d := (Go.TypeDesc.func #[244, 21, 21] #[4] false), size := 1, bytes := 8, zero := [.nilFunc], parts := [] }
theorem ty243 : TyAt Try.prog 243 td243 := mkTy (.nilFunc) Try.underlying243 (by kernel_rfl) rfl rfl (fun fs h w => by cases h)
def td244 : TD := { d := (Go.TypeDesc.pointer 21), size := 1, bytes := 8, zero := [.pointer none], parts := [] }
theorem ty244 : TyAt Try.prog 244 td244 := mkTy (.pointer none) Try.underlying244 (by kernel_rfl) rfl rfl (fun fs h w => by cases h)
def td245 : TD := { d := (Go.TypeDesc.func #[246] #[] false), size := 1, bytes := 8, zero := [.nilFunc], parts := [] }
theorem ty245 : TyAt Try.prog 245 td245 := mkTy (.nilFunc) Try.underlying245 (by kernel_rfl) rfl rfl (fun fs h w => by cases h)
def td247 : TD := { d := (Go.TypeDesc.func #[244, 21] #[21] false), size := 1, bytes := 8, zero := [.nilFunc], parts := [] }
theorem ty247 : TyAt Try.prog 247 td247 := mkTy (.nilFunc) Try.underlying247 (by kernel_rfl) rfl rfl (fun fs h w => by cases h)
def td248 : TD := { d := (Go.TypeDesc.func #[21] #[] false), size := 1, bytes := 8, zero := [.nilFunc], parts := [] }
theorem ty248 : TyAt Try.prog 248 td248 := mkTy (.nilFunc) Try.underlying248 (by kernel_rfl) rfl rfl (fun fs h w => by cases h)
def td249 : TD := { d := (Go.TypeDesc.pointer 230), size := 1, bytes := 8, zero := [.pointer none], parts := [] }
theorem ty249 : TyAt Try.prog 249 td249 := mkTy (.pointer none) Try.underlying249 (by kernel_rfl) rfl rfl (fun fs h w => by cases h)
def td250 : TD := { d := (Go.TypeDesc.func #[29, 3, 3, 234] #[3, 3] false), size := 1, bytes := 8, zero := [.nilFunc], parts := [] }
theorem ty250 : TyAt Try.prog 250 td250 := mkTy (.nilFunc) Try.underlying250 (by kernel_rfl) rfl rfl (fun fs h w => by cases h)
def td251 : TD := { d := (Go.TypeDesc.func #[111, 3, 234, 184] #[3] false), size := 1, bytes := 8, zero := [.nilFunc], parts := [] }
theorem ty251 : TyAt Try.prog 251 td251 := mkTy (.nilFunc) Try.underlying251 (by kernel_rfl) rfl rfl (fun fs h w => by cases h)
def td252 : TD := { d := (Go.TypeDesc.func #[111, 3, 3, 3, 234, 184] #[3] false), size := 1, bytes := 8, zero := [.nilFunc], parts := [] }
theorem ty252 : TyAt Try.prog 252 td252 := mkTy (.nilFunc) Try.underlying252 (by kernel_rfl) rfl rfl (fun fs h w => by cases h)
def td253 : TD := { d := (Go.TypeDesc.func #[9] #[] false), size := 1, bytes := 8, zero := [.nilFunc], parts := [] }
theorem ty253 : TyAt Try.prog 253 td253 := mkTy (.nilFunc) Try.underlying253 (by kernel_rfl) rfl rfl (fun fs h w => by cases h)
def td254 : TD := { d := (Go.TypeDesc.func #[210, 4, 3] #[] false), size := 1, bytes := 8, zero := [.nilFunc], parts := [] }
theorem ty254 : TyAt Try.prog 254 td254 := mkTy (.nilFunc) Try.underlying254 (by kernel_rfl) rfl rfl (fun fs h w => by cases h)
def td255 : TD := { d := (Go.TypeDesc.func #[111, 3, 3, 234, 184] #[3, 3] false), size := 1, bytes := 8, zero := [.nilFunc], parts := [] }
theorem ty255 : TyAt Try.prog 255 td255 := mkTy (.nilFunc) Try.underlying255 (by kernel_rfl) rfl rfl (fun fs h w => by cases h)
def td256 : TD := { d := (Go.TypeDesc.func #[] #[9] false), size := 1, bytes := 8, zero := [.nilFunc], parts := [] }
theorem ty256 : TyAt Try.prog 256 td256 := mkTy (.nilFunc) Try.underlying256 (by kernel_rfl) rfl rfl (fun fs h w => by cases h)
def td257 : TD := { d := (Go.TypeDesc.struct #[{ name := "_interface", type := 17, offset := 0, embedded := false, tag := "", pkgPath := "runtime", byteOffset := 0 }, { name := "concrete", type := 17, offset := 1, embedded := false, tag := "", pkgPath := "runtime", byteOffset := 8 }, { name := "asserted", type := 17, offset := 2, embedded := false, tag := "", pkgPath := "runtime", byteOffset := 16 }, { name := "missingMethod", type := 9, offset := 3, embedded := false, tag := "", pkgPath := "runtime", byteOffset := 24 }]), size := 4, bytes := 40, zero := [.pointer none, .pointer none, .pointer none, .string ⟨#[]⟩], parts := [(0, 1), (1, 1), (2, 1), (3, 1)] }
theorem ty257 : TyAt Try.prog 257 td257 := mkTy (.agg ⟨[.pointer none, .pointer none, .pointer none, .string ⟨#[]⟩]⟩) Try.underlying257 (by kernel_rfl) rfl rfl (fun fs h w => by cases h; kernel_rfl)
def td258 : TD := { d := (Go.TypeDesc.struct #[{ name := "_interface", type := 17, offset := 0, embedded := false, tag := "", pkgPath := "runtime", byteOffset := 0 }, { name := "concrete", type := 17, offset := 1, embedded := false, tag := "", pkgPath := "runtime", byteOffset := 8 }, { name := "asserted", type := 17, offset := 2, embedded := false, tag := "", pkgPath := "runtime", byteOffset := 16 }, { name := "missingMethod", type := 9, offset := 3, embedded := false, tag := "", pkgPath := "runtime", byteOffset := 24 }]), size := 4, bytes := 40, zero := [.pointer none, .pointer none, .pointer none, .string ⟨#[]⟩], parts := [(0, 1), (1, 1), (2, 1), (3, 1)] }
theorem ty258 : TyAt Try.prog 258 td258 := mkTy (.agg ⟨[.pointer none, .pointer none, .pointer none, .string ⟨#[]⟩]⟩) Try.underlying258 (by kernel_rfl) rfl rfl (fun fs h w => by cases h; kernel_rfl)
def td259 : TD := { d := (Go.TypeDesc.array 0 16), size := 0, bytes := 0, zero := [], parts := [] }
theorem ty259 : TyAt Try.prog 259 td259 := mkTy (.agg ⟨[]⟩) Try.underlying259 (by kernel_rfl) rfl rfl (fun fs h w => by cases h)
def td260 : TD := { d := (Go.TypeDesc.struct #[{ name := "_", type := 259, offset := 0, embedded := false, tag := "", pkgPath := "runtime", byteOffset := 0 }]), size := 0, bytes := 0, zero := [], parts := [(0, 0)] }
theorem ty260 : TyAt Try.prog 260 td260 := mkTy (.agg ⟨[]⟩) Try.underlying260 (by kernel_rfl) rfl rfl (fun fs h w => by cases h; kernel_rfl)
def td261 : TD := { d := (Go.TypeDesc.struct #[{ name := "_", type := 259, offset := 0, embedded := false, tag := "", pkgPath := "runtime", byteOffset := 0 }]), size := 0, bytes := 0, zero := [], parts := [(0, 0)] }
theorem ty261 : TyAt Try.prog 261 td261 := mkTy (.agg ⟨[]⟩) Try.underlying261 (by kernel_rfl) rfl rfl (fun fs h w => by cases h; kernel_rfl)
def td262 : TD := { d := (Go.TypeDesc.int Go.IntKind.u8), size := 1, bytes := 1, zero := [.int .u8 0], parts := [] }
theorem ty262 : TyAt Try.prog 262 td262 := mkTy (.int .u8 0) Try.underlying262 (by kernel_rfl) rfl rfl (fun fs h w => by cases h)
def td263 : TD := { d := (Go.TypeDesc.int Go.IntKind.u8), size := 1, bytes := 1, zero := [.int .u8 0], parts := [] }
theorem ty263 : TyAt Try.prog 263 td263 := mkTy (.int .u8 0) Try.underlying263 (by kernel_rfl) rfl rfl (fun fs h w => by cases h)
def td264 : TD := { d := (Go.TypeDesc.func #[246, 246] #[4] false), size := 1, bytes := 8, zero := [.nilFunc], parts := [] }
theorem ty264 : TyAt Try.prog 264 td264 := mkTy (.nilFunc) Try.underlying264 (by kernel_rfl) rfl rfl (fun fs h w => by cases h)
def td265 : TD := { d := (Go.TypeDesc.pointer 5), size := 1, bytes := 8, zero := [.pointer none], parts := [] }
theorem ty265 : TyAt Try.prog 265 td265 := mkTy (.pointer none) Try.underlying265 (by kernel_rfl) rfl rfl (fun fs h w => by cases h)
def td266 : TD := { d := (Go.TypeDesc.int Go.IntKind.i32), size := 1, bytes := 4, zero := [.int .i32 0], parts := [] }
theorem ty266 : TyAt Try.prog 266 td266 := mkTy (.int .i32 0) Try.underlying266 (by kernel_rfl) rfl rfl (fun fs h w => by cases h)
def td267 : TD := { d := (Go.TypeDesc.int Go.IntKind.i32), size := 1, bytes := 4, zero := [.int .i32 0], parts := [] }
theorem ty267 : TyAt Try.prog 267 td267 := mkTy (.int .i32 0) Try.underlying267 (by kernel_rfl) rfl rfl (fun fs h w => by cases h)
def td268 : TD := { d := (Go.TypeDesc.struct #[{ name := "Size_", type := 12, offset := 0, embedded := false, tag := "", pkgPath := "", byteOffset := 0 }, { name := "PtrBytes", type := 12, offset := 1, embedded := false, tag := "", pkgPath := "", byteOffset := 8 }, { name := "Hash", type := 149, offset := 2, embedded := false, tag := "", pkgPath := "", byteOffset := 16 }, { name := "TFlag", type := 262, offset := 3, embedded := false, tag := "", pkgPath := "", byteOffset := 20 }, { name := "Align_", type := 5, offset := 4, embedded := false, tag := "", pkgPath := "", byteOffset := 21 }, { name := "FieldAlign_", type := 5, offset := 5, embedded := false, tag := "", pkgPath := "", byteOffset := 22 }, { name := "Kind_", type := 263, offset := 6, embedded := false, tag := "", pkgPath := "", byteOffset := 23 }, { name := "Equal", type := 264, offset := 7, embedded := false, tag := "", pkgPath := "", byteOffset := 24 }, { name := "GCData", type := 265, offset := 8, embedded := false, tag := "", pkgPath := "", byteOffset := 32 }, { name := "Str", type := 266, offset := 9, embedded := false, tag := "", pkgPath := "", byteOffset := 40 }, { name := "PtrToThis", type := 267, offset := 10, embedded := false, tag := "", pkgPath := "", byteOffset := 44 }]), size := 11, bytes := 48, zero := [.int .u64 0, .int .u64 0, .int .u32 0, .int .u8 0, .int .u8 0, .int .u8 0, .int .u8 0, .nilFunc, .pointer none, .int .i32 0, .int .i32 0], parts := [(0, 1), (1, 1), (2, 1), (3, 1), (4, 1), (5, 1), (6, 1), (7, 1), (8, 1), (9, 1), (10, 1)] }
theorem ty268 : TyAt Try.prog 268 td268 := mkTy (.agg ⟨[.int .u64 0, .int .u64 0, .int .u32 0, .int .u8 0, .int .u8 0, .int .u8 0, .int .u8 0, .nilFunc, .pointer none, .int .i32 0, .int .i32 0]⟩) Try.underlying268 (by kernel_rfl) rfl rfl (fun fs h w => by cases h; kernel_rfl)
def td269 : TD := { d := (Go.TypeDesc.struct #[{ name := "Size_", type := 12, offset := 0, embedded := false, tag := "", pkgPath := "", byteOffset := 0 }, { name := "PtrBytes", type := 12, offset := 1, embedded := false, tag := "", pkgPath := "", byteOffset := 8 }, { name := "Hash", type := 149, offset := 2, embedded := false, tag := "", pkgPath := "", byteOffset := 16 }, { name := "TFlag", type := 262, offset := 3, embedded := false, tag := "", pkgPath := "", byteOffset := 20 }, { name := "Align_", type := 5, offset := 4, embedded := false, tag := "", pkgPath := "", byteOffset := 21 }, { name := "FieldAlign_", type := 5, offset := 5, embedded := false, tag := "", pkgPath := "", byteOffset := 22 }, { name := "Kind_", type := 263, offset := 6, embedded := false, tag := "", pkgPath := "", byteOffset := 23 }, { name := "Equal", type := 264, offset := 7, embedded := false, tag := "", pkgPath := "", byteOffset := 24 }, { name := "GCData", type := 265, offset := 8, embedded := false, tag := "", pkgPath := "", byteOffset := 32 }, { name := "Str", type := 266, offset := 9, embedded := false, tag := "", pkgPath := "", byteOffset := 40 }, { name := "PtrToThis", type := 267, offset := 10, embedded := false, tag := "", pkgPath := "", byteOffset := 44 }]), size := 11, bytes := 48, zero := [.int .u64 0, .int .u64 0, .int .u32 0, .int .u8 0, .int .u8 0, .int .u8 0, .int .u8 0, .nilFunc, .pointer none, .int .i32 0, .int .i32 0], parts := [(0, 1), (1, 1), (2, 1), (3, 1), (4, 1), (5, 1), (6, 1), (7, 1), (8, 1), (9, 1), (10, 1)] }
theorem ty269 : TyAt Try.prog 269 td269 := mkTy (.agg ⟨[.int .u64 0, .int .u64 0, .int .u32 0, .int .u8 0, .int .u8 0, .int .u8 0, .int .u8 0, .nilFunc, .pointer none, .int .i32 0, .int .i32 0]⟩) Try.underlying269 (by kernel_rfl) rfl rfl (fun fs h w => by cases h; kernel_rfl)
theorem eqt22 : EqT Try.prog 1 22 false [.int .u64] := EqT.int ty22.1 (by kernel_rfl)
theorem eqt28 : EqT Try.prog 2 28 true [.int .u64, .int .u64, .int .u64, .int .u64] := by
  refine EqT.struct ty28.1 (by kernel_rfl) (by kernel_rfl) ?_
  refine EqFs.cons' (eqt22) (by decide) rfl rfl ?_
  refine EqFs.cons' (eqt22) (by decide) rfl rfl ?_
  refine EqFs.cons' (eqt22) (by decide) rfl rfl ?_
  refine EqFs.cons' (eqt22) (by decide) rfl rfl ?_
  exact .nil
theorem eqS28 : EqTy Try.prog 28 [.int .u64, .int .u64, .int .u64, .int .u64] := EqTy.mk eqt28 (by kernel_rfl) (Nat.le_of_ble_eq_true rfl)
theorem eqt3 : EqT Try.prog 1 3 false [.int .i64] := EqT.int ty3.1 (by kernel_rfl)
theorem eqt42 : EqT Try.prog 3 42 true [.int .u64, .int .u64, .int .i64, .int .u64, .int .u64, .int .u64, .int .u64] := by
  refine EqT.struct ty42.1 (by kernel_rfl) (by kernel_rfl) ?_
  refine EqFs.cons' (eqt22.more (by decide)) (by decide) rfl rfl ?_
  refine EqFs.cons' (eqt22.more (by decide)) (by decide) rfl rfl ?_
  refine EqFs.cons' (eqt3.more (by decide)) (by decide) rfl rfl ?_
  refine EqFs.cons' (eqt28) (by decide) rfl rfl ?_
  exact .nil
theorem eqS42 : EqTy Try.prog 42 [.int .u64, .int .u64, .int .i64, .int .u64, .int .u64, .int .u64, .int .u64] := EqTy.mk eqt42 (by kernel_rfl) (Nat.le_of_ble_eq_true rfl)
theorem eqt9 : EqT Try.prog 1 9 false [.str] := EqT.str ty9.1 (by kernel_rfl)
theorem eqt4 : EqT Try.prog 1 4 false [.bool] := EqT.bool ty4.1 (by kernel_rfl)
theorem eqt50 : EqT Try.prog 2 50 true [.str, .str, .bool, .int .i64, .int .i64, .int .i64, .str] := by
  refine EqT.struct ty50.1 (by kernel_rfl) (by kernel_rfl) ?_
  refine EqFs.cons' (eqt9) (by decide) rfl rfl ?_
  refine EqFs.cons' (eqt9) (by decide) rfl rfl ?_
  refine EqFs.cons' (eqt4) (by decide) rfl rfl ?_
  refine EqFs.cons' (eqt3) (by decide) rfl rfl ?_
  refine EqFs.cons' (eqt3) (by decide) rfl rfl ?_
  refine EqFs.cons' (eqt3) (by decide) rfl rfl ?_
  refine EqFs.cons' (eqt9) (by decide) rfl rfl ?_
  exact .nil
theorem eqS50 : EqTy Try.prog 50 [.str, .str, .bool, .int .i64, .int .i64, .int .i64, .str] := EqTy.mk eqt50 (by kernel_rfl) (Nat.le_of_ble_eq_true rfl)
theorem eqt84 : EqT Try.prog 2 84 true [.bool, .int .i64, .int .i64, .int .i64] := by
  refine EqT.struct ty84.1 (by kernel_rfl) (by kernel_rfl) ?_
  refine EqFs.cons' (eqt4) (by decide) rfl rfl ?_
  refine EqFs.cons' (eqt3) (by decide) rfl rfl ?_
  refine EqFs.cons' (eqt3) (by decide) rfl rfl ?_
  refine EqFs.cons' (eqt3) (by decide) rfl rfl ?_
  exact .nil
theorem eqS84 : EqTy Try.prog 84 [.bool, .int .i64, .int .i64, .int .i64] := EqTy.mk eqt84 (by kernel_rfl) (Nat.le_of_ble_eq_true rfl)
theorem eqt110 : EqT Try.prog 2 110 true [.int .i64, .int .i64, .str, .int .i64, .int .i64, .int .i64] := by
  refine EqT.struct ty110.1 (by kernel_rfl) (by kernel_rfl) ?_
  refine EqFs.cons' (eqt3) (by decide) rfl rfl ?_
  refine EqFs.cons' (eqt3) (by decide) rfl rfl ?_
  refine EqFs.cons' (eqt9) (by decide) rfl rfl ?_
  refine EqFs.cons' (eqt3) (by decide) rfl rfl ?_
  refine EqFs.cons' (eqt3) (by decide) rfl rfl ?_
  refine EqFs.cons' (eqt3) (by decide) rfl rfl ?_
  exact .nil
theorem eqS110 : EqTy Try.prog 110 [.int .i64, .int .i64, .str, .int .i64, .int .i64, .int .i64] := EqTy.mk eqt110 (by kernel_rfl) (Nat.le_of_ble_eq_true rfl)
theorem eqt114 : EqT Try.prog 2 114 true [.int .i64, .str, .int .i64, .int .i64, .bool] := by
  refine EqT.struct ty114.1 (by kernel_rfl) (by kernel_rfl) ?_
  refine EqFs.cons' (eqt3) (by decide) rfl rfl ?_
  refine EqFs.cons' (eqt9) (by decide) rfl rfl ?_
  refine EqFs.cons' (eqt3) (by decide) rfl rfl ?_
  refine EqFs.cons' (eqt3) (by decide) rfl rfl ?_
  refine EqFs.cons' (eqt4) (by decide) rfl rfl ?_
  exact .nil
theorem eqS114 : EqTy Try.prog 114 [.int .i64, .str, .int .i64, .int .i64, .bool] := EqTy.mk eqt114 (by kernel_rfl) (Nat.le_of_ble_eq_true rfl)
theorem eqt115 : EqT Try.prog 2 115 true [.int .i64, .str, .int .i64, .int .i64, .bool] := by
  refine EqT.struct ty115.1 (by kernel_rfl) (by kernel_rfl) ?_
  refine EqFs.cons' (eqt3) (by decide) rfl rfl ?_
  refine EqFs.cons' (eqt9) (by decide) rfl rfl ?_
  refine EqFs.cons' (eqt3) (by decide) rfl rfl ?_
  refine EqFs.cons' (eqt3) (by decide) rfl rfl ?_
  refine EqFs.cons' (eqt4) (by decide) rfl rfl ?_
  exact .nil
theorem eqS115 : EqTy Try.prog 115 [.int .i64, .str, .int .i64, .int .i64, .bool] := EqTy.mk eqt115 (by kernel_rfl) (Nat.le_of_ble_eq_true rfl)
theorem eqt122 : EqT Try.prog 3 122 true [.int .u64, .int .u64, .int .i64, .int .u64, .int .u64, .int .u64, .int .u64] := by
  refine EqT.struct ty122.1 (by kernel_rfl) (by kernel_rfl) ?_
  refine EqFs.cons' (eqt22.more (by decide)) (by decide) rfl rfl ?_
  refine EqFs.cons' (eqt22.more (by decide)) (by decide) rfl rfl ?_
  refine EqFs.cons' (eqt3.more (by decide)) (by decide) rfl rfl ?_
  refine EqFs.cons' (eqt28) (by decide) rfl rfl ?_
  exact .nil
theorem eqS122 : EqTy Try.prog 122 [.int .u64, .int .u64, .int .i64, .int .u64, .int .u64, .int .u64, .int .u64] := EqTy.mk eqt122 (by kernel_rfl) (Nat.le_of_ble_eq_true rfl)
theorem eqt161 : EqT Try.prog 2 161 true [.int .i64, .int .i64] := by
  refine EqT.struct ty161.1 (by kernel_rfl) (by kernel_rfl) ?_
  refine EqFs.cons' (eqt3) (by decide) rfl rfl ?_
  refine EqFs.cons' (eqt3) (by decide) rfl rfl ?_
  exact .nil
theorem eqS161 : EqTy Try.prog 161 [.int .i64, .int .i64] := EqTy.mk eqt161 (by kernel_rfl) (Nat.le_of_ble_eq_true rfl)
theorem eqt183 : EqT Try.prog 2 183 true [.int .i64, .str] := by
  refine EqT.struct ty183.1 (by kernel_rfl) (by kernel_rfl) ?_
  refine EqFs.cons' (eqt3) (by decide) rfl rfl ?_
  refine EqFs.cons' (eqt9) (by decide) rfl rfl ?_
  exact .nil
theorem eqS183 : EqTy Try.prog 183 [.int .i64, .str] := EqTy.mk eqt183 (by kernel_rfl) (Nat.le_of_ble_eq_true rfl)
def tyL : List (Nat × TD) := [(3, td3), (4, td4), (9, td9), (5, td5), (1, td1), (2, td2), (6, td6), (7, td7), (8, td8), (10, td10), (11, td11), (12, td12), (13, td13), (14, td14), (15, td15), (16, td16), (17, td17), (18, td18), (19, td19), (21, td21), (22, td22), (23, td23), (24, td24), (25, td25), (26, td26), (27, td27), (28, td28), (29, td29), (30, td30), (31, td31), (32, td32), (33, td33), (35, td35), (36, td36), (37, td37), (39, td39), (40, td40), (41, td41), (42, td42), (43, td43), (44, td44), (45, td45), (46, td46), (47, td47), (48, td48), (49, td49), (50, td50), (51, td51), (52, td52), (54, td54), (56, td56), (58, td58), (60, td60), (62, td62), (64, td64), (66, td66), (68, td68), (69, td69), (70, td70), (71, td71), (72, td72), (73, td73), (74, td74), (75, td75), (76, td76), (77, td77), (78, td78), (79, td79), (80, td80), (82, td82), (83, td83), (84, td84), (86, td86), (87, td87), (88, td88), (89, td89), (90, td90), (91, td91), (92, td92), (93, td93), (95, td95), (96, td96), (97, td97), (98, td98), (99, td99), (100, td100), (101, td101), (103, td103), (104, td104), (105, td105), (106, td106), (108, td108), (109, td109), (110, td110), (111, td111), (112, td112), (113, td113), (114, td114), (115, td115), (117, td117), (118, td118), (119, td119), (120, td120), (121, td121), (122, td122), (123, td123), (124, td124), (125, td125), (127, td127), (128, td128), (129, td129), (130, td130), (131, td131), (132, td132), (133, td133), (134, td134), (135, td135), (136, td136), (137, td137), (138, td138), (139, td139), (140, td140), (141, td141), (142, td142), (143, td143), (144, td144), (145, td145), (146, td146), (147, td147), (148, td148), (149, td149), (150, td150), (151, td151), (152, td152), (153, td153), (154, td154), (155, td155), (156, td156), (157, td157), (158, td158), (159, td159), (160, td160), (161, td161), (162, td162), (163, td163), (164, td164), (165, td165), (166, td166), (167, td167), (168, td168), (169, td169), (170, td170), (171, td171), (172, td172), (174, td174), (175, td175), (176, td176), (177, td177), (178, td178), (179, td179), (180, td180), (181, td181), (182, td182), (183, td183), (184, td184), (186, td186), (187, td187), (188, td188), (189, td189), (190, td190), (191, td191), (192, td192), (193, td193), (194, td194), (195, td195), (197, td197), (198, td198), (199, td199), (200, td200), (201, td201), (202, td202), (203, td203), (204, td204), (205, td205), (206, td206), (207, td207), (208, td208), (209, td209), (210, td210), (211, td211), (212, td212), (213, td213), (215, td215), (216, td216), (217, td217), (218, td218), (219, td219), (220, td220), (221, td221), (222, td222), (223, td223), (224, td224), (225, td225), (226, td226), (227, td227), (228, td228), (229, td229), (230, td230), (231, td231), (232, td232), (233, td233), (234, td234), (235, td235), (236, td236), (237, td237), (238, td238), (239, td239), (240, td240), (241, td241), (242, td242), (243, td243), (244, td244), (245, td245), (247, td247), (248, td248), (249, td249), (250, td250), (251, td251), (252, td252), (253, td253), (254, td254), (255, td255), (256, td256), (257, td257), (258, td258), (259, td259), (260, td260), (261, td261), (262, td262), (263, td263), (264, td264), (265, td265), (266, td266), (267, td267), (268, td268), (269, td269)]
abbrev tyT : Nat → Option TD := lookTy tyL
theorem tyOk : TyOk Try.prog tyT := lookTy_ok (all_cons ty3 (all_cons ty4 (all_cons ty9 (all_cons ty5 (all_cons ty1 (all_cons ty2 (all_cons ty6 (all_cons ty7 (all_cons ty8 (all_cons ty10 (all_cons ty11 (all_cons ty12 (all_cons ty13 (all_cons ty14 (all_cons ty15 (all_cons ty16 (all_cons ty17 (all_cons ty18 (all_cons ty19 (all_cons ty21 (all_cons ty22 (all_cons ty23 (all_cons ty24 (all_cons ty25 (all_cons ty26 (all_cons ty27 (all_cons ty28 (all_cons ty29 (all_cons ty30 (all_cons ty31 (all_cons ty32 (all_cons ty33 (all_cons ty35 (all_cons ty36 (all_cons ty37 (all_cons ty39 (all_cons ty40 (all_cons ty41 (all_cons ty42 (all_cons ty43 (all_cons ty44 (all_cons ty45 (all_cons ty46 (all_cons ty47 (all_cons ty48 (all_cons ty49 (all_cons ty50 (all_cons ty51 (all_cons ty52 (all_cons ty54 (all_cons ty56 (all_cons ty58 (all_cons ty60 (all_cons ty62 (all_cons ty64 (all_cons ty66 (all_cons ty68 (all_cons ty69 (all_cons ty70 (all_cons ty71 (all_cons ty72 (all_cons ty73 (all_cons ty74 (all_cons ty75 (all_cons ty76 (all_cons ty77 (all_cons ty78 (all_cons ty79 (all_cons ty80 (all_cons ty82 (all_cons ty83 (all_cons ty84 (all_cons ty86 (all_cons ty87 (all_cons ty88 (all_cons ty89 (all_cons ty90 (all_cons ty91 (all_cons ty92 (all_cons ty93 (all_cons ty95 (all_cons ty96 (all_cons ty97 (all_cons ty98 (all_cons ty99 (all_cons ty100 (all_cons ty101 (all_cons ty103 (all_cons ty104 (all_cons ty105 (all_cons ty106 (all_cons ty108 (all_cons ty109 (all_cons ty110 (all_cons ty111 (all_cons ty112 (all_cons ty113 (all_cons ty114 (all_cons ty115 (all_cons ty117 (all_cons ty118 (all_cons ty119 (all_cons ty120 (all_cons ty121 (all_cons ty122 (all_cons ty123 (all_cons ty124 (all_cons ty125 (all_cons ty127 (all_cons ty128 (all_cons ty129 (all_cons ty130 (all_cons ty131 (all_cons ty132 (all_cons ty133 (all_cons ty134 (all_cons ty135 (all_cons ty136 (all_cons ty137 (all_cons ty138 (all_cons ty139 (all_cons ty140 (all_cons ty141 (all_cons ty142 (all_cons ty143 (all_cons ty144 (all_cons ty145 (all_cons ty146 (all_cons ty147 (all_cons ty148 (all_cons ty149 (all_cons ty150 (all_cons ty151 (all_cons ty152 (all_cons ty153 (all_cons ty154 (all_cons ty155 (all_cons ty156 (all_cons ty157 (all_cons ty158 (all_cons ty159 (all_cons ty160 (all_cons ty161 (all_cons ty162 (all_cons ty163 (all_cons ty164 (all_cons ty165 (all_cons ty166 (all_cons ty167 (all_cons ty168 (all_cons ty169 (all_cons ty170 (all_cons ty171 (all_cons ty172 (all_cons ty174 (all_cons ty175 (all_cons ty176 (all_cons ty177 (all_cons ty178 (all_cons ty179 (all_cons ty180 (all_cons ty181 (all_cons ty182 (all_cons ty183 (all_cons ty184 (all_cons ty186 (all_cons ty187 (all_cons ty188 (all_cons ty189 (all_cons ty190 (all_cons ty191 (all_cons ty192 (all_cons ty193 (all_cons ty194 (all_cons ty195 (all_cons ty197 (all_cons ty198 (all_cons ty199 (all_cons ty200 (all_cons ty201 (all_cons ty202 (all_cons ty203 (all_cons ty204 (all_cons ty205 (all_cons ty206 (all_cons ty207 (all_cons ty208 (all_cons ty209 (all_cons ty210 (all_cons ty211 (all_cons ty212 (all_cons ty213 (all_cons ty215 (all_cons ty216 (all_cons ty217 (all_cons ty218 (all_cons ty219 (all_cons ty220 (all_cons ty221 (all_cons ty222 (all_cons ty223 (all_cons ty224 (all_cons ty225 (all_cons ty226 (all_cons ty227 (all_cons ty228 (all_cons ty229 (all_cons ty230 (all_cons ty231 (all_cons ty232 (all_cons ty233 (all_cons ty234 (all_cons ty235 (all_cons ty236 (all_cons ty237 (all_cons ty238 (all_cons ty239 (all_cons ty240 (all_cons ty241 (all_cons ty242 (all_cons ty243 (all_cons ty244 (all_cons ty245 (all_cons ty247 (all_cons ty248 (all_cons ty249 (all_cons ty250 (all_cons ty251 (all_cons ty252 (all_cons ty253 (all_cons ty254 (all_cons ty255 (all_cons ty256 (all_cons ty257 (all_cons ty258 (all_cons ty259 (all_cons ty260 (all_cons ty261 (all_cons ty262 (all_cons ty263 (all_cons ty264 (all_cons ty265 (all_cons ty266 (all_cons ty267 (all_cons ty268 (all_cons ty269 (all_nil)))))))))))))))))))))))))))))))))))))))))))))))))))))))))))))))))))))))))))))))))))))))))))))))))))))))))))))))))))))))))))))))))))))))))))))))))))))))))))))))))))))))))))))))))))))))))))))))))))))))))))))))))))))))))))))))))))))))))))))))))))))))
theorem wide : Try.prog.follows .mixedOrders = true := by kernel_rfl
end Go.Proofs.Ytgjdmlgdgbehoaa.Am
