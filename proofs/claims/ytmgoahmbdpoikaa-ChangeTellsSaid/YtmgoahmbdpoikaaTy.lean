/- What each type of the program is, as far as the walk asks. -/
import Derived.Test.YtmgoahmbdpoikaaProg
import Derived.Test.YtmgoahmbdpoikaaAm11
import Derived.KernelRfl
set_option linter.unusedVariables false
set_option maxRecDepth 100000
namespace Go.Proofs.Ytmgoahmbdpoikaa.Am
open Go Go.RowKit
def TyAt (P : Program) (t : Nat) (i : TD) : Prop := P.underlying t = some i.d ∧ ∃ inf z, P.info? t = some inf ∧ inf.size = i.size ∧ inf.bytes = i.bytes ∧ inf.zero = some z ∧ z.cells = ⟨i.zero⟩ ∧ i.zero.length = i.size ∧
    ∀ fs, i.d = .struct fs → ∀ w, ((fs.mapM fun f => do pure (f.offset, ← sizeOf f.type)) : Sem (Array (Nat × Nat))).run P w = .ok (⟨i.parts⟩ : Array (Nat × Nat)) w
theorem mkTy {P : Program} {t : Nat} {i : TD} (z : Value) (hu : P.underlying t = some i.d) (hi : (P.info? t).map (fun f => (f.size, f.bytes, f.zero)) = some (i.size, i.bytes, some z)) (hz : z.cells = ⟨i.zero⟩) (hl : i.zero.length = i.size)
    (hp : ∀ fs, i.d = .struct fs → ∀ w, ((fs.mapM fun f => do pure (f.offset, ← sizeOf f.type)) : Sem (Array (Nat × Nat))).run P w = .ok (⟨i.parts⟩ : Array (Nat × Nat)) w) : TyAt P t i := by
  obtain ⟨inf, h1, h2⟩ := Option.map_eq_some_iff.1 hi
  simp only [Prod.mk.injEq] at h2
  exact ⟨hu, inf, z, h1, h2.1, h2.2.1, h2.2.2, hz, hl, hp⟩
def lookTy : List (Nat × TD) → Nat → Option TD
  | [], _ => none
  | (k, v) :: r, t => match Nat.beq k t with
    | true => some v
    | false => lookTy r t
theorem lookTy_ok {P : Program} : ∀ {l : List (Nat × TD)}, (∀ p ∈ l, TyAt P p.1 p.2) → TyOk P (lookTy l)
  | [], _, t, i, h => by simp [lookTy] at h
  | (k, v) :: r, hl, t, i, h => by
    simp only [lookTy] at h
    split at h
    · rename_i e
      have e : k = t := by simpa using e
      subst e
      obtain rfl := Option.some.inj h
      exact hl _ List.mem_cons_self
    · exact lookTy_ok (fun p hp => hl p (List.mem_cons_of_mem _ hp)) t i h
theorem all_nil {P : Program} : ∀ p ∈ ([] : List (Nat × TD)), TyAt P p.1 p.2 := fun p hp => by cases hp
theorem all_cons {P : Program} {k : Nat} {v : TD} {r : List (Nat × TD)} (h : TyAt P k v) (hr : ∀ p ∈ r, TyAt P p.1 p.2) : ∀ p ∈ (k, v) :: r, TyAt P p.1 p.2 := fun p hp => by
  rcases List.mem_cons.1 hp with rfl | hp
  · exact h
  · exact hr p hp
def td1 : TD := { d := (Go.TypeDesc.func #[] #[] false), size := 1, bytes := 8, zero := [.nilFunc], parts := [] }
theorem ty1 : TyAt Try.prog 1 td1 := mkTy (.nilFunc) Try.underlying1 (by kernel_rfl) rfl rfl (fun fs h w => by cases h)
def td2 : TD := { d := (Go.TypeDesc.int Go.IntKind.i64), size := 1, bytes := 8, zero := [.int .i64 0], parts := [] }
theorem ty2 : TyAt Try.prog 2 td2 := mkTy (.int .i64 0) Try.underlying2 (by kernel_rfl) rfl rfl (fun fs h w => by cases h)
def td3 : TD := { d := (Go.TypeDesc.int Go.IntKind.i64), size := 1, bytes := 8, zero := [.int .i64 0], parts := [] }
theorem ty3 : TyAt Try.prog 3 td3 := mkTy (.int .i64 0) Try.underlying3 (by kernel_rfl) rfl rfl (fun fs h w => by cases h)
def td4 : TD := { d := Go.TypeDesc.bool, size := 1, bytes := 1, zero := [.bool false], parts := [] }
theorem ty4 : TyAt Try.prog 4 td4 := mkTy (.bool false) Try.underlying4 (by kernel_rfl) rfl rfl (fun fs h w => by cases h)
def td5 : TD := { d := (Go.TypeDesc.int Go.IntKind.u8), size := 1, bytes := 1, zero := [.int .u8 0], parts := [] }
theorem ty5 : TyAt Try.prog 5 td5 := mkTy (.int .u8 0) Try.underlying5 (by kernel_rfl) rfl rfl (fun fs h w => by cases h)
def td6 : TD := { d := (Go.TypeDesc.int Go.IntKind.u8), size := 1, bytes := 1, zero := [.int .u8 0], parts := [] }
theorem ty6 : TyAt Try.prog 6 td6 := mkTy (.int .u8 0) Try.underlying6 (by kernel_rfl) rfl rfl (fun fs h w => by cases h)
def td7 : TD := { d := (Go.TypeDesc.struct #[{ name := "x", type := 2, offset := 0, embedded := false, tag := "", pkgPath := "runtime", byteOffset := 0 }, { name := "y", type := 3, offset := 1, embedded := false, tag := "", pkgPath := "runtime", byteOffset := 8 }, { name := "signed", type := 4, offset := 2, embedded := false, tag := "", pkgPath := "runtime", byteOffset := 16 }, { name := "code", type := 6, offset := 3, embedded := false, tag := "", pkgPath := "runtime", byteOffset := 17 }]), size := 4, bytes := 24, zero := [.int .i64 0, .int .i64 0, .bool false, .int .u8 0], parts := [(0, 1), (1, 1), (2, 1), (3, 1)] }
theorem ty7 : TyAt Try.prog 7 td7 := mkTy (.agg ⟨[.int .i64 0, .int .i64 0, .bool false, .int .u8 0]⟩) Try.underlying7 (by kernel_rfl) rfl rfl (fun fs h w => by cases h; kernel_rfl)
def td8 : TD := { d := (Go.TypeDesc.struct #[{ name := "x", type := 2, offset := 0, embedded := false, tag := "", pkgPath := "runtime", byteOffset := 0 }, { name := "y", type := 3, offset := 1, embedded := false, tag := "", pkgPath := "runtime", byteOffset := 8 }, { name := "signed", type := 4, offset := 2, embedded := false, tag := "", pkgPath := "runtime", byteOffset := 16 }, { name := "code", type := 6, offset := 3, embedded := false, tag := "", pkgPath := "runtime", byteOffset := 17 }]), size := 4, bytes := 24, zero := [.int .i64 0, .int .i64 0, .bool false, .int .u8 0], parts := [(0, 1), (1, 1), (2, 1), (3, 1)] }
theorem ty8 : TyAt Try.prog 8 td8 := mkTy (.agg ⟨[.int .i64 0, .int .i64 0, .bool false, .int .u8 0]⟩) Try.underlying8 (by kernel_rfl) rfl rfl (fun fs h w => by cases h; kernel_rfl)
def td9 : TD := { d := Go.TypeDesc.string, size := 1, bytes := 16, zero := [.string ⟨#[]⟩], parts := [] }
theorem ty9 : TyAt Try.prog 9 td9 := mkTy (.string ⟨#[]⟩) Try.underlying9 (by kernel_rfl) rfl rfl (fun fs h w => by cases h)
def td10 : TD := { d := Go.TypeDesc.string, size := 1, bytes := 16, zero := [.string ⟨#[]⟩], parts := [] }
theorem ty10 : TyAt Try.prog 10 td10 := mkTy (.string ⟨#[]⟩) Try.underlying10 (by kernel_rfl) rfl rfl (fun fs h w => by cases h)
def td11 : TD := { d := Go.TypeDesc.string, size := 1, bytes := 16, zero := [.string ⟨#[]⟩], parts := [] }
theorem ty11 : TyAt Try.prog 11 td11 := mkTy (.string ⟨#[]⟩) Try.underlying11 (by kernel_rfl) rfl rfl (fun fs h w => by cases h)
def td12 : TD := { d := (Go.TypeDesc.int Go.IntKind.u64), size := 1, bytes := 8, zero := [.int .u64 0], parts := [] }
theorem ty12 : TyAt Try.prog 12 td12 := mkTy (.int .u64 0) Try.underlying12 (by kernel_rfl) rfl rfl (fun fs h w => by cases h)
def td13 : TD := { d := (Go.TypeDesc.struct #[{ name := "msg", type := 9, offset := 0, embedded := false, tag := "", pkgPath := "runtime", byteOffset := 0 }, { name := "addr", type := 12, offset := 1, embedded := false, tag := "", pkgPath := "runtime", byteOffset := 16 }]), size := 2, bytes := 24, zero := [.string ⟨#[]⟩, .int .u64 0], parts := [(0, 1), (1, 1)] }
theorem ty13 : TyAt Try.prog 13 td13 := mkTy (.agg ⟨[.string ⟨#[]⟩, .int .u64 0]⟩) Try.underlying13 (by kernel_rfl) rfl rfl (fun fs h w => by cases h; kernel_rfl)
def td14 : TD := { d := (Go.TypeDesc.struct #[{ name := "msg", type := 9, offset := 0, embedded := false, tag := "", pkgPath := "runtime", byteOffset := 0 }, { name := "addr", type := 12, offset := 1, embedded := false, tag := "", pkgPath := "runtime", byteOffset := 16 }]), size := 2, bytes := 24, zero := [.string ⟨#[]⟩, .int .u64 0], parts := [(0, 1), (1, 1)] }
theorem ty14 : TyAt Try.prog 14 td14 := mkTy (.agg ⟨[.string ⟨#[]⟩, .int .u64 0]⟩) Try.underlying14 (by kernel_rfl) rfl rfl (fun fs h w => by cases h; kernel_rfl)
def td15 : TD := { d := (Go.TypeDesc.pointer 150), size := 1, bytes := 8, zero := [.pointer none], parts := [] }
theorem ty15 : TyAt Try.prog 15 td15 := mkTy (.pointer none) Try.underlying15 (by kernel_rfl) rfl rfl (fun fs h w => by cases h)
def td16 : TD := { d := (Go.TypeDesc.pointer 153), size := 1, bytes := 8, zero := [.pointer none], parts := [] }
theorem ty16 : TyAt Try.prog 16 td16 := mkTy (.pointer none) Try.underlying16 (by kernel_rfl) rfl rfl (fun fs h w => by cases h)
def td17 : TD := { d := (Go.TypeDesc.pointer 163), size := 1, bytes := 8, zero := [.pointer none], parts := [] }
theorem ty17 : TyAt Try.prog 17 td17 := mkTy (.pointer none) Try.underlying17 (by kernel_rfl) rfl rfl (fun fs h w => by cases h)
def td18 : TD := { d := (Go.TypeDesc.struct #[{ name := "typ", type := 17, offset := 0, embedded := false, tag := "", pkgPath := "internal/runtime/maps", byteOffset := 0 }]), size := 1, bytes := 8, zero := [.pointer none], parts := [(0, 1)] }
theorem ty18 : TyAt Try.prog 18 td18 := mkTy (.agg ⟨[.pointer none]⟩) Try.underlying18 (by kernel_rfl) rfl rfl (fun fs h w => by cases h; kernel_rfl)
def td19 : TD := { d := (Go.TypeDesc.struct #[{ name := "typ", type := 17, offset := 0, embedded := false, tag := "", pkgPath := "internal/runtime/maps", byteOffset := 0 }]), size := 1, bytes := 8, zero := [.pointer none], parts := [(0, 1)] }
theorem ty19 : TyAt Try.prog 19 td19 := mkTy (.agg ⟨[.pointer none]⟩) Try.underlying19 (by kernel_rfl) rfl rfl (fun fs h w => by cases h; kernel_rfl)
def td21 : TD := { d := (Go.TypeDesc.int Go.IntKind.i32), size := 1, bytes := 4, zero := [.int .i32 0], parts := [] }
theorem ty21 : TyAt Try.prog 21 td21 := mkTy (.int .i32 0) Try.underlying21 (by kernel_rfl) rfl rfl (fun fs h w => by cases h)
def td22 : TD := { d := (Go.TypeDesc.int Go.IntKind.u64), size := 1, bytes := 8, zero := [.int .u64 0], parts := [] }
theorem ty22 : TyAt Try.prog 22 td22 := mkTy (.int .u64 0) Try.underlying22 (by kernel_rfl) rfl rfl (fun fs h w => by cases h)
def td23 : TD := { d := (Go.TypeDesc.struct #[{ name := "Root", type := 22, offset := 0, embedded := false, tag := "", pkgPath := "", byteOffset := 0 }, { name := "Cost", type := 22, offset := 1, embedded := false, tag := "", pkgPath := "", byteOffset := 8 }, { name := "Bridge", type := 22, offset := 2, embedded := false, tag := "", pkgPath := "", byteOffset := 16 }, { name := "Port", type := 22, offset := 3, embedded := false, tag := "", pkgPath := "", byteOffset := 24 }]), size := 4, bytes := 32, zero := [.int .u64 0, .int .u64 0, .int .u64 0, .int .u64 0], parts := [(0, 1), (1, 1), (2, 1), (3, 1)] }
theorem ty23 : TyAt Try.prog 23 td23 := mkTy (.agg ⟨[.int .u64 0, .int .u64 0, .int .u64 0, .int .u64 0]⟩) Try.underlying23 (by kernel_rfl) rfl rfl (fun fs h w => by cases h; kernel_rfl)
def td24 : TD := { d := (Go.TypeDesc.struct #[{ name := "Root", type := 22, offset := 0, embedded := false, tag := "", pkgPath := "", byteOffset := 0 }, { name := "Cost", type := 22, offset := 1, embedded := false, tag := "", pkgPath := "", byteOffset := 8 }, { name := "Bridge", type := 22, offset := 2, embedded := false, tag := "", pkgPath := "", byteOffset := 16 }, { name := "Port", type := 22, offset := 3, embedded := false, tag := "", pkgPath := "", byteOffset := 24 }]), size := 4, bytes := 32, zero := [.int .u64 0, .int .u64 0, .int .u64 0, .int .u64 0], parts := [(0, 1), (1, 1), (2, 1), (3, 1)] }
theorem ty24 : TyAt Try.prog 24 td24 := mkTy (.agg ⟨[.int .u64 0, .int .u64 0, .int .u64 0, .int .u64 0]⟩) Try.underlying24 (by kernel_rfl) rfl rfl (fun fs h w => by cases h; kernel_rfl)
def td25 : TD := { d := (Go.TypeDesc.struct #[{ name := "Age", type := 3, offset := 0, embedded := false, tag := "", pkgPath := "", byteOffset := 0 }, { name := "Max", type := 3, offset := 1, embedded := false, tag := "", pkgPath := "", byteOffset := 8 }, { name := "Hello", type := 3, offset := 2, embedded := false, tag := "", pkgPath := "", byteOffset := 16 }, { name := "Delay", type := 3, offset := 3, embedded := false, tag := "", pkgPath := "", byteOffset := 24 }]), size := 4, bytes := 32, zero := [.int .i64 0, .int .i64 0, .int .i64 0, .int .i64 0], parts := [(0, 1), (1, 1), (2, 1), (3, 1)] }
theorem ty25 : TyAt Try.prog 25 td25 := mkTy (.agg ⟨[.int .i64 0, .int .i64 0, .int .i64 0, .int .i64 0]⟩) Try.underlying25 (by kernel_rfl) rfl rfl (fun fs h w => by cases h; kernel_rfl)
def td26 : TD := { d := (Go.TypeDesc.struct #[{ name := "Age", type := 3, offset := 0, embedded := false, tag := "", pkgPath := "", byteOffset := 0 }, { name := "Max", type := 3, offset := 1, embedded := false, tag := "", pkgPath := "", byteOffset := 8 }, { name := "Hello", type := 3, offset := 2, embedded := false, tag := "", pkgPath := "", byteOffset := 16 }, { name := "Delay", type := 3, offset := 3, embedded := false, tag := "", pkgPath := "", byteOffset := 24 }]), size := 4, bytes := 32, zero := [.int .i64 0, .int .i64 0, .int .i64 0, .int .i64 0], parts := [(0, 1), (1, 1), (2, 1), (3, 1)] }
theorem ty26 : TyAt Try.prog 26 td26 := mkTy (.agg ⟨[.int .i64 0, .int .i64 0, .int .i64 0, .int .i64 0]⟩) Try.underlying26 (by kernel_rfl) rfl rfl (fun fs h w => by cases h; kernel_rfl)
def td27 : TD := { d := (Go.TypeDesc.struct #[{ name := "Id", type := 22, offset := 0, embedded := false, tag := "", pkgPath := "", byteOffset := 0 }, { name := "Cost", type := 22, offset := 1, embedded := false, tag := "", pkgPath := "", byteOffset := 8 }, { name := "On", type := 4, offset := 2, embedded := false, tag := "", pkgPath := "", byteOffset := 16 }, { name := "Admin", type := 4, offset := 3, embedded := false, tag := "", pkgPath := "", byteOffset := 17 }, { name := "Oper", type := 4, offset := 4, embedded := false, tag := "", pkgPath := "", byteOffset := 18 }, { name := "Source", type := 3, offset := 5, embedded := false, tag := "", pkgPath := "", byteOffset := 24 }, { name := "Vector", type := 24, offset := 6, embedded := false, tag := "", pkgPath := "", byteOffset := 32 }, { name := "Times", type := 26, offset := 10, embedded := false, tag := "", pkgPath := "", byteOffset := 64 }, { name := "Offer", type := 24, offset := 14, embedded := false, tag := "", pkgPath := "", byteOffset := 96 }, { name := "Given", type := 26, offset := 18, embedded := false, tag := "", pkgPath := "", byteOffset := 128 }, { name := "Role", type := 3, offset := 22, embedded := false, tag := "", pkgPath := "", byteOffset := 160 }, { name := "Selected", type := 3, offset := 23, embedded := false, tag := "", pkgPath := "", byteOffset := 168 }, { name := "Ready", type := 4, offset := 24, embedded := false, tag := "", pkgPath := "", byteOffset := 176 }, { name := "Update", type := 4, offset := 25, embedded := false, tag := "", pkgPath := "", byteOffset := 177 }, { name := "Reselect", type := 4, offset := 26, embedded := false, tag := "", pkgPath := "", byteOffset := 178 }, { name := "Learn", type := 4, offset := 27, embedded := false, tag := "", pkgPath := "", byteOffset := 179 }, { name := "Learning", type := 4, offset := 28, embedded := false, tag := "", pkgPath := "", byteOffset := 180 }, { name := "Forward", type := 4, offset := 29, embedded := false, tag := "", pkgPath := "", byteOffset := 181 }, { name := "Forwarding", type := 4, offset := 30, embedded := false, tag := "", pkgPath := "", byteOffset := 182 }, { name := "Agree", type := 4, offset := 31, embedded := false, tag := "", pkgPath := "", byteOffset := 183 }, { name := "Agreed", type := 4, offset := 32, embedded := false, tag := "", pkgPath := "", byteOffset := 184 }, { name := "Proposed", type := 4, offset := 33, embedded := false, tag := "", pkgPath := "", byteOffset := 185 }, { name := "Proposing", type := 4, offset := 34, embedded := false, tag := "", pkgPath := "", byteOffset := 186 }, { name := "Sync", type := 4, offset := 35, embedded := false, tag := "", pkgPath := "", byteOffset := 187 }, { name := "Synced", type := 4, offset := 36, embedded := false, tag := "", pkgPath := "", byteOffset := 188 }, { name := "Reroot", type := 4, offset := 37, embedded := false, tag := "", pkgPath := "", byteOffset := 189 }, { name := "Disputed", type := 4, offset := 38, embedded := false, tag := "", pkgPath := "", byteOffset := 190 }, { name := "NewInfo", type := 4, offset := 39, embedded := false, tag := "", pkgPath := "", byteOffset := 191 }, { name := "HeardTc", type := 4, offset := 40, embedded := false, tag := "", pkgPath := "", byteOffset := 192 }, { name := "HeardTcn", type := 4, offset := 41, embedded := false, tag := "", pkgPath := "", byteOffset := 193 }, { name := "HeardAck", type := 4, offset := 42, embedded := false, tag := "", pkgPath := "", byteOffset := 194 }, { name := "TcAck", type := 4, offset := 43, embedded := false, tag := "", pkgPath := "", byteOffset := 195 }, { name := "TcProp", type := 4, offset := 44, embedded := false, tag := "", pkgPath := "", byteOffset := 196 }, { name := "Flush", type := 4, offset := 45, embedded := false, tag := "", pkgPath := "", byteOffset := 197 }, { name := "SendRstp", type := 4, offset := 46, embedded := false, tag := "", pkgPath := "", byteOffset := 198 }, { name := "HeardRstp", type := 4, offset := 47, embedded := false, tag := "", pkgPath := "", byteOffset := 199 }, { name := "HeardStp", type := 4, offset := 48, embedded := false, tag := "", pkgPath := "", byteOffset := 200 }, { name := "Check", type := 4, offset := 49, embedded := false, tag := "", pkgPath := "", byteOffset := 201 }, { name := "Fd", type := 3, offset := 50, embedded := false, tag := "", pkgPath := "", byteOffset := 208 }, { name := "Rr", type := 3, offset := 51, embedded := false, tag := "", pkgPath := "", byteOffset := 216 }, { name := "Rb", type := 3, offset := 52, embedded := false, tag := "", pkgPath := "", byteOffset := 224 }, { name := "Tc", type := 3, offset := 53, embedded := false, tag := "", pkgPath := "", byteOffset := 232 }, { name := "Edge", type := 3, offset := 54, embedded := false, tag := "", pkgPath := "", byteOffset := 240 }, { name := "Md", type := 3, offset := 55, embedded := false, tag := "", pkgPath := "", byteOffset := 248 }, { name := "Info", type := 3, offset := 56, embedded := false, tag := "", pkgPath := "", byteOffset := 256 }, { name := "Hello", type := 3, offset := 57, embedded := false, tag := "", pkgPath := "", byteOffset := 264 }, { name := "TxCount", type := 3, offset := 58, embedded := false, tag := "", pkgPath := "", byteOffset := 272 }, { name := "Change", type := 3, offset := 59, embedded := false, tag := "", pkgPath := "", byteOffset := 280 }, { name := "Migrate", type := 3, offset := 60, embedded := false, tag := "", pkgPath := "", byteOffset := 288 }]), size := 61, bytes := 296, zero := [.int .u64 0, .int .u64 0, .bool false, .bool false, .bool false, .int .i64 0, .int .u64 0, .int .u64 0, .int .u64 0, .int .u64 0, .int .i64 0, .int .i64 0, .int .i64 0, .int .i64 0, .int .u64 0, .int .u64 0, .int .u64 0, .int .u64 0, .int .i64 0, .int .i64 0, .int .i64 0, .int .i64 0, .int .i64 0, .int .i64 0, .bool false, .bool false, .bool false, .bool false, .bool false, .bool false, .bool false, .bool false, .bool false, .bool false, .bool false, .bool false, .bool false, .bool false, .bool false, .bool false, .bool false, .bool false, .bool false, .bool false, .bool false, .bool false, .bool false, .bool false, .bool false, .bool false, .int .i64 0, .int .i64 0, .int .i64 0, .int .i64 0, .int .i64 0, .int .i64 0, .int .i64 0, .int .i64 0, .int .i64 0, .int .i64 0, .int .i64 0], parts := [(0, 1), (1, 1), (2, 1), (3, 1), (4, 1), (5, 1), (6, 4), (10, 4), (14, 4), (18, 4), (22, 1), (23, 1), (24, 1), (25, 1), (26, 1), (27, 1), (28, 1), (29, 1), (30, 1), (31, 1), (32, 1), (33, 1), (34, 1), (35, 1), (36, 1), (37, 1), (38, 1), (39, 1), (40, 1), (41, 1), (42, 1), (43, 1), (44, 1), (45, 1), (46, 1), (47, 1), (48, 1), (49, 1), (50, 1), (51, 1), (52, 1), (53, 1), (54, 1), (55, 1), (56, 1), (57, 1), (58, 1), (59, 1), (60, 1)] }
theorem ty27 : TyAt Try.prog 27 td27 := mkTy (.agg ⟨[.int .u64 0, .int .u64 0, .bool false, .bool false, .bool false, .int .i64 0, .int .u64 0, .int .u64 0, .int .u64 0, .int .u64 0, .int .i64 0, .int .i64 0, .int .i64 0, .int .i64 0, .int .u64 0, .int .u64 0, .int .u64 0, .int .u64 0, .int .i64 0, .int .i64 0, .int .i64 0, .int .i64 0, .int .i64 0, .int .i64 0, .bool false, .bool false, .bool false, .bool false, .bool false, .bool false, .bool false, .bool false, .bool false, .bool false, .bool false, .bool false, .bool false, .bool false, .bool false, .bool false, .bool false, .bool false, .bool false, .bool false, .bool false, .bool false, .bool false, .bool false, .bool false, .bool false, .int .i64 0, .int .i64 0, .int .i64 0, .int .i64 0, .int .i64 0, .int .i64 0, .int .i64 0, .int .i64 0, .int .i64 0, .int .i64 0, .int .i64 0]⟩) Try.underlying27 (by kernel_rfl) rfl rfl (fun fs h w => by cases h; kernel_rfl)
def td28 : TD := { d := (Go.TypeDesc.struct #[{ name := "Id", type := 22, offset := 0, embedded := false, tag := "", pkgPath := "", byteOffset := 0 }, { name := "Cost", type := 22, offset := 1, embedded := false, tag := "", pkgPath := "", byteOffset := 8 }, { name := "On", type := 4, offset := 2, embedded := false, tag := "", pkgPath := "", byteOffset := 16 }, { name := "Admin", type := 4, offset := 3, embedded := false, tag := "", pkgPath := "", byteOffset := 17 }, { name := "Oper", type := 4, offset := 4, embedded := false, tag := "", pkgPath := "", byteOffset := 18 }, { name := "Source", type := 3, offset := 5, embedded := false, tag := "", pkgPath := "", byteOffset := 24 }, { name := "Vector", type := 24, offset := 6, embedded := false, tag := "", pkgPath := "", byteOffset := 32 }, { name := "Times", type := 26, offset := 10, embedded := false, tag := "", pkgPath := "", byteOffset := 64 }, { name := "Offer", type := 24, offset := 14, embedded := false, tag := "", pkgPath := "", byteOffset := 96 }, { name := "Given", type := 26, offset := 18, embedded := false, tag := "", pkgPath := "", byteOffset := 128 }, { name := "Role", type := 3, offset := 22, embedded := false, tag := "", pkgPath := "", byteOffset := 160 }, { name := "Selected", type := 3, offset := 23, embedded := false, tag := "", pkgPath := "", byteOffset := 168 }, { name := "Ready", type := 4, offset := 24, embedded := false, tag := "", pkgPath := "", byteOffset := 176 }, { name := "Update", type := 4, offset := 25, embedded := false, tag := "", pkgPath := "", byteOffset := 177 }, { name := "Reselect", type := 4, offset := 26, embedded := false, tag := "", pkgPath := "", byteOffset := 178 }, { name := "Learn", type := 4, offset := 27, embedded := false, tag := "", pkgPath := "", byteOffset := 179 }, { name := "Learning", type := 4, offset := 28, embedded := false, tag := "", pkgPath := "", byteOffset := 180 }, { name := "Forward", type := 4, offset := 29, embedded := false, tag := "", pkgPath := "", byteOffset := 181 }, { name := "Forwarding", type := 4, offset := 30, embedded := false, tag := "", pkgPath := "", byteOffset := 182 }, { name := "Agree", type := 4, offset := 31, embedded := false, tag := "", pkgPath := "", byteOffset := 183 }, { name := "Agreed", type := 4, offset := 32, embedded := false, tag := "", pkgPath := "", byteOffset := 184 }, { name := "Proposed", type := 4, offset := 33, embedded := false, tag := "", pkgPath := "", byteOffset := 185 }, { name := "Proposing", type := 4, offset := 34, embedded := false, tag := "", pkgPath := "", byteOffset := 186 }, { name := "Sync", type := 4, offset := 35, embedded := false, tag := "", pkgPath := "", byteOffset := 187 }, { name := "Synced", type := 4, offset := 36, embedded := false, tag := "", pkgPath := "", byteOffset := 188 }, { name := "Reroot", type := 4, offset := 37, embedded := false, tag := "", pkgPath := "", byteOffset := 189 }, { name := "Disputed", type := 4, offset := 38, embedded := false, tag := "", pkgPath := "", byteOffset := 190 }, { name := "NewInfo", type := 4, offset := 39, embedded := false, tag := "", pkgPath := "", byteOffset := 191 }, { name := "HeardTc", type := 4, offset := 40, embedded := false, tag := "", pkgPath := "", byteOffset := 192 }, { name := "HeardTcn", type := 4, offset := 41, embedded := false, tag := "", pkgPath := "", byteOffset := 193 }, { name := "HeardAck", type := 4, offset := 42, embedded := false, tag := "", pkgPath := "", byteOffset := 194 }, { name := "TcAck", type := 4, offset := 43, embedded := false, tag := "", pkgPath := "", byteOffset := 195 }, { name := "TcProp", type := 4, offset := 44, embedded := false, tag := "", pkgPath := "", byteOffset := 196 }, { name := "Flush", type := 4, offset := 45, embedded := false, tag := "", pkgPath := "", byteOffset := 197 }, { name := "SendRstp", type := 4, offset := 46, embedded := false, tag := "", pkgPath := "", byteOffset := 198 }, { name := "HeardRstp", type := 4, offset := 47, embedded := false, tag := "", pkgPath := "", byteOffset := 199 }, { name := "HeardStp", type := 4, offset := 48, embedded := false, tag := "", pkgPath := "", byteOffset := 200 }, { name := "Check", type := 4, offset := 49, embedded := false, tag := "", pkgPath := "", byteOffset := 201 }, { name := "Fd", type := 3, offset := 50, embedded := false, tag := "", pkgPath := "", byteOffset := 208 }, { name := "Rr", type := 3, offset := 51, embedded := false, tag := "", pkgPath := "", byteOffset := 216 }, { name := "Rb", type := 3, offset := 52, embedded := false, tag := "", pkgPath := "", byteOffset := 224 }, { name := "Tc", type := 3, offset := 53, embedded := false, tag := "", pkgPath := "", byteOffset := 232 }, { name := "Edge", type := 3, offset := 54, embedded := false, tag := "", pkgPath := "", byteOffset := 240 }, { name := "Md", type := 3, offset := 55, embedded := false, tag := "", pkgPath := "", byteOffset := 248 }, { name := "Info", type := 3, offset := 56, embedded := false, tag := "", pkgPath := "", byteOffset := 256 }, { name := "Hello", type := 3, offset := 57, embedded := false, tag := "", pkgPath := "", byteOffset := 264 }, { name := "TxCount", type := 3, offset := 58, embedded := false, tag := "", pkgPath := "", byteOffset := 272 }, { name := "Change", type := 3, offset := 59, embedded := false, tag := "", pkgPath := "", byteOffset := 280 }, { name := "Migrate", type := 3, offset := 60, embedded := false, tag := "", pkgPath := "", byteOffset := 288 }]), size := 61, bytes := 296, zero := [.int .u64 0, .int .u64 0, .bool false, .bool false, .bool false, .int .i64 0, .int .u64 0, .int .u64 0, .int .u64 0, .int .u64 0, .int .i64 0, .int .i64 0, .int .i64 0, .int .i64 0, .int .u64 0, .int .u64 0, .int .u64 0, .int .u64 0, .int .i64 0, .int .i64 0, .int .i64 0, .int .i64 0, .int .i64 0, .int .i64 0, .bool false, .bool false, .bool false, .bool false, .bool false, .bool false, .bool false, .bool false, .bool false, .bool false, .bool false, .bool false, .bool false, .bool false, .bool false, .bool false, .bool false, .bool false, .bool false, .bool false, .bool false, .bool false, .bool false, .bool false, .bool false, .bool false, .int .i64 0, .int .i64 0, .int .i64 0, .int .i64 0, .int .i64 0, .int .i64 0, .int .i64 0, .int .i64 0, .int .i64 0, .int .i64 0, .int .i64 0], parts := [(0, 1), (1, 1), (2, 1), (3, 1), (4, 1), (5, 1), (6, 4), (10, 4), (14, 4), (18, 4), (22, 1), (23, 1), (24, 1), (25, 1), (26, 1), (27, 1), (28, 1), (29, 1), (30, 1), (31, 1), (32, 1), (33, 1), (34, 1), (35, 1), (36, 1), (37, 1), (38, 1), (39, 1), (40, 1), (41, 1), (42, 1), (43, 1), (44, 1), (45, 1), (46, 1), (47, 1), (48, 1), (49, 1), (50, 1), (51, 1), (52, 1), (53, 1), (54, 1), (55, 1), (56, 1), (57, 1), (58, 1), (59, 1), (60, 1)] }
theorem ty28 : TyAt Try.prog 28 td28 := mkTy (.agg ⟨[.int .u64 0, .int .u64 0, .bool false, .bool false, .bool false, .int .i64 0, .int .u64 0, .int .u64 0, .int .u64 0, .int .u64 0, .int .i64 0, .int .i64 0, .int .i64 0, .int .i64 0, .int .u64 0, .int .u64 0, .int .u64 0, .int .u64 0, .int .i64 0, .int .i64 0, .int .i64 0, .int .i64 0, .int .i64 0, .int .i64 0, .bool false, .bool false, .bool false, .bool false, .bool false, .bool false, .bool false, .bool false, .bool false, .bool false, .bool false, .bool false, .bool false, .bool false, .bool false, .bool false, .bool false, .bool false, .bool false, .bool false, .bool false, .bool false, .bool false, .bool false, .bool false, .bool false, .int .i64 0, .int .i64 0, .int .i64 0, .int .i64 0, .int .i64 0, .int .i64 0, .int .i64 0, .int .i64 0, .int .i64 0, .int .i64 0, .int .i64 0]⟩) Try.underlying28 (by kernel_rfl) rfl rfl (fun fs h w => by cases h; kernel_rfl)
def td29 : TD := { d := (Go.TypeDesc.func #[] #[4] false), size := 1, bytes := 8, zero := [.nilFunc], parts := [] }
theorem ty29 : TyAt Try.prog 29 td29 := mkTy (.nilFunc) Try.underlying29 (by kernel_rfl) rfl rfl (fun fs h w => by cases h)
def td30 : TD := { d := (Go.TypeDesc.func #[28] #[28] false), size := 1, bytes := 8, zero := [.nilFunc], parts := [] }
theorem ty30 : TyAt Try.prog 30 td30 := mkTy (.nilFunc) Try.underlying30 (by kernel_rfl) rfl rfl (fun fs h w => by cases h)
def td31 : TD := { d := (Go.TypeDesc.func #[28] #[4] false), size := 1, bytes := 8, zero := [.nilFunc], parts := [] }
theorem ty31 : TyAt Try.prog 31 td31 := mkTy (.nilFunc) Try.underlying31 (by kernel_rfl) rfl rfl (fun fs h w => by cases h)
def td32 : TD := { d := (Go.TypeDesc.struct #[{ name := "Id", type := 22, offset := 0, embedded := false, tag := "", pkgPath := "", byteOffset := 0 }, { name := "Times", type := 26, offset := 1, embedded := false, tag := "", pkgPath := "", byteOffset := 8 }]), size := 5, bytes := 40, zero := [.int .u64 0, .int .i64 0, .int .i64 0, .int .i64 0, .int .i64 0], parts := [(0, 1), (1, 4)] }
theorem ty32 : TyAt Try.prog 32 td32 := mkTy (.agg ⟨[.int .u64 0, .int .i64 0, .int .i64 0, .int .i64 0, .int .i64 0]⟩) Try.underlying32 (by kernel_rfl) rfl rfl (fun fs h w => by cases h; kernel_rfl)
def td33 : TD := { d := (Go.TypeDesc.struct #[{ name := "Id", type := 22, offset := 0, embedded := false, tag := "", pkgPath := "", byteOffset := 0 }, { name := "Times", type := 26, offset := 1, embedded := false, tag := "", pkgPath := "", byteOffset := 8 }]), size := 5, bytes := 40, zero := [.int .u64 0, .int .i64 0, .int .i64 0, .int .i64 0, .int .i64 0], parts := [(0, 1), (1, 4)] }
theorem ty33 : TyAt Try.prog 33 td33 := mkTy (.agg ⟨[.int .u64 0, .int .i64 0, .int .i64 0, .int .i64 0, .int .i64 0]⟩) Try.underlying33 (by kernel_rfl) rfl rfl (fun fs h w => by cases h; kernel_rfl)
def td34 : TD := { d := (Go.TypeDesc.slice 28), size := 1, bytes := 24, zero := [.slice none 0 0], parts := [] }
theorem ty34 : TyAt Try.prog 34 td34 := mkTy (.slice none 0 0) Try.underlying34 (by kernel_rfl) rfl rfl (fun fs h w => by cases h)
def td35 : TD := { d := (Go.TypeDesc.func #[33] #[4] false), size := 1, bytes := 8, zero := [.nilFunc], parts := [] }
theorem ty35 : TyAt Try.prog 35 td35 := mkTy (.nilFunc) Try.underlying35 (by kernel_rfl) rfl rfl (fun fs h w => by cases h)
def td37 : TD := { d := (Go.TypeDesc.func #[33, 34, 3] #[34, 4] false), size := 1, bytes := 8, zero := [.nilFunc], parts := [] }
theorem ty37 : TyAt Try.prog 37 td37 := mkTy (.nilFunc) Try.underlying37 (by kernel_rfl) rfl rfl (fun fs h w => by cases h)
def td38 : TD := { d := (Go.TypeDesc.func #[33, 34, 3] #[4] false), size := 1, bytes := 8, zero := [.nilFunc], parts := [] }
theorem ty38 : TyAt Try.prog 38 td38 := mkTy (.nilFunc) Try.underlying38 (by kernel_rfl) rfl rfl (fun fs h w => by cases h)
def td39 : TD := { d := (Go.TypeDesc.struct #[{ name := "Kind", type := 3, offset := 0, embedded := false, tag := "", pkgPath := "", byteOffset := 0 }, { name := "Flags", type := 3, offset := 1, embedded := false, tag := "", pkgPath := "", byteOffset := 8 }, { name := "Vector", type := 24, offset := 2, embedded := false, tag := "", pkgPath := "", byteOffset := 16 }, { name := "Age", type := 3, offset := 6, embedded := false, tag := "", pkgPath := "", byteOffset := 48 }, { name := "Max", type := 3, offset := 7, embedded := false, tag := "", pkgPath := "", byteOffset := 56 }, { name := "Hello", type := 3, offset := 8, embedded := false, tag := "", pkgPath := "", byteOffset := 64 }, { name := "Delay", type := 3, offset := 9, embedded := false, tag := "", pkgPath := "", byteOffset := 72 }]), size := 10, bytes := 80, zero := [.int .i64 0, .int .i64 0, .int .u64 0, .int .u64 0, .int .u64 0, .int .u64 0, .int .i64 0, .int .i64 0, .int .i64 0, .int .i64 0], parts := [(0, 1), (1, 1), (2, 4), (6, 1), (7, 1), (8, 1), (9, 1)] }
theorem ty39 : TyAt Try.prog 39 td39 := mkTy (.agg ⟨[.int .i64 0, .int .i64 0, .int .u64 0, .int .u64 0, .int .u64 0, .int .u64 0, .int .i64 0, .int .i64 0, .int .i64 0, .int .i64 0]⟩) Try.underlying39 (by kernel_rfl) rfl rfl (fun fs h w => by cases h; kernel_rfl)
def td40 : TD := { d := (Go.TypeDesc.struct #[{ name := "Kind", type := 3, offset := 0, embedded := false, tag := "", pkgPath := "", byteOffset := 0 }, { name := "Flags", type := 3, offset := 1, embedded := false, tag := "", pkgPath := "", byteOffset := 8 }, { name := "Vector", type := 24, offset := 2, embedded := false, tag := "", pkgPath := "", byteOffset := 16 }, { name := "Age", type := 3, offset := 6, embedded := false, tag := "", pkgPath := "", byteOffset := 48 }, { name := "Max", type := 3, offset := 7, embedded := false, tag := "", pkgPath := "", byteOffset := 56 }, { name := "Hello", type := 3, offset := 8, embedded := false, tag := "", pkgPath := "", byteOffset := 64 }, { name := "Delay", type := 3, offset := 9, embedded := false, tag := "", pkgPath := "", byteOffset := 72 }]), size := 10, bytes := 80, zero := [.int .i64 0, .int .i64 0, .int .u64 0, .int .u64 0, .int .u64 0, .int .u64 0, .int .i64 0, .int .i64 0, .int .i64 0, .int .i64 0], parts := [(0, 1), (1, 1), (2, 4), (6, 1), (7, 1), (8, 1), (9, 1)] }
theorem ty40 : TyAt Try.prog 40 td40 := mkTy (.agg ⟨[.int .i64 0, .int .i64 0, .int .u64 0, .int .u64 0, .int .u64 0, .int .u64 0, .int .i64 0, .int .i64 0, .int .i64 0, .int .i64 0]⟩) Try.underlying40 (by kernel_rfl) rfl rfl (fun fs h w => by cases h; kernel_rfl)
def td42 : TD := { d := (Go.TypeDesc.func #[33, 28] #[28, 40, 4] false), size := 1, bytes := 8, zero := [.nilFunc], parts := [] }
theorem ty42 : TyAt Try.prog 42 td42 := mkTy (.nilFunc) Try.underlying42 (by kernel_rfl) rfl rfl (fun fs h w => by cases h)
def td43 : TD := { d := (Go.TypeDesc.func #[40] #[4] false), size := 1, bytes := 8, zero := [.nilFunc], parts := [] }
theorem ty43 : TyAt Try.prog 43 td43 := mkTy (.nilFunc) Try.underlying43 (by kernel_rfl) rfl rfl (fun fs h w => by cases h)
def td44 : TD := { d := (Go.TypeDesc.func #[3] #[3] false), size := 1, bytes := 8, zero := [.nilFunc], parts := [] }
theorem ty44 : TyAt Try.prog 44 td44 := mkTy (.nilFunc) Try.underlying44 (by kernel_rfl) rfl rfl (fun fs h w => by cases h)
def td45 : TD := { d := (Go.TypeDesc.func #[33, 28, 5] #[4] false), size := 1, bytes := 8, zero := [.nilFunc], parts := [] }
theorem ty45 : TyAt Try.prog 45 td45 := mkTy (.nilFunc) Try.underlying45 (by kernel_rfl) rfl rfl (fun fs h w => by cases h)
def td46 : TD := { d := (Go.TypeDesc.struct #[{ name := "Age", type := 3, offset := 0, embedded := false, tag := "", pkgPath := "", byteOffset := 0 }, { name := "Max", type := 3, offset := 1, embedded := false, tag := "", pkgPath := "", byteOffset := 8 }, { name := "Hello", type := 3, offset := 2, embedded := false, tag := "", pkgPath := "", byteOffset := 16 }, { name := "Delay", type := 3, offset := 3, embedded := false, tag := "", pkgPath := "", byteOffset := 24 }]), size := 4, bytes := 32, zero := [.int .i64 0, .int .i64 0, .int .i64 0, .int .i64 0], parts := [(0, 1), (1, 1), (2, 1), (3, 1)] }
theorem ty46 : TyAt Try.prog 46 td46 := mkTy (.agg ⟨[.int .i64 0, .int .i64 0, .int .i64 0, .int .i64 0]⟩) Try.underlying46 (by kernel_rfl) rfl rfl (fun fs h w => by cases h; kernel_rfl)
def td47 : TD := { d := (Go.TypeDesc.struct #[{ name := "Id", type := 22, offset := 0, embedded := false, tag := "", pkgPath := "", byteOffset := 0 }, { name := "Times", type := 46, offset := 1, embedded := false, tag := "", pkgPath := "", byteOffset := 8 }]), size := 5, bytes := 40, zero := [.int .u64 0, .int .i64 0, .int .i64 0, .int .i64 0, .int .i64 0], parts := [(0, 1), (1, 4)] }
theorem ty47 : TyAt Try.prog 47 td47 := mkTy (.agg ⟨[.int .u64 0, .int .i64 0, .int .i64 0, .int .i64 0, .int .i64 0]⟩) Try.underlying47 (by kernel_rfl) rfl rfl (fun fs h w => by cases h; kernel_rfl)
def td48 : TD := { d := (Go.TypeDesc.struct #[{ name := "Id", type := 22, offset := 0, embedded := false, tag := "", pkgPath := "", byteOffset := 0 }, { name := "Times", type := 46, offset := 1, embedded := false, tag := "", pkgPath := "", byteOffset := 8 }]), size := 5, bytes := 40, zero := [.int .u64 0, .int .i64 0, .int .i64 0, .int .i64 0, .int .i64 0], parts := [(0, 1), (1, 4)] }
theorem ty48 : TyAt Try.prog 48 td48 := mkTy (.agg ⟨[.int .u64 0, .int .i64 0, .int .i64 0, .int .i64 0, .int .i64 0]⟩) Try.underlying48 (by kernel_rfl) rfl rfl (fun fs h w => by cases h; kernel_rfl)
def td49 : TD := { d := (Go.TypeDesc.slice 60), size := 1, bytes := 24, zero := [.slice none 0 0], parts := [] }
theorem ty49 : TyAt Try.prog 49 td49 := mkTy (.slice none 0 0) Try.underlying49 (by kernel_rfl) rfl rfl (fun fs h w => by cases h)
def td51 : TD := { d := (Go.TypeDesc.func #[48, 49, 3] #[49, 4] false), size := 1, bytes := 8, zero := [.nilFunc], parts := [] }
theorem ty51 : TyAt Try.prog 51 td51 := mkTy (.nilFunc) Try.underlying51 (by kernel_rfl) rfl rfl (fun fs h w => by cases h)
def td52 : TD := { d := (Go.TypeDesc.func #[34] #[49] false), size := 1, bytes := 8, zero := [.nilFunc], parts := [] }
theorem ty52 : TyAt Try.prog 52 td52 := mkTy (.nilFunc) Try.underlying52 (by kernel_rfl) rfl rfl (fun fs h w => by cases h)
def td53 : TD := { d := (Go.TypeDesc.func #[33, 34] #[34, 4] false), size := 1, bytes := 8, zero := [.nilFunc], parts := [] }
theorem ty53 : TyAt Try.prog 53 td53 := mkTy (.nilFunc) Try.underlying53 (by kernel_rfl) rfl rfl (fun fs h w => by cases h)
def td54 : TD := { d := (Go.TypeDesc.func #[48, 49] #[49, 4] false), size := 1, bytes := 8, zero := [.nilFunc], parts := [] }
theorem ty54 : TyAt Try.prog 54 td54 := mkTy (.nilFunc) Try.underlying54 (by kernel_rfl) rfl rfl (fun fs h w => by cases h)
def td55 : TD := { d := (Go.TypeDesc.func #[34, 49] #[4] false), size := 1, bytes := 8, zero := [.nilFunc], parts := [] }
theorem ty55 : TyAt Try.prog 55 td55 := mkTy (.nilFunc) Try.underlying55 (by kernel_rfl) rfl rfl (fun fs h w => by cases h)
def td56 : TD := { d := (Go.TypeDesc.slice 22), size := 1, bytes := 24, zero := [.slice none 0 0], parts := [] }
theorem ty56 : TyAt Try.prog 56 td56 := mkTy (.slice none 0 0) Try.underlying56 (by kernel_rfl) rfl rfl (fun fs h w => by cases h)
def td58 : TD := { d := (Go.TypeDesc.func #[34] #[34, 56] false), size := 1, bytes := 8, zero := [.nilFunc], parts := [] }
theorem ty58 : TyAt Try.prog 58 td58 := mkTy (.nilFunc) Try.underlying58 (by kernel_rfl) rfl rfl (fun fs h w => by cases h)
def td59 : TD := { d := (Go.TypeDesc.struct #[{ name := "Id", type := 22, offset := 0, embedded := false, tag := "", pkgPath := "", byteOffset := 0 }, { name := "Cost", type := 22, offset := 1, embedded := false, tag := "", pkgPath := "", byteOffset := 8 }, { name := "On", type := 4, offset := 2, embedded := false, tag := "", pkgPath := "", byteOffset := 16 }, { name := "Admin", type := 4, offset := 3, embedded := false, tag := "", pkgPath := "", byteOffset := 17 }, { name := "Oper", type := 4, offset := 4, embedded := false, tag := "", pkgPath := "", byteOffset := 18 }, { name := "Source", type := 3, offset := 5, embedded := false, tag := "", pkgPath := "", byteOffset := 24 }, { name := "Vector", type := 24, offset := 6, embedded := false, tag := "", pkgPath := "", byteOffset := 32 }, { name := "Times", type := 46, offset := 10, embedded := false, tag := "", pkgPath := "", byteOffset := 64 }, { name := "Offer", type := 24, offset := 14, embedded := false, tag := "", pkgPath := "", byteOffset := 96 }, { name := "Given", type := 46, offset := 18, embedded := false, tag := "", pkgPath := "", byteOffset := 128 }, { name := "Role", type := 3, offset := 22, embedded := false, tag := "", pkgPath := "", byteOffset := 160 }, { name := "Selected", type := 3, offset := 23, embedded := false, tag := "", pkgPath := "", byteOffset := 168 }, { name := "Ready", type := 4, offset := 24, embedded := false, tag := "", pkgPath := "", byteOffset := 176 }, { name := "Update", type := 4, offset := 25, embedded := false, tag := "", pkgPath := "", byteOffset := 177 }, { name := "Reselect", type := 4, offset := 26, embedded := false, tag := "", pkgPath := "", byteOffset := 178 }, { name := "Learn", type := 4, offset := 27, embedded := false, tag := "", pkgPath := "", byteOffset := 179 }, { name := "Learning", type := 4, offset := 28, embedded := false, tag := "", pkgPath := "", byteOffset := 180 }, { name := "Forward", type := 4, offset := 29, embedded := false, tag := "", pkgPath := "", byteOffset := 181 }, { name := "Forwarding", type := 4, offset := 30, embedded := false, tag := "", pkgPath := "", byteOffset := 182 }, { name := "Agree", type := 4, offset := 31, embedded := false, tag := "", pkgPath := "", byteOffset := 183 }, { name := "Agreed", type := 4, offset := 32, embedded := false, tag := "", pkgPath := "", byteOffset := 184 }, { name := "Proposed", type := 4, offset := 33, embedded := false, tag := "", pkgPath := "", byteOffset := 185 }, { name := "Proposing", type := 4, offset := 34, embedded := false, tag := "", pkgPath := "", byteOffset := 186 }, { name := "Sync", type := 4, offset := 35, embedded := false, tag := "", pkgPath := "", byteOffset := 187 }, { name := "Synced", type := 4, offset := 36, embedded := false, tag := "", pkgPath := "", byteOffset := 188 }, { name := "Reroot", type := 4, offset := 37, embedded := false, tag := "", pkgPath := "", byteOffset := 189 }, { name := "Disputed", type := 4, offset := 38, embedded := false, tag := "", pkgPath := "", byteOffset := 190 }, { name := "NewInfo", type := 4, offset := 39, embedded := false, tag := "", pkgPath := "", byteOffset := 191 }, { name := "HeardTc", type := 4, offset := 40, embedded := false, tag := "", pkgPath := "", byteOffset := 192 }, { name := "HeardTcn", type := 4, offset := 41, embedded := false, tag := "", pkgPath := "", byteOffset := 193 }, { name := "HeardAck", type := 4, offset := 42, embedded := false, tag := "", pkgPath := "", byteOffset := 194 }, { name := "TcAck", type := 4, offset := 43, embedded := false, tag := "", pkgPath := "", byteOffset := 195 }, { name := "TcProp", type := 4, offset := 44, embedded := false, tag := "", pkgPath := "", byteOffset := 196 }, { name := "Flush", type := 4, offset := 45, embedded := false, tag := "", pkgPath := "", byteOffset := 197 }, { name := "SendRstp", type := 4, offset := 46, embedded := false, tag := "", pkgPath := "", byteOffset := 198 }, { name := "HeardRstp", type := 4, offset := 47, embedded := false, tag := "", pkgPath := "", byteOffset := 199 }, { name := "HeardStp", type := 4, offset := 48, embedded := false, tag := "", pkgPath := "", byteOffset := 200 }, { name := "Check", type := 4, offset := 49, embedded := false, tag := "", pkgPath := "", byteOffset := 201 }, { name := "Fd", type := 3, offset := 50, embedded := false, tag := "", pkgPath := "", byteOffset := 208 }, { name := "Rr", type := 3, offset := 51, embedded := false, tag := "", pkgPath := "", byteOffset := 216 }, { name := "Rb", type := 3, offset := 52, embedded := false, tag := "", pkgPath := "", byteOffset := 224 }, { name := "Tc", type := 3, offset := 53, embedded := false, tag := "", pkgPath := "", byteOffset := 232 }, { name := "Edge", type := 3, offset := 54, embedded := false, tag := "", pkgPath := "", byteOffset := 240 }, { name := "Md", type := 3, offset := 55, embedded := false, tag := "", pkgPath := "", byteOffset := 248 }, { name := "Info", type := 3, offset := 56, embedded := false, tag := "", pkgPath := "", byteOffset := 256 }, { name := "Hello", type := 3, offset := 57, embedded := false, tag := "", pkgPath := "", byteOffset := 264 }, { name := "TxCount", type := 3, offset := 58, embedded := false, tag := "", pkgPath := "", byteOffset := 272 }, { name := "Change", type := 3, offset := 59, embedded := false, tag := "", pkgPath := "", byteOffset := 280 }, { name := "Migrate", type := 3, offset := 60, embedded := false, tag := "", pkgPath := "", byteOffset := 288 }]), size := 61, bytes := 296, zero := [.int .u64 0, .int .u64 0, .bool false, .bool false, .bool false, .int .i64 0, .int .u64 0, .int .u64 0, .int .u64 0, .int .u64 0, .int .i64 0, .int .i64 0, .int .i64 0, .int .i64 0, .int .u64 0, .int .u64 0, .int .u64 0, .int .u64 0, .int .i64 0, .int .i64 0, .int .i64 0, .int .i64 0, .int .i64 0, .int .i64 0, .bool false, .bool false, .bool false, .bool false, .bool false, .bool false, .bool false, .bool false, .bool false, .bool false, .bool false, .bool false, .bool false, .bool false, .bool false, .bool false, .bool false, .bool false, .bool false, .bool false, .bool false, .bool false, .bool false, .bool false, .bool false, .bool false, .int .i64 0, .int .i64 0, .int .i64 0, .int .i64 0, .int .i64 0, .int .i64 0, .int .i64 0, .int .i64 0, .int .i64 0, .int .i64 0, .int .i64 0], parts := [(0, 1), (1, 1), (2, 1), (3, 1), (4, 1), (5, 1), (6, 4), (10, 4), (14, 4), (18, 4), (22, 1), (23, 1), (24, 1), (25, 1), (26, 1), (27, 1), (28, 1), (29, 1), (30, 1), (31, 1), (32, 1), (33, 1), (34, 1), (35, 1), (36, 1), (37, 1), (38, 1), (39, 1), (40, 1), (41, 1), (42, 1), (43, 1), (44, 1), (45, 1), (46, 1), (47, 1), (48, 1), (49, 1), (50, 1), (51, 1), (52, 1), (53, 1), (54, 1), (55, 1), (56, 1), (57, 1), (58, 1), (59, 1), (60, 1)] }
theorem ty59 : TyAt Try.prog 59 td59 := mkTy (.agg ⟨[.int .u64 0, .int .u64 0, .bool false, .bool false, .bool false, .int .i64 0, .int .u64 0, .int .u64 0, .int .u64 0, .int .u64 0, .int .i64 0, .int .i64 0, .int .i64 0, .int .i64 0, .int .u64 0, .int .u64 0, .int .u64 0, .int .u64 0, .int .i64 0, .int .i64 0, .int .i64 0, .int .i64 0, .int .i64 0, .int .i64 0, .bool false, .bool false, .bool false, .bool false, .bool false, .bool false, .bool false, .bool false, .bool false, .bool false, .bool false, .bool false, .bool false, .bool false, .bool false, .bool false, .bool false, .bool false, .bool false, .bool false, .bool false, .bool false, .bool false, .bool false, .bool false, .bool false, .int .i64 0, .int .i64 0, .int .i64 0, .int .i64 0, .int .i64 0, .int .i64 0, .int .i64 0, .int .i64 0, .int .i64 0, .int .i64 0, .int .i64 0]⟩) Try.underlying59 (by kernel_rfl) rfl rfl (fun fs h w => by cases h; kernel_rfl)
def td60 : TD := { d := (Go.TypeDesc.struct #[{ name := "Id", type := 22, offset := 0, embedded := false, tag := "", pkgPath := "", byteOffset := 0 }, { name := "Cost", type := 22, offset := 1, embedded := false, tag := "", pkgPath := "", byteOffset := 8 }, { name := "On", type := 4, offset := 2, embedded := false, tag := "", pkgPath := "", byteOffset := 16 }, { name := "Admin", type := 4, offset := 3, embedded := false, tag := "", pkgPath := "", byteOffset := 17 }, { name := "Oper", type := 4, offset := 4, embedded := false, tag := "", pkgPath := "", byteOffset := 18 }, { name := "Source", type := 3, offset := 5, embedded := false, tag := "", pkgPath := "", byteOffset := 24 }, { name := "Vector", type := 24, offset := 6, embedded := false, tag := "", pkgPath := "", byteOffset := 32 }, { name := "Times", type := 46, offset := 10, embedded := false, tag := "", pkgPath := "", byteOffset := 64 }, { name := "Offer", type := 24, offset := 14, embedded := false, tag := "", pkgPath := "", byteOffset := 96 }, { name := "Given", type := 46, offset := 18, embedded := false, tag := "", pkgPath := "", byteOffset := 128 }, { name := "Role", type := 3, offset := 22, embedded := false, tag := "", pkgPath := "", byteOffset := 160 }, { name := "Selected", type := 3, offset := 23, embedded := false, tag := "", pkgPath := "", byteOffset := 168 }, { name := "Ready", type := 4, offset := 24, embedded := false, tag := "", pkgPath := "", byteOffset := 176 }, { name := "Update", type := 4, offset := 25, embedded := false, tag := "", pkgPath := "", byteOffset := 177 }, { name := "Reselect", type := 4, offset := 26, embedded := false, tag := "", pkgPath := "", byteOffset := 178 }, { name := "Learn", type := 4, offset := 27, embedded := false, tag := "", pkgPath := "", byteOffset := 179 }, { name := "Learning", type := 4, offset := 28, embedded := false, tag := "", pkgPath := "", byteOffset := 180 }, { name := "Forward", type := 4, offset := 29, embedded := false, tag := "", pkgPath := "", byteOffset := 181 }, { name := "Forwarding", type := 4, offset := 30, embedded := false, tag := "", pkgPath := "", byteOffset := 182 }, { name := "Agree", type := 4, offset := 31, embedded := false, tag := "", pkgPath := "", byteOffset := 183 }, { name := "Agreed", type := 4, offset := 32, embedded := false, tag := "", pkgPath := "", byteOffset := 184 }, { name := "Proposed", type := 4, offset := 33, embedded := false, tag := "", pkgPath := "", byteOffset := 185 }, { name := "Proposing", type := 4, offset := 34, embedded := false, tag := "", pkgPath := "", byteOffset := 186 }, { name := "Sync", type := 4, offset := 35, embedded := false, tag := "", pkgPath := "", byteOffset := 187 }, { name := "Synced", type := 4, offset := 36, embedded := false, tag := "", pkgPath := "", byteOffset := 188 }, { name := "Reroot", type := 4, offset := 37, embedded := false, tag := "", pkgPath := "", byteOffset := 189 }, { name := "Disputed", type := 4, offset := 38, embedded := false, tag := "", pkgPath := "", byteOffset := 190 }, { name := "NewInfo", type := 4, offset := 39, embedded := false, tag := "", pkgPath := "", byteOffset := 191 }, { name := "HeardTc", type := 4, offset := 40, embedded := false, tag := "", pkgPath := "", byteOffset := 192 }, { name := "HeardTcn", type := 4, offset := 41, embedded := false, tag := "", pkgPath := "", byteOffset := 193 }, { name := "HeardAck", type := 4, offset := 42, embedded := false, tag := "", pkgPath := "", byteOffset := 194 }, { name := "TcAck", type := 4, offset := 43, embedded := false, tag := "", pkgPath := "", byteOffset := 195 }, { name := "TcProp", type := 4, offset := 44, embedded := false, tag := "", pkgPath := "", byteOffset := 196 }, { name := "Flush", type := 4, offset := 45, embedded := false, tag := "", pkgPath := "", byteOffset := 197 }, { name := "SendRstp", type := 4, offset := 46, embedded := false, tag := "", pkgPath := "", byteOffset := 198 }, { name := "HeardRstp", type := 4, offset := 47, embedded := false, tag := "", pkgPath := "", byteOffset := 199 }, { name := "HeardStp", type := 4, offset := 48, embedded := false, tag := "", pkgPath := "", byteOffset := 200 }, { name := "Check", type := 4, offset := 49, embedded := false, tag := "", pkgPath := "", byteOffset := 201 }, { name := "Fd", type := 3, offset := 50, embedded := false, tag := "", pkgPath := "", byteOffset := 208 }, { name := "Rr", type := 3, offset := 51, embedded := false, tag := "", pkgPath := "", byteOffset := 216 }, { name := "Rb", type := 3, offset := 52, embedded := false, tag := "", pkgPath := "", byteOffset := 224 }, { name := "Tc", type := 3, offset := 53, embedded := false, tag := "", pkgPath := "", byteOffset := 232 }, { name := "Edge", type := 3, offset := 54, embedded := false, tag := "", pkgPath := "", byteOffset := 240 }, { name := "Md", type := 3, offset := 55, embedded := false, tag := "", pkgPath := "", byteOffset := 248 }, { name := "Info", type := 3, offset := 56, embedded := false, tag := "", pkgPath := "", byteOffset := 256 }, { name := "Hello", type := 3, offset := 57, embedded := false, tag := "", pkgPath := "", byteOffset := 264 }, { name := "TxCount", type := 3, offset := 58, embedded := false, tag := "", pkgPath := "", byteOffset := 272 }, { name := "Change", type := 3, offset := 59, embedded := false, tag := "", pkgPath := "", byteOffset := 280 }, { name := "Migrate", type := 3, offset := 60, embedded := false, tag := "", pkgPath := "", byteOffset := 288 }]), size := 61, bytes := 296, zero := [.int .u64 0, .int .u64 0, .bool false, .bool false, .bool false, .int .i64 0, .int .u64 0, .int .u64 0, .int .u64 0, .int .u64 0, .int .i64 0, .int .i64 0, .int .i64 0, .int .i64 0, .int .u64 0, .int .u64 0, .int .u64 0, .int .u64 0, .int .i64 0, .int .i64 0, .int .i64 0, .int .i64 0, .int .i64 0, .int .i64 0, .bool false, .bool false, .bool false, .bool false, .bool false, .bool false, .bool false, .bool false, .bool false, .bool false, .bool false, .bool false, .bool false, .bool false, .bool false, .bool false, .bool false, .bool false, .bool false, .bool false, .bool false, .bool false, .bool false, .bool false, .bool false, .bool false, .int .i64 0, .int .i64 0, .int .i64 0, .int .i64 0, .int .i64 0, .int .i64 0, .int .i64 0, .int .i64 0, .int .i64 0, .int .i64 0, .int .i64 0], parts := [(0, 1), (1, 1), (2, 1), (3, 1), (4, 1), (5, 1), (6, 4), (10, 4), (14, 4), (18, 4), (22, 1), (23, 1), (24, 1), (25, 1), (26, 1), (27, 1), (28, 1), (29, 1), (30, 1), (31, 1), (32, 1), (33, 1), (34, 1), (35, 1), (36, 1), (37, 1), (38, 1), (39, 1), (40, 1), (41, 1), (42, 1), (43, 1), (44, 1), (45, 1), (46, 1), (47, 1), (48, 1), (49, 1), (50, 1), (51, 1), (52, 1), (53, 1), (54, 1), (55, 1), (56, 1), (57, 1), (58, 1), (59, 1), (60, 1)] }
theorem ty60 : TyAt Try.prog 60 td60 := mkTy (.agg ⟨[.int .u64 0, .int .u64 0, .bool false, .bool false, .bool false, .int .i64 0, .int .u64 0, .int .u64 0, .int .u64 0, .int .u64 0, .int .i64 0, .int .i64 0, .int .i64 0, .int .i64 0, .int .u64 0, .int .u64 0, .int .u64 0, .int .u64 0, .int .i64 0, .int .i64 0, .int .i64 0, .int .i64 0, .int .i64 0, .int .i64 0, .bool false, .bool false, .bool false, .bool false, .bool false, .bool false, .bool false, .bool false, .bool false, .bool false, .bool false, .bool false, .bool false, .bool false, .bool false, .bool false, .bool false, .bool false, .bool false, .bool false, .bool false, .bool false, .bool false, .bool false, .bool false, .bool false, .int .i64 0, .int .i64 0, .int .i64 0, .int .i64 0, .int .i64 0, .int .i64 0, .int .i64 0, .int .i64 0, .int .i64 0, .int .i64 0, .int .i64 0]⟩) Try.underlying60 (by kernel_rfl) rfl rfl (fun fs h w => by cases h; kernel_rfl)
def td61 : TD := { d := (Go.TypeDesc.func #[28] #[60] false), size := 1, bytes := 8, zero := [.nilFunc], parts := [] }
theorem ty61 : TyAt Try.prog 61 td61 := mkTy (.nilFunc) Try.underlying61 (by kernel_rfl) rfl rfl (fun fs h w => by cases h)
def td62 : TD := { d := (Go.TypeDesc.func #[28, 4] #[28] false), size := 1, bytes := 8, zero := [.nilFunc], parts := [] }
theorem ty62 : TyAt Try.prog 62 td62 := mkTy (.nilFunc) Try.underlying62 (by kernel_rfl) rfl rfl (fun fs h w => by cases h)
def td63 : TD := { d := (Go.TypeDesc.func #[60, 4] #[60] false), size := 1, bytes := 8, zero := [.nilFunc], parts := [] }
theorem ty63 : TyAt Try.prog 63 td63 := mkTy (.nilFunc) Try.underlying63 (by kernel_rfl) rfl rfl (fun fs h w => by cases h)
def td64 : TD := { d := (Go.TypeDesc.func #[28, 40] #[28] false), size := 1, bytes := 8, zero := [.nilFunc], parts := [] }
theorem ty64 : TyAt Try.prog 64 td64 := mkTy (.nilFunc) Try.underlying64 (by kernel_rfl) rfl rfl (fun fs h w => by cases h)
def td65 : TD := { d := (Go.TypeDesc.func #[60, 66] #[60] false), size := 1, bytes := 8, zero := [.nilFunc], parts := [] }
theorem ty65 : TyAt Try.prog 65 td65 := mkTy (.nilFunc) Try.underlying65 (by kernel_rfl) rfl rfl (fun fs h w => by cases h)
def td66 : TD := { d := (Go.TypeDesc.struct #[{ name := "Kind", type := 3, offset := 0, embedded := false, tag := "", pkgPath := "", byteOffset := 0 }, { name := "Flags", type := 3, offset := 1, embedded := false, tag := "", pkgPath := "", byteOffset := 8 }, { name := "Vector", type := 24, offset := 2, embedded := false, tag := "", pkgPath := "", byteOffset := 16 }, { name := "Age", type := 3, offset := 6, embedded := false, tag := "", pkgPath := "", byteOffset := 48 }, { name := "Max", type := 3, offset := 7, embedded := false, tag := "", pkgPath := "", byteOffset := 56 }, { name := "Hello", type := 3, offset := 8, embedded := false, tag := "", pkgPath := "", byteOffset := 64 }, { name := "Delay", type := 3, offset := 9, embedded := false, tag := "", pkgPath := "", byteOffset := 72 }]), size := 10, bytes := 80, zero := [.int .i64 0, .int .i64 0, .int .u64 0, .int .u64 0, .int .u64 0, .int .u64 0, .int .i64 0, .int .i64 0, .int .i64 0, .int .i64 0], parts := [(0, 1), (1, 1), (2, 4), (6, 1), (7, 1), (8, 1), (9, 1)] }
theorem ty66 : TyAt Try.prog 66 td66 := mkTy (.agg ⟨[.int .i64 0, .int .i64 0, .int .u64 0, .int .u64 0, .int .u64 0, .int .u64 0, .int .i64 0, .int .i64 0, .int .i64 0, .int .i64 0]⟩) Try.underlying66 (by kernel_rfl) rfl rfl (fun fs h w => by cases h; kernel_rfl)
def td67 : TD := { d := (Go.TypeDesc.func #[60] #[60] false), size := 1, bytes := 8, zero := [.nilFunc], parts := [] }
theorem ty67 : TyAt Try.prog 67 td67 := mkTy (.nilFunc) Try.underlying67 (by kernel_rfl) rfl rfl (fun fs h w => by cases h)
def td68 : TD := { d := (Go.TypeDesc.func #[28, 40, 4] #[4] false), size := 1, bytes := 8, zero := [.nilFunc], parts := [] }
theorem ty68 : TyAt Try.prog 68 td68 := mkTy (.nilFunc) Try.underlying68 (by kernel_rfl) rfl rfl (fun fs h w => by cases h)
def td69 : TD := { d := (Go.TypeDesc.func #[70] #[4] false), size := 1, bytes := 8, zero := [.nilFunc], parts := [] }
theorem ty69 : TyAt Try.prog 69 td69 := mkTy (.nilFunc) Try.underlying69 (by kernel_rfl) rfl rfl (fun fs h w => by cases h)
def td70 : TD := { d := (Go.TypeDesc.slice 109), size := 1, bytes := 24, zero := [.slice none 0 0], parts := [] }
theorem ty70 : TyAt Try.prog 70 td70 := mkTy (.slice none 0 0) Try.underlying70 (by kernel_rfl) rfl rfl (fun fs h w => by cases h)
def td71 : TD := { d := (Go.TypeDesc.func #[49] #[70] false), size := 1, bytes := 8, zero := [.nilFunc], parts := [] }
theorem ty71 : TyAt Try.prog 71 td71 := mkTy (.nilFunc) Try.underlying71 (by kernel_rfl) rfl rfl (fun fs h w => by cases h)
def td72 : TD := { d := (Go.TypeDesc.func #[33, 34] #[4] false), size := 1, bytes := 8, zero := [.nilFunc], parts := [] }
theorem ty72 : TyAt Try.prog 72 td72 := mkTy (.nilFunc) Try.underlying72 (by kernel_rfl) rfl rfl (fun fs h w => by cases h)
def td73 : TD := { d := (Go.TypeDesc.func #[28, 40] #[4] false), size := 1, bytes := 8, zero := [.nilFunc], parts := [] }
theorem ty73 : TyAt Try.prog 73 td73 := mkTy (.nilFunc) Try.underlying73 (by kernel_rfl) rfl rfl (fun fs h w => by cases h)
def td74 : TD := { d := (Go.TypeDesc.func #[22] #[33] false), size := 1, bytes := 8, zero := [.nilFunc], parts := [] }
theorem ty74 : TyAt Try.prog 74 td74 := mkTy (.nilFunc) Try.underlying74 (by kernel_rfl) rfl rfl (fun fs h w => by cases h)
def td75 : TD := { d := (Go.TypeDesc.func #[34] #[34] false), size := 1, bytes := 8, zero := [.nilFunc], parts := [] }
theorem ty75 : TyAt Try.prog 75 td75 := mkTy (.nilFunc) Try.underlying75 (by kernel_rfl) rfl rfl (fun fs h w => by cases h)
def td76 : TD := { d := (Go.TypeDesc.pointer 28), size := 1, bytes := 8, zero := [.pointer none], parts := [] }
theorem ty76 : TyAt Try.prog 76 td76 := mkTy (.pointer none) Try.underlying76 (by kernel_rfl) rfl rfl (fun fs h w => by cases h)
def td77 : TD := { d := (Go.TypeDesc.func #[76] #[] false), size := 1, bytes := 8, zero := [.nilFunc], parts := [] }
theorem ty77 : TyAt Try.prog 77 td77 := mkTy (.nilFunc) Try.underlying77 (by kernel_rfl) rfl rfl (fun fs h w => by cases h)
def td78 : TD := { d := (Go.TypeDesc.func #[76] #[4] false), size := 1, bytes := 8, zero := [.nilFunc], parts := [] }
theorem ty78 : TyAt Try.prog 78 td78 := mkTy (.nilFunc) Try.underlying78 (by kernel_rfl) rfl rfl (fun fs h w => by cases h)
def td79 : TD := { d := (Go.TypeDesc.func #[26, 76] #[] false), size := 1, bytes := 8, zero := [.nilFunc], parts := [] }
theorem ty79 : TyAt Try.prog 79 td79 := mkTy (.nilFunc) Try.underlying79 (by kernel_rfl) rfl rfl (fun fs h w => by cases h)
def td80 : TD := { d := (Go.TypeDesc.func #[28, 3] #[40] false), size := 1, bytes := 8, zero := [.nilFunc], parts := [] }
theorem ty80 : TyAt Try.prog 80 td80 := mkTy (.nilFunc) Try.underlying80 (by kernel_rfl) rfl rfl (fun fs h w => by cases h)
def td81 : TD := { d := (Go.TypeDesc.slice 3), size := 1, bytes := 24, zero := [.slice none 0 0], parts := [] }
theorem ty81 : TyAt Try.prog 81 td81 := mkTy (.slice none 0 0) Try.underlying81 (by kernel_rfl) rfl rfl (fun fs h w => by cases h)
def td82 : TD := { d := (Go.TypeDesc.int Go.IntKind.u64), size := 1, bytes := 8, zero := [.int .u64 0], parts := [] }
theorem ty82 : TyAt Try.prog 82 td82 := mkTy (.int .u64 0) Try.underlying82 (by kernel_rfl) rfl rfl (fun fs h w => by cases h)
def td83 : TD := { d := (Go.TypeDesc.pointer 3), size := 1, bytes := 8, zero := [.pointer none], parts := [] }
theorem ty83 : TyAt Try.prog 83 td83 := mkTy (.pointer none) Try.underlying83 (by kernel_rfl) rfl rfl (fun fs h w => by cases h)
def td84 : TD := { d := (Go.TypeDesc.func #[83] #[] false), size := 1, bytes := 8, zero := [.nilFunc], parts := [] }
theorem ty84 : TyAt Try.prog 84 td84 := mkTy (.nilFunc) Try.underlying84 (by kernel_rfl) rfl rfl (fun fs h w => by cases h)
def td86 : TD := { d := (Go.TypeDesc.func #[] #[85] false), size := 1, bytes := 8, zero := [.nilFunc], parts := [] }
theorem ty86 : TyAt Try.prog 86 td86 := mkTy (.nilFunc) Try.underlying86 (by kernel_rfl) rfl rfl (fun fs h w => by cases h)
def td87 : TD := { d := (Go.TypeDesc.func #[48] #[4] false), size := 1, bytes := 8, zero := [.nilFunc], parts := [] }
theorem ty87 : TyAt Try.prog 87 td87 := mkTy (.nilFunc) Try.underlying87 (by kernel_rfl) rfl rfl (fun fs h w => by cases h)
def td88 : TD := { d := (Go.TypeDesc.func #[48, 60] #[60] false), size := 1, bytes := 8, zero := [.nilFunc], parts := [] }
theorem ty88 : TyAt Try.prog 88 td88 := mkTy (.nilFunc) Try.underlying88 (by kernel_rfl) rfl rfl (fun fs h w => by cases h)
def td89 : TD := { d := (Go.TypeDesc.func #[34, 34] #[4] false), size := 1, bytes := 8, zero := [.nilFunc], parts := [] }
theorem ty89 : TyAt Try.prog 89 td89 := mkTy (.nilFunc) Try.underlying89 (by kernel_rfl) rfl rfl (fun fs h w => by cases h)
def td90 : TD := { d := (Go.TypeDesc.func #[49, 49] #[4] false), size := 1, bytes := 8, zero := [.nilFunc], parts := [] }
theorem ty90 : TyAt Try.prog 90 td90 := mkTy (.nilFunc) Try.underlying90 (by kernel_rfl) rfl rfl (fun fs h w => by cases h)
def td91 : TD := { d := (Go.TypeDesc.func #[22, 22, 4] #[28] false), size := 1, bytes := 8, zero := [.nilFunc], parts := [] }
theorem ty91 : TyAt Try.prog 91 td91 := mkTy (.nilFunc) Try.underlying91 (by kernel_rfl) rfl rfl (fun fs h w => by cases h)
def td92 : TD := { d := (Go.TypeDesc.func #[28, 40] #[3] false), size := 1, bytes := 8, zero := [.nilFunc], parts := [] }
theorem ty92 : TyAt Try.prog 92 td92 := mkTy (.nilFunc) Try.underlying92 (by kernel_rfl) rfl rfl (fun fs h w => by cases h)
def td93 : TD := { d := (Go.TypeDesc.func #[40] #[26] false), size := 1, bytes := 8, zero := [.nilFunc], parts := [] }
theorem ty93 : TyAt Try.prog 93 td93 := mkTy (.nilFunc) Try.underlying93 (by kernel_rfl) rfl rfl (fun fs h w => by cases h)
def td94 : TD := { d := (Go.TypeDesc.func #[66] #[4] false), size := 1, bytes := 8, zero := [.nilFunc], parts := [] }
theorem ty94 : TyAt Try.prog 94 td94 := mkTy (.nilFunc) Try.underlying94 (by kernel_rfl) rfl rfl (fun fs h w => by cases h)
def td95 : TD := { d := (Go.TypeDesc.func #[60, 66] #[3] false), size := 1, bytes := 8, zero := [.nilFunc], parts := [] }
theorem ty95 : TyAt Try.prog 95 td95 := mkTy (.nilFunc) Try.underlying95 (by kernel_rfl) rfl rfl (fun fs h w => by cases h)
def td96 : TD := { d := (Go.TypeDesc.func #[66] #[46] false), size := 1, bytes := 8, zero := [.nilFunc], parts := [] }
theorem ty96 : TyAt Try.prog 96 td96 := mkTy (.nilFunc) Try.underlying96 (by kernel_rfl) rfl rfl (fun fs h w => by cases h)
def td97 : TD := { d := (Go.TypeDesc.func #[3, 3] #[4] false), size := 1, bytes := 8, zero := [.nilFunc], parts := [] }
theorem ty97 : TyAt Try.prog 97 td97 := mkTy (.nilFunc) Try.underlying97 (by kernel_rfl) rfl rfl (fun fs h w => by cases h)
def td98 : TD := { d := (Go.TypeDesc.slice 100), size := 1, bytes := 24, zero := [.slice none 0 0], parts := [] }
theorem ty98 : TyAt Try.prog 98 td98 := mkTy (.slice none 0 0) Try.underlying98 (by kernel_rfl) rfl rfl (fun fs h w => by cases h)
def td99 : TD := { d := (Go.TypeDesc.struct #[{ name := "Id", type := 22, offset := 0, embedded := false, tag := "", pkgPath := "", byteOffset := 0 }, { name := "Cost", type := 22, offset := 1, embedded := false, tag := "", pkgPath := "", byteOffset := 8 }, { name := "Source", type := 3, offset := 2, embedded := false, tag := "", pkgPath := "", byteOffset := 16 }, { name := "Vector", type := 24, offset := 3, embedded := false, tag := "", pkgPath := "", byteOffset := 24 }]), size := 7, bytes := 56, zero := [.int .u64 0, .int .u64 0, .int .i64 0, .int .u64 0, .int .u64 0, .int .u64 0, .int .u64 0], parts := [(0, 1), (1, 1), (2, 1), (3, 4)] }
theorem ty99 : TyAt Try.prog 99 td99 := mkTy (.agg ⟨[.int .u64 0, .int .u64 0, .int .i64 0, .int .u64 0, .int .u64 0, .int .u64 0, .int .u64 0]⟩) Try.underlying99 (by kernel_rfl) rfl rfl (fun fs h w => by cases h; kernel_rfl)
def td100 : TD := { d := (Go.TypeDesc.struct #[{ name := "Id", type := 22, offset := 0, embedded := false, tag := "", pkgPath := "", byteOffset := 0 }, { name := "Cost", type := 22, offset := 1, embedded := false, tag := "", pkgPath := "", byteOffset := 8 }, { name := "Source", type := 3, offset := 2, embedded := false, tag := "", pkgPath := "", byteOffset := 16 }, { name := "Vector", type := 24, offset := 3, embedded := false, tag := "", pkgPath := "", byteOffset := 24 }]), size := 7, bytes := 56, zero := [.int .u64 0, .int .u64 0, .int .i64 0, .int .u64 0, .int .u64 0, .int .u64 0, .int .u64 0], parts := [(0, 1), (1, 1), (2, 1), (3, 4)] }
theorem ty100 : TyAt Try.prog 100 td100 := mkTy (.agg ⟨[.int .u64 0, .int .u64 0, .int .i64 0, .int .u64 0, .int .u64 0, .int .u64 0, .int .u64 0]⟩) Try.underlying100 (by kernel_rfl) rfl rfl (fun fs h w => by cases h; kernel_rfl)
def td101 : TD := { d := (Go.TypeDesc.func #[28] #[100] false), size := 1, bytes := 8, zero := [.nilFunc], parts := [] }
theorem ty101 : TyAt Try.prog 101 td101 := mkTy (.nilFunc) Try.underlying101 (by kernel_rfl) rfl rfl (fun fs h w => by cases h)
def td102 : TD := { d := (Go.TypeDesc.slice 24), size := 1, bytes := 24, zero := [.slice none 0 0], parts := [] }
theorem ty102 : TyAt Try.prog 102 td102 := mkTy (.slice none 0 0) Try.underlying102 (by kernel_rfl) rfl rfl (fun fs h w => by cases h)
def td103 : TD := { d := (Go.TypeDesc.struct #[{ name := "Root", type := 24, offset := 0, embedded := false, tag := "", pkgPath := "", byteOffset := 0 }, { name := "Port", type := 3, offset := 4, embedded := false, tag := "", pkgPath := "", byteOffset := 32 }, { name := "Roles", type := 81, offset := 5, embedded := false, tag := "", pkgPath := "", byteOffset := 40 }, { name := "Offers", type := 102, offset := 6, embedded := false, tag := "", pkgPath := "", byteOffset := 64 }]), size := 7, bytes := 88, zero := [.int .u64 0, .int .u64 0, .int .u64 0, .int .u64 0, .int .i64 0, .slice none 0 0, .slice none 0 0], parts := [(0, 4), (4, 1), (5, 1), (6, 1)] }
theorem ty103 : TyAt Try.prog 103 td103 := mkTy (.agg ⟨[.int .u64 0, .int .u64 0, .int .u64 0, .int .u64 0, .int .i64 0, .slice none 0 0, .slice none 0 0]⟩) Try.underlying103 (by kernel_rfl) rfl rfl (fun fs h w => by cases h; kernel_rfl)
def td104 : TD := { d := (Go.TypeDesc.struct #[{ name := "Root", type := 24, offset := 0, embedded := false, tag := "", pkgPath := "", byteOffset := 0 }, { name := "Port", type := 3, offset := 4, embedded := false, tag := "", pkgPath := "", byteOffset := 32 }, { name := "Roles", type := 81, offset := 5, embedded := false, tag := "", pkgPath := "", byteOffset := 40 }, { name := "Offers", type := 102, offset := 6, embedded := false, tag := "", pkgPath := "", byteOffset := 64 }]), size := 7, bytes := 88, zero := [.int .u64 0, .int .u64 0, .int .u64 0, .int .u64 0, .int .i64 0, .slice none 0 0, .slice none 0 0], parts := [(0, 4), (4, 1), (5, 1), (6, 1)] }
theorem ty104 : TyAt Try.prog 104 td104 := mkTy (.agg ⟨[.int .u64 0, .int .u64 0, .int .u64 0, .int .u64 0, .int .i64 0, .slice none 0 0, .slice none 0 0]⟩) Try.underlying104 (by kernel_rfl) rfl rfl (fun fs h w => by cases h; kernel_rfl)
def td105 : TD := { d := (Go.TypeDesc.int Go.IntKind.i64), size := 1, bytes := 8, zero := [.int .i64 0], parts := [] }
theorem ty105 : TyAt Try.prog 105 td105 := mkTy (.int .i64 0) Try.underlying105 (by kernel_rfl) rfl rfl (fun fs h w => by cases h)
def td107 : TD := { d := (Go.TypeDesc.func #[22, 98] #[104, 105] false), size := 1, bytes := 8, zero := [.nilFunc], parts := [] }
theorem ty107 : TyAt Try.prog 107 td107 := mkTy (.nilFunc) Try.underlying107 (by kernel_rfl) rfl rfl (fun fs h w => by cases h)
def td108 : TD := { d := (Go.TypeDesc.func #[34, 31] #[4] false), size := 1, bytes := 8, zero := [.nilFunc], parts := [] }
theorem ty108 : TyAt Try.prog 108 td108 := mkTy (.nilFunc) Try.underlying108 (by kernel_rfl) rfl rfl (fun fs h w => by cases h)
def td109 : TD := { d := (Go.TypeDesc.struct #[{ name := "Id", type := 22, offset := 0, embedded := false, tag := "", pkgPath := "", byteOffset := 0 }, { name := "Cost", type := 22, offset := 1, embedded := false, tag := "", pkgPath := "", byteOffset := 8 }, { name := "Source", type := 3, offset := 2, embedded := false, tag := "", pkgPath := "", byteOffset := 16 }, { name := "Vector", type := 24, offset := 3, embedded := false, tag := "", pkgPath := "", byteOffset := 24 }]), size := 7, bytes := 56, zero := [.int .u64 0, .int .u64 0, .int .i64 0, .int .u64 0, .int .u64 0, .int .u64 0, .int .u64 0], parts := [(0, 1), (1, 1), (2, 1), (3, 4)] }
theorem ty109 : TyAt Try.prog 109 td109 := mkTy (.agg ⟨[.int .u64 0, .int .u64 0, .int .i64 0, .int .u64 0, .int .u64 0, .int .u64 0, .int .u64 0]⟩) Try.underlying109 (by kernel_rfl) rfl rfl (fun fs h w => by cases h; kernel_rfl)
def td111 : TD := { d := (Go.TypeDesc.func #[33, 34] #[34, 3] false), size := 1, bytes := 8, zero := [.nilFunc], parts := [] }
theorem ty111 : TyAt Try.prog 111 td111 := mkTy (.nilFunc) Try.underlying111 (by kernel_rfl) rfl rfl (fun fs h w => by cases h)
def td112 : TD := { d := (Go.TypeDesc.func #[] #[28] false), size := 1, bytes := 8, zero := [.nilFunc], parts := [] }
theorem ty112 : TyAt Try.prog 112 td112 := mkTy (.nilFunc) Try.underlying112 (by kernel_rfl) rfl rfl (fun fs h w => by cases h)
def td113 : TD := { d := (Go.TypeDesc.func #[131] #[] true), size := 1, bytes := 8, zero := [.nilFunc], parts := [] }
theorem ty113 : TyAt Try.prog 113 td113 := mkTy (.nilFunc) Try.underlying113 (by kernel_rfl) rfl rfl (fun fs h w => by cases h)
def td114 : TD := { d := (Go.TypeDesc.pointer 4), size := 1, bytes := 8, zero := [.pointer none], parts := [] }
theorem ty114 : TyAt Try.prog 114 td114 := mkTy (.pointer none) Try.underlying114 (by kernel_rfl) rfl rfl (fun fs h w => by cases h)
def td115 : TD := { d := (Go.TypeDesc.func #[28, 4] #[3] false), size := 1, bytes := 8, zero := [.nilFunc], parts := [] }
theorem ty115 : TyAt Try.prog 115 td115 := mkTy (.nilFunc) Try.underlying115 (by kernel_rfl) rfl rfl (fun fs h w => by cases h)
def td116 : TD := { d := (Go.TypeDesc.func #[24, 24] #[4] false), size := 1, bytes := 8, zero := [.nilFunc], parts := [] }
theorem ty116 : TyAt Try.prog 116 td116 := mkTy (.nilFunc) Try.underlying116 (by kernel_rfl) rfl rfl (fun fs h w => by cases h)
def td117 : TD := { d := (Go.TypeDesc.func #[24, 24] #[3] false), size := 1, bytes := 8, zero := [.nilFunc], parts := [] }
theorem ty117 : TyAt Try.prog 117 td117 := mkTy (.nilFunc) Try.underlying117 (by kernel_rfl) rfl rfl (fun fs h w => by cases h)
def td118 : TD := { d := (Go.TypeDesc.func #[3] #[4] false), size := 1, bytes := 8, zero := [.nilFunc], parts := [] }
theorem ty118 : TyAt Try.prog 118 td118 := mkTy (.nilFunc) Try.underlying118 (by kernel_rfl) rfl rfl (fun fs h w => by cases h)
def td119 : TD := { d := (Go.TypeDesc.func #[98] #[4] false), size := 1, bytes := 8, zero := [.nilFunc], parts := [] }
theorem ty119 : TyAt Try.prog 119 td119 := mkTy (.nilFunc) Try.underlying119 (by kernel_rfl) rfl rfl (fun fs h w => by cases h)
def td121 : TD := { d := (Go.TypeDesc.func #[22, 98] #[24, 3] false), size := 1, bytes := 8, zero := [.nilFunc], parts := [] }
theorem ty121 : TyAt Try.prog 121 td121 := mkTy (.nilFunc) Try.underlying121 (by kernel_rfl) rfl rfl (fun fs h w => by cases h)
def td122 : TD := { d := (Go.TypeDesc.func #[24, 22] #[4] false), size := 1, bytes := 8, zero := [.nilFunc], parts := [] }
theorem ty122 : TyAt Try.prog 122 td122 := mkTy (.nilFunc) Try.underlying122 (by kernel_rfl) rfl rfl (fun fs h w => by cases h)
def td123 : TD := { d := (Go.TypeDesc.func #[34, 31] #[3] false), size := 1, bytes := 8, zero := [.nilFunc], parts := [] }
theorem ty123 : TyAt Try.prog 123 td123 := mkTy (.nilFunc) Try.underlying123 (by kernel_rfl) rfl rfl (fun fs h w => by cases h)
def td124 : TD := { d := (Go.TypeDesc.pointer 126), size := 1, bytes := 8, zero := [.pointer none], parts := [] }
theorem ty124 : TyAt Try.prog 124 td124 := mkTy (.pointer none) Try.underlying124 (by kernel_rfl) rfl rfl (fun fs h w => by cases h)
def td125 : TD := { d := (Go.TypeDesc.struct #[{ name := "t", type := 26, offset := 0, embedded := false, tag := "", pkgPath := "treebridge/trans", byteOffset := 0 }, { name := "l", type := 34, offset := 4, embedded := false, tag := "", pkgPath := "treebridge/trans", byteOffset := 32 }, { name := "at", type := 3, offset := 5, embedded := false, tag := "", pkgPath := "treebridge/trans", byteOffset := 56 }, { name := "p", type := 76, offset := 6, embedded := false, tag := "", pkgPath := "treebridge/trans", byteOffset := 64 }]), size := 7, bytes := 72, zero := [.int .i64 0, .int .i64 0, .int .i64 0, .int .i64 0, .slice none 0 0, .int .i64 0, .pointer none], parts := [(0, 4), (4, 1), (5, 1), (6, 1)] }
theorem ty125 : TyAt Try.prog 125 td125 := mkTy (.agg ⟨[.int .i64 0, .int .i64 0, .int .i64 0, .int .i64 0, .slice none 0 0, .int .i64 0, .pointer none]⟩) Try.underlying125 (by kernel_rfl) rfl rfl (fun fs h w => by cases h; kernel_rfl)
def td126 : TD := { d := (Go.TypeDesc.struct #[{ name := "t", type := 26, offset := 0, embedded := false, tag := "", pkgPath := "treebridge/trans", byteOffset := 0 }, { name := "l", type := 34, offset := 4, embedded := false, tag := "", pkgPath := "treebridge/trans", byteOffset := 32 }, { name := "at", type := 3, offset := 5, embedded := false, tag := "", pkgPath := "treebridge/trans", byteOffset := 56 }, { name := "p", type := 76, offset := 6, embedded := false, tag := "", pkgPath := "treebridge/trans", byteOffset := 64 }]), size := 7, bytes := 72, zero := [.int .i64 0, .int .i64 0, .int .i64 0, .int .i64 0, .slice none 0 0, .int .i64 0, .pointer none], parts := [(0, 4), (4, 1), (5, 1), (6, 1)] }
theorem ty126 : TyAt Try.prog 126 td126 := mkTy (.agg ⟨[.int .i64 0, .int .i64 0, .int .i64 0, .int .i64 0, .slice none 0 0, .int .i64 0, .pointer none]⟩) Try.underlying126 (by kernel_rfl) rfl rfl (fun fs h w => by cases h; kernel_rfl)
def td127 : TD := { d := (Go.TypeDesc.slice 130), size := 1, bytes := 24, zero := [.slice none 0 0], parts := [] }
theorem ty127 : TyAt Try.prog 127 td127 := mkTy (.slice none 0 0) Try.underlying127 (by kernel_rfl) rfl rfl (fun fs h w => by cases h)
def td128 : TD := { d := (Go.TypeDesc.func #[] #[127] false), size := 1, bytes := 8, zero := [.nilFunc], parts := [] }
theorem ty128 : TyAt Try.prog 128 td128 := mkTy (.nilFunc) Try.underlying128 (by kernel_rfl) rfl rfl (fun fs h w => by cases h)
def td129 : TD := { d := (Go.TypeDesc.struct #[{ name := "when", type := 29, offset := 0, embedded := false, tag := "", pkgPath := "treebridge/trans", byteOffset := 0 }, { name := "does", type := 1, offset := 1, embedded := false, tag := "", pkgPath := "treebridge/trans", byteOffset := 8 }]), size := 2, bytes := 16, zero := [.nilFunc, .nilFunc], parts := [(0, 1), (1, 1)] }
theorem ty129 : TyAt Try.prog 129 td129 := mkTy (.agg ⟨[.nilFunc, .nilFunc]⟩) Try.underlying129 (by kernel_rfl) rfl rfl (fun fs h w => by cases h; kernel_rfl)
def td130 : TD := { d := (Go.TypeDesc.struct #[{ name := "when", type := 29, offset := 0, embedded := false, tag := "", pkgPath := "treebridge/trans", byteOffset := 0 }, { name := "does", type := 1, offset := 1, embedded := false, tag := "", pkgPath := "treebridge/trans", byteOffset := 8 }]), size := 2, bytes := 16, zero := [.nilFunc, .nilFunc], parts := [(0, 1), (1, 1)] }
theorem ty130 : TyAt Try.prog 130 td130 := mkTy (.agg ⟨[.nilFunc, .nilFunc]⟩) Try.underlying130 (by kernel_rfl) rfl rfl (fun fs h w => by cases h; kernel_rfl)
def td131 : TD := { d := (Go.TypeDesc.slice 114), size := 1, bytes := 24, zero := [.slice none 0 0], parts := [] }
theorem ty131 : TyAt Try.prog 131 td131 := mkTy (.slice none 0 0) Try.underlying131 (by kernel_rfl) rfl rfl (fun fs h w => by cases h)
def td132 : TD := { d := (Go.TypeDesc.func #[4, 3] #[] false), size := 1, bytes := 8, zero := [.nilFunc], parts := [] }
theorem ty132 : TyAt Try.prog 132 td132 := mkTy (.nilFunc) Try.underlying132 (by kernel_rfl) rfl rfl (fun fs h w => by cases h)
def td133 : TD := { d := (Go.TypeDesc.array 5 3), size := 5, bytes := 40, zero := [.int .i64 0, .int .i64 0, .int .i64 0, .int .i64 0, .int .i64 0], parts := [] }
theorem ty133 : TyAt Try.prog 133 td133 := mkTy (.agg ⟨[.int .i64 0, .int .i64 0, .int .i64 0, .int .i64 0, .int .i64 0]⟩) Try.underlying133 (by kernel_rfl) rfl rfl (fun fs h w => by cases h)
def td134 : TD := { d := (Go.TypeDesc.struct #[{ name := "bridge", type := 22, offset := 0, embedded := false, tag := "", pkgPath := "treebridge/vector", byteOffset := 0 }, { name := "port", type := 22, offset := 1, embedded := false, tag := "", pkgPath := "treebridge/vector", byteOffset := 8 }]), size := 2, bytes := 16, zero := [.int .u64 0, .int .u64 0], parts := [(0, 1), (1, 1)] }
theorem ty134 : TyAt Try.prog 134 td134 := mkTy (.agg ⟨[.int .u64 0, .int .u64 0]⟩) Try.underlying134 (by kernel_rfl) rfl rfl (fun fs h w => by cases h; kernel_rfl)
def td135 : TD := { d := (Go.TypeDesc.struct #[{ name := "bridge", type := 22, offset := 0, embedded := false, tag := "", pkgPath := "treebridge/vector", byteOffset := 0 }, { name := "port", type := 22, offset := 1, embedded := false, tag := "", pkgPath := "treebridge/vector", byteOffset := 8 }]), size := 2, bytes := 16, zero := [.int .u64 0, .int .u64 0], parts := [(0, 1), (1, 1)] }
theorem ty135 : TyAt Try.prog 135 td135 := mkTy (.agg ⟨[.int .u64 0, .int .u64 0]⟩) Try.underlying135 (by kernel_rfl) rfl rfl (fun fs h w => by cases h; kernel_rfl)
def td136 : TD := { d := (Go.TypeDesc.func #[24] #[135] false), size := 1, bytes := 8, zero := [.nilFunc], parts := [] }
theorem ty136 : TyAt Try.prog 136 td136 := mkTy (.nilFunc) Try.underlying136 (by kernel_rfl) rfl rfl (fun fs h w => by cases h)
def td137 : TD := { d := (Go.TypeDesc.array 4 22), size := 4, bytes := 32, zero := [.int .u64 0, .int .u64 0, .int .u64 0, .int .u64 0], parts := [] }
theorem ty137 : TyAt Try.prog 137 td137 := mkTy (.agg ⟨[.int .u64 0, .int .u64 0, .int .u64 0, .int .u64 0]⟩) Try.underlying137 (by kernel_rfl) rfl rfl (fun fs h w => by cases h)
def td138 : TD := { d := (Go.TypeDesc.func #[24] #[137] false), size := 1, bytes := 8, zero := [.nilFunc], parts := [] }
theorem ty138 : TyAt Try.prog 138 td138 := mkTy (.nilFunc) Try.underlying138 (by kernel_rfl) rfl rfl (fun fs h w => by cases h)
def td139 : TD := { d := (Go.TypeDesc.func #[56, 56] #[3] false), size := 1, bytes := 8, zero := [.nilFunc], parts := [] }
theorem ty139 : TyAt Try.prog 139 td139 := mkTy (.nilFunc) Try.underlying139 (by kernel_rfl) rfl rfl (fun fs h w => by cases h)
def td140 : TD := { d := (Go.TypeDesc.map 22 4), size := 1, bytes := 8, zero := [.map none], parts := [] }
theorem ty140 : TyAt Try.prog 140 td140 := mkTy (.map none) Try.underlying140 (by kernel_rfl) rfl rfl (fun fs h w => by cases h)
def td141 : TD := { d := (Go.TypeDesc.func #[22] #[24] false), size := 1, bytes := 8, zero := [.nilFunc], parts := [] }
theorem ty141 : TyAt Try.prog 141 td141 := mkTy (.nilFunc) Try.underlying141 (by kernel_rfl) rfl rfl (fun fs h w => by cases h)
def td142 : TD := { d := (Go.TypeDesc.func #[3, 24] #[] false), size := 1, bytes := 8, zero := [.nilFunc], parts := [] }
theorem ty142 : TyAt Try.prog 142 td142 := mkTy (.nilFunc) Try.underlying142 (by kernel_rfl) rfl rfl (fun fs h w => by cases h)
def td143 : TD := { d := (Go.TypeDesc.func #[24, 22] #[24] false), size := 1, bytes := 8, zero := [.nilFunc], parts := [] }
theorem ty143 : TyAt Try.prog 143 td143 := mkTy (.nilFunc) Try.underlying143 (by kernel_rfl) rfl rfl (fun fs h w => by cases h)
def td144 : TD := { d := (Go.TypeDesc.func #[22, 22] #[3] false), size := 1, bytes := 8, zero := [.nilFunc], parts := [] }
theorem ty144 : TyAt Try.prog 144 td144 := mkTy (.nilFunc) Try.underlying144 (by kernel_rfl) rfl rfl (fun fs h w => by cases h)
def td145 : TD := { d := (Go.TypeDesc.func #[29, 1] #[127] false), size := 1, bytes := 8, zero := [.nilFunc], parts := [] }
theorem ty145 : TyAt Try.prog 145 td145 := mkTy (.nilFunc) Try.underlying145 (by kernel_rfl) rfl rfl (fun fs h w => by cases h)
def td146 : TD := { d := (Go.TypeDesc.func #[22] #[4] false), size := 1, bytes := 8, zero := [.nilFunc], parts := [] }
theorem ty146 : TyAt Try.prog 146 td146 := mkTy (.nilFunc) Try.underlying146 (by kernel_rfl) rfl rfl (fun fs h w => by cases h)
def td147 : TD := { d := (Go.TypeDesc.func #[31] #[4] false), size := 1, bytes := 8, zero := [.nilFunc], parts := [] }
theorem ty147 : TyAt Try.prog 147 td147 := mkTy (.nilFunc) Try.underlying147 (by kernel_rfl) rfl rfl (fun fs h w => by cases h)
def td148 : TD := { d := (Go.TypeDesc.func #[] #[9] false), size := 1, bytes := 8, zero := [.nilFunc], parts := [] }
theorem ty148 : TyAt Try.prog 148 td148 := mkTy (.nilFunc) Try.underlying148 (by kernel_rfl) rfl rfl (fun fs h w => by cases h)
def td151 : TD := { d := (Go.TypeDesc.array 0 16), size := 0, bytes := 0, zero := [], parts := [] }
theorem ty151 : TyAt Try.prog 151 td151 := mkTy (.agg ⟨[]⟩) Try.underlying151 (by kernel_rfl) rfl rfl (fun fs h w => by cases h)
def td152 : TD := { d := (Go.TypeDesc.struct #[{ name := "_", type := 151, offset := 0, embedded := false, tag := "", pkgPath := "runtime", byteOffset := 0 }]), size := 0, bytes := 0, zero := [], parts := [(0, 0)] }
theorem ty152 : TyAt Try.prog 152 td152 := mkTy (.agg ⟨[]⟩) Try.underlying152 (by kernel_rfl) rfl rfl (fun fs h w => by cases h; kernel_rfl)
def td153 : TD := { d := (Go.TypeDesc.struct #[{ name := "_", type := 151, offset := 0, embedded := false, tag := "", pkgPath := "runtime", byteOffset := 0 }]), size := 0, bytes := 0, zero := [], parts := [(0, 0)] }
theorem ty153 : TyAt Try.prog 153 td153 := mkTy (.agg ⟨[]⟩) Try.underlying153 (by kernel_rfl) rfl rfl (fun fs h w => by cases h; kernel_rfl)
def td154 : TD := { d := (Go.TypeDesc.func #[] #[3] false), size := 1, bytes := 8, zero := [.nilFunc], parts := [] }
theorem ty154 : TyAt Try.prog 154 td154 := mkTy (.nilFunc) Try.underlying154 (by kernel_rfl) rfl rfl (fun fs h w => by cases h)
def td155 : TD := { d := (Go.TypeDesc.int Go.IntKind.u32), size := 1, bytes := 4, zero := [.int .u32 0], parts := [] }
theorem ty155 : TyAt Try.prog 155 td155 := mkTy (.int .u32 0) Try.underlying155 (by kernel_rfl) rfl rfl (fun fs h w => by cases h)
def td156 : TD := { d := (Go.TypeDesc.int Go.IntKind.u8), size := 1, bytes := 1, zero := [.int .u8 0], parts := [] }
theorem ty156 : TyAt Try.prog 156 td156 := mkTy (.int .u8 0) Try.underlying156 (by kernel_rfl) rfl rfl (fun fs h w => by cases h)
def td157 : TD := { d := (Go.TypeDesc.int Go.IntKind.u8), size := 1, bytes := 1, zero := [.int .u8 0], parts := [] }
theorem ty157 : TyAt Try.prog 157 td157 := mkTy (.int .u8 0) Try.underlying157 (by kernel_rfl) rfl rfl (fun fs h w => by cases h)
def td158 : TD := { d := (Go.TypeDesc.func #[164, 164] #[4] false), size := 1, bytes := 8, zero := [.nilFunc], parts := [] }
theorem ty158 : TyAt Try.prog 158 td158 := mkTy (.nilFunc) Try.underlying158 (by kernel_rfl) rfl rfl (fun fs h w => by cases h)
def td159 : TD := { d := (Go.TypeDesc.pointer 5), size := 1, bytes := 8, zero := [.pointer none], parts := [] }
theorem ty159 : TyAt Try.prog 159 td159 := mkTy (.pointer none) Try.underlying159 (by kernel_rfl) rfl rfl (fun fs h w => by cases h)
def td160 : TD := { d := (Go.TypeDesc.int Go.IntKind.i32), size := 1, bytes := 4, zero := [.int .i32 0], parts := [] }
theorem ty160 : TyAt Try.prog 160 td160 := mkTy (.int .i32 0) Try.underlying160 (by kernel_rfl) rfl rfl (fun fs h w => by cases h)
def td161 : TD := { d := (Go.TypeDesc.int Go.IntKind.i32), size := 1, bytes := 4, zero := [.int .i32 0], parts := [] }
theorem ty161 : TyAt Try.prog 161 td161 := mkTy (.int .i32 0) Try.underlying161 (by kernel_rfl) rfl rfl (fun fs h w => by cases h)
theorem eqt22 : EqT Try.prog 1 22 false [.int .u64] := EqT.int ty22.1 (by kernel_rfl)
theorem eqt24 : EqT Try.prog 2 24 true [.int .u64, .int .u64, .int .u64, .int .u64] := by
  refine EqT.struct ty24.1 (by kernel_rfl) (by kernel_rfl) ?_
  refine EqFs.cons' (eqt22) (by decide) rfl rfl ?_
  refine EqFs.cons' (eqt22) (by decide) rfl rfl ?_
  refine EqFs.cons' (eqt22) (by decide) rfl rfl ?_
  refine EqFs.cons' (eqt22) (by decide) rfl rfl ?_
  exact .nil
theorem eqS24 : EqTy Try.prog 24 [.int .u64, .int .u64, .int .u64, .int .u64] := EqTy.mk eqt24 (by kernel_rfl) (Nat.le_of_ble_eq_true rfl)
theorem eqt3 : EqT Try.prog 1 3 false [.int .i64] := EqT.int ty3.1 (by kernel_rfl)
theorem eqt26 : EqT Try.prog 2 26 true [.int .i64, .int .i64, .int .i64, .int .i64] := by
  refine EqT.struct ty26.1 (by kernel_rfl) (by kernel_rfl) ?_
  refine EqFs.cons' (eqt3) (by decide) rfl rfl ?_
  refine EqFs.cons' (eqt3) (by decide) rfl rfl ?_
  refine EqFs.cons' (eqt3) (by decide) rfl rfl ?_
  refine EqFs.cons' (eqt3) (by decide) rfl rfl ?_
  exact .nil
theorem eqS26 : EqTy Try.prog 26 [.int .i64, .int .i64, .int .i64, .int .i64] := EqTy.mk eqt26 (by kernel_rfl) (Nat.le_of_ble_eq_true rfl)
theorem eqt4 : EqT Try.prog 1 4 false [.bool] := EqT.bool ty4.1 (by kernel_rfl)
theorem eqt28 : EqT Try.prog 3 28 true [.int .u64, .int .u64, .bool, .bool, .bool, .int .i64, .int .u64, .int .u64, .int .u64, .int .u64, .int .i64, .int .i64, .int .i64, .int .i64, .int .u64, .int .u64, .int .u64, .int .u64, .int .i64, .int .i64, .int .i64, .int .i64, .int .i64, .int .i64, .bool, .bool, .bool, .bool, .bool, .bool, .bool, .bool, .bool, .bool, .bool, .bool, .bool, .bool, .bool, .bool, .bool, .bool, .bool, .bool, .bool, .bool, .bool, .bool, .bool, .bool, .int .i64, .int .i64, .int .i64, .int .i64, .int .i64, .int .i64, .int .i64, .int .i64, .int .i64, .int .i64, .int .i64] := by
  refine EqT.struct ty28.1 (by kernel_rfl) (by kernel_rfl) ?_
  refine EqFs.cons' (eqt22.more (by decide)) (by decide) rfl rfl ?_
  refine EqFs.cons' (eqt22.more (by decide)) (by decide) rfl rfl ?_
  refine EqFs.cons' (eqt4.more (by decide)) (by decide) rfl rfl ?_
  refine EqFs.cons' (eqt4.more (by decide)) (by decide) rfl rfl ?_
  refine EqFs.cons' (eqt4.more (by decide)) (by decide) rfl rfl ?_
  refine EqFs.cons' (eqt3.more (by decide)) (by decide) rfl rfl ?_
  refine EqFs.cons' (eqt24) (by decide) rfl rfl ?_
  refine EqFs.cons' (eqt26) (by decide) rfl rfl ?_
  refine EqFs.cons' (eqt24) (by decide) rfl rfl ?_
  refine EqFs.cons' (eqt26) (by decide) rfl rfl ?_
  refine EqFs.cons' (eqt3.more (by decide)) (by decide) rfl rfl ?_
  refine EqFs.cons' (eqt3.more (by decide)) (by decide) rfl rfl ?_
  refine EqFs.cons' (eqt4.more (by decide)) (by decide) rfl rfl ?_
  refine EqFs.cons' (eqt4.more (by decide)) (by decide) rfl rfl ?_
  refine EqFs.cons' (eqt4.more (by decide)) (by decide) rfl rfl ?_
  refine EqFs.cons' (eqt4.more (by decide)) (by decide) rfl rfl ?_
  refine EqFs.cons' (eqt4.more (by decide)) (by decide) rfl rfl ?_
  refine EqFs.cons' (eqt4.more (by decide)) (by decide) rfl rfl ?_
  refine EqFs.cons' (eqt4.more (by decide)) (by decide) rfl rfl ?_
  refine EqFs.cons' (eqt4.more (by decide)) (by decide) rfl rfl ?_
  refine EqFs.cons' (eqt4.more (by decide)) (by decide) rfl rfl ?_
  refine EqFs.cons' (eqt4.more (by decide)) (by decide) rfl rfl ?_
  refine EqFs.cons' (eqt4.more (by decide)) (by decide) rfl rfl ?_
  refine EqFs.cons' (eqt4.more (by decide)) (by decide) rfl rfl ?_
  refine EqFs.cons' (eqt4.more (by decide)) (by decide) rfl rfl ?_
  refine EqFs.cons' (eqt4.more (by decide)) (by decide) rfl rfl ?_
  refine EqFs.cons' (eqt4.more (by decide)) (by decide) rfl rfl ?_
  refine EqFs.cons' (eqt4.more (by decide)) (by decide) rfl rfl ?_
  refine EqFs.cons' (eqt4.more (by decide)) (by decide) rfl rfl ?_
  refine EqFs.cons' (eqt4.more (by decide)) (by decide) rfl rfl ?_
  refine EqFs.cons' (eqt4.more (by decide)) (by decide) rfl rfl ?_
  refine EqFs.cons' (eqt4.more (by decide)) (by decide) rfl rfl ?_
  refine EqFs.cons' (eqt4.more (by decide)) (by decide) rfl rfl ?_
  refine EqFs.cons' (eqt4.more (by decide)) (by decide) rfl rfl ?_
  refine EqFs.cons' (eqt4.more (by decide)) (by decide) rfl rfl ?_
  refine EqFs.cons' (eqt4.more (by decide)) (by decide) rfl rfl ?_
  refine EqFs.cons' (eqt4.more (by decide)) (by decide) rfl rfl ?_
  refine EqFs.cons' (eqt4.more (by decide)) (by decide) rfl rfl ?_
  refine EqFs.cons' (eqt3.more (by decide)) (by decide) rfl rfl ?_
  refine EqFs.cons' (eqt3.more (by decide)) (by decide) rfl rfl ?_
  refine EqFs.cons' (eqt3.more (by decide)) (by decide) rfl rfl ?_
  refine EqFs.cons' (eqt3.more (by decide)) (by decide) rfl rfl ?_
  refine EqFs.cons' (eqt3.more (by decide)) (by decide) rfl rfl ?_
  refine EqFs.cons' (eqt3.more (by decide)) (by decide) rfl rfl ?_
  refine EqFs.cons' (eqt3.more (by decide)) (by decide) rfl rfl ?_
  refine EqFs.cons' (eqt3.more (by decide)) (by decide) rfl rfl ?_
  refine EqFs.cons' (eqt3.more (by decide)) (by decide) rfl rfl ?_
  refine EqFs.cons' (eqt3.more (by decide)) (by decide) rfl rfl ?_
  refine EqFs.cons' (eqt3.more (by decide)) (by decide) rfl rfl ?_
  exact .nil
theorem eqS28 : EqTy Try.prog 28 [.int .u64, .int .u64, .bool, .bool, .bool, .int .i64, .int .u64, .int .u64, .int .u64, .int .u64, .int .i64, .int .i64, .int .i64, .int .i64, .int .u64, .int .u64, .int .u64, .int .u64, .int .i64, .int .i64, .int .i64, .int .i64, .int .i64, .int .i64, .bool, .bool, .bool, .bool, .bool, .bool, .bool, .bool, .bool, .bool, .bool, .bool, .bool, .bool, .bool, .bool, .bool, .bool, .bool, .bool, .bool, .bool, .bool, .bool, .bool, .bool, .int .i64, .int .i64, .int .i64, .int .i64, .int .i64, .int .i64, .int .i64, .int .i64, .int .i64, .int .i64, .int .i64] := EqTy.mk eqt28 (by kernel_rfl) (Nat.le_of_ble_eq_true rfl)
theorem eqt33 : EqT Try.prog 3 33 true [.int .u64, .int .i64, .int .i64, .int .i64, .int .i64] := by
  refine EqT.struct ty33.1 (by kernel_rfl) (by kernel_rfl) ?_
  refine EqFs.cons' (eqt22.more (by decide)) (by decide) rfl rfl ?_
  refine EqFs.cons' (eqt26) (by decide) rfl rfl ?_
  exact .nil
theorem eqS33 : EqTy Try.prog 33 [.int .u64, .int .i64, .int .i64, .int .i64, .int .i64] := EqTy.mk eqt33 (by kernel_rfl) (Nat.le_of_ble_eq_true rfl)
theorem eqt40 : EqT Try.prog 3 40 true [.int .i64, .int .i64, .int .u64, .int .u64, .int .u64, .int .u64, .int .i64, .int .i64, .int .i64, .int .i64] := by
  refine EqT.struct ty40.1 (by kernel_rfl) (by kernel_rfl) ?_
  refine EqFs.cons' (eqt3.more (by decide)) (by decide) rfl rfl ?_
  refine EqFs.cons' (eqt3.more (by decide)) (by decide) rfl rfl ?_
  refine EqFs.cons' (eqt24) (by decide) rfl rfl ?_
  refine EqFs.cons' (eqt3.more (by decide)) (by decide) rfl rfl ?_
  refine EqFs.cons' (eqt3.more (by decide)) (by decide) rfl rfl ?_
  refine EqFs.cons' (eqt3.more (by decide)) (by decide) rfl rfl ?_
  refine EqFs.cons' (eqt3.more (by decide)) (by decide) rfl rfl ?_
  exact .nil
theorem eqS40 : EqTy Try.prog 40 [.int .i64, .int .i64, .int .u64, .int .u64, .int .u64, .int .u64, .int .i64, .int .i64, .int .i64, .int .i64] := EqTy.mk eqt40 (by kernel_rfl) (Nat.le_of_ble_eq_true rfl)
theorem eqt46 : EqT Try.prog 2 46 true [.int .i64, .int .i64, .int .i64, .int .i64] := by
  refine EqT.struct ty46.1 (by kernel_rfl) (by kernel_rfl) ?_
  refine EqFs.cons' (eqt3) (by decide) rfl rfl ?_
  refine EqFs.cons' (eqt3) (by decide) rfl rfl ?_
  refine EqFs.cons' (eqt3) (by decide) rfl rfl ?_
  refine EqFs.cons' (eqt3) (by decide) rfl rfl ?_
  exact .nil
theorem eqS46 : EqTy Try.prog 46 [.int .i64, .int .i64, .int .i64, .int .i64] := EqTy.mk eqt46 (by kernel_rfl) (Nat.le_of_ble_eq_true rfl)
theorem eqt48 : EqT Try.prog 3 48 true [.int .u64, .int .i64, .int .i64, .int .i64, .int .i64] := by
  refine EqT.struct ty48.1 (by kernel_rfl) (by kernel_rfl) ?_
  refine EqFs.cons' (eqt22.more (by decide)) (by decide) rfl rfl ?_
  refine EqFs.cons' (eqt46) (by decide) rfl rfl ?_
  exact .nil
theorem eqS48 : EqTy Try.prog 48 [.int .u64, .int .i64, .int .i64, .int .i64, .int .i64] := EqTy.mk eqt48 (by kernel_rfl) (Nat.le_of_ble_eq_true rfl)
theorem eqt60 : EqT Try.prog 3 60 true [.int .u64, .int .u64, .bool, .bool, .bool, .int .i64, .int .u64, .int .u64, .int .u64, .int .u64, .int .i64, .int .i64, .int .i64, .int .i64, .int .u64, .int .u64, .int .u64, .int .u64, .int .i64, .int .i64, .int .i64, .int .i64, .int .i64, .int .i64, .bool, .bool, .bool, .bool, .bool, .bool, .bool, .bool, .bool, .bool, .bool, .bool, .bool, .bool, .bool, .bool, .bool, .bool, .bool, .bool, .bool, .bool, .bool, .bool, .bool, .bool, .int .i64, .int .i64, .int .i64, .int .i64, .int .i64, .int .i64, .int .i64, .int .i64, .int .i64, .int .i64, .int .i64] := by
  refine EqT.struct ty60.1 (by kernel_rfl) (by kernel_rfl) ?_
  refine EqFs.cons' (eqt22.more (by decide)) (by decide) rfl rfl ?_
  refine EqFs.cons' (eqt22.more (by decide)) (by decide) rfl rfl ?_
  refine EqFs.cons' (eqt4.more (by decide)) (by decide) rfl rfl ?_
  refine EqFs.cons' (eqt4.more (by decide)) (by decide) rfl rfl ?_
  refine EqFs.cons' (eqt4.more (by decide)) (by decide) rfl rfl ?_
  refine EqFs.cons' (eqt3.more (by decide)) (by decide) rfl rfl ?_
  refine EqFs.cons' (eqt24) (by decide) rfl rfl ?_
  refine EqFs.cons' (eqt46) (by decide) rfl rfl ?_
  refine EqFs.cons' (eqt24) (by decide) rfl rfl ?_
  refine EqFs.cons' (eqt46) (by decide) rfl rfl ?_
  refine EqFs.cons' (eqt3.more (by decide)) (by decide) rfl rfl ?_
  refine EqFs.cons' (eqt3.more (by decide)) (by decide) rfl rfl ?_
  refine EqFs.cons' (eqt4.more (by decide)) (by decide) rfl rfl ?_
  refine EqFs.cons' (eqt4.more (by decide)) (by decide) rfl rfl ?_
  refine EqFs.cons' (eqt4.more (by decide)) (by decide) rfl rfl ?_
  refine EqFs.cons' (eqt4.more (by decide)) (by decide) rfl rfl ?_
  refine EqFs.cons' (eqt4.more (by decide)) (by decide) rfl rfl ?_
  refine EqFs.cons' (eqt4.more (by decide)) (by decide) rfl rfl ?_
  refine EqFs.cons' (eqt4.more (by decide)) (by decide) rfl rfl ?_
  refine EqFs.cons' (eqt4.more (by decide)) (by decide) rfl rfl ?_
  refine EqFs.cons' (eqt4.more (by decide)) (by decide) rfl rfl ?_
  refine EqFs.cons' (eqt4.more (by decide)) (by decide) rfl rfl ?_
  refine EqFs.cons' (eqt4.more (by decide)) (by decide) rfl rfl ?_
  refine EqFs.cons' (eqt4.more (by decide)) (by decide) rfl rfl ?_
  refine EqFs.cons' (eqt4.more (by decide)) (by decide) rfl rfl ?_
  refine EqFs.cons' (eqt4.more (by decide)) (by decide) rfl rfl ?_
  refine EqFs.cons' (eqt4.more (by decide)) (by decide) rfl rfl ?_
  refine EqFs.cons' (eqt4.more (by decide)) (by decide) rfl rfl ?_
  refine EqFs.cons' (eqt4.more (by decide)) (by decide) rfl rfl ?_
  refine EqFs.cons' (eqt4.more (by decide)) (by decide) rfl rfl ?_
  refine EqFs.cons' (eqt4.more (by decide)) (by decide) rfl rfl ?_
  refine EqFs.cons' (eqt4.more (by decide)) (by decide) rfl rfl ?_
  refine EqFs.cons' (eqt4.more (by decide)) (by decide) rfl rfl ?_
  refine EqFs.cons' (eqt4.more (by decide)) (by decide) rfl rfl ?_
  refine EqFs.cons' (eqt4.more (by decide)) (by decide) rfl rfl ?_
  refine EqFs.cons' (eqt4.more (by decide)) (by decide) rfl rfl ?_
  refine EqFs.cons' (eqt4.more (by decide)) (by decide) rfl rfl ?_
  refine EqFs.cons' (eqt4.more (by decide)) (by decide) rfl rfl ?_
  refine EqFs.cons' (eqt3.more (by decide)) (by decide) rfl rfl ?_
  refine EqFs.cons' (eqt3.more (by decide)) (by decide) rfl rfl ?_
  refine EqFs.cons' (eqt3.more (by decide)) (by decide) rfl rfl ?_
  refine EqFs.cons' (eqt3.more (by decide)) (by decide) rfl rfl ?_
  refine EqFs.cons' (eqt3.more (by decide)) (by decide) rfl rfl ?_
  refine EqFs.cons' (eqt3.more (by decide)) (by decide) rfl rfl ?_
  refine EqFs.cons' (eqt3.more (by decide)) (by decide) rfl rfl ?_
  refine EqFs.cons' (eqt3.more (by decide)) (by decide) rfl rfl ?_
  refine EqFs.cons' (eqt3.more (by decide)) (by decide) rfl rfl ?_
  refine EqFs.cons' (eqt3.more (by decide)) (by decide) rfl rfl ?_
  refine EqFs.cons' (eqt3.more (by decide)) (by decide) rfl rfl ?_
  exact .nil
theorem eqS60 : EqTy Try.prog 60 [.int .u64, .int .u64, .bool, .bool, .bool, .int .i64, .int .u64, .int .u64, .int .u64, .int .u64, .int .i64, .int .i64, .int .i64, .int .i64, .int .u64, .int .u64, .int .u64, .int .u64, .int .i64, .int .i64, .int .i64, .int .i64, .int .i64, .int .i64, .bool, .bool, .bool, .bool, .bool, .bool, .bool, .bool, .bool, .bool, .bool, .bool, .bool, .bool, .bool, .bool, .bool, .bool, .bool, .bool, .bool, .bool, .bool, .bool, .bool, .bool, .int .i64, .int .i64, .int .i64, .int .i64, .int .i64, .int .i64, .int .i64, .int .i64, .int .i64, .int .i64, .int .i64] := EqTy.mk eqt60 (by kernel_rfl) (Nat.le_of_ble_eq_true rfl)
theorem eqt66 : EqT Try.prog 3 66 true [.int .i64, .int .i64, .int .u64, .int .u64, .int .u64, .int .u64, .int .i64, .int .i64, .int .i64, .int .i64] := by
  refine EqT.struct ty66.1 (by kernel_rfl) (by kernel_rfl) ?_
  refine EqFs.cons' (eqt3.more (by decide)) (by decide) rfl rfl ?_
  refine EqFs.cons' (eqt3.more (by decide)) (by decide) rfl rfl ?_
  refine EqFs.cons' (eqt24) (by decide) rfl rfl ?_
  refine EqFs.cons' (eqt3.more (by decide)) (by decide) rfl rfl ?_
  refine EqFs.cons' (eqt3.more (by decide)) (by decide) rfl rfl ?_
  refine EqFs.cons' (eqt3.more (by decide)) (by decide) rfl rfl ?_
  refine EqFs.cons' (eqt3.more (by decide)) (by decide) rfl rfl ?_
  exact .nil
theorem eqS66 : EqTy Try.prog 66 [.int .i64, .int .i64, .int .u64, .int .u64, .int .u64, .int .u64, .int .i64, .int .i64, .int .i64, .int .i64] := EqTy.mk eqt66 (by kernel_rfl) (Nat.le_of_ble_eq_true rfl)
theorem eqt100 : EqT Try.prog 3 100 true [.int .u64, .int .u64, .int .i64, .int .u64, .int .u64, .int .u64, .int .u64] := by
  refine EqT.struct ty100.1 (by kernel_rfl) (by kernel_rfl) ?_
  refine EqFs.cons' (eqt22.more (by decide)) (by decide) rfl rfl ?_
  refine EqFs.cons' (eqt22.more (by decide)) (by decide) rfl rfl ?_
  refine EqFs.cons' (eqt3.more (by decide)) (by decide) rfl rfl ?_
  refine EqFs.cons' (eqt24) (by decide) rfl rfl ?_
  exact .nil
theorem eqS100 : EqTy Try.prog 100 [.int .u64, .int .u64, .int .i64, .int .u64, .int .u64, .int .u64, .int .u64] := EqTy.mk eqt100 (by kernel_rfl) (Nat.le_of_ble_eq_true rfl)
theorem eqt109 : EqT Try.prog 3 109 true [.int .u64, .int .u64, .int .i64, .int .u64, .int .u64, .int .u64, .int .u64] := by
  refine EqT.struct ty109.1 (by kernel_rfl) (by kernel_rfl) ?_
  refine EqFs.cons' (eqt22.more (by decide)) (by decide) rfl rfl ?_
  refine EqFs.cons' (eqt22.more (by decide)) (by decide) rfl rfl ?_
  refine EqFs.cons' (eqt3.more (by decide)) (by decide) rfl rfl ?_
  refine EqFs.cons' (eqt24) (by decide) rfl rfl ?_
  exact .nil
theorem eqS109 : EqTy Try.prog 109 [.int .u64, .int .u64, .int .i64, .int .u64, .int .u64, .int .u64, .int .u64] := EqTy.mk eqt109 (by kernel_rfl) (Nat.le_of_ble_eq_true rfl)
theorem eqt135 : EqT Try.prog 2 135 true [.int .u64, .int .u64] := by
  refine EqT.struct ty135.1 (by kernel_rfl) (by kernel_rfl) ?_
  refine EqFs.cons' (eqt22) (by decide) rfl rfl ?_
  refine EqFs.cons' (eqt22) (by decide) rfl rfl ?_
  exact .nil
theorem eqS135 : EqTy Try.prog 135 [.int .u64, .int .u64] := EqTy.mk eqt135 (by kernel_rfl) (Nat.le_of_ble_eq_true rfl)
def tyL : List (Nat × TD) := [(3, td3), (4, td4), (9, td9), (5, td5), (1, td1), (2, td2), (6, td6), (7, td7), (8, td8), (10, td10), (11, td11), (12, td12), (13, td13), (14, td14), (15, td15), (16, td16), (17, td17), (18, td18), (19, td19), (21, td21), (22, td22), (23, td23), (24, td24), (25, td25), (26, td26), (27, td27), (28, td28), (29, td29), (30, td30), (31, td31), (32, td32), (33, td33), (34, td34), (35, td35), (37, td37), (38, td38), (39, td39), (40, td40), (42, td42), (43, td43), (44, td44), (45, td45), (46, td46), (47, td47), (48, td48), (49, td49), (51, td51), (52, td52), (53, td53), (54, td54), (55, td55), (56, td56), (58, td58), (59, td59), (60, td60), (61, td61), (62, td62), (63, td63), (64, td64), (65, td65), (66, td66), (67, td67), (68, td68), (69, td69), (70, td70), (71, td71), (72, td72), (73, td73), (74, td74), (75, td75), (76, td76), (77, td77), (78, td78), (79, td79), (80, td80), (81, td81), (82, td82), (83, td83), (84, td84), (86, td86), (87, td87), (88, td88), (89, td89), (90, td90), (91, td91), (92, td92), (93, td93), (94, td94), (95, td95), (96, td96), (97, td97), (98, td98), (99, td99), (100, td100), (101, td101), (102, td102), (103, td103), (104, td104), (105, td105), (107, td107), (108, td108), (109, td109), (111, td111), (112, td112), (113, td113), (114, td114), (115, td115), (116, td116), (117, td117), (118, td118), (119, td119), (121, td121), (122, td122), (123, td123), (124, td124), (125, td125), (126, td126), (127, td127), (128, td128), (129, td129), (130, td130), (131, td131), (132, td132), (133, td133), (134, td134), (135, td135), (136, td136), (137, td137), (138, td138), (139, td139), (140, td140), (141, td141), (142, td142), (143, td143), (144, td144), (145, td145), (146, td146), (147, td147), (148, td148), (151, td151), (152, td152), (153, td153), (154, td154), (155, td155), (156, td156), (157, td157), (158, td158), (159, td159), (160, td160), (161, td161)]
abbrev tyT : Nat → Option TD := lookTy tyL
theorem tyOk : TyOk Try.prog tyT := lookTy_ok (all_cons ty3 (all_cons ty4 (all_cons ty9 (all_cons ty5 (all_cons ty1 (all_cons ty2 (all_cons ty6 (all_cons ty7 (all_cons ty8 (all_cons ty10 (all_cons ty11 (all_cons ty12 (all_cons ty13 (all_cons ty14 (all_cons ty15 (all_cons ty16 (all_cons ty17 (all_cons ty18 (all_cons ty19 (all_cons ty21 (all_cons ty22 (all_cons ty23 (all_cons ty24 (all_cons ty25 (all_cons ty26 (all_cons ty27 (all_cons ty28 (all_cons ty29 (all_cons ty30 (all_cons ty31 (all_cons ty32 (all_cons ty33 (all_cons ty34 (all_cons ty35 (all_cons ty37 (all_cons ty38 (all_cons ty39 (all_cons ty40 (all_cons ty42 (all_cons ty43 (all_cons ty44 (all_cons ty45 (all_cons ty46 (all_cons ty47 (all_cons ty48 (all_cons ty49 (all_cons ty51 (all_cons ty52 (all_cons ty53 (all_cons ty54 (all_cons ty55 (all_cons ty56 (all_cons ty58 (all_cons ty59 (all_cons ty60 (all_cons ty61 (all_cons ty62 (all_cons ty63 (all_cons ty64 (all_cons ty65 (all_cons ty66 (all_cons ty67 (all_cons ty68 (all_cons ty69 (all_cons ty70 (all_cons ty71 (all_cons ty72 (all_cons ty73 (all_cons ty74 (all_cons ty75 (all_cons ty76 (all_cons ty77 (all_cons ty78 (all_cons ty79 (all_cons ty80 (all_cons ty81 (all_cons ty82 (all_cons ty83 (all_cons ty84 (all_cons ty86 (all_cons ty87 (all_cons ty88 (all_cons ty89 (all_cons ty90 (all_cons ty91 (all_cons ty92 (all_cons ty93 (all_cons ty94 (all_cons ty95 (all_cons ty96 (all_cons ty97 (all_cons ty98 (all_cons ty99 (all_cons ty100 (all_cons ty101 (all_cons ty102 (all_cons ty103 (all_cons ty104 (all_cons ty105 (all_cons ty107 (all_cons ty108 (all_cons ty109 (all_cons ty111 (all_cons ty112 (all_cons ty113 (all_cons ty114 (all_cons ty115 (all_cons ty116 (all_cons ty117 (all_cons ty118 (all_cons ty119 (all_cons ty121 (all_cons ty122 (all_cons ty123 (all_cons ty124 (all_cons ty125 (all_cons ty126 (all_cons ty127 (all_cons ty128 (all_cons ty129 (all_cons ty130 (all_cons ty131 (all_cons ty132 (all_cons ty133 (all_cons ty134 (all_cons ty135 (all_cons ty136 (all_cons ty137 (all_cons ty138 (all_cons ty139 (all_cons ty140 (all_cons ty141 (all_cons ty142 (all_cons ty143 (all_cons ty144 (all_cons ty145 (all_cons ty146 (all_cons ty147 (all_cons ty148 (all_cons ty151 (all_cons ty152 (all_cons ty153 (all_cons ty154 (all_cons ty155 (all_cons ty156 (all_cons ty157 (all_cons ty158 (all_cons ty159 (all_cons ty160 (all_cons ty161 (all_nil)))))))))))))))))))))))))))))))))))))))))))))))))))))))))))))))))))))))))))))))))))))))))))))))))))))))))))))))))))))))))))))))))))))))))))))))))))))))
theorem wide : Try.prog.follows .mixedOrders = true := by kernel_rfl
end Go.Proofs.Ytmgoahmbdpoikaa.Am
