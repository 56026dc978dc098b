/- The structs of the program, as plain ones. -/
import Derived.Test.YtgjdmlgdgbehoaaTy
import Derived.Test.YtgjdmlgdgbehoaaAm18
set_option linter.unusedVariables false
set_option linter.unusedSimpArgs false
namespace Go.Proofs.Ytgjdmlgdgbehoaa.Am
open Go Go.RowKit
def byteAt (s : ByteArray) (i : Nat) : Int := if h : i < s.size then ((s[i]'h).toNat : Int) else 0
theorem byteAt_eq (s : ByteArray) (i : Nat) (h : i < s.size) : ((s[i]'h).toNat : Int) = byteAt s i := by unfold byteAt; rw [dif_pos h]
theorem byteAt_range (s : ByteArray) (i : Nat) : 0 ≤ byteAt s i ∧ byteAt s i < 256 := by
  unfold byteAt
  split
  · rename_i h
    have := s[i].toNat_lt
    omega
  · omega
def vlanB (v : Int) : Bool := decide (1 ≤ v) && decide (v ≤ 4094)
structure VecV where
  Root : Int
  Cost : Int
  Bridge : Int
  Port : Int
def VecV.enc (p : VecV) : List Value := [.int .u64 p.Root, .int .u64 p.Cost, .int .u64 p.Bridge, .int .u64 p.Port]
theorem VecV.len (p : VecV) : p.enc.length = 4 := rfl
def VecV.zero : VecV := ⟨0, 0, 0, 0⟩
theorem VecV.eqEnc (p q : VecV) : allEq p.enc q.enc = true ↔ p = q := by
  cases p; cases q; simp [VecV.enc, Am.allEq, cellEq]
structure InfoV where
  Id : Int
  Cost : Int
  Source : Int
  Vector_Root : Int
  Vector_Cost : Int
  Vector_Bridge : Int
  Vector_Port : Int
def InfoV.enc (p : InfoV) : List Value := [.int .u64 p.Id, .int .u64 p.Cost, .int .i64 p.Source, .int .u64 p.Vector_Root, .int .u64 p.Vector_Cost, .int .u64 p.Vector_Bridge, .int .u64 p.Vector_Port]
theorem InfoV.len (p : InfoV) : p.enc.length = 7 := rfl
def InfoV.zero : InfoV := ⟨0, 0, 0, 0, 0, 0, 0⟩
theorem InfoV.eqEnc (p q : InfoV) : allEq p.enc q.enc = true ↔ p = q := by
  cases p; cases q; simp [InfoV.enc, Am.allEq, cellEq]
structure FrameV where
  Dst : ByteArray
  Src : ByteArray
  Tagged : Bool
  Priority : Int
  Vlan : Int
  Typ : Int
  Payload : ByteArray
def FrameV.enc (p : FrameV) : List Value := [.string p.Dst, .string p.Src, .bool p.Tagged, .int .i64 p.Priority, .int .i64 p.Vlan, .int .i64 p.Typ, .string p.Payload]
theorem FrameV.len (p : FrameV) : p.enc.length = 7 := rfl
def FrameV.zero : FrameV := ⟨ByteArray.empty, ByteArray.empty, false, 0, 0, 0, ByteArray.empty⟩
theorem FrameV.eqEnc (p q : FrameV) : allEq p.enc q.enc = true ↔ p = q := by
  cases p; cases q; simp [FrameV.enc, Am.allEq, cellEq]
end Go.Proofs.Ytgjdmlgdgbehoaa.Am
