/- The structs of the program, as plain ones. -/
import Derived.Test.YtmgoahmbdpoikaaTy
import Derived.Test.YtmgoahmbdpoikaaAm18
set_option linter.unusedVariables false
set_option linter.unusedSimpArgs false
namespace Go.Proofs.Ytmgoahmbdpoikaa.Am
open Go Go.RowKit
def byteAt (s : ByteArray) (i : Nat) : Int := if h : i < s.size then ((s[i]'h).toNat : Int) else 0
theorem byteAt_eq (s : ByteArray) (i : Nat) (h : i < s.size) : ((s[i]'h).toNat : Int) = byteAt s i := by unfold byteAt; rw [dif_pos h]
theorem byteAt_range (s : ByteArray) (i : Nat) : 0 ≤ byteAt s i ∧ byteAt s i < 256 := by
  unfold byteAt
  split
  · rename_i h
    have := s[i].toNat_lt
    omega
  · omega
def vlanB (v : Int) : Bool := decide (1 ≤ v) && decide (v ≤ 4094)
structure VecV where
  Root : Int
  Cost : Int
  Bridge : Int
  Port : Int
def VecV.enc (p : VecV) : List Value := [.int .u64 p.Root, .int .u64 p.Cost, .int .u64 p.Bridge, .int .u64 p.Port]
theorem VecV.len (p : VecV) : p.enc.length = 4 := rfl
def VecV.zero : VecV := ⟨0, 0, 0, 0⟩
theorem VecV.eqEnc (p q : VecV) : allEq p.enc q.enc = true ↔ p = q := by
  cases p; cases q; simp [VecV.enc, Am.allEq, cellEq]
structure TimesV where
  Age : Int
  Max : Int
  Hello : Int
  Delay : Int
def TimesV.enc (p : TimesV) : List Value := [.int .i64 p.Age, .int .i64 p.Max, .int .i64 p.Hello, .int .i64 p.Delay]
theorem TimesV.len (p : TimesV) : p.enc.length = 4 := rfl
def TimesV.zero : TimesV := ⟨0, 0, 0, 0⟩
theorem TimesV.eqEnc (p q : TimesV) : allEq p.enc q.enc = true ↔ p = q := by
  cases p; cases q; simp [TimesV.enc, Am.allEq, cellEq]
structure PortV where
  Id : Int
  Cost : Int
  On : Bool
  Admin : Bool
  Oper : Bool
  Source : Int
  Vector_Root : Int
  Vector_Cost : Int
  Vector_Bridge : Int
  Vector_Port : Int
  Times_Age : Int
  Times_Max : Int
  Times_Hello : Int
  Times_Delay : Int
  Offer_Root : Int
  Offer_Cost : Int
  Offer_Bridge : Int
  Offer_Port : Int
  Given_Age : Int
  Given_Max : Int
  Given_Hello : Int
  Given_Delay : Int
  Role : Int
  Selected : Int
  Ready : Bool
  Update : Bool
  Reselect : Bool
  Learn : Bool
  Learning : Bool
  Forward : Bool
  Forwarding : Bool
  Agree : Bool
  Agreed : Bool
  Proposed : Bool
  Proposing : Bool
  Sync : Bool
  Synced : Bool
  Reroot : Bool
  Disputed : Bool
  NewInfo : Bool
  HeardTc : Bool
  HeardTcn : Bool
  HeardAck : Bool
  TcAck : Bool
  TcProp : Bool
  Flush : Bool
  SendRstp : Bool
  HeardRstp : Bool
  HeardStp : Bool
  Check : Bool
  Fd : Int
  Rr : Int
  Rb : Int
  Tc : Int
  Edge : Int
  Md : Int
  Info : Int
  Hello : Int
  TxCount : Int
  Change : Int
  Migrate : Int
def PortV.enc (p : PortV) : List Value := [.int .u64 p.Id, .int .u64 p.Cost, .bool p.On, .bool p.Admin, .bool p.Oper, .int .i64 p.Source, .int .u64 p.Vector_Root, .int .u64 p.Vector_Cost, .int .u64 p.Vector_Bridge, .int .u64 p.Vector_Port, .int .i64 p.Times_Age, .int .i64 p.Times_Max, .int .i64 p.Times_Hello, .int .i64 p.Times_Delay, .int .u64 p.Offer_Root, .int .u64 p.Offer_Cost, .int .u64 p.Offer_Bridge, .int .u64 p.Offer_Port, .int .i64 p.Given_Age, .int .i64 p.Given_Max, .int .i64 p.Given_Hello, .int .i64 p.Given_Delay, .int .i64 p.Role, .int .i64 p.Selected, .bool p.Ready, .bool p.Update, .bool p.Reselect, .bool p.Learn, .bool p.Learning, .bool p.Forward, .bool p.Forwarding, .bool p.Agree, .bool p.Agreed, .bool p.Proposed, .bool p.Proposing, .bool p.Sync, .bool p.Synced, .bool p.Reroot, .bool p.Disputed, .bool p.NewInfo, .bool p.HeardTc, .bool p.HeardTcn, .bool p.HeardAck, .bool p.TcAck, .bool p.TcProp, .bool p.Flush, .bool p.SendRstp, .bool p.HeardRstp, .bool p.HeardStp, .bool p.Check, .int .i64 p.Fd, .int .i64 p.Rr, .int .i64 p.Rb, .int .i64 p.Tc, .int .i64 p.Edge, .int .i64 p.Md, .int .i64 p.Info, .int .i64 p.Hello, .int .i64 p.TxCount, .int .i64 p.Change, .int .i64 p.Migrate]
theorem PortV.len (p : PortV) : p.enc.length = 61 := rfl
def PortV.zero : PortV := ⟨0, 0, false, false, false, 0, 0, 0, 0, 0, 0, 0, 0, 0, 0, 0, 0, 0, 0, 0, 0, 0, 0, 0, false, false, false, false, false, false, false, false, false, false, false, false, false, false, false, false, false, false, false, false, false, false, false, false, false, false, 0, 0, 0, 0, 0, 0, 0, 0, 0, 0, 0⟩
theorem PortV.eqEnc (p q : PortV) : allEq p.enc q.enc = true ↔ p = q := by
  cases p; cases q; simp [PortV.enc, Am.allEq, cellEq]
structure BridgeV where
  Id : Int
  Times_Age : Int
  Times_Max : Int
  Times_Hello : Int
  Times_Delay : Int
def BridgeV.enc (p : BridgeV) : List Value := [.int .u64 p.Id, .int .i64 p.Times_Age, .int .i64 p.Times_Max, .int .i64 p.Times_Hello, .int .i64 p.Times_Delay]
theorem BridgeV.len (p : BridgeV) : p.enc.length = 5 := rfl
def BridgeV.zero : BridgeV := ⟨0, 0, 0, 0, 0⟩
theorem BridgeV.eqEnc (p q : BridgeV) : allEq p.enc q.enc = true ↔ p = q := by
  cases p; cases q; simp [BridgeV.enc, Am.allEq, cellEq]
def timesOf (b : BridgeV) : TimesV := ⟨b.Times_Age, b.Times_Max, b.Times_Hello, b.Times_Delay⟩
structure BpduV where
  Kind : Int
  Flags : Int
  Vector_Root : Int
  Vector_Cost : Int
  Vector_Bridge : Int
  Vector_Port : Int
  Age : Int
  Max : Int
  Hello : Int
  Delay : Int
def BpduV.enc (p : BpduV) : List Value := [.int .i64 p.Kind, .int .i64 p.Flags, .int .u64 p.Vector_Root, .int .u64 p.Vector_Cost, .int .u64 p.Vector_Bridge, .int .u64 p.Vector_Port, .int .i64 p.Age, .int .i64 p.Max, .int .i64 p.Hello, .int .i64 p.Delay]
theorem BpduV.len (p : BpduV) : p.enc.length = 10 := rfl
def BpduV.zero : BpduV := ⟨0, 0, 0, 0, 0, 0, 0, 0, 0, 0⟩
theorem BpduV.eqEnc (p q : BpduV) : allEq p.enc q.enc = true ↔ p = q := by
  cases p; cases q; simp [BpduV.enc, Am.allEq, cellEq]
structure InfoV where
  Id : Int
  Cost : Int
  Source : Int
  Vector_Root : Int
  Vector_Cost : Int
  Vector_Bridge : Int
  Vector_Port : Int
def InfoV.enc (p : InfoV) : List Value := [.int .u64 p.Id, .int .u64 p.Cost, .int .i64 p.Source, .int .u64 p.Vector_Root, .int .u64 p.Vector_Cost, .int .u64 p.Vector_Bridge, .int .u64 p.Vector_Port]
theorem InfoV.len (p : InfoV) : p.enc.length = 7 := rfl
def InfoV.zero : InfoV := ⟨0, 0, 0, 0, 0, 0, 0⟩
theorem InfoV.eqEnc (p q : InfoV) : allEq p.enc q.enc = true ↔ p = q := by
  cases p; cases q; simp [InfoV.enc, Am.allEq, cellEq]
end Go.Proofs.Ytmgoahmbdpoikaa.Am
