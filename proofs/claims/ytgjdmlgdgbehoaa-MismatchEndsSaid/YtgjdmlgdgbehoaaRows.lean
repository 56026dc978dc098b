/-
  No cell of these rows narrows 'for every input' (looked for: loops, veiled, ifaces, maps, wideKeys, modest, calm, conditions, laid).
  DERIVED. THE GIVEN ROWS OF THIS SEAT. 10 by the template 'for every input the law returns true; each argument reads behind the call as it read before'; 0 by the template 'total and deterministic' (their statements: YtgjdmlgdgbehoaaTotals.lean).
  GIVEN WITH THE SEED: the statements are not yours to turn. If you find one false, say at which input.
  Laid BY PROGRAM, IN A SANDBOX (cutbox-rows.mjs): the forced cells as the released guide's own fill.sh prints them over the translation 072528529eb1efe5… (all of the seat's roots in one cut). By AI agents, Wed Nov 11 2026. No macro, syntax, notation, axiom, sorry.
-/
import Derived.Test.YtgjdmlgdgbehoaaChecked
import GoSem.Claim
import GoSem.ClaimJoined
import GoSem.ClaimMapViews
import Derived.JoinedTies
import Derived.KernelRfl
namespace Go.Proofs.Ytgjdmlgdgbehoaa
/- THE CELL 'sum', in the pinned program and in every row, IS THE sha256 OF THE DUMP (.gsa) THAT YtgjdmlgdgbehoaaProg.lean LOADS. Nothing in Lean hashes anything: it is a label: what it is worth is what the hold of that sum in a sandbox is worth. -/
noncomputable def Try.pinned : Pinned := { name := "ytgjdmlgdgbehoaa", sum := "072528529eb1efe5736be738dfe53915ee1993c27e63641ef5b7ddfea746237e", checked := Try.checked }
namespace Rows
def none {H : Type} : Left H := { results := [], args := [] }

/-- 'treebridgelaw08.RolesTells': WHATEVER THE INPUT: true; the input reads as it did. -/
def rolesTellsSpec : ChangeSpec := { name := "rolesTells", fn := fun _ => fun
  | [d1, d2] => { results := [.lit (.bool true)], args := [d1, d2] }
  | _ => none }
def rolesTellsRow : OpenClaim := { program := "ytgjdmlgdgbehoaa", sum := "072528529eb1efe5736be738dfe53915ee1993c27e63641ef5b7ddfea746237e", func := "treebridge/treebridgelaw08.RolesTells", spec := "rolesTells", unfollowed := true, recurses := true, plainKeys := false, apart := false }
def RolesTellsSaid : Prop := rolesTellsRow.holds Try.pinned (OpenSpec.ofChange rolesTellsSpec)

/-- ITS FALSE NEIGHBOUR: 'it returns false'. Refute it at one input. -/
def rolesTellsWrong : ChangeSpec := { name := "rolesTells", fn := fun _ => fun
  | [d1, d2] => { results := [.lit (.bool false)], args := [d1, d2] }
  | _ => none }
def RolesTellsWrongFalsely : Prop := rolesTellsRow.holds Try.pinned (OpenSpec.ofChange rolesTellsWrong)

/-- 'treebridgelaw08.RolesBest': WHATEVER THE INPUT: true; the input reads as it did. -/
def rolesBestSpec : ChangeSpec := { name := "rolesBest", fn := fun _ => fun
  | [d1, d2] => { results := [.lit (.bool true)], args := [d1, d2] }
  | _ => none }
def rolesBestRow : OpenClaim := { program := "ytgjdmlgdgbehoaa", sum := "072528529eb1efe5736be738dfe53915ee1993c27e63641ef5b7ddfea746237e", func := "treebridge/treebridgelaw08.RolesBest", spec := "rolesBest", unfollowed := true, recurses := true, plainKeys := false, apart := false }
def RolesBestSaid : Prop := rolesBestRow.holds Try.pinned (OpenSpec.ofChange rolesBestSpec)

/-- ITS FALSE NEIGHBOUR: 'it returns false'. Refute it at one input. -/
def rolesBestWrong : ChangeSpec := { name := "rolesBest", fn := fun _ => fun
  | [d1, d2] => { results := [.lit (.bool false)], args := [d1, d2] }
  | _ => none }
def RolesBestWrongFalsely : Prop := rolesBestRow.holds Try.pinned (OpenSpec.ofChange rolesBestWrong)

/-- 'treebridgelaw08.RolesOrder': WHATEVER THE INPUT: true; the input reads as it did. -/
def rolesOrderSpec : ChangeSpec := { name := "rolesOrder", fn := fun _ => fun
  | [d1, d2] => { results := [.lit (.bool true)], args := [d1, d2] }
  | _ => none }
def rolesOrderRow : OpenClaim := { program := "ytgjdmlgdgbehoaa", sum := "072528529eb1efe5736be738dfe53915ee1993c27e63641ef5b7ddfea746237e", func := "treebridge/treebridgelaw08.RolesOrder", spec := "rolesOrder", unfollowed := true, recurses := true, plainKeys := false, apart := false }
def RolesOrderSaid : Prop := rolesOrderRow.holds Try.pinned (OpenSpec.ofChange rolesOrderSpec)

/-- ITS FALSE NEIGHBOUR: 'it returns false'. Refute it at one input. -/
def rolesOrderWrong : ChangeSpec := { name := "rolesOrder", fn := fun _ => fun
  | [d1, d2] => { results := [.lit (.bool false)], args := [d1, d2] }
  | _ => none }
def RolesOrderWrongFalsely : Prop := rolesOrderRow.holds Try.pinned (OpenSpec.ofChange rolesOrderWrong)

/-- 'treebridgelaw06.VlanportTells': WHATEVER THE INPUT: true; the input reads as it did. -/
def vlanportTellsSpec : ChangeSpec := { name := "vlanportTells", fn := fun _ => fun
  | [d1, d2, d3, d4] => { results := [.lit (.bool true)], args := [d1, d2, d3, d4] }
  | _ => none }
def vlanportTellsRow : OpenClaim := { program := "ytgjdmlgdgbehoaa", sum := "072528529eb1efe5736be738dfe53915ee1993c27e63641ef5b7ddfea746237e", func := "treebridge/treebridgelaw06.VlanportTells", spec := "vlanportTells", unfollowed := true, recurses := true, plainKeys := false, apart := false }
def VlanportTellsSaid : Prop := vlanportTellsRow.holds Try.pinned (OpenSpec.ofChange vlanportTellsSpec)

/-- ITS FALSE NEIGHBOUR: 'it returns false'. Refute it at one input. -/
def vlanportTellsWrong : ChangeSpec := { name := "vlanportTells", fn := fun _ => fun
  | [d1, d2, d3, d4] => { results := [.lit (.bool false)], args := [d1, d2, d3, d4] }
  | _ => none }
def VlanportTellsWrongFalsely : Prop := vlanportTellsRow.holds Try.pinned (OpenSpec.ofChange vlanportTellsWrong)

/-- 'treebridgelaw06.VlanportThrough': WHATEVER THE INPUT: true; the input reads as it did. -/
def vlanportThroughSpec : ChangeSpec := { name := "vlanportThrough", fn := fun _ => fun
  | [d1, d2, d3, d4] => { results := [.lit (.bool true)], args := [d1, d2, d3, d4] }
  | _ => none }
def vlanportThroughRow : OpenClaim := { program := "ytgjdmlgdgbehoaa", sum := "072528529eb1efe5736be738dfe53915ee1993c27e63641ef5b7ddfea746237e", func := "treebridge/treebridgelaw06.VlanportThrough", spec := "vlanportThrough", unfollowed := true, recurses := true, plainKeys := false, apart := false }
def VlanportThroughSaid : Prop := vlanportThroughRow.holds Try.pinned (OpenSpec.ofChange vlanportThroughSpec)

/-- ITS FALSE NEIGHBOUR: 'it returns false'. Refute it at one input. -/
def vlanportThroughWrong : ChangeSpec := { name := "vlanportThrough", fn := fun _ => fun
  | [d1, d2, d3, d4] => { results := [.lit (.bool false)], args := [d1, d2, d3, d4] }
  | _ => none }
def VlanportThroughWrongFalsely : Prop := vlanportThroughRow.holds Try.pinned (OpenSpec.ofChange vlanportThroughWrong)

/-- 'treebridgelaw09.MismatchPlays': WHATEVER THE INPUT: true; the input reads as it did. -/
def mismatchPlaysSpec : ChangeSpec := { name := "mismatchPlays", fn := fun _ => fun
  | [d1, d2, d3] => { results := [.lit (.bool true)], args := [d1, d2, d3] }
  | _ => none }
def mismatchPlaysRow : OpenClaim := { program := "ytgjdmlgdgbehoaa", sum := "072528529eb1efe5736be738dfe53915ee1993c27e63641ef5b7ddfea746237e", func := "treebridge/treebridgelaw09.MismatchPlays", spec := "mismatchPlays", inPlace := ["sync/atomic.AddInt64", "sync/atomic.LoadUint32", "(*internal/sync.Mutex).Lock", "internal/race.Disable", "sync/atomic.CompareAndSwapInt32", "internal/race.Enable", "internal/race.Acquire", "(*internal/sync.Mutex).lockSlow", "internal/sync.runtime_canSpin", "internal/sync.runtime_doSpin", "internal/sync.throw", "internal/sync.runtime_nanotime", "internal/sync.runtime_SemacquireMutex", "sync/atomic.AddInt32", "(*internal/sync.Mutex).Unlock", "internal/race.ReleaseMerge", "(*internal/sync.Mutex).unlockSlow", "internal/sync.fatal", "internal/sync.runtime_Semrelease", "sync/atomic.StoreUint32", "sync/atomic.LoadInt64"], unfollowed := true, recurses := true, plainKeys := false, apart := false }
def MismatchPlaysSaid : Prop := mismatchPlaysRow.holds Try.pinned (OpenSpec.ofChange mismatchPlaysSpec)

/-- ITS FALSE NEIGHBOUR: 'it returns false'. Refute it at one input. -/
def mismatchPlaysWrong : ChangeSpec := { name := "mismatchPlays", fn := fun _ => fun
  | [d1, d2, d3] => { results := [.lit (.bool false)], args := [d1, d2, d3] }
  | _ => none }
def MismatchPlaysWrongFalsely : Prop := mismatchPlaysRow.holds Try.pinned (OpenSpec.ofChange mismatchPlaysWrong)

/-- 'treebridgelaw09.MismatchEnds': WHATEVER THE INPUT: true; the input reads as it did. -/
def mismatchEndsSpec : ChangeSpec := { name := "mismatchEnds", fn := fun _ => fun
  | [d1, d2, d3, d4, d5, d6] => { results := [.lit (.bool true)], args := [d1, d2, d3, d4, d5, d6] }
  | _ => none }
def mismatchEndsRow : OpenClaim := { program := "ytgjdmlgdgbehoaa", sum := "072528529eb1efe5736be738dfe53915ee1993c27e63641ef5b7ddfea746237e", func := "treebridge/treebridgelaw09.MismatchEnds", spec := "mismatchEnds", inPlace := ["sync/atomic.AddInt64", "sync/atomic.LoadUint32", "(*internal/sync.Mutex).Lock", "internal/race.Disable", "sync/atomic.CompareAndSwapInt32", "internal/race.Enable", "internal/race.Acquire", "(*internal/sync.Mutex).lockSlow", "internal/sync.runtime_canSpin", "internal/sync.runtime_doSpin", "internal/sync.throw", "internal/sync.runtime_nanotime", "internal/sync.runtime_SemacquireMutex", "sync/atomic.AddInt32", "(*internal/sync.Mutex).Unlock", "internal/race.ReleaseMerge", "(*internal/sync.Mutex).unlockSlow", "internal/sync.fatal", "internal/sync.runtime_Semrelease", "sync/atomic.StoreUint32", "sync/atomic.LoadInt64"], unfollowed := true, recurses := true, plainKeys := false, apart := false }
def MismatchEndsSaid : Prop := mismatchEndsRow.holds Try.pinned (OpenSpec.ofChange mismatchEndsSpec)

/-- ITS FALSE NEIGHBOUR: 'it returns false'. Refute it at one input. -/
def mismatchEndsWrong : ChangeSpec := { name := "mismatchEnds", fn := fun _ => fun
  | [d1, d2, d3, d4, d5, d6] => { results := [.lit (.bool false)], args := [d1, d2, d3, d4, d5, d6] }
  | _ => none }
def MismatchEndsWrongFalsely : Prop := mismatchEndsRow.holds Try.pinned (OpenSpec.ofChange mismatchEndsWrong)

/-- 'treebridgelaw07.FdbPlays': WHATEVER THE INPUT: true; the input reads as it did. -/
def fdbPlaysSpec : ChangeSpec := { name := "fdbPlays", fn := fun _ => fun
  | [d1, d2, d3, d4] => { results := [.lit (.bool true)], args := [d1, d2, d3, d4] }
  | _ => none }
def fdbPlaysRow : OpenClaim := { program := "ytgjdmlgdgbehoaa", sum := "072528529eb1efe5736be738dfe53915ee1993c27e63641ef5b7ddfea746237e", func := "treebridge/treebridgelaw07.FdbPlays", spec := "fdbPlays", inPlace := ["internal/bytealg.abigen_runtime_cmpstring", "sync/atomic.AddInt64", "sync/atomic.LoadInt64"], unfollowed := true, recurses := true, plainKeys := false, apart := false }
def FdbPlaysSaid : Prop := fdbPlaysRow.holds Try.pinned (OpenSpec.ofChange fdbPlaysSpec)

/-- ITS FALSE NEIGHBOUR: 'it returns false'. Refute it at one input. -/
def fdbPlaysWrong : ChangeSpec := { name := "fdbPlays", fn := fun _ => fun
  | [d1, d2, d3, d4] => { results := [.lit (.bool false)], args := [d1, d2, d3, d4] }
  | _ => none }
def FdbPlaysWrongFalsely : Prop := fdbPlaysRow.holds Try.pinned (OpenSpec.ofChange fdbPlaysWrong)

/-- 'treebridgelaw07.FdbOnce': WHATEVER THE INPUT: true; the input reads as it did. -/
def fdbOnceSpec : ChangeSpec := { name := "fdbOnce", fn := fun _ => fun
  | [d1, d2] => { results := [.lit (.bool true)], args := [d1, d2] }
  | _ => none }
def fdbOnceRow : OpenClaim := { program := "ytgjdmlgdgbehoaa", sum := "072528529eb1efe5736be738dfe53915ee1993c27e63641ef5b7ddfea746237e", func := "treebridge/treebridgelaw07.FdbOnce", spec := "fdbOnce", inPlace := ["internal/bytealg.abigen_runtime_cmpstring", "sync/atomic.AddInt64", "sync/atomic.LoadInt64"], unfollowed := true, recurses := true, plainKeys := false, apart := false }
def FdbOnceSaid : Prop := fdbOnceRow.holds Try.pinned (OpenSpec.ofChange fdbOnceSpec)

/-- ITS FALSE NEIGHBOUR: 'it returns false'. Refute it at one input. -/
def fdbOnceWrong : ChangeSpec := { name := "fdbOnce", fn := fun _ => fun
  | [d1, d2] => { results := [.lit (.bool false)], args := [d1, d2] }
  | _ => none }
def FdbOnceWrongFalsely : Prop := fdbOnceRow.holds Try.pinned (OpenSpec.ofChange fdbOnceWrong)

/-- 'treebridgelaw07.FdbVlans': WHATEVER THE INPUT: true; the input reads as it did. -/
def fdbVlansSpec : ChangeSpec := { name := "fdbVlans", fn := fun _ => fun
  | [d1, d2] => { results := [.lit (.bool true)], args := [d1, d2] }
  | _ => none }
def fdbVlansRow : OpenClaim := { program := "ytgjdmlgdgbehoaa", sum := "072528529eb1efe5736be738dfe53915ee1993c27e63641ef5b7ddfea746237e", func := "treebridge/treebridgelaw07.FdbVlans", spec := "fdbVlans", inPlace := ["internal/bytealg.abigen_runtime_cmpstring", "sync/atomic.AddInt64", "sync/atomic.LoadInt64"], unfollowed := true, recurses := true, plainKeys := false, apart := false }
def FdbVlansSaid : Prop := fdbVlansRow.holds Try.pinned (OpenSpec.ofChange fdbVlansSpec)

/-- ITS FALSE NEIGHBOUR: 'it returns false'. Refute it at one input. -/
def fdbVlansWrong : ChangeSpec := { name := "fdbVlans", fn := fun _ => fun
  | [d1, d2] => { results := [.lit (.bool false)], args := [d1, d2] }
  | _ => none }
def FdbVlansWrongFalsely : Prop := fdbVlansRow.holds Try.pinned (OpenSpec.ofChange fdbVlansWrong)

/- THE SECOND FORM. 'bulk': how many values and letters a reading holds, each counted each time it is reached (what is shared counts as often as it is met; a slice's spare places count too). A statement '..UptoSaid' is the law's where the arguments, and the package variables that the reading takes, are together of bulk at most 1048576: NARROWER than '..Said'. Prove '..Said' where nothing that the law and all that it calls make is longer than what came in: it says more and counts as full. Else prove '..UptoSaid'. A law counts once. -/
mutual
def uptoBulk {H : Type} : DataW H → Nat
  | .lit (.string bytes) => bytes.length + 1
  | .lit _ => 1
  | .nil => 1
  | .ptr d => uptoBulk d + 1
  | .slice elems spare => uptoBulkAll elems + uptoBulkAll spare + 1
  | .agg parts => uptoBulkAll parts + 1
  | .iface _ d => uptoBulk d + 1
  | .map entries => uptoBulkEntries entries + 1
  | .held _ => 1
def uptoBulkAll {H : Type} : List (DataW H) → Nat
  | [] => 0
  | d :: r => uptoBulk d + uptoBulkAll r
def uptoBulkEntries {H : Type} : List (Lit × DataW H) → Nat
  | [] => 0
  | x :: r => uptoBulkEntry x + uptoBulkEntries r
def uptoBulkEntry {H : Type} : Lit × DataW H → Nat
  | (.string bytes, d) => bytes.length + uptoBulk d + 1
  | (_, d) => uptoBulk d + 1
 end
def uptoSmall : (H : Type) → List (DataW H) → Bool := fun _ ds => decide (uptoBulkAll ds ≤ 1048576)
def OpenSpec.upto (s : _root_.Go.ChangeSpec) : _root_.Go.OpenSpec := { _root_.Go.OpenSpec.ofChange s with cond := some uptoSmall }

/-- 'treebridgelaw08.RolesTells', WHERE WHAT IT READS IS OF BULK AT MOST 1048576: true; the input reads as it did. -/
def rolesTellsUptoRow : OpenClaim := { program := "ytgjdmlgdgbehoaa", sum := "072528529eb1efe5736be738dfe53915ee1993c27e63641ef5b7ddfea746237e", func := "treebridge/treebridgelaw08.RolesTells", spec := "rolesTells", unfollowed := true, recurses := true, plainKeys := false, apart := false, narrowed := true }
def RolesTellsUptoSaid : Prop := rolesTellsUptoRow.holds Try.pinned (OpenSpec.upto rolesTellsSpec)

/-- 'treebridgelaw08.RolesBest', WHERE WHAT IT READS IS OF BULK AT MOST 1048576: true; the input reads as it did. -/
def rolesBestUptoRow : OpenClaim := { program := "ytgjdmlgdgbehoaa", sum := "072528529eb1efe5736be738dfe53915ee1993c27e63641ef5b7ddfea746237e", func := "treebridge/treebridgelaw08.RolesBest", spec := "rolesBest", unfollowed := true, recurses := true, plainKeys := false, apart := false, narrowed := true }
def RolesBestUptoSaid : Prop := rolesBestUptoRow.holds Try.pinned (OpenSpec.upto rolesBestSpec)

/-- 'treebridgelaw08.RolesOrder', WHERE WHAT IT READS IS OF BULK AT MOST 1048576: true; the input reads as it did. -/
def rolesOrderUptoRow : OpenClaim := { program := "ytgjdmlgdgbehoaa", sum := "072528529eb1efe5736be738dfe53915ee1993c27e63641ef5b7ddfea746237e", func := "treebridge/treebridgelaw08.RolesOrder", spec := "rolesOrder", unfollowed := true, recurses := true, plainKeys := false, apart := false, narrowed := true }
def RolesOrderUptoSaid : Prop := rolesOrderUptoRow.holds Try.pinned (OpenSpec.upto rolesOrderSpec)

/-- 'treebridgelaw06.VlanportTells', WHERE WHAT IT READS IS OF BULK AT MOST 1048576: true; the input reads as it did. -/
def vlanportTellsUptoRow : OpenClaim := { program := "ytgjdmlgdgbehoaa", sum := "072528529eb1efe5736be738dfe53915ee1993c27e63641ef5b7ddfea746237e", func := "treebridge/treebridgelaw06.VlanportTells", spec := "vlanportTells", unfollowed := true, recurses := true, plainKeys := false, apart := false, narrowed := true }
def VlanportTellsUptoSaid : Prop := vlanportTellsUptoRow.holds Try.pinned (OpenSpec.upto vlanportTellsSpec)

/-- 'treebridgelaw06.VlanportThrough', WHERE WHAT IT READS IS OF BULK AT MOST 1048576: true; the input reads as it did. -/
def vlanportThroughUptoRow : OpenClaim := { program := "ytgjdmlgdgbehoaa", sum := "072528529eb1efe5736be738dfe53915ee1993c27e63641ef5b7ddfea746237e", func := "treebridge/treebridgelaw06.VlanportThrough", spec := "vlanportThrough", unfollowed := true, recurses := true, plainKeys := false, apart := false, narrowed := true }
def VlanportThroughUptoSaid : Prop := vlanportThroughUptoRow.holds Try.pinned (OpenSpec.upto vlanportThroughSpec)

/-- 'treebridgelaw09.MismatchPlays', WHERE WHAT IT READS IS OF BULK AT MOST 1048576: true; the input reads as it did. -/
def mismatchPlaysUptoRow : OpenClaim := { program := "ytgjdmlgdgbehoaa", sum := "072528529eb1efe5736be738dfe53915ee1993c27e63641ef5b7ddfea746237e", func := "treebridge/treebridgelaw09.MismatchPlays", spec := "mismatchPlays", inPlace := ["sync/atomic.AddInt64", "sync/atomic.LoadUint32", "(*internal/sync.Mutex).Lock", "internal/race.Disable", "sync/atomic.CompareAndSwapInt32", "internal/race.Enable", "internal/race.Acquire", "(*internal/sync.Mutex).lockSlow", "internal/sync.runtime_canSpin", "internal/sync.runtime_doSpin", "internal/sync.throw", "internal/sync.runtime_nanotime", "internal/sync.runtime_SemacquireMutex", "sync/atomic.AddInt32", "(*internal/sync.Mutex).Unlock", "internal/race.ReleaseMerge", "(*internal/sync.Mutex).unlockSlow", "internal/sync.fatal", "internal/sync.runtime_Semrelease", "sync/atomic.StoreUint32", "sync/atomic.LoadInt64"], unfollowed := true, recurses := true, plainKeys := false, apart := false, narrowed := true }
def MismatchPlaysUptoSaid : Prop := mismatchPlaysUptoRow.holds Try.pinned (OpenSpec.upto mismatchPlaysSpec)

/-- 'treebridgelaw09.MismatchEnds', WHERE WHAT IT READS IS OF BULK AT MOST 1048576: true; the input reads as it did. -/
def mismatchEndsUptoRow : OpenClaim := { program := "ytgjdmlgdgbehoaa", sum := "072528529eb1efe5736be738dfe53915ee1993c27e63641ef5b7ddfea746237e", func := "treebridge/treebridgelaw09.MismatchEnds", spec := "mismatchEnds", inPlace := ["sync/atomic.AddInt64", "sync/atomic.LoadUint32", "(*internal/sync.Mutex).Lock", "internal/race.Disable", "sync/atomic.CompareAndSwapInt32", "internal/race.Enable", "internal/race.Acquire", "(*internal/sync.Mutex).lockSlow", "internal/sync.runtime_canSpin", "internal/sync.runtime_doSpin", "internal/sync.throw", "internal/sync.runtime_nanotime", "internal/sync.runtime_SemacquireMutex", "sync/atomic.AddInt32", "(*internal/sync.Mutex).Unlock", "internal/race.ReleaseMerge", "(*internal/sync.Mutex).unlockSlow", "internal/sync.fatal", "internal/sync.runtime_Semrelease", "sync/atomic.StoreUint32", "sync/atomic.LoadInt64"], unfollowed := true, recurses := true, plainKeys := false, apart := false, narrowed := true }
def MismatchEndsUptoSaid : Prop := mismatchEndsUptoRow.holds Try.pinned (OpenSpec.upto mismatchEndsSpec)

/-- 'treebridgelaw07.FdbPlays', WHERE WHAT IT READS IS OF BULK AT MOST 1048576: true; the input reads as it did. -/
def fdbPlaysUptoRow : OpenClaim := { program := "ytgjdmlgdgbehoaa", sum := "072528529eb1efe5736be738dfe53915ee1993c27e63641ef5b7ddfea746237e", func := "treebridge/treebridgelaw07.FdbPlays", spec := "fdbPlays", inPlace := ["internal/bytealg.abigen_runtime_cmpstring", "sync/atomic.AddInt64", "sync/atomic.LoadInt64"], unfollowed := true, recurses := true, plainKeys := false, apart := false, narrowed := true }
def FdbPlaysUptoSaid : Prop := fdbPlaysUptoRow.holds Try.pinned (OpenSpec.upto fdbPlaysSpec)

/-- 'treebridgelaw07.FdbOnce', WHERE WHAT IT READS IS OF BULK AT MOST 1048576: true; the input reads as it did. -/
def fdbOnceUptoRow : OpenClaim := { program := "ytgjdmlgdgbehoaa", sum := "072528529eb1efe5736be738dfe53915ee1993c27e63641ef5b7ddfea746237e", func := "treebridge/treebridgelaw07.FdbOnce", spec := "fdbOnce", inPlace := ["internal/bytealg.abigen_runtime_cmpstring", "sync/atomic.AddInt64", "sync/atomic.LoadInt64"], unfollowed := true, recurses := true, plainKeys := false, apart := false, narrowed := true }
def FdbOnceUptoSaid : Prop := fdbOnceUptoRow.holds Try.pinned (OpenSpec.upto fdbOnceSpec)

/-- 'treebridgelaw07.FdbVlans', WHERE WHAT IT READS IS OF BULK AT MOST 1048576: true; the input reads as it did. -/
def fdbVlansUptoRow : OpenClaim := { program := "ytgjdmlgdgbehoaa", sum := "072528529eb1efe5736be738dfe53915ee1993c27e63641ef5b7ddfea746237e", func := "treebridge/treebridgelaw07.FdbVlans", spec := "fdbVlans", inPlace := ["internal/bytealg.abigen_runtime_cmpstring", "sync/atomic.AddInt64", "sync/atomic.LoadInt64"], unfollowed := true, recurses := true, plainKeys := false, apart := false, narrowed := true }
def FdbVlansUptoSaid : Prop := fdbVlansUptoRow.holds Try.pinned (OpenSpec.upto fdbVlansSpec)

end Rows
end Go.Proofs.Ytgjdmlgdgbehoaa
