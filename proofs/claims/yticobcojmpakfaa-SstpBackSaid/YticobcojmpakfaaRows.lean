/-
  No cell of these rows narrows 'for every input' (looked for: loops, veiled, ifaces, maps, wideKeys, modest, calm, conditions, laid).
  DERIVED. THE GIVEN ROWS OF THIS SEAT. 12 by the template 'for every input the law returns true; each argument reads behind the call as it read before'; 0 by the template 'total and deterministic' (their statements: YticobcojmpakfaaTotals.lean).
  GIVEN WITH THE SEED: the statements are not yours to turn. If you find one false, say at which input.
  Laid BY PROGRAM, IN A SANDBOX (cutbox-rows.mjs): the forced cells as the released guide's own fill.sh prints them over the translation 03b0b32c0fc51ba9… (all of the seat's roots in one cut). By AI agents, Wed Nov 11 2026. No macro, syntax, notation, axiom, sorry.
-/
import Derived.Test.YticobcojmpakfaaChecked
import GoSem.Claim
import GoSem.ClaimJoined
import GoSem.ClaimMapViews
import Derived.JoinedTies
import Derived.KernelRfl
namespace Go.Proofs.Yticobcojmpakfaa
/- THE CELL 'sum', in the pinned program and in every row, IS THE sha256 OF THE DUMP (.gsa) THAT YticobcojmpakfaaProg.lean LOADS. Nothing in Lean hashes anything: it is a label: what it is worth is what the hold of that sum in a sandbox is worth. -/
noncomputable def Try.pinned : Pinned := { name := "yticobcojmpakfaa", sum := "03b0b32c0fc51ba9baa6e9d9f92d24663c07d2ba1480801d4b6555c851e84317", checked := Try.checked }
namespace Rows
def none {H : Type} : Left H := { results := [], args := [] }

/-- 'treebridgelaw02.LlcTells': WHATEVER THE INPUT: true; the input reads as it did. -/
def llcTellsSpec : ChangeSpec := { name := "llcTells", fn := fun _ => fun
  | [d1, d2, d3, d4, d5] => { results := [.lit (.bool true)], args := [d1, d2, d3, d4, d5] }
  | _ => none }
def llcTellsRow : OpenClaim := { program := "yticobcojmpakfaa", sum := "03b0b32c0fc51ba9baa6e9d9f92d24663c07d2ba1480801d4b6555c851e84317", func := "treebridge/treebridgelaw02.LlcTells", spec := "llcTells", unfollowed := true, recurses := true, apart := false }
def LlcTellsSaid : Prop := llcTellsRow.holds Try.pinned (OpenSpec.ofChange llcTellsSpec)

/-- ITS FALSE NEIGHBOUR: 'it returns false'. Refute it at one input. -/
def llcTellsWrong : ChangeSpec := { name := "llcTells", fn := fun _ => fun
  | [d1, d2, d3, d4, d5] => { results := [.lit (.bool false)], args := [d1, d2, d3, d4, d5] }
  | _ => none }
def LlcTellsWrongFalsely : Prop := llcTellsRow.holds Try.pinned (OpenSpec.ofChange llcTellsWrong)

/-- 'treebridgelaw02.LlcBack': WHATEVER THE INPUT: true; the input reads as it did. -/
def llcBackSpec : ChangeSpec := { name := "llcBack", fn := fun _ => fun
  | [d1, d2, d3, d4] => { results := [.lit (.bool true)], args := [d1, d2, d3, d4] }
  | _ => none }
def llcBackRow : OpenClaim := { program := "yticobcojmpakfaa", sum := "03b0b32c0fc51ba9baa6e9d9f92d24663c07d2ba1480801d4b6555c851e84317", func := "treebridge/treebridgelaw02.LlcBack", spec := "llcBack", unfollowed := true, recurses := true, apart := false }
def LlcBackSaid : Prop := llcBackRow.holds Try.pinned (OpenSpec.ofChange llcBackSpec)

/-- ITS FALSE NEIGHBOUR: 'it returns false'. Refute it at one input. -/
def llcBackWrong : ChangeSpec := { name := "llcBack", fn := fun _ => fun
  | [d1, d2, d3, d4] => { results := [.lit (.bool false)], args := [d1, d2, d3, d4] }
  | _ => none }
def LlcBackWrongFalsely : Prop := llcBackRow.holds Try.pinned (OpenSpec.ofChange llcBackWrong)

/-- 'treebridgelaw01.FrameCounts': WHATEVER THE INPUT: true; the input reads as it did. -/
def frameCountsSpec : ChangeSpec := { name := "frameCounts", fn := fun _ => fun
  | [d] => { results := [.lit (.bool true)], args := [d] }
  | _ => none }
def frameCountsRow : OpenClaim := { program := "yticobcojmpakfaa", sum := "03b0b32c0fc51ba9baa6e9d9f92d24663c07d2ba1480801d4b6555c851e84317", func := "treebridge/treebridgelaw01.FrameCounts", spec := "frameCounts", inPlace := ["sync/atomic.AddInt64", "sync/atomic.LoadInt64"], unfollowed := true, recurses := true, apart := false }
def FrameCountsSaid : Prop := frameCountsRow.holds Try.pinned (OpenSpec.ofChange frameCountsSpec)

/-- ITS FALSE NEIGHBOUR: 'it returns false'. Refute it at one input. -/
def frameCountsWrong : ChangeSpec := { name := "frameCounts", fn := fun _ => fun
  | [d] => { results := [.lit (.bool false)], args := [d] }
  | _ => none }
def FrameCountsWrongFalsely : Prop := frameCountsRow.holds Try.pinned (OpenSpec.ofChange frameCountsWrong)

/-- 'treebridgelaw01.FrameTells': WHATEVER THE INPUT: true; the input reads as it did. -/
def frameTellsSpec : ChangeSpec := { name := "frameTells", fn := fun _ => fun
  | [d1, d2, d3] => { results := [.lit (.bool true)], args := [d1, d2, d3] }
  | _ => none }
def frameTellsRow : OpenClaim := { program := "yticobcojmpakfaa", sum := "03b0b32c0fc51ba9baa6e9d9f92d24663c07d2ba1480801d4b6555c851e84317", func := "treebridge/treebridgelaw01.FrameTells", spec := "frameTells", inPlace := ["sync/atomic.AddInt64", "sync/atomic.LoadInt64"], unfollowed := true, recurses := true, apart := false }
def FrameTellsSaid : Prop := frameTellsRow.holds Try.pinned (OpenSpec.ofChange frameTellsSpec)

/-- ITS FALSE NEIGHBOUR: 'it returns false'. Refute it at one input. -/
def frameTellsWrong : ChangeSpec := { name := "frameTells", fn := fun _ => fun
  | [d1, d2, d3] => { results := [.lit (.bool false)], args := [d1, d2, d3] }
  | _ => none }
def FrameTellsWrongFalsely : Prop := frameTellsRow.holds Try.pinned (OpenSpec.ofChange frameTellsWrong)

/-- 'treebridgelaw01.FrameBack': WHATEVER THE INPUT: true; the input reads as it did. -/
def frameBackSpec : ChangeSpec := { name := "frameBack", fn := fun _ => fun
  | [d1, d2, d3, d4] => { results := [.lit (.bool true)], args := [d1, d2, d3, d4] }
  | _ => none }
def frameBackRow : OpenClaim := { program := "yticobcojmpakfaa", sum := "03b0b32c0fc51ba9baa6e9d9f92d24663c07d2ba1480801d4b6555c851e84317", func := "treebridge/treebridgelaw01.FrameBack", spec := "frameBack", inPlace := ["sync/atomic.AddInt64", "sync/atomic.LoadInt64"], unfollowed := true, recurses := true, apart := false }
def FrameBackSaid : Prop := frameBackRow.holds Try.pinned (OpenSpec.ofChange frameBackSpec)

/-- ITS FALSE NEIGHBOUR: 'it returns false'. Refute it at one input. -/
def frameBackWrong : ChangeSpec := { name := "frameBack", fn := fun _ => fun
  | [d1, d2, d3, d4] => { results := [.lit (.bool false)], args := [d1, d2, d3, d4] }
  | _ => none }
def FrameBackWrongFalsely : Prop := frameBackRow.holds Try.pinned (OpenSpec.ofChange frameBackWrong)

/-- 'treebridgelaw03.BpduTells': WHATEVER THE INPUT: true; the input reads as it did. -/
def bpduTellsSpec : ChangeSpec := { name := "bpduTells", fn := fun _ => fun
  | [d1, d2, d3, d4] => { results := [.lit (.bool true)], args := [d1, d2, d3, d4] }
  | _ => none }
def bpduTellsRow : OpenClaim := { program := "yticobcojmpakfaa", sum := "03b0b32c0fc51ba9baa6e9d9f92d24663c07d2ba1480801d4b6555c851e84317", func := "treebridge/treebridgelaw03.BpduTells", spec := "bpduTells", unfollowed := true, recurses := true, apart := false }
def BpduTellsSaid : Prop := bpduTellsRow.holds Try.pinned (OpenSpec.ofChange bpduTellsSpec)

/-- ITS FALSE NEIGHBOUR: 'it returns false'. Refute it at one input. -/
def bpduTellsWrong : ChangeSpec := { name := "bpduTells", fn := fun _ => fun
  | [d1, d2, d3, d4] => { results := [.lit (.bool false)], args := [d1, d2, d3, d4] }
  | _ => none }
def BpduTellsWrongFalsely : Prop := bpduTellsRow.holds Try.pinned (OpenSpec.ofChange bpduTellsWrong)

/-- 'treebridgelaw03.BpduBack': WHATEVER THE INPUT: true; the input reads as it did. -/
def bpduBackSpec : ChangeSpec := { name := "bpduBack", fn := fun _ => fun
  | [d1, d2, d3, d4, d5] => { results := [.lit (.bool true)], args := [d1, d2, d3, d4, d5] }
  | _ => none }
def bpduBackRow : OpenClaim := { program := "yticobcojmpakfaa", sum := "03b0b32c0fc51ba9baa6e9d9f92d24663c07d2ba1480801d4b6555c851e84317", func := "treebridge/treebridgelaw03.BpduBack", spec := "bpduBack", unfollowed := true, recurses := true, apart := false }
def BpduBackSaid : Prop := bpduBackRow.holds Try.pinned (OpenSpec.ofChange bpduBackSpec)

/-- ITS FALSE NEIGHBOUR: 'it returns false'. Refute it at one input. -/
def bpduBackWrong : ChangeSpec := { name := "bpduBack", fn := fun _ => fun
  | [d1, d2, d3, d4, d5] => { results := [.lit (.bool false)], args := [d1, d2, d3, d4, d5] }
  | _ => none }
def BpduBackWrongFalsely : Prop := bpduBackRow.holds Try.pinned (OpenSpec.ofChange bpduBackWrong)

/-- 'treebridgelaw05.VectorParts': WHATEVER THE INPUT: true; the input reads as it did. -/
def vectorPartsSpec : ChangeSpec := { name := "vectorParts", fn := fun _ => fun
  | [d1, d2] => { results := [.lit (.bool true)], args := [d1, d2] }
  | _ => none }
def vectorPartsRow : OpenClaim := { program := "yticobcojmpakfaa", sum := "03b0b32c0fc51ba9baa6e9d9f92d24663c07d2ba1480801d4b6555c851e84317", func := "treebridge/treebridgelaw05.VectorParts", spec := "vectorParts", unfollowed := true, recurses := true, apart := false }
def VectorPartsSaid : Prop := vectorPartsRow.holds Try.pinned (OpenSpec.ofChange vectorPartsSpec)

/-- ITS FALSE NEIGHBOUR: 'it returns false'. Refute it at one input. -/
def vectorPartsWrong : ChangeSpec := { name := "vectorParts", fn := fun _ => fun
  | [d1, d2] => { results := [.lit (.bool false)], args := [d1, d2] }
  | _ => none }
def VectorPartsWrongFalsely : Prop := vectorPartsRow.holds Try.pinned (OpenSpec.ofChange vectorPartsWrong)

/-- 'treebridgelaw05.VectorOrder': WHATEVER THE INPUT: true; the input reads as it did. -/
def vectorOrderSpec : ChangeSpec := { name := "vectorOrder", fn := fun _ => fun
  | [d1, d2, d3, d4] => { results := [.lit (.bool true)], args := [d1, d2, d3, d4] }
  | _ => none }
def vectorOrderRow : OpenClaim := { program := "yticobcojmpakfaa", sum := "03b0b32c0fc51ba9baa6e9d9f92d24663c07d2ba1480801d4b6555c851e84317", func := "treebridge/treebridgelaw05.VectorOrder", spec := "vectorOrder", unfollowed := true, recurses := true, apart := false }
def VectorOrderSaid : Prop := vectorOrderRow.holds Try.pinned (OpenSpec.ofChange vectorOrderSpec)

/-- ITS FALSE NEIGHBOUR: 'it returns false'. Refute it at one input. -/
def vectorOrderWrong : ChangeSpec := { name := "vectorOrder", fn := fun _ => fun
  | [d1, d2, d3, d4] => { results := [.lit (.bool false)], args := [d1, d2, d3, d4] }
  | _ => none }
def VectorOrderWrongFalsely : Prop := vectorOrderRow.holds Try.pinned (OpenSpec.ofChange vectorOrderWrong)

/-- 'treebridgelaw05.VectorRaised': WHATEVER THE INPUT: true; the input reads as it did. -/
def vectorRaisedSpec : ChangeSpec := { name := "vectorRaised", fn := fun _ => fun
  | [d1, d2, d3, d4] => { results := [.lit (.bool true)], args := [d1, d2, d3, d4] }
  | _ => none }
def vectorRaisedRow : OpenClaim := { program := "yticobcojmpakfaa", sum := "03b0b32c0fc51ba9baa6e9d9f92d24663c07d2ba1480801d4b6555c851e84317", func := "treebridge/treebridgelaw05.VectorRaised", spec := "vectorRaised", unfollowed := true, recurses := true, apart := false }
def VectorRaisedSaid : Prop := vectorRaisedRow.holds Try.pinned (OpenSpec.ofChange vectorRaisedSpec)

/-- ITS FALSE NEIGHBOUR: 'it returns false'. Refute it at one input. -/
def vectorRaisedWrong : ChangeSpec := { name := "vectorRaised", fn := fun _ => fun
  | [d1, d2, d3, d4] => { results := [.lit (.bool false)], args := [d1, d2, d3, d4] }
  | _ => none }
def VectorRaisedWrongFalsely : Prop := vectorRaisedRow.holds Try.pinned (OpenSpec.ofChange vectorRaisedWrong)

/-- 'treebridgelaw04.SstpTells': WHATEVER THE INPUT: true; the input reads as it did. -/
def sstpTellsSpec : ChangeSpec := { name := "sstpTells", fn := fun _ => fun
  | [d1, d2, d3] => { results := [.lit (.bool true)], args := [d1, d2, d3] }
  | _ => none }
def sstpTellsRow : OpenClaim := { program := "yticobcojmpakfaa", sum := "03b0b32c0fc51ba9baa6e9d9f92d24663c07d2ba1480801d4b6555c851e84317", func := "treebridge/treebridgelaw04.SstpTells", spec := "sstpTells", unfollowed := true, recurses := true, apart := false }
def SstpTellsSaid : Prop := sstpTellsRow.holds Try.pinned (OpenSpec.ofChange sstpTellsSpec)

/-- ITS FALSE NEIGHBOUR: 'it returns false'. Refute it at one input. -/
def sstpTellsWrong : ChangeSpec := { name := "sstpTells", fn := fun _ => fun
  | [d1, d2, d3] => { results := [.lit (.bool false)], args := [d1, d2, d3] }
  | _ => none }
def SstpTellsWrongFalsely : Prop := sstpTellsRow.holds Try.pinned (OpenSpec.ofChange sstpTellsWrong)

/-- 'treebridgelaw04.SstpBack': WHATEVER THE INPUT: true; the input reads as it did. -/
def sstpBackSpec : ChangeSpec := { name := "sstpBack", fn := fun _ => fun
  | [d1, d2, d3, d4] => { results := [.lit (.bool true)], args := [d1, d2, d3, d4] }
  | _ => none }
def sstpBackRow : OpenClaim := { program := "yticobcojmpakfaa", sum := "03b0b32c0fc51ba9baa6e9d9f92d24663c07d2ba1480801d4b6555c851e84317", func := "treebridge/treebridgelaw04.SstpBack", spec := "sstpBack", unfollowed := true, recurses := true, apart := false }
def SstpBackSaid : Prop := sstpBackRow.holds Try.pinned (OpenSpec.ofChange sstpBackSpec)

/-- ITS FALSE NEIGHBOUR: 'it returns false'. Refute it at one input. -/
def sstpBackWrong : ChangeSpec := { name := "sstpBack", fn := fun _ => fun
  | [d1, d2, d3, d4] => { results := [.lit (.bool false)], args := [d1, d2, d3, d4] }
  | _ => none }
def SstpBackWrongFalsely : Prop := sstpBackRow.holds Try.pinned (OpenSpec.ofChange sstpBackWrong)

/- THE SECOND FORM. 'bulk': how many values and letters a reading holds, each counted each time it is reached (what is shared counts as often as it is met; a slice's spare places count too). A statement '..UptoSaid' is the law's where the arguments, and the package variables that the reading takes, are together of bulk at most 1048576: NARROWER than '..Said'. Prove '..Said' where nothing that the law and all that it calls make is longer than what came in: it says more and counts as full. Else prove '..UptoSaid'. A law counts once. -/
mutual
def uptoBulk {H : Type} : DataW H → Nat
  | .lit (.string bytes) => bytes.length + 1
  | .lit _ => 1
  | .nil => 1
  | .ptr d => uptoBulk d + 1
  | .slice elems spare => uptoBulkAll elems + uptoBulkAll spare + 1
  | .agg parts => uptoBulkAll parts + 1
  | .iface _ d => uptoBulk d + 1
  | .map entries => uptoBulkEntries entries + 1
  | .held _ => 1
def uptoBulkAll {H : Type} : List (DataW H) → Nat
  | [] => 0
  | d :: r => uptoBulk d + uptoBulkAll r
def uptoBulkEntries {H : Type} : List (Lit × DataW H) → Nat
  | [] => 0
  | x :: r => uptoBulkEntry x + uptoBulkEntries r
def uptoBulkEntry {H : Type} : Lit × DataW H → Nat
  | (.string bytes, d) => bytes.length + uptoBulk d + 1
  | (_, d) => uptoBulk d + 1
 end
def uptoSmall : (H : Type) → List (DataW H) → Bool := fun _ ds => decide (uptoBulkAll ds ≤ 1048576)
def OpenSpec.upto (s : _root_.Go.ChangeSpec) : _root_.Go.OpenSpec := { _root_.Go.OpenSpec.ofChange s with cond := some uptoSmall }

/-- 'treebridgelaw02.LlcTells', WHERE WHAT IT READS IS OF BULK AT MOST 1048576: true; the input reads as it did. -/
def llcTellsUptoRow : OpenClaim := { program := "yticobcojmpakfaa", sum := "03b0b32c0fc51ba9baa6e9d9f92d24663c07d2ba1480801d4b6555c851e84317", func := "treebridge/treebridgelaw02.LlcTells", spec := "llcTells", unfollowed := true, recurses := true, apart := false, narrowed := true }
def LlcTellsUptoSaid : Prop := llcTellsUptoRow.holds Try.pinned (OpenSpec.upto llcTellsSpec)

/-- 'treebridgelaw02.LlcBack', WHERE WHAT IT READS IS OF BULK AT MOST 1048576: true; the input reads as it did. -/
def llcBackUptoRow : OpenClaim := { program := "yticobcojmpakfaa", sum := "03b0b32c0fc51ba9baa6e9d9f92d24663c07d2ba1480801d4b6555c851e84317", func := "treebridge/treebridgelaw02.LlcBack", spec := "llcBack", unfollowed := true, recurses := true, apart := false, narrowed := true }
def LlcBackUptoSaid : Prop := llcBackUptoRow.holds Try.pinned (OpenSpec.upto llcBackSpec)

/-- 'treebridgelaw01.FrameCounts', WHERE WHAT IT READS IS OF BULK AT MOST 1048576: true; the input reads as it did. -/
def frameCountsUptoRow : OpenClaim := { program := "yticobcojmpakfaa", sum := "03b0b32c0fc51ba9baa6e9d9f92d24663c07d2ba1480801d4b6555c851e84317", func := "treebridge/treebridgelaw01.FrameCounts", spec := "frameCounts", inPlace := ["sync/atomic.AddInt64", "sync/atomic.LoadInt64"], unfollowed := true, recurses := true, apart := false, narrowed := true }
def FrameCountsUptoSaid : Prop := frameCountsUptoRow.holds Try.pinned (OpenSpec.upto frameCountsSpec)

/-- 'treebridgelaw01.FrameTells', WHERE WHAT IT READS IS OF BULK AT MOST 1048576: true; the input reads as it did. -/
def frameTellsUptoRow : OpenClaim := { program := "yticobcojmpakfaa", sum := "03b0b32c0fc51ba9baa6e9d9f92d24663c07d2ba1480801d4b6555c851e84317", func := "treebridge/treebridgelaw01.FrameTells", spec := "frameTells", inPlace := ["sync/atomic.AddInt64", "sync/atomic.LoadInt64"], unfollowed := true, recurses := true, apart := false, narrowed := true }
def FrameTellsUptoSaid : Prop := frameTellsUptoRow.holds Try.pinned (OpenSpec.upto frameTellsSpec)

/-- 'treebridgelaw01.FrameBack', WHERE WHAT IT READS IS OF BULK AT MOST 1048576: true; the input reads as it did. -/
def frameBackUptoRow : OpenClaim := { program := "yticobcojmpakfaa", sum := "03b0b32c0fc51ba9baa6e9d9f92d24663c07d2ba1480801d4b6555c851e84317", func := "treebridge/treebridgelaw01.FrameBack", spec := "frameBack", inPlace := ["sync/atomic.AddInt64", "sync/atomic.LoadInt64"], unfollowed := true, recurses := true, apart := false, narrowed := true }
def FrameBackUptoSaid : Prop := frameBackUptoRow.holds Try.pinned (OpenSpec.upto frameBackSpec)

/-- 'treebridgelaw03.BpduTells', WHERE WHAT IT READS IS OF BULK AT MOST 1048576: true; the input reads as it did. -/
def bpduTellsUptoRow : OpenClaim := { program := "yticobcojmpakfaa", sum := "03b0b32c0fc51ba9baa6e9d9f92d24663c07d2ba1480801d4b6555c851e84317", func := "treebridge/treebridgelaw03.BpduTells", spec := "bpduTells", unfollowed := true, recurses := true, apart := false, narrowed := true }
def BpduTellsUptoSaid : Prop := bpduTellsUptoRow.holds Try.pinned (OpenSpec.upto bpduTellsSpec)

/-- 'treebridgelaw03.BpduBack', WHERE WHAT IT READS IS OF BULK AT MOST 1048576: true; the input reads as it did. -/
def bpduBackUptoRow : OpenClaim := { program := "yticobcojmpakfaa", sum := "03b0b32c0fc51ba9baa6e9d9f92d24663c07d2ba1480801d4b6555c851e84317", func := "treebridge/treebridgelaw03.BpduBack", spec := "bpduBack", unfollowed := true, recurses := true, apart := false, narrowed := true }
def BpduBackUptoSaid : Prop := bpduBackUptoRow.holds Try.pinned (OpenSpec.upto bpduBackSpec)

/-- 'treebridgelaw05.VectorParts', WHERE WHAT IT READS IS OF BULK AT MOST 1048576: true; the input reads as it did. -/
def vectorPartsUptoRow : OpenClaim := { program := "yticobcojmpakfaa", sum := "03b0b32c0fc51ba9baa6e9d9f92d24663c07d2ba1480801d4b6555c851e84317", func := "treebridge/treebridgelaw05.VectorParts", spec := "vectorParts", unfollowed := true, recurses := true, apart := false, narrowed := true }
def VectorPartsUptoSaid : Prop := vectorPartsUptoRow.holds Try.pinned (OpenSpec.upto vectorPartsSpec)

/-- 'treebridgelaw05.VectorOrder', WHERE WHAT IT READS IS OF BULK AT MOST 1048576: true; the input reads as it did. -/
def vectorOrderUptoRow : OpenClaim := { program := "yticobcojmpakfaa", sum := "03b0b32c0fc51ba9baa6e9d9f92d24663c07d2ba1480801d4b6555c851e84317", func := "treebridge/treebridgelaw05.VectorOrder", spec := "vectorOrder", unfollowed := true, recurses := true, apart := false, narrowed := true }
def VectorOrderUptoSaid : Prop := vectorOrderUptoRow.holds Try.pinned (OpenSpec.upto vectorOrderSpec)

/-- 'treebridgelaw05.VectorRaised', WHERE WHAT IT READS IS OF BULK AT MOST 1048576: true; the input reads as it did. -/
def vectorRaisedUptoRow : OpenClaim := { program := "yticobcojmpakfaa", sum := "03b0b32c0fc51ba9baa6e9d9f92d24663c07d2ba1480801d4b6555c851e84317", func := "treebridge/treebridgelaw05.VectorRaised", spec := "vectorRaised", unfollowed := true, recurses := true, apart := false, narrowed := true }
def VectorRaisedUptoSaid : Prop := vectorRaisedUptoRow.holds Try.pinned (OpenSpec.upto vectorRaisedSpec)

/-- 'treebridgelaw04.SstpTells', WHERE WHAT IT READS IS OF BULK AT MOST 1048576: true; the input reads as it did. -/
def sstpTellsUptoRow : OpenClaim := { program := "yticobcojmpakfaa", sum := "03b0b32c0fc51ba9baa6e9d9f92d24663c07d2ba1480801d4b6555c851e84317", func := "treebridge/treebridgelaw04.SstpTells", spec := "sstpTells", unfollowed := true, recurses := true, apart := false, narrowed := true }
def SstpTellsUptoSaid : Prop := sstpTellsUptoRow.holds Try.pinned (OpenSpec.upto sstpTellsSpec)

/-- 'treebridgelaw04.SstpBack', WHERE WHAT IT READS IS OF BULK AT MOST 1048576: true; the input reads as it did. -/
def sstpBackUptoRow : OpenClaim := { program := "yticobcojmpakfaa", sum := "03b0b32c0fc51ba9baa6e9d9f92d24663c07d2ba1480801d4b6555c851e84317", func := "treebridge/treebridgelaw04.SstpBack", spec := "sstpBack", unfollowed := true, recurses := true, apart := false, narrowed := true }
def SstpBackUptoSaid : Prop := sstpBackUptoRow.holds Try.pinned (OpenSpec.upto sstpBackSpec)

end Rows
end Go.Proofs.Yticobcojmpakfaa
