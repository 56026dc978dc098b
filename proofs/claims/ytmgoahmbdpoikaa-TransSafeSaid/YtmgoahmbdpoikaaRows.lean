/-
  No cell of these rows narrows 'for every input' (looked for: loops, veiled, ifaces, maps, wideKeys, modest, calm, conditions, laid).
  DERIVED. THE GIVEN ROWS OF THIS SEAT. 8 by the template 'for every input the law returns true; each argument reads behind the call as it read before'; 0 by the template 'total and deterministic' (their statements: YtmgoahmbdpoikaaTotals.lean).
  GIVEN WITH THE SEED: the statements are not yours to turn. If you find one false, say at which input.
  Laid BY PROGRAM, IN A SANDBOX (cutbox-rows.mjs): the forced cells as the released guide's own fill.sh prints them over the translation 6504c5ba8ee30a42… (all of the seat's roots in one cut). By AI agents, Wed Nov 11 2026. No macro, syntax, notation, axiom, sorry.
-/
import Derived.Test.YtmgoahmbdpoikaaChecked
import GoSem.Claim
import GoSem.ClaimJoined
import GoSem.ClaimMapViews
import Derived.JoinedTies
import Derived.KernelRfl
namespace Go.Proofs.Ytmgoahmbdpoikaa
/- THE CELL 'sum', in the pinned program and in every row, IS THE sha256 OF THE DUMP (.gsa) THAT YtmgoahmbdpoikaaProg.lean LOADS. Nothing in Lean hashes anything: it is a label: what it is worth is what the hold of that sum in a sandbox is worth. -/
noncomputable def Try.pinned : Pinned := { name := "ytmgoahmbdpoikaa", sum := "6504c5ba8ee30a427d6cf206ee9402ac52462f563ced7a086de8420b3b1c0ded", checked := Try.checked }
namespace Rows
def none {H : Type} : Left H := { results := [], args := [] }

/-- 'treebridgelaw14.SendTongues': WHATEVER THE INPUT: true; the input reads as it did. -/
def sendTonguesSpec : ChangeSpec := { name := "sendTongues", fn := fun _ => fun
  | [d] => { results := [.lit (.bool true)], args := [d] }
  | _ => none }
def sendTonguesRow : OpenClaim := { program := "ytmgoahmbdpoikaa", sum := "6504c5ba8ee30a427d6cf206ee9402ac52462f563ced7a086de8420b3b1c0ded", func := "treebridge/treebridgelaw14.SendTongues", spec := "sendTongues", unfollowed := true, recurses := true, apart := false }
def SendTonguesSaid : Prop := sendTonguesRow.holds Try.pinned (OpenSpec.ofChange sendTonguesSpec)

/-- ITS FALSE NEIGHBOUR: 'it returns false'. Refute it at one input. -/
def sendTonguesWrong : ChangeSpec := { name := "sendTongues", fn := fun _ => fun
  | [d] => { results := [.lit (.bool false)], args := [d] }
  | _ => none }
def SendTonguesWrongFalsely : Prop := sendTonguesRow.holds Try.pinned (OpenSpec.ofChange sendTonguesWrong)

/-- 'treebridgelaw13.ChangeTells': WHATEVER THE INPUT: true; the input reads as it did. -/
def changeTellsSpec : ChangeSpec := { name := "changeTells", fn := fun _ => fun
  | [d1, d2, d3] => { results := [.lit (.bool true)], args := [d1, d2, d3] }
  | _ => none }
def changeTellsRow : OpenClaim := { program := "ytmgoahmbdpoikaa", sum := "6504c5ba8ee30a427d6cf206ee9402ac52462f563ced7a086de8420b3b1c0ded", func := "treebridge/treebridgelaw13.ChangeTells", spec := "changeTells", unfollowed := true, recurses := true, apart := false }
def ChangeTellsSaid : Prop := changeTellsRow.holds Try.pinned (OpenSpec.ofChange changeTellsSpec)

/-- ITS FALSE NEIGHBOUR: 'it returns false'. Refute it at one input. -/
def changeTellsWrong : ChangeSpec := { name := "changeTells", fn := fun _ => fun
  | [d1, d2, d3] => { results := [.lit (.bool false)], args := [d1, d2, d3] }
  | _ => none }
def ChangeTellsWrongFalsely : Prop := changeTellsRow.holds Try.pinned (OpenSpec.ofChange changeTellsWrong)

/-- 'treebridgelaw14.SendRight': WHATEVER THE INPUT: true; the input reads as it did. -/
def sendRightSpec : ChangeSpec := { name := "sendRight", fn := fun _ => fun
  | [d1, d2, d3] => { results := [.lit (.bool true)], args := [d1, d2, d3] }
  | _ => none }
def sendRightRow : OpenClaim := { program := "ytmgoahmbdpoikaa", sum := "6504c5ba8ee30a427d6cf206ee9402ac52462f563ced7a086de8420b3b1c0ded", func := "treebridge/treebridgelaw14.SendRight", spec := "sendRight", unfollowed := true, recurses := true, apart := false }
def SendRightSaid : Prop := sendRightRow.holds Try.pinned (OpenSpec.ofChange sendRightSpec)

/-- ITS FALSE NEIGHBOUR: 'it returns false'. Refute it at one input. -/
def sendRightWrong : ChangeSpec := { name := "sendRight", fn := fun _ => fun
  | [d1, d2, d3] => { results := [.lit (.bool false)], args := [d1, d2, d3] }
  | _ => none }
def SendRightWrongFalsely : Prop := sendRightRow.holds Try.pinned (OpenSpec.ofChange sendRightWrong)

/-- 'treebridgelaw13.ChangeSteps': WHATEVER THE INPUT: true; the input reads as it did. -/
def changeStepsSpec : ChangeSpec := { name := "changeSteps", fn := fun _ => fun
  | [d1, d2, d3] => { results := [.lit (.bool true)], args := [d1, d2, d3] }
  | _ => none }
def changeStepsRow : OpenClaim := { program := "ytmgoahmbdpoikaa", sum := "6504c5ba8ee30a427d6cf206ee9402ac52462f563ced7a086de8420b3b1c0ded", func := "treebridge/treebridgelaw13.ChangeSteps", spec := "changeSteps", unfollowed := true, recurses := true, apart := false }
def ChangeStepsSaid : Prop := changeStepsRow.holds Try.pinned (OpenSpec.ofChange changeStepsSpec)

/-- ITS FALSE NEIGHBOUR: 'it returns false'. Refute it at one input. -/
def changeStepsWrong : ChangeSpec := { name := "changeSteps", fn := fun _ => fun
  | [d1, d2, d3] => { results := [.lit (.bool false)], args := [d1, d2, d3] }
  | _ => none }
def ChangeStepsWrongFalsely : Prop := changeStepsRow.holds Try.pinned (OpenSpec.ofChange changeStepsWrong)

/-- 'treebridgelaw11.InfoTells': WHATEVER THE INPUT: true; the input reads as it did. -/
def infoTellsSpec : ChangeSpec := { name := "infoTells", fn := fun _ => fun
  | [d1, d2, d3] => { results := [.lit (.bool true)], args := [d1, d2, d3] }
  | _ => none }
def infoTellsRow : OpenClaim := { program := "ytmgoahmbdpoikaa", sum := "6504c5ba8ee30a427d6cf206ee9402ac52462f563ced7a086de8420b3b1c0ded", func := "treebridge/treebridgelaw11.InfoTells", spec := "infoTells", unfollowed := true, recurses := true, apart := false }
def InfoTellsSaid : Prop := infoTellsRow.holds Try.pinned (OpenSpec.ofChange infoTellsSpec)

/-- ITS FALSE NEIGHBOUR: 'it returns false'. Refute it at one input. -/
def infoTellsWrong : ChangeSpec := { name := "infoTells", fn := fun _ => fun
  | [d1, d2, d3] => { results := [.lit (.bool false)], args := [d1, d2, d3] }
  | _ => none }
def InfoTellsWrongFalsely : Prop := infoTellsRow.holds Try.pinned (OpenSpec.ofChange infoTellsWrong)

/-- 'treebridgelaw11.InfoRests': WHATEVER THE INPUT: true; the input reads as it did. -/
def infoRestsSpec : ChangeSpec := { name := "infoRests", fn := fun _ => fun
  | [d1, d2] => { results := [.lit (.bool true)], args := [d1, d2] }
  | _ => none }
def infoRestsRow : OpenClaim := { program := "ytmgoahmbdpoikaa", sum := "6504c5ba8ee30a427d6cf206ee9402ac52462f563ced7a086de8420b3b1c0ded", func := "treebridge/treebridgelaw11.InfoRests", spec := "infoRests", unfollowed := true, recurses := true, apart := false }
def InfoRestsSaid : Prop := infoRestsRow.holds Try.pinned (OpenSpec.ofChange infoRestsSpec)

/-- ITS FALSE NEIGHBOUR: 'it returns false'. Refute it at one input. -/
def infoRestsWrong : ChangeSpec := { name := "infoRests", fn := fun _ => fun
  | [d1, d2] => { results := [.lit (.bool false)], args := [d1, d2] }
  | _ => none }
def InfoRestsWrongFalsely : Prop := infoRestsRow.holds Try.pinned (OpenSpec.ofChange infoRestsWrong)

/-- 'treebridgelaw11.InfoOff': WHATEVER THE INPUT: true; the input reads as it did. -/
def infoOffSpec : ChangeSpec := { name := "infoOff", fn := fun _ => fun
  | [d1, d2] => { results := [.lit (.bool true)], args := [d1, d2] }
  | _ => none }
def infoOffRow : OpenClaim := { program := "ytmgoahmbdpoikaa", sum := "6504c5ba8ee30a427d6cf206ee9402ac52462f563ced7a086de8420b3b1c0ded", func := "treebridge/treebridgelaw11.InfoOff", spec := "infoOff", unfollowed := true, recurses := true, apart := false }
def InfoOffSaid : Prop := infoOffRow.holds Try.pinned (OpenSpec.ofChange infoOffSpec)

/-- ITS FALSE NEIGHBOUR: 'it returns false'. Refute it at one input. -/
def infoOffWrong : ChangeSpec := { name := "infoOff", fn := fun _ => fun
  | [d1, d2] => { results := [.lit (.bool false)], args := [d1, d2] }
  | _ => none }
def InfoOffWrongFalsely : Prop := infoOffRow.holds Try.pinned (OpenSpec.ofChange infoOffWrong)

/-- 'treebridgelaw12.TransSafe': WHATEVER THE INPUT: true; the input reads as it did. -/
def transSafeSpec : ChangeSpec := { name := "transSafe", fn := fun _ => fun
  | [d1, d2] => { results := [.lit (.bool true)], args := [d1, d2] }
  | _ => none }
def transSafeRow : OpenClaim := { program := "ytmgoahmbdpoikaa", sum := "6504c5ba8ee30a427d6cf206ee9402ac52462f563ced7a086de8420b3b1c0ded", func := "treebridge/treebridgelaw12.TransSafe", spec := "transSafe", unfollowed := true, recurses := true, apart := false }
def TransSafeSaid : Prop := transSafeRow.holds Try.pinned (OpenSpec.ofChange transSafeSpec)

/-- ITS FALSE NEIGHBOUR: 'it returns false'. Refute it at one input. -/
def transSafeWrong : ChangeSpec := { name := "transSafe", fn := fun _ => fun
  | [d1, d2] => { results := [.lit (.bool false)], args := [d1, d2] }
  | _ => none }
def TransSafeWrongFalsely : Prop := transSafeRow.holds Try.pinned (OpenSpec.ofChange transSafeWrong)

/- THE SECOND FORM. 'bulk': how many values and letters a reading holds, each counted each time it is reached (what is shared counts as often as it is met; a slice's spare places count too). A statement '..UptoSaid' is the law's where the arguments, and the package variables that the reading takes, are together of bulk at most 1048576: NARROWER than '..Said'. Prove '..Said' where nothing that the law and all that it calls make is longer than what came in: it says more and counts as full. Else prove '..UptoSaid'. A law counts once. -/
mutual
def uptoBulk {H : Type} : DataW H → Nat
  | .lit (.string bytes) => bytes.length + 1
  | .lit _ => 1
  | .nil => 1
  | .ptr d => uptoBulk d + 1
  | .slice elems spare => uptoBulkAll elems + uptoBulkAll spare + 1
  | .agg parts => uptoBulkAll parts + 1
  | .iface _ d => uptoBulk d + 1
  | .map entries => uptoBulkEntries entries + 1
  | .held _ => 1
def uptoBulkAll {H : Type} : List (DataW H) → Nat
  | [] => 0
  | d :: r => uptoBulk d + uptoBulkAll r
def uptoBulkEntries {H : Type} : List (Lit × DataW H) → Nat
  | [] => 0
  | x :: r => uptoBulkEntry x + uptoBulkEntries r
def uptoBulkEntry {H : Type} : Lit × DataW H → Nat
  | (.string bytes, d) => bytes.length + uptoBulk d + 1
  | (_, d) => uptoBulk d + 1
 end
def uptoSmall : (H : Type) → List (DataW H) → Bool := fun _ ds => decide (uptoBulkAll ds ≤ 1048576)
def OpenSpec.upto (s : _root_.Go.ChangeSpec) : _root_.Go.OpenSpec := { _root_.Go.OpenSpec.ofChange s with cond := some uptoSmall }

/-- 'treebridgelaw14.SendTongues', WHERE WHAT IT READS IS OF BULK AT MOST 1048576: true; the input reads as it did. -/
def sendTonguesUptoRow : OpenClaim := { program := "ytmgoahmbdpoikaa", sum := "6504c5ba8ee30a427d6cf206ee9402ac52462f563ced7a086de8420b3b1c0ded", func := "treebridge/treebridgelaw14.SendTongues", spec := "sendTongues", unfollowed := true, recurses := true, apart := false, narrowed := true }
def SendTonguesUptoSaid : Prop := sendTonguesUptoRow.holds Try.pinned (OpenSpec.upto sendTonguesSpec)

/-- 'treebridgelaw13.ChangeTells', WHERE WHAT IT READS IS OF BULK AT MOST 1048576: true; the input reads as it did. -/
def changeTellsUptoRow : OpenClaim := { program := "ytmgoahmbdpoikaa", sum := "6504c5ba8ee30a427d6cf206ee9402ac52462f563ced7a086de8420b3b1c0ded", func := "treebridge/treebridgelaw13.ChangeTells", spec := "changeTells", unfollowed := true, recurses := true, apart := false, narrowed := true }
def ChangeTellsUptoSaid : Prop := changeTellsUptoRow.holds Try.pinned (OpenSpec.upto changeTellsSpec)

/-- 'treebridgelaw14.SendRight', WHERE WHAT IT READS IS OF BULK AT MOST 1048576: true; the input reads as it did. -/
def sendRightUptoRow : OpenClaim := { program := "ytmgoahmbdpoikaa", sum := "6504c5ba8ee30a427d6cf206ee9402ac52462f563ced7a086de8420b3b1c0ded", func := "treebridge/treebridgelaw14.SendRight", spec := "sendRight", unfollowed := true, recurses := true, apart := false, narrowed := true }
def SendRightUptoSaid : Prop := sendRightUptoRow.holds Try.pinned (OpenSpec.upto sendRightSpec)

/-- 'treebridgelaw13.ChangeSteps', WHERE WHAT IT READS IS OF BULK AT MOST 1048576: true; the input reads as it did. -/
def changeStepsUptoRow : OpenClaim := { program := "ytmgoahmbdpoikaa", sum := "6504c5ba8ee30a427d6cf206ee9402ac52462f563ced7a086de8420b3b1c0ded", func := "treebridge/treebridgelaw13.ChangeSteps", spec := "changeSteps", unfollowed := true, recurses := true, apart := false, narrowed := true }
def ChangeStepsUptoSaid : Prop := changeStepsUptoRow.holds Try.pinned (OpenSpec.upto changeStepsSpec)

/-- 'treebridgelaw11.InfoTells', WHERE WHAT IT READS IS OF BULK AT MOST 1048576: true; the input reads as it did. -/
def infoTellsUptoRow : OpenClaim := { program := "ytmgoahmbdpoikaa", sum := "6504c5ba8ee30a427d6cf206ee9402ac52462f563ced7a086de8420b3b1c0ded", func := "treebridge/treebridgelaw11.InfoTells", spec := "infoTells", unfollowed := true, recurses := true, apart := false, narrowed := true }
def InfoTellsUptoSaid : Prop := infoTellsUptoRow.holds Try.pinned (OpenSpec.upto infoTellsSpec)

/-- 'treebridgelaw11.InfoRests', WHERE WHAT IT READS IS OF BULK AT MOST 1048576: true; the input reads as it did. -/
def infoRestsUptoRow : OpenClaim := { program := "ytmgoahmbdpoikaa", sum := "6504c5ba8ee30a427d6cf206ee9402ac52462f563ced7a086de8420b3b1c0ded", func := "treebridge/treebridgelaw11.InfoRests", spec := "infoRests", unfollowed := true, recurses := true, apart := false, narrowed := true }
def InfoRestsUptoSaid : Prop := infoRestsUptoRow.holds Try.pinned (OpenSpec.upto infoRestsSpec)

/-- 'treebridgelaw11.InfoOff', WHERE WHAT IT READS IS OF BULK AT MOST 1048576: true; the input reads as it did. -/
def infoOffUptoRow : OpenClaim := { program := "ytmgoahmbdpoikaa", sum := "6504c5ba8ee30a427d6cf206ee9402ac52462f563ced7a086de8420b3b1c0ded", func := "treebridge/treebridgelaw11.InfoOff", spec := "infoOff", unfollowed := true, recurses := true, apart := false, narrowed := true }
def InfoOffUptoSaid : Prop := infoOffUptoRow.holds Try.pinned (OpenSpec.upto infoOffSpec)

/-- 'treebridgelaw12.TransSafe', WHERE WHAT IT READS IS OF BULK AT MOST 1048576: true; the input reads as it did. -/
def transSafeUptoRow : OpenClaim := { program := "ytmgoahmbdpoikaa", sum := "6504c5ba8ee30a427d6cf206ee9402ac52462f563ced7a086de8420b3b1c0ded", func := "treebridge/treebridgelaw12.TransSafe", spec := "transSafe", unfollowed := true, recurses := true, apart := false, narrowed := true }
def TransSafeUptoSaid : Prop := transSafeUptoRow.holds Try.pinned (OpenSpec.upto transSafeSpec)

end Rows
end Go.Proofs.Ytmgoahmbdpoikaa
