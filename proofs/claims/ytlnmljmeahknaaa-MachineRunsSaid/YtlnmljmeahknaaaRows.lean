/-
  No cell of these rows narrows 'for every input' (looked for: loops, veiled, ifaces, maps, wideKeys, modest, calm, conditions, laid).
  DERIVED. THE GIVEN ROWS OF THIS SEAT. 11 by the template 'for every input the law returns true; each argument reads behind the call as it read before'; 0 by the template 'total and deterministic' (their statements: YtlnmljmeahknaaaTotals.lean).
  GIVEN WITH THE SEED: the statements are not yours to turn. If you find one false, say at which input.
  Laid BY PROGRAM, IN A SANDBOX (cutbox-rows.mjs): the forced cells as the released guide's own fill.sh prints them over the translation 892b675d69402fae… (all of the seat's roots in one cut). By AI agents, Wed Nov 11 2026. No macro, syntax, notation, axiom, sorry.
-/
import Derived.Test.YtlnmljmeahknaaaChecked
import GoSem.Claim
import GoSem.ClaimJoined
import GoSem.ClaimMapViews
import Derived.JoinedTies
import Derived.KernelRfl
namespace Go.Proofs.Ytlnmljmeahknaaa
/- THE CELL 'sum', in the pinned program and in every row, IS THE sha256 OF THE DUMP (.gsa) THAT YtlnmljmeahknaaaProg.lean LOADS. Nothing in Lean hashes anything: it is a label: what it is worth is what the hold of that sum in a sandbox is worth. -/
noncomputable def Try.pinned : Pinned := { name := "ytlnmljmeahknaaa", sum := "892b675d69402faee4e4ff2a76dc8a9f443bd8fc4833c4b7a68898296a8eb6db", checked := Try.checked }
namespace Rows
def none {H : Type} : Left H := { results := [], args := [] }

/-- 'spinnakerlaw08.StoreQueues': WHATEVER THE INPUT: true; the input reads as it did. -/
def storeQueuesSpec : ChangeSpec := { name := "storeQueues", fn := fun _ => fun
  | [d1, d2] => { results := [.lit (.bool true)], args := [d1, d2] }
  | _ => none }
def storeQueuesRow : OpenClaim := { program := "ytlnmljmeahknaaa", sum := "892b675d69402faee4e4ff2a76dc8a9f443bd8fc4833c4b7a68898296a8eb6db", func := "spinnaker/spinnakerlaw08.StoreQueues", spec := "storeQueues", apart := false }
def StoreQueuesSaid : Prop := storeQueuesRow.holds Try.pinned (OpenSpec.ofChange storeQueuesSpec)

/-- ITS FALSE NEIGHBOUR: 'it returns false'. Refute it at one input. -/
def storeQueuesWrong : ChangeSpec := { name := "storeQueues", fn := fun _ => fun
  | [d1, d2] => { results := [.lit (.bool false)], args := [d1, d2] }
  | _ => none }
def StoreQueuesWrongFalsely : Prop := storeQueuesRow.holds Try.pinned (OpenSpec.ofChange storeQueuesWrong)

/-- 'spinnakerlaw08.StoreNone': WHATEVER THE INPUT: true; the input reads as it did. -/
def storeNoneSpec : ChangeSpec := { name := "storeNone", fn := fun _ => fun
  | [d1, d2, d3] => { results := [.lit (.bool true)], args := [d1, d2, d3] }
  | _ => none }
def storeNoneRow : OpenClaim := { program := "ytlnmljmeahknaaa", sum := "892b675d69402faee4e4ff2a76dc8a9f443bd8fc4833c4b7a68898296a8eb6db", func := "spinnaker/spinnakerlaw08.StoreNone", spec := "storeNone", apart := false }
def StoreNoneSaid : Prop := storeNoneRow.holds Try.pinned (OpenSpec.ofChange storeNoneSpec)

/-- ITS FALSE NEIGHBOUR: 'it returns false'. Refute it at one input. -/
def storeNoneWrong : ChangeSpec := { name := "storeNone", fn := fun _ => fun
  | [d1, d2, d3] => { results := [.lit (.bool false)], args := [d1, d2, d3] }
  | _ => none }
def StoreNoneWrongFalsely : Prop := storeNoneRow.holds Try.pinned (OpenSpec.ofChange storeNoneWrong)

/-- 'spinnakerlaw08.StoreOrder': WHATEVER THE INPUT: true; the input reads as it did. -/
def storeOrderSpec : ChangeSpec := { name := "storeOrder", fn := fun _ => fun
  | [d1, d2, d3] => { results := [.lit (.bool true)], args := [d1, d2, d3] }
  | _ => none }
def storeOrderRow : OpenClaim := { program := "ytlnmljmeahknaaa", sum := "892b675d69402faee4e4ff2a76dc8a9f443bd8fc4833c4b7a68898296a8eb6db", func := "spinnaker/spinnakerlaw08.StoreOrder", spec := "storeOrder", apart := false }
def StoreOrderSaid : Prop := storeOrderRow.holds Try.pinned (OpenSpec.ofChange storeOrderSpec)

/-- ITS FALSE NEIGHBOUR: 'it returns false'. Refute it at one input. -/
def storeOrderWrong : ChangeSpec := { name := "storeOrder", fn := fun _ => fun
  | [d1, d2, d3] => { results := [.lit (.bool false)], args := [d1, d2, d3] }
  | _ => none }
def StoreOrderWrongFalsely : Prop := storeOrderRow.holds Try.pinned (OpenSpec.ofChange storeOrderWrong)

/-- 'spinnakerlaw10.StepActs': WHATEVER THE INPUT: true; the input reads as it did. -/
def stepActsSpec : ChangeSpec := { name := "stepActs", fn := fun _ => fun
  | [d] => { results := [.lit (.bool true)], args := [d] }
  | _ => none }
def stepActsRow : OpenClaim := { program := "ytlnmljmeahknaaa", sum := "892b675d69402faee4e4ff2a76dc8a9f443bd8fc4833c4b7a68898296a8eb6db", func := "spinnaker/spinnakerlaw10.StepActs", spec := "stepActs", unfollowed := true, recurses := true, apart := false }
def StepActsSaid : Prop := stepActsRow.holds Try.pinned (OpenSpec.ofChange stepActsSpec)

/-- ITS FALSE NEIGHBOUR: 'it returns false'. Refute it at one input. -/
def stepActsWrong : ChangeSpec := { name := "stepActs", fn := fun _ => fun
  | [d] => { results := [.lit (.bool false)], args := [d] }
  | _ => none }
def StepActsWrongFalsely : Prop := stepActsRow.holds Try.pinned (OpenSpec.ofChange stepActsWrong)

/-- 'spinnakerlaw10.StepFlushes': WHATEVER THE INPUT: true; the input reads as it did. -/
def stepFlushesSpec : ChangeSpec := { name := "stepFlushes", fn := fun _ => fun
  | [d] => { results := [.lit (.bool true)], args := [d] }
  | _ => none }
def stepFlushesRow : OpenClaim := { program := "ytlnmljmeahknaaa", sum := "892b675d69402faee4e4ff2a76dc8a9f443bd8fc4833c4b7a68898296a8eb6db", func := "spinnaker/spinnakerlaw10.StepFlushes", spec := "stepFlushes", unfollowed := true, recurses := true, apart := false }
def StepFlushesSaid : Prop := stepFlushesRow.holds Try.pinned (OpenSpec.ofChange stepFlushesSpec)

/-- ITS FALSE NEIGHBOUR: 'it returns false'. Refute it at one input. -/
def stepFlushesWrong : ChangeSpec := { name := "stepFlushes", fn := fun _ => fun
  | [d] => { results := [.lit (.bool false)], args := [d] }
  | _ => none }
def StepFlushesWrongFalsely : Prop := stepFlushesRow.holds Try.pinned (OpenSpec.ofChange stepFlushesWrong)

/-- 'spinnakerlaw10.StepKeeps': WHATEVER THE INPUT: true; the input reads as it did. -/
def stepKeepsSpec : ChangeSpec := { name := "stepKeeps", fn := fun _ => fun
  | [d] => { results := [.lit (.bool true)], args := [d] }
  | _ => none }
def stepKeepsRow : OpenClaim := { program := "ytlnmljmeahknaaa", sum := "892b675d69402faee4e4ff2a76dc8a9f443bd8fc4833c4b7a68898296a8eb6db", func := "spinnaker/spinnakerlaw10.StepKeeps", spec := "stepKeeps", unfollowed := true, recurses := true, apart := false }
def StepKeepsSaid : Prop := stepKeepsRow.holds Try.pinned (OpenSpec.ofChange stepKeepsSpec)

/-- ITS FALSE NEIGHBOUR: 'it returns false'. Refute it at one input. -/
def stepKeepsWrong : ChangeSpec := { name := "stepKeeps", fn := fun _ => fun
  | [d] => { results := [.lit (.bool false)], args := [d] }
  | _ => none }
def StepKeepsWrongFalsely : Prop := stepKeepsRow.holds Try.pinned (OpenSpec.ofChange stepKeepsWrong)

/-- 'spinnakerlaw10.StepOwn': WHATEVER THE INPUT: true; the input reads as it did. -/
def stepOwnSpec : ChangeSpec := { name := "stepOwn", fn := fun _ => fun
  | [d] => { results := [.lit (.bool true)], args := [d] }
  | _ => none }
def stepOwnRow : OpenClaim := { program := "ytlnmljmeahknaaa", sum := "892b675d69402faee4e4ff2a76dc8a9f443bd8fc4833c4b7a68898296a8eb6db", func := "spinnaker/spinnakerlaw10.StepOwn", spec := "stepOwn", unfollowed := true, recurses := true, apart := false }
def StepOwnSaid : Prop := stepOwnRow.holds Try.pinned (OpenSpec.ofChange stepOwnSpec)

/-- ITS FALSE NEIGHBOUR: 'it returns false'. Refute it at one input. -/
def stepOwnWrong : ChangeSpec := { name := "stepOwn", fn := fun _ => fun
  | [d] => { results := [.lit (.bool false)], args := [d] }
  | _ => none }
def StepOwnWrongFalsely : Prop := stepOwnRow.holds Try.pinned (OpenSpec.ofChange stepOwnWrong)

/-- 'spinnakerlaw10.StepRoom': WHATEVER THE INPUT: true; the input reads as it did. -/
def stepRoomSpec : ChangeSpec := { name := "stepRoom", fn := fun _ => fun
  | [d] => { results := [.lit (.bool true)], args := [d] }
  | _ => none }
def stepRoomRow : OpenClaim := { program := "ytlnmljmeahknaaa", sum := "892b675d69402faee4e4ff2a76dc8a9f443bd8fc4833c4b7a68898296a8eb6db", func := "spinnaker/spinnakerlaw10.StepRoom", spec := "stepRoom", unfollowed := true, recurses := true, apart := false }
def StepRoomSaid : Prop := stepRoomRow.holds Try.pinned (OpenSpec.ofChange stepRoomSpec)

/-- ITS FALSE NEIGHBOUR: 'it returns false'. Refute it at one input. -/
def stepRoomWrong : ChangeSpec := { name := "stepRoom", fn := fun _ => fun
  | [d] => { results := [.lit (.bool false)], args := [d] }
  | _ => none }
def StepRoomWrongFalsely : Prop := stepRoomRow.holds Try.pinned (OpenSpec.ofChange stepRoomWrong)

/-- 'spinnakerlaw11.MachineNames': WHATEVER THE INPUT: true; the input reads as it did. -/
def machineNamesSpec : ChangeSpec := { name := "machineNames", fn := fun _ => fun
  | [d1, d2, d3] => { results := [.lit (.bool true)], args := [d1, d2, d3] }
  | _ => none }
def machineNamesRow : OpenClaim := { program := "ytlnmljmeahknaaa", sum := "892b675d69402faee4e4ff2a76dc8a9f443bd8fc4833c4b7a68898296a8eb6db", func := "spinnaker/spinnakerlaw11.MachineNames", spec := "machineNames", unfollowed := true, recurses := true, apart := false }
def MachineNamesSaid : Prop := machineNamesRow.holds Try.pinned (OpenSpec.ofChange machineNamesSpec)

/-- ITS FALSE NEIGHBOUR: 'it returns false'. Refute it at one input. -/
def machineNamesWrong : ChangeSpec := { name := "machineNames", fn := fun _ => fun
  | [d1, d2, d3] => { results := [.lit (.bool false)], args := [d1, d2, d3] }
  | _ => none }
def MachineNamesWrongFalsely : Prop := machineNamesRow.holds Try.pinned (OpenSpec.ofChange machineNamesWrong)

/-- 'spinnakerlaw11.MachineDead': WHATEVER THE INPUT: true; the input reads as it did. -/
def machineDeadSpec : ChangeSpec := { name := "machineDead", fn := fun _ => fun
  | [d] => { results := [.lit (.bool true)], args := [d] }
  | _ => none }
def machineDeadRow : OpenClaim := { program := "ytlnmljmeahknaaa", sum := "892b675d69402faee4e4ff2a76dc8a9f443bd8fc4833c4b7a68898296a8eb6db", func := "spinnaker/spinnakerlaw11.MachineDead", spec := "machineDead", unfollowed := true, recurses := true, apart := false }
def MachineDeadSaid : Prop := machineDeadRow.holds Try.pinned (OpenSpec.ofChange machineDeadSpec)

/-- ITS FALSE NEIGHBOUR: 'it returns false'. Refute it at one input. -/
def machineDeadWrong : ChangeSpec := { name := "machineDead", fn := fun _ => fun
  | [d] => { results := [.lit (.bool false)], args := [d] }
  | _ => none }
def MachineDeadWrongFalsely : Prop := machineDeadRow.holds Try.pinned (OpenSpec.ofChange machineDeadWrong)

/-- 'spinnakerlaw11.MachineRuns': WHATEVER THE INPUT: true; the input reads as it did. -/
def machineRunsSpec : ChangeSpec := { name := "machineRuns", fn := fun _ => fun
  | [d1, d2, d3] => { results := [.lit (.bool true)], args := [d1, d2, d3] }
  | _ => none }
def machineRunsRow : OpenClaim := { program := "ytlnmljmeahknaaa", sum := "892b675d69402faee4e4ff2a76dc8a9f443bd8fc4833c4b7a68898296a8eb6db", func := "spinnaker/spinnakerlaw11.MachineRuns", spec := "machineRuns", unfollowed := true, recurses := true, apart := false }
def MachineRunsSaid : Prop := machineRunsRow.holds Try.pinned (OpenSpec.ofChange machineRunsSpec)

/-- ITS FALSE NEIGHBOUR: 'it returns false'. Refute it at one input. -/
def machineRunsWrong : ChangeSpec := { name := "machineRuns", fn := fun _ => fun
  | [d1, d2, d3] => { results := [.lit (.bool false)], args := [d1, d2, d3] }
  | _ => none }
def MachineRunsWrongFalsely : Prop := machineRunsRow.holds Try.pinned (OpenSpec.ofChange machineRunsWrong)

/- THE SECOND FORM. 'bulk': how many values and letters a reading holds, each counted each time it is reached (what is shared counts as often as it is met; a slice's spare places count too). A statement '..UptoSaid' is the law's where the arguments, and the package variables that the reading takes, are together of bulk at most 1048576: NARROWER than '..Said'. Prove '..Said' where nothing that the law and all that it calls make is longer than what came in: it says more and counts as full. Else prove '..UptoSaid'. A law counts once. -/
mutual
def uptoBulk {H : Type} : DataW H → Nat
  | .lit (.string bytes) => bytes.length + 1
  | .lit _ => 1
  | .nil => 1
  | .ptr d => uptoBulk d + 1
  | .slice elems spare => uptoBulkAll elems + uptoBulkAll spare + 1
  | .agg parts => uptoBulkAll parts + 1
  | .iface _ d => uptoBulk d + 1
  | .map entries => uptoBulkEntries entries + 1
  | .held _ => 1
def uptoBulkAll {H : Type} : List (DataW H) → Nat
  | [] => 0
  | d :: r => uptoBulk d + uptoBulkAll r
def uptoBulkEntries {H : Type} : List (Lit × DataW H) → Nat
  | [] => 0
  | x :: r => uptoBulkEntry x + uptoBulkEntries r
def uptoBulkEntry {H : Type} : Lit × DataW H → Nat
  | (.string bytes, d) => bytes.length + uptoBulk d + 1
  | (_, d) => uptoBulk d + 1
 end
def uptoSmall : (H : Type) → List (DataW H) → Bool := fun _ ds => decide (uptoBulkAll ds ≤ 1048576)
def OpenSpec.upto (s : _root_.Go.ChangeSpec) : _root_.Go.OpenSpec := { _root_.Go.OpenSpec.ofChange s with cond := some uptoSmall }

/-- 'spinnakerlaw08.StoreQueues', WHERE WHAT IT READS IS OF BULK AT MOST 1048576: true; the input reads as it did. -/
def storeQueuesUptoRow : OpenClaim := { program := "ytlnmljmeahknaaa", sum := "892b675d69402faee4e4ff2a76dc8a9f443bd8fc4833c4b7a68898296a8eb6db", func := "spinnaker/spinnakerlaw08.StoreQueues", spec := "storeQueues", apart := false, narrowed := true }
def StoreQueuesUptoSaid : Prop := storeQueuesUptoRow.holds Try.pinned (OpenSpec.upto storeQueuesSpec)

/-- 'spinnakerlaw08.StoreNone', WHERE WHAT IT READS IS OF BULK AT MOST 1048576: true; the input reads as it did. -/
def storeNoneUptoRow : OpenClaim := { program := "ytlnmljmeahknaaa", sum := "892b675d69402faee4e4ff2a76dc8a9f443bd8fc4833c4b7a68898296a8eb6db", func := "spinnaker/spinnakerlaw08.StoreNone", spec := "storeNone", apart := false, narrowed := true }
def StoreNoneUptoSaid : Prop := storeNoneUptoRow.holds Try.pinned (OpenSpec.upto storeNoneSpec)

/-- 'spinnakerlaw08.StoreOrder', WHERE WHAT IT READS IS OF BULK AT MOST 1048576: true; the input reads as it did. -/
def storeOrderUptoRow : OpenClaim := { program := "ytlnmljmeahknaaa", sum := "892b675d69402faee4e4ff2a76dc8a9f443bd8fc4833c4b7a68898296a8eb6db", func := "spinnaker/spinnakerlaw08.StoreOrder", spec := "storeOrder", apart := false, narrowed := true }
def StoreOrderUptoSaid : Prop := storeOrderUptoRow.holds Try.pinned (OpenSpec.upto storeOrderSpec)

/-- 'spinnakerlaw10.StepActs', WHERE WHAT IT READS IS OF BULK AT MOST 1048576: true; the input reads as it did. -/
def stepActsUptoRow : OpenClaim := { program := "ytlnmljmeahknaaa", sum := "892b675d69402faee4e4ff2a76dc8a9f443bd8fc4833c4b7a68898296a8eb6db", func := "spinnaker/spinnakerlaw10.StepActs", spec := "stepActs", unfollowed := true, recurses := true, apart := false, narrowed := true }
def StepActsUptoSaid : Prop := stepActsUptoRow.holds Try.pinned (OpenSpec.upto stepActsSpec)

/-- 'spinnakerlaw10.StepFlushes', WHERE WHAT IT READS IS OF BULK AT MOST 1048576: true; the input reads as it did. -/
def stepFlushesUptoRow : OpenClaim := { program := "ytlnmljmeahknaaa", sum := "892b675d69402faee4e4ff2a76dc8a9f443bd8fc4833c4b7a68898296a8eb6db", func := "spinnaker/spinnakerlaw10.StepFlushes", spec := "stepFlushes", unfollowed := true, recurses := true, apart := false, narrowed := true }
def StepFlushesUptoSaid : Prop := stepFlushesUptoRow.holds Try.pinned (OpenSpec.upto stepFlushesSpec)

/-- 'spinnakerlaw10.StepKeeps', WHERE WHAT IT READS IS OF BULK AT MOST 1048576: true; the input reads as it did. -/
def stepKeepsUptoRow : OpenClaim := { program := "ytlnmljmeahknaaa", sum := "892b675d69402faee4e4ff2a76dc8a9f443bd8fc4833c4b7a68898296a8eb6db", func := "spinnaker/spinnakerlaw10.StepKeeps", spec := "stepKeeps", unfollowed := true, recurses := true, apart := false, narrowed := true }
def StepKeepsUptoSaid : Prop := stepKeepsUptoRow.holds Try.pinned (OpenSpec.upto stepKeepsSpec)

/-- 'spinnakerlaw10.StepOwn', WHERE WHAT IT READS IS OF BULK AT MOST 1048576: true; the input reads as it did. -/
def stepOwnUptoRow : OpenClaim := { program := "ytlnmljmeahknaaa", sum := "892b675d69402faee4e4ff2a76dc8a9f443bd8fc4833c4b7a68898296a8eb6db", func := "spinnaker/spinnakerlaw10.StepOwn", spec := "stepOwn", unfollowed := true, recurses := true, apart := false, narrowed := true }
def StepOwnUptoSaid : Prop := stepOwnUptoRow.holds Try.pinned (OpenSpec.upto stepOwnSpec)

/-- 'spinnakerlaw10.StepRoom', WHERE WHAT IT READS IS OF BULK AT MOST 1048576: true; the input reads as it did. -/
def stepRoomUptoRow : OpenClaim := { program := "ytlnmljmeahknaaa", sum := "892b675d69402faee4e4ff2a76dc8a9f443bd8fc4833c4b7a68898296a8eb6db", func := "spinnaker/spinnakerlaw10.StepRoom", spec := "stepRoom", unfollowed := true, recurses := true, apart := false, narrowed := true }
def StepRoomUptoSaid : Prop := stepRoomUptoRow.holds Try.pinned (OpenSpec.upto stepRoomSpec)

/-- 'spinnakerlaw11.MachineNames', WHERE WHAT IT READS IS OF BULK AT MOST 1048576: true; the input reads as it did. -/
def machineNamesUptoRow : OpenClaim := { program := "ytlnmljmeahknaaa", sum := "892b675d69402faee4e4ff2a76dc8a9f443bd8fc4833c4b7a68898296a8eb6db", func := "spinnaker/spinnakerlaw11.MachineNames", spec := "machineNames", unfollowed := true, recurses := true, apart := false, narrowed := true }
def MachineNamesUptoSaid : Prop := machineNamesUptoRow.holds Try.pinned (OpenSpec.upto machineNamesSpec)

/-- 'spinnakerlaw11.MachineDead', WHERE WHAT IT READS IS OF BULK AT MOST 1048576: true; the input reads as it did. -/
def machineDeadUptoRow : OpenClaim := { program := "ytlnmljmeahknaaa", sum := "892b675d69402faee4e4ff2a76dc8a9f443bd8fc4833c4b7a68898296a8eb6db", func := "spinnaker/spinnakerlaw11.MachineDead", spec := "machineDead", unfollowed := true, recurses := true, apart := false, narrowed := true }
def MachineDeadUptoSaid : Prop := machineDeadUptoRow.holds Try.pinned (OpenSpec.upto machineDeadSpec)

/-- 'spinnakerlaw11.MachineRuns', WHERE WHAT IT READS IS OF BULK AT MOST 1048576: true; the input reads as it did. -/
def machineRunsUptoRow : OpenClaim := { program := "ytlnmljmeahknaaa", sum := "892b675d69402faee4e4ff2a76dc8a9f443bd8fc4833c4b7a68898296a8eb6db", func := "spinnaker/spinnakerlaw11.MachineRuns", spec := "machineRuns", unfollowed := true, recurses := true, apart := false, narrowed := true }
def MachineRunsUptoSaid : Prop := machineRunsUptoRow.holds Try.pinned (OpenSpec.upto machineRunsSpec)

end Rows
end Go.Proofs.Ytlnmljmeahknaaa
